/-
The kernel of a matrix. Products and transposes of matrices. The words of a space that vanish outside some positions; the least witness. The least witness, and the program's answer whether helpers suffice. Whether helpers suffice: what the program answers. Columns and ranks in the document, what is enough, and the least witness. What is enough by ranks and by witnesses; the walk of RepairSuffices. Words of messages in the document; the walk of RepairDetermines. Differences in a field; the program's test of a word. The exclusion prover's basis, in the program. Columns in their order, as far as they are independent, in the program. The nodes below a node of an exclusion tree, in the program. Right nodes of an exclusion tree, in the program. The program's walk through an exclusion tree. The program's CheckRank and CheckDistance. Binomial coefficients as numbers of the machine, in the program. Sums and extreme entries of lists; how many sets there are. Multiples and sums of rows in the document. Elimination in the document. Canonical rows, null spaces, combinations and columns in the document. The document's tests of spaces and codes, of sets and pairs. A word of the span of a reduced matrix leaves nothing. The document's fields: sums of products; rows of elements. Entries of a word at some places, in the document. Tests of exclusion trees in the document. The document's walk through an exclusion tree.
-/
import Derived.Test.YteadncphjconmaaGreatRU5
set_option linter.unusedVariables false
set_option linter.unusedSimpArgs false
namespace Go.Proofs.YteadncphjconmaaGreat
open Go Go.Fw
set_option maxRecDepth 100000
set_option linter.unusedVariables false
set_option linter.unusedSimpArgs false
set_option maxHeartbeats 0
abbrev CnR (E : List (List Int) × List Nat) : Value → List Fact → List Blk → Prop:=fun v Φ β=>∃ (pb pp : Option Addr) (cb cp : Nat),v = .tuple #[.slice pb E.2.length cb,.slice pp E.2.length cp]
 ∧ Φ = [slF (encSl I64) pb E.2.length cb E.1,slF I64 pp E.2.length cp (toI E.2)] ∧ β = []
def trL (N : Nat) (rows : List (List Int)) : List (List Int):=(List.range N).map (colL rows)
theorem fok_fn {p m : Nat} {md : List Int} (K : Fok p m md) : FO (p ^ m) (liftI (fA p m)) (liftI (fM p (fpo m md))) (negI p m) (invI p m md):=fok_fo K
theorem st_len {n : Nat} {l : List Int} (h : stP n l) : l.length ≤ n:=by
 have h1 : (l.map Int.toNat).Nodup:=by
  rw [List.Nodup,List.pairwise_map]
  refine h.2.imp_of_mem fun {a b} ha hb hab e=>?_
  have:=(h.1 a ha).1;have:=(h.1 b hb).1
  omega
 have h2:=nodup_len h1 (l':=List.range n) fun x hx=>by
  obtain ⟨y,hy,rfl⟩:=List.mem_map.1 hx
  have:=h.1 y hy
  exact List.mem_range.2 (by omega)
 rwa [List.length_map,List.length_range] at h2
def liE (l : List Int) (n q : Nat) : Int:=if l.length ≠ n then 4 else entE l q
theorem ctb {P : Program} {f : FuncId} {args : List Value} {β : List Blk} {Γ Φ : List Fact} {b b' : Bool} (h : b = b') (c : Ctr P f args β Γ (Rv (.bool b) Φ)) : Ctr P f args β Γ (Rv (.bool b') Φ):=h ▸ c
theorem any_not {l : List Int} {q : Nat} : (l.any fun x=>!decide (0 ≤ x ∧ x < (q : Int))) = false ↔ ∀ x ∈ l,0 ≤ x ∧ x < (q : Int):=by
 rw [List.any_eq_false]
 exact ⟨fun h x hx=>by simpa using h x hx,fun h x hx=>by simpa using h x hx⟩
section
variable {p m : Nat} {md : List Int}
theorem S_field_GF__Sub {b ng cg ne ce nl cl : Nat} {pg pe pl : Option Addr} {x y : Int} (K : Fok p m md) (x0 : 0 ≤ x) (x1 : x < ((p ^ m : Nat) : Int)) (y0 : 0 ≤ y) (y1 : y < ((p ^ m : Nat) : Int)) :
  Ctr Tryz.prog 188 [.pointer (some ⟨b,0,none⟩),.int .i64 x,.int .i64 y] [] [gfC b p m (p ^ m) pg ng cg pe ne ce pl nl cl] (Rv (.int .i64 (liftI (fA p m) x (negI p m y))) []):=by
 refine Ctr_of_j' (F:=F_field_GF__Sub) rfl fun C=>?_
 have hq:=K.q
 have h2:=K.p2
 have h1:=K.m1
 obtain ⟨⟨n0,n1⟩,_⟩:=(fok_fn K).ng y y0 y1
 refine wk 99 (ct @S_field_GF__Neg (ct @S_field_GF__Add cz)) ?_
 exact ge
theorem S_code_list_1 {b c0 q ng cg ne ce nl cl : Nat} {pg pe pl : Option Addr} {x : Int} {res : Bool} (hq : q ≤ 256) (hr : (!decide (0 ≤ x ∧ x < (q : Int))) = res) :
  Ctr Tryz.prog 140 [.int .i64 x,.pointer (some ⟨c0,0,none⟩)] [] [celF c0 [.pointer (some ⟨b,0,none⟩)],gfC b p m q pg ng cg pe ne ce pl nl cl] (Rv (.bool res) []):=by
 refine Ctr_of_j' (F:=F_code_list_1) rfl fun C=>?_
 subst hr
 refine wk 99 (ct @S_field_GF__Is cz) ?_
 exact ge
theorem S_code_list {nm cm n c k : Nat} {pm ps : Option Addr} {l : List Int} {e : Int} (K : Fok p m md) (he : liE l k (p ^ m) = e) :
  Ctr Tryz.prog 113 [.agg #[.int .i64 p,.int .i64 m,.slice pm nm cm],.slice ps n c,.int .i64 k] [] [slF I64 pm nm cm md,slF I64 ps n c l] (Rv (.int .i64 e) []):=by
 refine Ctr_of_j' (F:=F_code_list) rfl fun C=>?_
 refine j_len 1 rfl fun hn hb _=>?_
 subst hn
 have hq:=K.q
 rw [liE] at he
 by_cases hk : l.length = k
 ·rw [if_neg (by omega)] at he
  refine wk 99 (ct @S_field_New_ok cz) ?_
  intro b1 h1 b2 pg cg pe ce pl cl b3 h2
  refine j_pubC 0 rfl ?_
  refine j_conj [0,1] rfl ?_
  rw [entE] at he
  by_cases ha : ∀ x ∈ l,0 ≤ x ∧ x < ((p ^ m : Nat) : Int)
  ·rw [if_pos ha] at he
   subst he
   refine wk 99 (ct (ctb (any_not.2 ha) (S_slices_ContainsFunc___int_int_ (f:=140) (caps:=[.pointer (some ⟨b3,0,none⟩)]) fun x _=>(S_code_list_1 hq rfl).conj)) cz) ?_
   exact ge
  ·rw [if_neg ha] at he
   subst he
   refine wk 99 (ct (ctb ((Bool.not_eq_false _).mp (mt any_not.1 ha)) (S_slices_ContainsFunc___int_int_ (f:=140) (caps:=[.pointer (some ⟨b3,0,none⟩)]) fun x _=>(S_code_list_1 hq rfl).conj)) cz) ?_
   exact ge
 ·rw [if_pos (by omega)] at he
  subst he
  refine wk 99 cz ?_
  intro b1 h1
  exact ge
end
open Go Go.Fw
set_option maxRecDepth 100000
set_option linter.unusedVariables false
set_option linter.unusedSimpArgs false
set_option maxHeartbeats 0
theorem S_exclusion_basis__add_1 {x : Int} : Ctr Tryz.prog 189 [.int .i64 x] [] [] (Rv (.bool (!decide (x = 0))) []):=by
 refine Ctr_of_j' (F:=F_exclusion_basis__add_1) rfl fun C=>?_
 refine wk 5 cz ?_
 exact ge
abbrev basB (bb b : Nat) (rR rP : Row) (k : Nat) : Blk:=(some bb,195,[.pointer (some ⟨b,0,none⟩),.slice (ad rR.bo) k rR.cap,.slice (ad rP.bo) k rP.cap])
abbrev BaQ (bb b k : Nat) (t : Bool) (P : List Nat) (R : List (List Int)) : Value → List Fact → List Blk → Prop:=fun v Φ β=>∃ rR rP : Row,v = .bool t ∧ Φ = [rowF (encSl I64) rR k R,rowF I64 rP k (toI P)] ∧ β = [basB bb b rR rP k,(rR.bo,22,rR.cs),(rP.bo,3,rP.cs)]
theorem S_exclusion_basis__add {p m b ng cg ce cl bb n K : Nat} {pg pe pl : Option Addr} {md x : List Int} {R : List (List Int)} {P : List Nat} {rR rP r : Row} (KK : Fok p m md) (hR : Mat (p ^ m) n R) (hlen : R.length = P.length) (hK : P.length = K) (hPn : ∀ j ∈ P,j < n) (hn1 : 1 ≤ n) (hN : n ≤ 1000000) (hPl : K ≤ 1000000) (hx : Wd (p ^ m) n x) :
  Ctr Tryz.prog 182 [.pointer (some ⟨bb,0,none⟩),.slice (ad r.bo) n r.cap] [basB bb b rR rP K,(rR.bo,22,rR.cs),(rP.bo,3,rP.cs),(r.bo,3,r.cs)]
   [gfC b p m (p ^ m) pg ng cg pe (p ^ m - 1) ce pl (p ^ m) cl,slF I64 pe (p ^ m - 1) ce (exL p m md),slF I64 pl (p ^ m) cl (lgL p m md),rowF (encSl I64) rR K R,rowF I64 rP K (toI P),rowF I64 r n x]
   (fun v Φ β=>(fnz (rpF (liftI (fA p m)) (liftI (fM p (fpo m md))) (negI p m) P R x) < 0 → BaQ bb b K false P R v Φ β) ∧
    (¬ fnz (rpF (liftI (fA p m)) (liftI (fM p (fpo m md))) (negI p m) P R x) < 0 → BaQ bb b (K + 1) true (P++[(fnz (rpF (liftI (fA p m)) (liftI (fM p (fpo m md))) (negI p m) P R x)).toNat]) (R++[sclL (liftI (fM p (fpo m md))) (invI p m md (at0 (rpF (liftI (fA p m)) (liftI (fM p (fpo m md))) (negI p m) P R x) (fnz (rpF (liftI (fA p m)) (liftI (fM p (fpo m md))) (negI p m) P R x)).toNat)) (rpF (liftI (fA p m)) (liftI (fM p (fpo m md))) (negI p m) P R x)]) v Φ β)):=by
 refine Ctr_of_j' (F:=F_exclusion_basis__add) rfl fun C=>?_
 have O:=fok_fn KK
 have FF:=O.fi
 have hq:=KK.q
 have hq2:=O.q2
 subst hK
 have hxn:=hx.1
 have c_field_GF__Mul:=fun {b ng cg ce cl : Nat} {pg pe pl : Option Addr} {x y : Int}=>S_field_GF__Mul (b:=b) (ng:=ng) (cg:=cg) (ce:=ce) (cl:=cl) (pg:=pg) (pe:=pe) (pl:=pl) (x:=x) (y:=y) KK
 have c_field_GF__Sub:=fun {b ng cg ne ce nl cl : Nat} {pg pe pl : Option Addr} {x y : Int}=>S_field_GF__Sub (b:=b) (ng:=ng) (cg:=cg) (ne:=ne) (ce:=ce) (nl:=nl) (cl:=cl) (pg:=pg) (pe:=pe) (pl:=pl) (x:=x) (y:=y) KK
 have c_field_GF__Scale:=fun {b ng cg ce cl : Nat} {pg pe pl : Option Addr} {a : Int} {pu : Option Addr} {cu : Nat} {u : List Int} a0 a1 hu=>(S_field_GF__Scale (b:=b) (ng:=ng) (cg:=cg) (ce:=ce) (cl:=cl) (pg:=pg) (pe:=pe) (pl:=pl) (a:=a) (pu:=pu) (nu:=n) (cu:=cu) (u:=u) KK a0 a1 hu).pubR (by show n * 8 ≤ 140737488355328;omega)
 have c_field_GF__Inv : ∀ {b ng cg ce cl : Nat} {pg pe pl : Option Addr} {x : Int},0 < x → x < ((p ^ m : Nat) : Int) → Ctr Tryz.prog 167 [.pointer (some ⟨b,0,none⟩),.int .i64 x] [] [gfC b p m (p ^ m) pg ng cg pe (p ^ m - 1) ce pl (p ^ m) cl,slF I64 pe (p ^ m - 1) ce (exL p m md),slF I64 pl (p ^ m) cl (lgL p m md)] (Rv (.tuple #[.int .i64 (invI p m md x),.int .i64 0]) []):=fun {b ng cg ce cl : Nat} {pg pe pl : Option Addr} {x : Int}=>S_field_GF__Inv (b:=b) (ng:=ng) (cg:=cg) (ce:=ce) (cl:=cl) (pg:=pg) (pe:=pe) (pl:=pl) (x:=x) KK
 generalize invI p m md = V at *
 generalize liftI (fM p (fpo m md)) = M at *
 generalize liftI (fA p m) = A0 at *
 generalize negI p m = Ng at *
 refine wk 9 cz ?_
 refine j_rowB 5 rfl hn1 fun b9 cap9 cs9 hr=>?_
 subst hr
 refine j_loopG (X:=Nat × List Value) [0,1,4,16,17] [0,1,2,3,4,5] (fun x'=>[(18,.int .i64 (x'.1 : Int))]) (fun x'=>[basB bb b rR rP P.length,(rR.bo,22,rR.cs),(rP.bo,3,rP.cs),(some b9,3,x'.2)])
  (fun x'=>[rowF I64 ⟨some b9,cap9,x'.2⟩ n (rpF A0 M Ng (P.take x'.1) (R.take x'.1) x)]) (fun x'=>x'.1 ≤ P.length) (fun x'=>P.length - x'.1) (0,cs9) [5] rfl rfl rfl (Nat.zero_le _) (by repeat (first | exact Fr.sub_nil _ | refine Fr.sub_cons rfl ?_)) rfl rfl ?_
 rintro ⟨i,cs⟩ hi ih
 simp only [List.cons_append,List.nil_append] at hi ih ⊢
 have hL:=O.rp_wd (P:=P.take i) (R:=R.take i) (fun r hr=>hR r (List.mem_of_mem_take hr)) hx
 by_cases hil : i < P.length
 ·obtain ⟨pi,hpi⟩ : ∃ pi,P[i]? = some pi:=⟨_,List.getElem?_eq_getElem hil⟩
  obtain ⟨ri,at_r⟩ : ∃ ri,R[i]? = some ri:=⟨_,List.getElem?_eq_getElem (by omega)⟩
  have at_p : (toI P)[i]? = some (pi : Int):=toI_at hpi
  have hpn:=hPn pi (List.mem_of_getElem? hpi)
  have hri:=hR ri (List.mem_of_getElem? at_r)
  have hst : rpF A0 M Ng (P.take (i + 1)) (R.take (i + 1)) x = axp A0 M (Ng (at0 (rpF A0 M Ng (P.take i) (R.take i) x) pi)) ri (rpF A0 M Ng (P.take i) (R.take i) x):=by
   rw [List.take_add_one,List.take_add_one,hpi,at_r]
   exact rpF_snoc (by rw [List.length_take,List.length_take,hlen])
  have ih':=fun cs=>ih (i + 1,cs) (by dsimp only;omega) (by dsimp only;omega)
  dsimp only at ih'
  simp only [hst] at ih'
  generalize rpF A0 M Ng (P.take i) (R.take i) x = L at *
  have at_y : L[pi]? = some (at0 L pi):=by rw [at0,List.getD_eq_getElem?_getD,List.getElem?_eq_getElem (by rw [hL.1];exact hpn)];rfl
  obtain ⟨y0,y1⟩:=wd_at (by omega) hL pi
  generalize at0 L pi = y at *
  obtain ⟨⟨n0,n1⟩,_⟩:=O.ng y y0 y1
  by_cases hy : y = 0
  ·have e0 : axp A0 M (Ng y) ri L = L:=by rw [hy,O.n0];exact O.axp0 hri hL
   rw [e0] at ih'
   refine wk 6 cz ?_
   intro h1
   refine j_rowB 4 rfl (by omega) fun b1 cap1 cs1 hr1=>?_
   subst hr1
   dsimp only
   refine wk 1 cz ?_
   refine j_step rfl (x_ldR_sl 1 4 (i) rfl rfl rfl ld22 rfl (by omega) fun z1 hz1 pa1 ca1=>?_)
   obtain rfl : _ = z1:=Option.some.inj (at_r.symm.trans hz1)
   refine wk 4 cz ?_
   refine j_step rfl (x_bld 0 rfl rfl ld22 rfl ?_)
   refine wk 1 cz ?_
   refine j_rowB 6 rfl (by omega) fun b2 cap2 cs2 hr1=>?_
   subst hr1
   dsimp only
   refine wk 1 cz ?_
   refine j_step rfl (x_ldR_int 2 6 (i) rfl rfl rfl ld3 rfl (by assumption) fun hr1=>?_)
   refine wk 1 cz ?_
   refine j_step rfl (x_ldR_int 3 1 (pi) rfl rfl rfl ld3 rfl (by assumption) fun hr2=>?_)
   refine wk 8 cz ?_
   intro h2
   exact tw (ih' cs)
  ·obtain ⟨hax0,hax1⟩ : Wd (p ^ m) n (axp A0 M (Ng y) ri L):=FF.axw n0 n1 hri hL
   have hLl:=hL.1
   have hrl:=hri.1
   refine wk 6 cz ?_
   intro h1
   refine j_rowB 4 rfl (by omega) fun b1 cap1 cs1 hr1=>?_
   subst hr1
   dsimp only
   refine wk 1 cz ?_
   refine j_step rfl (x_ldR_sl 1 4 (i) rfl rfl rfl ld22 rfl (by omega) fun z1 hz1 pa1 ca1=>?_)
   obtain rfl : _ = z1:=Option.some.inj (at_r.symm.trans hz1)
   refine wk 4 cz ?_
   refine j_step rfl (x_bld 0 rfl rfl ld22 rfl ?_)
   refine wk 1 cz ?_
   refine j_rowB 6 rfl (by omega) fun b2 cap2 cs2 hr1=>?_
   subst hr1
   dsimp only
   refine wk 1 cz ?_
   refine j_step rfl (x_ldR_int 2 6 (i) rfl rfl rfl ld3 rfl (by assumption) fun hr1=>?_)
   refine wk 1 cz ?_
   refine j_step rfl (x_ldR_int 3 1 (pi) rfl rfl rfl ld3 rfl (by assumption) fun hr2=>?_)
   refine wk 10 cz ?_
   intro h2
   refine j_loopG (X:=Nat × List Value) [0,1,4,5,6,7,16,17,18,19,20,21,22,23,24,25,26,27,28,29,30,31,32,33,34,35,36] [0,1,2,3,4,5,6,7] (fun z=>[(37,.int .i64 (z.1 : Int))]) (fun z=>[basB bb b ⟨some b1,cap1,cs1⟩ ⟨some b2,cap2,cs2⟩ P.length,(some b1,22,cs1),(some b2,3,cs2),(some b9,3,z.2)]) (fun z=>[rowF I64 ⟨some b9,cap9,z.2⟩ n ((axp A0 M (Ng y) ri L).take z.1++L.drop z.1)]) (fun z=>z.1 ≤ n) (fun z=>n - z.1) (0,cs) [1] rfl rfl rfl (Nat.zero_le _) (by repeat (first | exact Fr.sub_nil _ | refine Fr.sub_cons rfl ?_)) rfl rfl ?_
   rintro ⟨j,cs⟩ hj ihj
   simp only [List.cons_append,List.nil_append] at hj ihj ⊢
   by_cases hjl : j < n
   ·obtain ⟨z,at_z⟩ : ∃ z,ri[j]? = some z:=⟨_,List.getElem?_eq_getElem (by omega)⟩
    obtain ⟨u,hu⟩ : ∃ u,L[j]? = some u:=⟨_,List.getElem?_eq_getElem (by omega)⟩
    obtain ⟨z0,z1⟩:=hri.2 z (List.mem_of_getElem? at_z)
    obtain ⟨u0,u1⟩:=hL.2 u (List.mem_of_getElem? hu)
    obtain ⟨m0,m1⟩:=FF.ml y z y0 y1 z0 z1
    have hT : (axp A0 M (Ng y) ri L)[j]? = some (A0 u (Ng (M y z))):=by rw [axp,List.getElem?_zipWith,hu,at_z,O.ng_mul y0 y1 z0 z1]
    have hLj:=(mixI_at hax0 hL.1 hjl).trans hu
    have hset:=mixI_set hax0 hL.1 hjl hT
    have hLl : ((axp A0 M (Ng y) ri L).take j++L.drop j).length = n:=by rw [List.length_append,List.length_take,List.length_drop];omega
    have ihj':=fun cs=>ihj (j + 1,cs) (by dsimp only;omega) (by dsimp only;omega)
    dsimp only at ihj'
    rw [← hset] at ihj'
    generalize (axp A0 M (Ng y) ri L).take j++L.drop j = L2 at *
    obtain ⟨⟨g0,g1⟩,_⟩:=O.ng _ m0 m1
    obtain ⟨a0,a1⟩:=FF.al u _ u0 u1 g0 g1
    refine wk 6 cz ?_
    intro h3
    refine j_step rfl (x_idx 1 (j) rfl rfl rfl sl22 rfl (by omega) fun z2 hz2 b3 o1=>?_)
    obtain rfl : _ = z2:=Option.some.inj (at_z.symm.trans hz2)
    refine j_step rfl (x_ld_int 0 rfl rfl ld3 fun ⟨r1,r2⟩=>?_)
    refine wk 2 cz ?_
    (apply j_drawK it mx 18;(· rfl);(· rfl))
    (apply lxk_run 4;(· rfl);(· simp))
    (apply lxk_eq;(· rfl);(· exact d_x fun _=>x_field rfl fd195_0 dk_eq))
    (apply lxk_eq;(· rfl);(· exact d_bld 0 rfl rfl ld76 rfl))
    (apply lxk_run 2;(· rfl);(· simp))
    (apply lxk_eq;(· rfl);(· exact d_x fun _=>x_idx_own (j) (j) rfl rfl sl22 rfl (by omega) (Nat.mul_one _) dk_eq))
    (apply lxk_eq;(· rfl);(· exact d_ldR_int 3 1 (j) rfl rfl rfl ld3 rfl (by assumption)))
    (apply lxk_run 2;(· rfl);(· simp))
    (apply lxk_eq;(· rfl);(· exact d_x fun _=>x_field rfl fd195_0 dk_eq))
    (apply lxk_eq;(· rfl);(· exact d_bld 0 rfl rfl ld76 rfl))
    (apply lxk_run 2;(· rfl);(· simp))
    (apply lxk_eq;(· rfl);(· exact d_x fun _=>x_call [4,5,6] rfl (c_field_GF__Mul (by omega) (by omega) (by omega) (by omega)) rfl (by rintro _ _ _ ⟨rfl,rfl,rfl⟩;exact dk_eq)))
    (apply lxk_eq;(· rfl);(· exact d_x fun _=>x_call [4] rfl (c_field_GF__Sub (by omega) (by omega) (by omega) (by omega)) rfl (by rintro _ _ _ ⟨rfl,rfl,rfl⟩;exact dk_eq)))
    refine lxk_end rfl ?_
    simp only [List.map_cons,List.map_nil,List.cons_append,List.nil_append]
    refine wk 1 cz ?_
    refine j_step rfl (x_stR (vs:=[Value.int IntKind.i64 (A0 u (Ng (M y z)))]) (z:=(A0 u (Ng (M y z)) : Int)) 3 1 (j) rfl rfl rfl rfl rfl ld3 (Nat.mul_one _).symm (by omega) (fun w A hG=>(rd_int (by first | (simp only [InR];omega) | (simp [InR];done)))) fun cs3=>?_)
    refine wk 3 cz ?_
    exact tw (ihj' cs3)
   ·obtain rfl : n = j:=by omega
    rw [List.take_of_length_le (by omega),List.drop_of_length_le (by omega),List.append_nil]
    refine wk 7 cz ?_
    intro h3
    exact tw (ih' cs)
 ·obtain rfl : i = P.length:=by omega
  rw [List.take_length,← hlen,List.take_length] at *
  generalize rpF A0 M Ng P R x = L at *
  have hLl:=hL.1
  refine j_pubR 3 0 rfl rfl (by show n * 8 ≤ 140737488355328;omega) ?_
  refine j_conj [] rfl ?_
  have c_slices_IndexFunc___int_int_ : ∀ {ps : Option Addr} {c : Nat},Ctr Tryz.prog 80 [.slice ps n c,.func (.func 189) #[] #[]] [] [slF I64 ps n c L,conjF []] (Rv (.int .i64 (fnz L)) []):=fun {ps : Option Addr} {c : Nat}=>S_slices_IndexFunc___int_int_ (f:=189) (caps:=[]) (g:=conjF []) (p:=fun x=>!decide (x = 0)) (ps:=ps) (n:=n) (c:=c) (l:=L) fun x _=>S_exclusion_basis__add_1.conj
  by_cases h : fnz L < 0
  ·refine wk 15 (ct @c_slices_IndexFunc___int_int_ cz) ?_
   intro h1 h2
   refine j_givK 3 [0,1,2] [6,7] rfl (.tmp rfl .nil) rfl rfl rfl ⟨fun _=>⟨rR,rP,rfl,rfl,rfl⟩,fun h1=>absurd h h1⟩
  ·obtain ⟨k1,k2⟩:=fnz_pos h
   obtain ⟨k,hk⟩:=Int.eq_ofNat_of_zero_le (Int.not_lt.1 h)
   simp only [hk,Int.toNat_natCast] at k1 k2 c_slices_IndexFunc___int_int_ ⊢
   obtain ⟨y0,y1⟩:=wd_at (by omega) hL k
   obtain ⟨⟨v0,v1⟩,hiv⟩:=O.iv _ y0 y1 k2
   have y2 : 0 < at0 L k:=by omega
   rw [show at0 L k = L.getD k default from rfl] at *
   have hu:=hL.2
   refine wk 16 (ct @c_slices_IndexFunc___int_int_ (ct @c_field_GF__Inv cz)) ?_
   intro h1 h2 b1 o1
   (refine j_selB [1,0,2] rfl rfl ?_;apply j_drawKB it mx 1 15;(· rfl);(· rfl);(· rfl))
   (apply lxk_run 3;(· rfl);(· simp))
   (apply lxk_eq;(· rfl);(· exact d_x fun _=>x_field rfl fd195_1 dk_eq))
   (apply lxk_eq;(· rfl);(· exact d_bld 0 rfl rfl ld25 rfl))
   (apply lxk_run 2;(· rfl);(· simp))
   (apply lxk_eq;(· rfl);(· exact d_x fun _=>x_field rfl fd195_0 dk_eq))
   (apply lxk_eq;(· rfl);(· exact d_bld 0 rfl rfl ld76 rfl))
   (apply lxk_run 2;(· rfl);(· simp))
   (apply lxk_sl;(· rfl);(· exact d_x fun _=>x_call [4,5,6,2] rfl (c_field_GF__Scale (by omega) (by omega) (by omega)) rfl (by rintro _ _ _ ⟨pa1,ca1,rfl,rfl,rfl⟩;exact (dk_sl 0 rfl)));intro pa1 ca1)
   (apply lxk_sl;(· rfl);(· exact d_x fun _=>x_lit sl25 zo25e rfl rfl rfl rfl (by decide) (by decide) rfl fun b2=>dk_all (E:=(encSl (I64))) [[Value.slice pa1 n ca1]] [sclL M (V (L.getD k default)) L] (fun w A hG=>(allrd_cons (rd_of_slF (hG _ (fact_mem (n:=0) rfl))) allrd_nil)) rfl rfl rfl (by first | decide | exact Nat.le_of_ble_eq_true rfl));intro pa2 ca2)
   (apply lxk_app (m:=1) 9 0;(· rfl);(· rfl);(· rfl);(· rfl);(· rfl);(· exact sl25);(· exact zo25e);(· rfl);(· (first | omega | (simp;done)));(· (first | omega | (simp only [List.length_cons,List.length_nil];omega)));(· exact by25e);(· (first | omega | (simp only [List.length_cons,List.length_nil];omega)));intro b2 cap1 cs1)
   (apply lxk_run 1;(· rfl);(· simp))
   refine lxk_end rfl ?_
   simp only [List.map_cons,List.map_nil,List.cons_append,List.nil_append]
   refine wk 8 cz ?_
   intro b3
   refine j_step rfl (x_appR (z:=(↑k : Int)) 3 0 11 rfl rfl rfl rfl rfl sl22 zo22e rfl (fun w A hG=>(rd_int (by first | (simp only [InR];omega) | (simp [InR];done)))) (by omega) _ by22e (by omega) fun r1=>?_)
   refine wk 6 cz ?_
   have eP : toI (P++[k]) = toI P++[(k : Int)]:=List.map_append
   refine j_givK 4 [3,2,0] [1,0] rfl (.tmp rfl .nil) rfl rfl rfl ⟨fun h1=>absurd h1 (by omega),fun _=>⟨⟨some b2,cap1,cs1⟩,r1,rfl,by rw [eP],rfl⟩⟩
abbrev prB (bp b p m N nm cm ns cs ny cy nt ct : Nat) (pm ps py pt : Option Addr) (co : Bool) (Mo w ap : Int) : Blk:=(some bp,157,[.pointer (some ⟨b,0,none⟩),.int .i64 p,.int .i64 m,.slice pm nm cm,.int .i64 N,.slice ps ns cs,.slice py ny cy,.bool co,.int .i64 Mo,.int .i64 w,.slice pt nt ct,.int .i64 ap])
section
variable {p m N b bp nm cm ns cs ny cy nt ct : Nat} {pm ps py pt : Option Addr} {co : Bool} {Mo w ap : Int} {md : List Int} {rows : List (List Int)}
theorem S_exclusion_proof__column {x : Nat} (K : Fok p m md) (hM : Mat (p ^ m) N rows) (hx : x < N) (hr : rows.length ≤ 1000000) :
  Ctr Tryz.prog 183 [.pointer (some ⟨bp,0,none⟩),.int .i64 x] [prB bp b p m N nm cm ns cs ny cy nt ct pm ps py pt co Mo w ap] [slF (encSl I64) ps ns cs rows]
   (fun v Φ β=>∃ r : Row,v = .slice (ad r.bo) rows.length r.cap ∧ Φ = [rowF I64 r rows.length (colL rows x)] ∧ β = [prB bp b p m N nm cm ns cs ny cy nt ct pm ps py pt co Mo w ap,(r.bo,3,r.cs)]):=by
 refine Ctr_of_j' (F:=F_exclusion_proof__column) rfl fun C=>?_
 refine j_len 0 rfl fun hn hb _=>?_
 subst hn
 have hq:=K.q
 have hq2:=(fok_fn K).q2
 have hcW:=wd_col (show 0 < p ^ m by omega) hM x
 have hTl : (colL rows x).length = rows.length:=List.length_map _
 have hTa : ∀ (k : Nat) (u : List Int),rows[k]? = some u → (colL rows x)[k]? = some (at0 u x):=fun k u h=>by rw [colL,List.getElem?_map,h];rfl
 have hTr : ∀ z ∈ colL rows x,InR .i64 z:=fun z hz=>by
  have:=hcW.2 z hz
  simp only [InR];omega
 refine wk 18 cz ?_
 intro b1
 rw [show natCells .i64 (List.replicate rows.length 0) = intCells .i64 ((colL rows x).take 0++List.replicate (rows.length - 0) 0) by simp [natCells,intCells]]
 refine j_loopG (X:=Nat) [1,4,5,19,20] [0] (fun k=>[(21,.int .i64 (k : Int))]) (fun k=>[(some b1,3,intCells .i64 ((colL rows x).take k++List.replicate (rows.length - k) 0)),prB bp b p m N nm cm rows.length cs ny cy nt ct pm ps py pt co Mo w ap]) (fun _=>[]) (fun k=>k ≤ rows.length) (fun k=>rows.length - k) 0 [] rfl rfl rfl (Nat.zero_le _) (by repeat (first | exact Fr.sub_nil _ | refine Fr.sub_cons rfl ?_)) rfl rfl ?_
 rintro k hk ihk
 simp only [List.cons_append,List.nil_append] at hk ihk ⊢
 by_cases h8 : k < rows.length
 ·obtain ⟨u,at_x⟩ : ∃ u,rows[k]? = some u:=⟨_,List.getElem?_eq_getElem h8⟩
  have hxl:=(hM u (List.mem_of_getElem? at_x)).1
  have hT:=hTa k u at_x
  have at_y : u[x]? = some (at0 u x):=by
   rw [at0,List.getD_eq_getElem?_getD,List.getElem?_eq_getElem (by omega)];rfl
  have ih':=ihk (k + 1) (by omega) (by omega)
  rw [← take_set hT h8] at ih'
  have hln : ((colL rows x).take k++List.replicate (rows.length - k) 0).length = rows.length:=by rw [List.length_append,List.length_take,List.length_replicate];omega
  generalize (colL rows x).take k++List.replicate (rows.length - k) 0 = L at *
  refine wk 12 cz ?_
  intro h1 b2 o1 hz1 pa1 ca1 b3 o2 hz2
  refine j_step rfl (x_ld_int 0 rfl rfl ld3 fun ⟨r1,r2⟩=>?_)
  refine wk 5 cz ?_
  exact tw (ih')
 ·obtain rfl : k = rows.length:=by omega
  rw [Nat.sub_self,List.replicate_zero,List.append_nil,List.take_of_length_le (by omega)]
  clear ihk
  refine wk 3 cz ?_
  refine j_rowInt 0 rfl hTl.symm hTr (by omega) ?_
  refine wk 4 cz ?_
  intro h1
  refine j_givK 2 [1,0] [0] rfl (.tmp rfl .nil) rfl rfl rfl ⟨⟨some b1,rows.length,intCells .i64 (colL rows x)⟩,rfl,rfl,rfl⟩
theorem S_ba_no {ng cg ce cl bb n k : Nat} {pg pe pl : Option Addr} {x : List Int} {R : List (List Int)} {P : List Nat} {rR rP r : Row} (K : Fok p m md) (hR : Mat (p ^ m) n R) (hlen : R.length = P.length) (hK : P.length = k) (hPn : ∀ j ∈ P,j < n) (hn1 : 1 ≤ n) (hN : n ≤ 1000000) (hPl : k ≤ 1000000) (hx : Wd (p ^ m) n x) (h : fnz (rpF (liftI (fA p m)) (liftI (fM p (fpo m md))) (negI p m) P R x) < 0) :
  Ctr Tryz.prog 182 [.pointer (some ⟨bb,0,none⟩),.slice (ad r.bo) n r.cap] [basB bb b rR rP k,(rR.bo,22,rR.cs),(rP.bo,3,rP.cs),(r.bo,3,r.cs)]
   [gfC b p m (p ^ m) pg ng cg pe (p ^ m - 1) ce pl (p ^ m) cl,slF I64 pe (p ^ m - 1) ce (exL p m md),slF I64 pl (p ^ m) cl (lgL p m md),rowF (encSl I64) rR k R,rowF I64 rP k (toI P),rowF I64 r n x] (BaQ bb b k false P R) :=
 (S_exclusion_basis__add K hR hlen hK hPn hn1 hN hPl hx).mono fun C w v Φ β' hQ hO hF=>⟨_,_,hQ.1 h,hO,hF⟩
theorem S_ba_yes {ng cg ce cl bb n k : Nat} {pg pe pl : Option Addr} {x : List Int} {R : List (List Int)} {P : List Nat} {rR rP r : Row} (K : Fok p m md) (hR : Mat (p ^ m) n R) (hlen : R.length = P.length) (hK : P.length = k) (hPn : ∀ j ∈ P,j < n) (hn1 : 1 ≤ n) (hN : n ≤ 1000000) (hPl : k ≤ 1000000) (hx : Wd (p ^ m) n x) {w : List Int} (hw : rpF (liftI (fA p m)) (liftI (fM p (fpo m md))) (negI p m) P R x = w) (h : ¬ fnz w < 0) :
  Ctr Tryz.prog 182 [.pointer (some ⟨bb,0,none⟩),.slice (ad r.bo) n r.cap] [basB bb b rR rP k,(rR.bo,22,rR.cs),(rP.bo,3,rP.cs),(r.bo,3,r.cs)]
   [gfC b p m (p ^ m) pg ng cg pe (p ^ m - 1) ce pl (p ^ m) cl,slF I64 pe (p ^ m - 1) ce (exL p m md),slF I64 pl (p ^ m) cl (lgL p m md),rowF (encSl I64) rR k R,rowF I64 rP k (toI P),rowF I64 r n x] (BaQ bb b (k + 1) true (P++[(fnz w).toNat]) (R++[sclL (liftI (fM p (fpo m md))) (invI p m md (at0 w (fnz w).toNat)) w])) :=
 (S_exclusion_basis__add K hR hlen hK hPn hn1 hN hPl hx).mono fun C w v Φ β' hQ hO hF=>⟨_,_,by subst hw;exact hQ.2 h,hO,hF⟩
abbrev grP (p m : Nat) (md : List Int) (rows : List (List Int)) (most : Nat) (o : List Int) (P : List Nat) (R : List (List Int)) (out : List Int) : List Int:=grL (liftI (fA p m)) (liftI (fM p (fpo m md))) (negI p m) (invI p m md) (fun i=>colL rows i.toNat) most o P R out
theorem S_exclusion_proof__greedy {ng cg ce cl most no co' : Nat} {pg pe pl po : Option Addr} {o : List Int} (K : Fok p m md) (hM : Mat (p ^ m) N rows) (hr1 : 1 ≤ rows.length) (hr : rows.length ≤ 1000000) (ho : ∀ x ∈ o,0 ≤ x ∧ x < (N : Int)) (hol : o.length ≤ 1000) (hmo : most ≤ 1000000) :
  Ctr Tryz.prog 171 [.pointer (some ⟨bp,0,none⟩),.slice po no co',.int .i64 most] [prB bp b p m N nm cm ns cs ny cy nt ct pm ps py pt co Mo w ap] [slF (encSl I64) ps ns cs rows,gfC b p m (p ^ m) pg ng cg pe (p ^ m - 1) ce pl (p ^ m) cl,slF I64 pe (p ^ m - 1) ce (exL p m md),slF I64 pl (p ^ m) cl (lgL p m md),slF I64 po no co' o]
   (fun v Φ β=>∃ r : Row,v = .slice (ad r.bo) (grP p m md rows most o [] [] []).length r.cap ∧ Φ = [rowF I64 r (grP p m md rows most o [] [] []).length (grP p m md rows most o [] [] [])] ∧ β = [prB bp b p m N nm cm ns cs ny cy nt ct pm ps py pt co Mo w ap,(r.bo,3,r.cs)]):=by
 refine Ctr_of_j' (F:=F_exclusion_proof__greedy) rfl fun C=>?_
 refine j_len 4 rfl fun hn hb _=>?_
 subst hn
 have O:=fok_fn K
 have hq:=K.q
 have hq2:=O.q2
 have c_exclusion_proof__column:=fun {x : Nat}=>S_exclusion_proof__column (p:=p) (m:=m) (N:=N) (b:=b) (bp:=bp) (nm:=nm) (cm:=cm) (ns:=ns) (cs:=cs) (ny:=ny) (cy:=cy) (nt:=nt) (ct:=ct) (pm:=pm) (ps:=ps) (py:=py) (pt:=pt) (co:=co) (Mo:=Mo) (w:=w) (ap:=ap) (rows:=rows) (x:=x) K hM
 refine wk 16 cz ?_
 intro b1
 refine j_row0 I64 3 ?_
 refine j_row0 I64 3 ?_
 refine j_row0 (encSl I64) 22 ?_
 refine j_loopG (X:=Nat × Row × Row × Row × List Nat × List (List Int) × List Int) [0,2,6,7,17,18] [0,1,2,3,4,5,6,7] (fun z=>[(19,.int .i64 (z.1 : Int)),(8,.slice (ad z.2.2.2.1.bo) z.2.2.2.2.2.2.length z.2.2.2.1.cap)])
  (fun z=>[(z.2.1.bo,22,z.2.1.cs),(z.2.2.1.bo,3,z.2.2.1.cs),(z.2.2.2.1.bo,3,z.2.2.2.1.cs),basB b1 b z.2.1 z.2.2.1 z.2.2.2.2.1.length,prB bp b p m N nm cm ns cs ny cy nt ct pm ps py pt co Mo w ap])
  (fun z=>[rowF (encSl I64) z.2.1 z.2.2.2.2.1.length z.2.2.2.2.2.1,rowF I64 z.2.2.1 z.2.2.2.2.1.length (toI z.2.2.2.2.1),rowF I64 z.2.2.2.1 z.2.2.2.2.2.2.length z.2.2.2.2.2.2])
  (fun z=>z.1 ≤ o.length ∧ Mat (p ^ m) rows.length z.2.2.2.2.2.1 ∧ z.2.2.2.2.2.1.length = z.2.2.2.2.1.length ∧ (∀ j ∈ z.2.2.2.2.1,j < rows.length) ∧ z.2.2.2.2.1.length ≤ z.1 ∧ z.2.2.2.2.2.2.length ≤ z.1 ∧ grP p m md rows most (o.drop z.1) z.2.2.2.2.1 z.2.2.2.2.2.1 z.2.2.2.2.2.2 = grP p m md rows most o [] [] []) (fun z=>o.length - z.1) (0,⟨none,0,[]⟩,⟨none,0,[]⟩,⟨none,0,[]⟩,[],[],[]) [0,1,2] rfl rfl rfl (by dsimp only;exact ⟨Nat.zero_le _,(show Mat (p ^ m) rows.length [] from fun r hr=>absurd hr List.not_mem_nil),rfl,(fun j hj=>absurd hj List.not_mem_nil),Nat.le_refl _,Nat.le_refl _,rfl⟩) (by repeat (first | exact Fr.sub_nil _ | refine Fr.sub_cons rfl ?_)) rfl rfl ?_
 rintro ⟨i,rR,rP,r,P,R,out⟩ ⟨hi,hR,hlen,hPn,hPi,hoi,hg⟩ ih
 simp only [List.cons_append,List.nil_append] at hi hR hlen hPn hPi hoi hg ih ⊢
 by_cases hil : i < o.length
 ·obtain ⟨x,at_x⟩ : ∃ x,o[i]? = some x:=⟨_,List.getElem?_eq_getElem hil⟩
  obtain ⟨x0,x1⟩:=ho x (List.mem_of_getElem? at_x)
  obtain ⟨x,rfl⟩:=Int.eq_ofNat_of_zero_le x0
  have hcW:=wd_col (show 0 < p ^ m by omega) hM x
  have e3 : o.drop i = (x : Int)::o.drop (i + 1):=by
   rw [List.drop_eq_getElem_cons hil];rw [List.getElem?_eq_getElem hil] at at_x;rw [Option.some.inj at_x]
  rw [e3] at hg
  by_cases hm : out.length = most
  ·rw [← hg,show grP p m md rows most ((x : Int)::o.drop (i + 1)) P R out = out by rw [grP,grL,if_pos hm]]
   refine wk 6 cz ?_
   intro h1 b2 o1 hz1
   refine j_step rfl (x_ld_int 0 rfl rfl ld3 fun ⟨r1,r2⟩=>?_)
   refine wk 10 cz ?_
   intro h2
   refine j_givK 5 [4,2] [3] rfl (.tmp rfl .nil) rfl rfl rfl ⟨r,rfl,rfl,rfl⟩
  ·rw [grP,grL,if_neg hm,Int.toNat_natCast] at hg
   have hrw:=O.rp_wd (P:=P) (R:=R) hR hcW
   obtain ⟨w0,hw0⟩ : ∃ w0,rpF (liftI (fA p m)) (liftI (fM p (fpo m md))) (negI p m) P R (colL rows x) = w0:=⟨_,rfl⟩
   rw [hw0] at hg hrw
   by_cases hf : fnz w0 < 0
   ·rw [if_pos hf] at hg
    have c_exclusion_basis__add:=fun {ng cg ce cl bb : Nat} {pg pe pl : Option Addr} {rR rP r : Row}=>S_ba_no (b:=b) (ng:=ng) (cg:=cg) (ce:=ce) (cl:=cl) (bb:=bb) (pg:=pg) (pe:=pe) (pl:=pl) (rR:=rR) (rP:=rP) (r:=r) K hR hlen rfl hPn hr1 hr (by omega) hcW (by rw [hw0];exact hf)
    have ih':=fun rR rP=>ih (i + 1,rR,rP,r,P,R,out) (by dsimp only;omega) (by dsimp only;exact ⟨by omega,hR,hlen,hPn,by omega,by omega,hg⟩)
    dsimp only at ih'
    refine wk 6 cz ?_
    intro h1 b2 o1 hz1
    refine j_step rfl (x_ld_int 0 rfl rfl ld3 fun ⟨r1,r2⟩=>?_)
    refine wk 9 cz ?_
    intro h2
    refine j_step rfl (x_callB 4 [7] rfl rfl (c_exclusion_proof__column (by omega) (by omega)) rfl ?_)
    rintro _ _ _ ⟨r3,rfl,rfl,rfl⟩
    simp only [List.cons_append,List.nil_append]
    refine j_selB [5,2,3,1,0,4] rfl rfl ?_
    refine j_step rfl (x_callN 4 [9,10,11,2,3,0] rfl rfl (c_exclusion_basis__add) rfl ?_)
    rintro _ _ _ ⟨rR1,rP1,rfl,rfl,rfl⟩
    simp only [List.cons_append,List.nil_append]
    refine wk 5 cz ?_
    refine j_selT 5 [1,2,4,0,3] rfl rfl ?_
    exact tw (ih' rR1 rP1)
   ·rw [if_neg hf] at hg
    have c_exclusion_basis__add:=fun {ng cg ce cl bb : Nat} {pg pe pl : Option Addr} {rR rP r : Row}=>S_ba_yes (b:=b) (ng:=ng) (cg:=cg) (ce:=ce) (cl:=cl) (bb:=bb) (pg:=pg) (pe:=pe) (pl:=pl) (rR:=rR) (rP:=rP) (r:=r) K hR hlen rfl hPn hr1 hr (by omega) hcW hw0 hf
    have hst:=fnz_pos hf
    have hvi:=O.iv _ (wd_at (by omega) hrw (fnz w0).toNat).1 (wd_at (by omega) hrw (fnz w0).toNat).2 hst.2
    have hR' : Mat (p ^ m) rows.length (R++[sclL (liftI (fM p (fpo m md))) (invI p m md (at0 w0 (fnz w0).toNat)) w0]):=fun u hu=>by
     rcases List.mem_append.1 hu with hu | hu
     ·exact hR u hu
     ·rw [List.mem_singleton.1 hu];exact O.scl_wd hvi.1.1 hvi.1.2 hrw
    have hPn' : ∀ j ∈ P++[(fnz w0).toNat],j < rows.length:=fun j hj=>by
     rcases List.mem_append.1 hj with hj | hj
     ·exact hPn j hj
     ·rw [List.mem_singleton.1 hj];have:=hrw.1;omega
    have ih':=fun rR rP r=>ih (i + 1,rR,rP,r,P++[(fnz w0).toNat],R++[sclL (liftI (fM p (fpo m md))) (invI p m md (at0 w0 (fnz w0).toNat)) w0],out++[(x : Int)]) (by dsimp only;omega) (by dsimp only;refine ⟨by omega,hR',by rw [List.length_append,List.length_append,hlen];rfl,hPn',by rw [List.length_append];exact Nat.add_le_add_right hPi 1,by rw [List.length_append];exact Nat.add_le_add_right hoi 1,hg⟩)
    dsimp only at ih'
    simp only [List.length_append,List.length_singleton] at ih'
    refine wk 6 cz ?_
    intro h1 b2 o1 hz1
    refine j_step rfl (x_ld_int 0 rfl rfl ld3 fun ⟨r1,r2⟩=>?_)
    refine wk 9 cz ?_
    intro h2
    refine j_step rfl (x_callB 4 [7] rfl rfl (c_exclusion_proof__column (by omega) (by omega)) rfl ?_)
    rintro _ _ _ ⟨r3,rfl,rfl,rfl⟩
    simp only [List.cons_append,List.nil_append]
    refine j_selB [5,2,3,1,0,4] rfl rfl ?_
    refine j_step rfl (x_callN 4 [9,10,11,2,3,0] rfl rfl (c_exclusion_basis__add) rfl ?_)
    rintro _ _ _ ⟨rR1,rP1,rfl,rfl,rfl⟩
    simp only [List.cons_append,List.nil_append]
    refine wk 5 cz ?_
    intro b3
    refine j_step rfl (x_appR (z:=(↑x : Int)) 5 0 6 rfl rfl rfl rfl rfl sl22 zo22e rfl (fun w A hG=>(rd_int (by first | (simp only [InR];omega) | (simp [InR];done)))) (by omega) _ by22e (by omega) fun r4=>?_)
    refine wk 4 cz ?_
    refine j_selT 6 [3,4,0,2,5] rfl rfl ?_
    exact tw (ih' rR1 rP1 r4)
 ·obtain rfl : i = o.length:=by omega
  rw [List.drop_length] at hg
  rw [← hg,show grP p m md rows most [] P R out = out from rfl]
  refine wk 7 cz ?_
  intro h1
  refine j_givK 5 [4,2] [2] rfl (.tmp rfl .nil) rfl rfl rfl ⟨r,rfl,rfl,rfl⟩
end
open Go Go.Fw
set_option maxRecDepth 100000
set_option linter.unusedVariables false
set_option linter.unusedSimpArgs false
set_option maxHeartbeats 0
section
variable {P : Program} {C : Cx} {σ : Fr} {β : List Blk} {Γ : List Fact} {ty : TypeId}
theorem x_fvB {K : Value → List Blk → List Fact → Prop} {f : FuncId} {x : Operand} {xs : List Operand} {ts : Array TypeId} {bnd args caps : List Value} (hv : ev σ x = some (.func (.func f) bnd.toArray caps.toArray)) (hx : evs σ xs = some args)
  (h : Jop P C (.call { callee:=.value (.func f),args:=((bnd++args++caps).map Operand.const).toArray,argTypes:=ts }) ty σ β Γ K) : Jop P C (.call { callee:=.value x,args:=xs.toArray,argTypes:=ts }) ty σ β Γ K:=by
 intro w hO hG ρ hρ
 have h1:=h w hO hG ρ hρ
 have hc : ρ (.func f) = .func (.func f) #[] #[]:=hρ _ _ rfl
 have hv' : ρ x = .func (.func f) bnd.toArray caps.toArray:=hρ _ _ hv
 have ha : xs.toArray.map ρ = args.toArray:=by rw [List.map_toArray,evs_eq hρ hx]
 have hb : ((bnd++args++caps).map Operand.const).toArray.map ρ = (bnd++args++caps).toArray:=by rw [List.map_toArray,evs_eq hρ (evs_const σ _)]
 simp only [execOp,bare,resolve,hb,hc,Deferred.ofValue,Sem.run_bind,Sem.run_pure,Result.andThen_ok,invoke,Array.append_empty,Array.empty_append] at h1
 simp only [execOp,bare,resolve,ha,hv',Deferred.ofValue,Sem.run_bind,Sem.run_pure,Result.andThen_ok,invoke]
 rw [List.append_toArray,List.append_toArray]
 exact h1
end
theorem cells_int {w : World} {A : Nat → Prop} {vss : List (List Value)} {l : List Int} (h : AllRd I64 vss l w A) : vss.flatten = intCells .i64 l:=by
 have e : vss = l.map fun x=>[Value.int .i64 x]:=List.ext_getElem? fun i=>by
  rw [List.getElem?_map]
  by_cases hi : i < l.length
  ·rw [List.getElem?_eq_getElem hi,List.getElem?_eq_getElem (by rw [h.1];exact hi)]
   exact congrArg some (h.2 i _ _ (List.getElem?_eq_getElem (by rw [h.1];exact hi)) (List.getElem?_eq_getElem hi)).1
  ·have hv:=h.1
   rw [List.getElem?_eq_none (show vss.length ≤ i by omega),List.getElem?_eq_none (show l.length ≤ i by omega)];rfl
 rw [e]
 clear e h
 induction l with
 | nil=>rfl
 | cons x l ih=>rw [List.map_cons,List.flatten_cons,ih];rfl
theorem S_slices_CloneR {r : Row} {n : Nat} {l : List Int} (hl : l.length ≤ 17592186044416) : Ctr Tryz.prog 162 [.slice (ad r.bo) n r.cap] [(r.bo,3,r.cs)] [rowF I64 r n l] (fun v Φ β=>∃ r' : Row,v = .slice (ad r'.bo) n r'.cap ∧ Φ = [rowF I64 r' n l,rowF I64 r n l] ∧ β = [(r'.bo,3,r'.cs),(r.bo,3,r.cs)]):=by
 refine Ctr_of_j' (F:=F_slices_Clone___int_int_) rfl fun C=>?_
 refine j_rowlen 0 rfl fun hn=>?_
 subst hn
 obtain ⟨bo,cap,cs⟩:=r
 cases bo with
 | none =>
  by_cases h0 : 0 < l.length
  ·exact j_rowB 0 rfl h0 fun b' cap' cs' hr=>by cases hr
  obtain rfl : l = []:=List.length_eq_zero_iff.1 (by omega)
  refine wk 4 cz ?_
  refine j_step rfl (x_eqnilN sl22 rfl rfl ?_)
  refine wk 5 cz ?_
  refine j_row0 I64 3 ?_
  refine j_givK 2 [0,1] [0,1] rfl (.tmp rfl .nil) rfl rfl rfl ⟨⟨none,0,[]⟩,rfl,rfl,rfl⟩
 | some b =>
  refine j_know (q:=cs.take (l.length * 1) = intCells .i64 l ∧ l.length ≤ 17592186044416) (fun w A hG=>by
   obtain ⟨h1,h2,vss,h3,h4⟩:=hG _ (fact_mem (n:=0) rfl)
   exact ⟨h4.trans (cells_int h3),hl⟩) fun ⟨hcs,hl2⟩=>?_
  refine j_nf [_,_] rfl ?_
  refine j_run it 1 rfl (by simp) ?_
  refine j_nf [_,_,_] rfl ?_
  refine j_run it 1 rfl (by simp) ?_
  refine j_step rfl (x_eqnilS sl22 rfl rfl ?_)
  refine j_nf [_,_] rfl ?_
  refine j_false rfl rfl ?_
  refine j_nf [_,_] rfl ?_
  refine j_step rfl (x_lit0 sl22 fun b1=>?_)
  refine j_run it 1 rfl (by simp) ?_
  (apply j_rowlit (E:=encInt IntKind.i64 8) (n:=0) (cs:=[]) [] [] 0 (fun w A hG=>allrd_nil);(· rfl);(· rfl);(· rfl);(· rfl);(· decide)) --ok
  refine j_step rfl (x_app 0 1 rfl rfl rfl rfl sl22 zo22e rfl (by first | exact GrOk.nil _ | assumption | exact .inr ⟨_,rfl,Nat.le_refl _,by omega,rfl⟩) hcs (by simp [intCells]) (fun u hu=>by
   rw [intCells] at hu
   obtain ⟨x,_,rfl⟩:=List.mem_map.1 hu
   rfl) (by omega) _ by22e (by omega) fun bo' cap' cs' hg' hc'=>?_)
  refine j_add (rowF I64 ⟨bo',cap',cs'⟩ (0 + l.length) l) (fun w A hG=>by
   obtain ⟨h1,h2,vss,h3,h4⟩:=hG _ (fact_mem (n:=1) rfl)
   exact ⟨Nat.zero_add _,hg',vss,h3,by rw [Nat.zero_add];rw [Nat.zero_add] at hc';exact (hc'.trans hcs.symm).trans h4⟩) ?_
  refine wk 2 cz ?_
  simp only [Nat.zero_add]
  refine j_givK 2 [0,1] [0,2] rfl (.tmp rfl .nil) rfl rfl rfl ⟨⟨bo',cap',cs'⟩,rfl,rfl,rfl⟩
section
variable {p m N b bp nm cm ns cs ny cy nt ct : Nat} {pm ps py pt : Option Addr} {co : Bool} {Mo w : Int} {md : List Int} {rows sets : List (List Int)}
def ChQ (B : Nat → Blk) (L : Nat) : Option (List (List Int)) → Value → List Fact → List Blk → Prop
 | some T=>fun v Φ β=>v = .int .i64 0 ∧ Φ = [] ∧ β = [B (L - T.length)]
 | none=>fun v Φ β=>∃ ap : Nat,v = .int .i64 13 ∧ Φ = [] ∧ β = [B ap]
theorem S_exclusion_proof__children0 {n1 c1 n2 c2 n3 c3 ap : Nat} {p1 p2 p3 : Option Addr} {s : List Int} {f : Value} (hs : (s.length : Int) = w) :
  Ctr Tryz.prog 151 [.pointer (some ⟨bp,0,none⟩),.slice p1 n1 c1,.slice p2 n2 c2,.slice p3 n3 c3,f] [prB bp b p m N nm cm ns cs ny cy nt ct pm ps py pt co Mo w ap] [slF I64 p1 n1 c1 s]
   (fun v Φ β=>v = .int .i64 0 ∧ Φ = [] ∧ β = [prB bp b p m N nm cm ns cs ny cy nt ct pm ps py pt co Mo w ap]):=by
 refine Ctr_of_j' (F:=F_exclusion_proof__children) rfl fun C=>?_
 refine j_len 0 rfl fun hn hb _=>?_
 subst hn
 refine wk 14 cz ?_
 intro h1
 refine j_givK 1 [0] [] rfl (.tmp rfl .nil) rfl rfl rfl ⟨rfl,rfl,rfl⟩
theorem kid_in {z : List Int} {x : Int} {l : List Int} (h : x ∈ z) : kidL z (x::l) = kidL z l:=by
 rw [kidL,List.filter_cons,decide_eq_true h];rfl
theorem kid_out {z : List Int} {x : Int} {l : List Int} (h : x ∉ z) : kidL z (x::l) = x::kidL z l:=by
 rw [kidL,List.filter_cons,decide_eq_false h];rfl
theorem exGo_sfx {f : List Int → List Int → List (List Int) → Option (List (List Int))} (hf : ∀ {s z T T'},f s z T = some T' → T' <:+ T) {s z : List Int} : ∀ {ks pre : List Int} {T T' : List (List Int)},exGo f s z pre ks T = some T' → T' <:+ T
 | [],pre,T,T',h=>by rw [exGo] at h;rw [Option.some.inj h];exact List.suffix_refl _
 | i::r,pre,T,T',h=>by
  rw [exGo] at h
  cases hE : f (s++[i]) (z++pre) T with
  | none=>rw [hE] at h;cases h
  | some T2=>rw [hE] at h;exact (exGo_sfx hf h).trans (hf hE)
theorem exT_sfx {rt : List Int → List Int → Bool} : ∀ {d : Nat} {s z : List Int} {T T' : List (List Int)},exT rt d s z T = some T' → T' <:+ T
 | 0,s,z,[],T',h=>by rw [exT] at h;cases h
 | d + 1,s,z,[],T',h=>by rw [exT] at h;cases h
 | 0,s,z,x::T,T',h=>by
  rw [exT] at h
  split at h
  ·rw [← Option.some.inj h];exact List.suffix_cons _ _
  ·cases h
 | d + 1,s,z,x::T,T',h=>by
  rw [exT] at h
  split at h
  ·exact (exGo_sfx (fun h=>exT_sfx h) h).trans (List.suffix_cons _ _)
  ·cases h
theorem kid_dist {z set : List Int} {i : Nat} {x : Int} (hst : set.Pairwise (· < ·)) (hx : set[i]? = some x) : x ∈ z++kidL z (set.take i) ↔ x ∈ z:=by
 refine ⟨fun h=>?_,fun h=>List.mem_append.2 (Or.inl h)⟩
 rcases List.mem_append.1 h with h | h
 ·exact h
 ·have h1:=(List.mem_filter.1 h).1
  obtain ⟨k,hk⟩:=List.getElem?_of_mem h1
  obtain ⟨k1,k2⟩:=List.getElem?_eq_some_iff.1 hk
  rw [List.length_take] at k1
  rw [List.getElem_take] at k2
  obtain ⟨i1,i2⟩:=List.getElem?_eq_some_iff.1 hx
  have:=List.pairwise_iff_getElem.1 hst k i (by omega) i1 (by omega)
  omega
theorem S_exclusion_proof__children {ng cg ce cl n1 c1 n2 c2 n3 c3 d : Nat} {pg pe pl p1 p2 p3 : Option Addr} {s z set : List Int} {T : List (List Int)} {rt : List Int → List Int → Bool} (hs : (s.length : Int) < w) (hst : stP N set) (hsl : s.length ≤ 1000) (hzl : z.length ≤ 100000) (hl : set.length ≤ 1000) (hT : T <:+ sets)
  (hf : ∀ {n1 c1 n2 c2 : Nat} {p1 p2 : Option Addr} {x : Int} {z' : List Int} {T : List (List Int)},z'.length ≤ z.length + 1000 → T <:+ sets → Ctr Tryz.prog 129 [.pointer (some ⟨bp,0,none⟩),.slice p1 n1 c1,.slice p2 n2 c2] [prB bp b p m N nm cm ns cs ny cy nt ct pm ps py pt co Mo w ((sets.length - T.length : Nat) : Int)] [slF (encSl I64) ps ns cs rows,gfC b p m (p ^ m) pg ng cg pe (p ^ m - 1) ce pl (p ^ m) cl,slF I64 pe (p ^ m - 1) ce (exL p m md),slF I64 pl (p ^ m) cl (lgL p m md),slF (encSl I64) pt nt ct sets,slF I64 p1 n1 c1 (s++[x]),slF I64 p2 n2 c2 z']
   (ChQ (fun ap=>prB bp b p m N nm cm ns cs ny cy nt ct pm ps py pt co Mo w (ap : Nat)) sets.length (exT rt d (s++[x]) z' T))) :
  Ctr Tryz.prog 151 [.pointer (some ⟨bp,0,none⟩),.slice p1 n1 c1,.slice p2 n2 c2,.slice p3 n3 c3,.func (.func 129) #[.pointer (some ⟨bp,0,none⟩)] #[]] [prB bp b p m N nm cm ns cs ny cy nt ct pm ps py pt co Mo w ((sets.length - T.length : Nat) : Int)] [slF (encSl I64) ps ns cs rows,gfC b p m (p ^ m) pg ng cg pe (p ^ m - 1) ce pl (p ^ m) cl,slF I64 pe (p ^ m - 1) ce (exL p m md),slF I64 pl (p ^ m) cl (lgL p m md),slF (encSl I64) pt nt ct sets,slF I64 p1 n1 c1 s,slF I64 p2 n2 c2 z,slF I64 p3 n3 c3 set]
   (ChQ (fun ap=>prB bp b p m N nm cm ns cs ny cy nt ct pm ps py pt co Mo w (ap : Nat)) sets.length (exGo (exT rt d) s z [] (kidL z set) T)):=by
 refine Ctr_of_j' (F:=F_exclusion_proof__children) rfl fun C=>?_
 refine j_len 5 rfl fun hn hb _=>?_
 subst hn
 refine j_len 6 rfl fun hn hb2 _=>?_
 subst hn
 refine j_len 7 rfl fun hn hb3 _=>?_
 subst hn
 obtain ⟨G,hG⟩ : ∃ G,exGo (exT rt d) s z [] (kidL z set) T = G:=⟨_,rfl⟩
 rw [hG]
 refine wk 13 cz ?_
 intro h1
 refine j_step rfl (x_call [6] rfl (S_slices_Clone___int_int_) rfl ?_)
 rintro _ _ _ ⟨r1,rfl,rfl,rfl⟩
 simp only [List.cons_append,List.nil_append]
 refine wk 6 cz ?_
 refine j_loopG (X:=Nat × Row × List Int × List (List Int)) [1,4,23,24] [0,1,2,3,4,5,6,7,8] (fun x=>[(25,.int .i64 (x.1 : Int)),(2,.slice (ad x.2.1.bo) x.2.2.1.length x.2.1.cap)])
  (fun x=>[(x.2.1.bo,3,x.2.1.cs),prB bp b p m N nm cm ns cs ny cy nt ct pm ps py pt co Mo w ((sets.length - x.2.2.2.length : Nat) : Int)]) (fun x=>[rowF I64 x.2.1 x.2.2.1.length x.2.2.1])
  (fun x=>x.1 ≤ set.length ∧ x.2.2.1 = z++kidL z (set.take x.1) ∧ exGo (exT rt d) s z (kidL z (set.take x.1)) (kidL z (set.drop x.1)) x.2.2.2 = G ∧ x.2.2.2 <:+ sets) (fun x=>set.length - x.1) (0,r1,z,T) [0] rfl rfl rfl ⟨Nat.zero_le _,(List.append_nil z).symm,hG,hT⟩ (by repeat (first | exact Fr.sub_nil _ | refine Fr.sub_cons rfl ?_)) rfl rfl ?_
 rintro ⟨i,r,y,T⟩ ⟨hi,hy,hg,hT⟩ ih
 simp only [List.cons_append,List.nil_append] at hi hy hg hT ih ⊢
 by_cases hil : i < set.length
 ·obtain ⟨x,at_x⟩ : ∃ x,set[i]? = some x:=⟨_,List.getElem?_eq_getElem hil⟩
  have e3 : set.drop i = x::set.drop (i + 1):=by
   rw [List.drop_eq_getElem_cons hil];rw [List.getElem?_eq_getElem hil] at at_x;rw [Option.some.inj at_x]
  have e4 : set.take (i + 1) = set.take i++[x]:=by rw [List.take_add_one,at_x];rfl
  have hkd:=kid_dist (z:=z) hst.2 at_x
  rw [← hy] at hkd
  have hyl : y.length ≤ z.length + 1000:=by
   have h1:=List.length_filter_le (fun i=>!decide (i ∈ z)) (set.take i)
   rw [hy,List.length_append]
   rw [List.length_take] at h1
   have : (kidL z (set.take i)).length ≤ min i set.length:=h1
   omega
  rw [e3] at hg
  by_cases hx : x ∈ z
  ·have c_slices_Contains___int_int_:=fun {r : Row}=>(S_slices_Contains___int_int_ (pl:=ad r.bo) (nl:=y.length) (cl:=r.cap) (l:=y) (x:=x) (decide_eq_true (hkd.2 hx))).lend (e:=3) (by show y.length * 8 ≤ 140737488355328;omega)
   rw [kid_in hx] at hg
   have ih':=ih (i + 1,r,y,T) (by dsimp only;omega) (by dsimp only;refine ⟨by omega,?_,?_,hT⟩ <;> rw [e4,kidL,List.filter_append,show ([x].filter fun i=>!decide (i ∈ z)) = [] from kid_in hx,List.append_nil] <;> assumption)
   refine wk 6 cz ?_
   intro h2 b1 o1 hz1
   refine j_step rfl (x_ld_int 0 rfl rfl ld3 fun ⟨r2,r3⟩=>?_)
   refine wk 3 cz ?_
   refine j_step rfl (x_callB 0 [1] rfl rfl (c_slices_Contains___int_int_) rfl ?_)
   rintro _ _ _ ⟨rfl,rfl,rfl⟩
   simp only [List.cons_append,List.nil_append]
   refine wk 5 cz ?_
   exact tw (ih')
  ·have c_slices_Contains___int_int_:=fun {r : Row}=>(S_slices_Contains___int_int_ (pl:=ad r.bo) (nl:=y.length) (cl:=r.cap) (l:=y) (x:=x) (decide_eq_false (mt hkd.1 hx))).lend (e:=3) (by show y.length * 8 ≤ 140737488355328;omega)
   rw [kid_out hx,exGo,← hy] at hg
   cases hE : exT rt d (s++[x]) y T with
   | none =>
    rw [hE] at hg
    subst hg
    have c_exclusion_proof__check:=fun {n1 c1 n2 c2 : Nat} {p1 p2 : Option Addr}=>hf (n1:=n1) (c1:=c1) (n2:=n2) (c2:=c2) (p1:=p1) (p2:=p2) (x:=x) (z':=y) (T:=T) hyl hT
    simp only [hE] at c_exclusion_proof__check
    simp only [ChQ] at c_exclusion_proof__check
    refine wk 6 cz ?_
    intro h2 b1 o1 hz1
    refine j_step rfl (x_ld_int 0 rfl rfl ld3 fun ⟨r2,r3⟩=>?_)
    refine wk 3 cz ?_
    refine j_step rfl (x_callB 0 [1] rfl rfl (c_slices_Contains___int_int_) rfl ?_)
    rintro _ _ _ ⟨rfl,rfl,rfl⟩
    simp only [List.cons_append,List.nil_append]
    refine wk 4 cz ?_
    refine j_step rfl (x_call [9] rfl (S_slices_Clone___int_int_) rfl ?_)
    rintro _ _ _ ⟨r4,rfl,rfl,rfl⟩
    simp only [List.cons_append,List.nil_append]
    refine wk 2 cz ?_
    intro b2
    refine j_step rfl (x_appR (z:=(x : Int)) 1 0 0 rfl rfl rfl rfl rfl sl22 zo22e rfl (fun w A hG=>(rd_int (by first | (simp only [InR];omega) | (simp [InR];done)))) (by omega) _ by22e (by omega) fun r5=>?_)
    refine wk 1 cz ?_
    have c_slices_Clone___int_int_:=fun {r : Row} {n : Nat}=>S_slices_CloneR (r:=r) (n:=n) (l:=y) (by omega)
    refine j_step rfl (x_callB 2 [2] rfl rfl (c_slices_Clone___int_int_) rfl ?_)
    rintro _ _ _ ⟨r'1,rfl,rfl,rfl⟩
    simp only [List.cons_append,List.nil_append] --ok
    refine j_pubR 0 0 rfl rfl (by show y.length * 8 ≤ 140737488355328;omega) ?_
    refine j_pubR 1 3 rfl rfl (by show (s.length + 1) * 8 ≤ 140737488355328;omega) ?_
    refine j_step rfl <| x_fvB rfl rfl (x_callB 2 [10,11,12,13,14,0,1] rfl rfl (c_exclusion_proof__check) rfl ?_)
    rintro _ _ _ ⟨ap1,rfl,rfl,rfl⟩
    simp only [List.cons_append,List.nil_append]
    refine wk 8 cz ?_
    intro h3
    refine j_givK 3 [0] [] rfl (.tmp rfl .nil) rfl rfl rfl ⟨ap1,rfl,rfl,rfl⟩
   | some T2 =>
    rw [hE] at hg
    have c_exclusion_proof__check:=fun {n1 c1 n2 c2 : Nat} {p1 p2 : Option Addr}=>hf (n1:=n1) (c1:=c1) (n2:=n2) (c2:=c2) (p1:=p1) (p2:=p2) (x:=x) (z':=y) (T:=T) hyl hT
    simp only [hE] at c_exclusion_proof__check
    simp only [ChQ] at c_exclusion_proof__check
    have ih':=fun r=>ih (i + 1,r,y++[x],T2) (by dsimp only;omega) (by dsimp only;refine ⟨by omega,?_,?_,(exT_sfx hE).trans hT⟩ <;> rw [e4,kidL,List.filter_append,show ([x].filter fun i=>!decide (i ∈ z)) = [x] from kid_out hx] <;> first | assumption | rw [hy,List.append_assoc])
    refine wk 6 cz ?_
    intro h2 b1 o1 hz1
    refine j_step rfl (x_ld_int 0 rfl rfl ld3 fun ⟨r2,r3⟩=>?_)
    refine wk 3 cz ?_
    refine j_step rfl (x_callB 0 [1] rfl rfl (c_slices_Contains___int_int_) rfl ?_)
    rintro _ _ _ ⟨rfl,rfl,rfl⟩
    simp only [List.cons_append,List.nil_append]
    refine wk 4 cz ?_
    refine j_step rfl (x_call [9] rfl (S_slices_Clone___int_int_) rfl ?_)
    rintro _ _ _ ⟨r4,rfl,rfl,rfl⟩
    simp only [List.cons_append,List.nil_append]
    refine wk 2 cz ?_
    intro b2
    refine j_step rfl (x_appR (z:=(x : Int)) 1 0 0 rfl rfl rfl rfl rfl sl22 zo22e rfl (fun w A hG=>(rd_int (by first | (simp only [InR];omega) | (simp [InR];done)))) (by omega) _ by22e (by omega) fun r5=>?_)
    refine wk 1 cz ?_
    have c_slices_Clone___int_int_:=fun {r : Row} {n : Nat}=>S_slices_CloneR (r:=r) (n:=n) (l:=y) (by omega)
    refine j_step rfl (x_callB 2 [2] rfl rfl (c_slices_Clone___int_int_) rfl ?_)
    rintro _ _ _ ⟨r'1,rfl,rfl,rfl⟩
    simp only [List.cons_append,List.nil_append] --ok
    refine j_pubR 0 0 rfl rfl (by show y.length * 8 ≤ 140737488355328;omega) ?_
    refine j_pubR 1 3 rfl rfl (by show (s.length + 1) * 8 ≤ 140737488355328;omega) ?_
    dsimp only at ih'
    simp only [List.length_append,List.length_singleton] at ih'
    refine j_step rfl <| x_fvB rfl rfl (x_callB 2 [10,11,12,13,14,0,1] rfl rfl (c_exclusion_proof__check) rfl ?_)
    rintro _ _ _ ⟨rfl,rfl,rfl⟩
    simp only [List.cons_append,List.nil_append]
    refine wk 8 cz ?_
    intro h3 b3
    refine j_step rfl (x_appR (z:=(x : Int)) 2 0 3 rfl rfl rfl rfl rfl sl22 zo22e rfl (fun w A hG=>(rd_int (by first | (simp only [InR];omega) | (simp [InR];done)))) (by omega) _ by22e (by omega) fun r6=>?_)
    refine wk 4 cz ?_
    refine j_selT 4 [0,2] rfl rfl ?_
    exact tw (ih' r6)
 ·obtain rfl : i = set.length:=by omega
  rw [List.drop_length] at hg
  obtain rfl : some T = G:=hg
  refine wk 7 cz ?_
  intro h2
  refine j_givK 2 [1] [] rfl (.tmp rfl .nil) rfl rfl rfl ⟨rfl,rfl,rfl⟩
end
open Go Go.Fw
set_option maxRecDepth 100000
set_option linter.unusedVariables false
set_option linter.unusedSimpArgs false
set_option maxHeartbeats 0
section
variable {p m N b bp nm cm ns cs ny cy nt ct : Nat} {pm ps py pt : Option Addr} {Mo w ap : Int} {md : List Int} {rows : List (List Int)}
theorem S_exclusion_proof__right {ng cg ce cl n1 c1 n2 c2 : Nat} {pg pe pl p1 p2 : Option Addr} {s set : List Int} (K : Fok p m md) (hM : Mat (p ^ m) N rows) (hr1 : 1 ≤ rows.length) (hr : rows.length ≤ 1000000) (hN : N ≤ 1000) :
  Ctr Tryz.prog 150 [.pointer (some ⟨bp,0,none⟩),.slice p1 n1 c1,.slice p2 n2 c2] [prB bp b p m N nm cm ns cs ny cy nt ct pm ps py pt false Mo w ap] [slF (encSl I64) ps ns cs rows,gfC b p m (p ^ m) pg ng cg pe (p ^ m - 1) ce pl (p ^ m) cl,slF I64 pe (p ^ m - 1) ce (exL p m md),slF I64 pl (p ^ m) cl (lgL p m md),slF I64 p1 n1 c1 s,slF I64 p2 n2 c2 set]
   (fun v Φ β=>v = .bool (rgB p m md N rows Mo s set) ∧ Φ = [] ∧ β = [prB bp b p m N nm cm ns cs ny cy nt ct pm ps py pt false Mo w ap]):=by
 refine Ctr_of_j' (F:=F_exclusion_proof__right) rfl fun C=>?_
 refine j_len 5 rfl fun hn hb _=>?_
 subst hn
 have hb' : set.length * 8 ≤ 140737488355328:=hb
 have O:=fok_fn K
 have hq:=K.q
 refine wk 7 cz ?_
 refine j_loopG (X:=Nat) [0,1,2,9,10] [0,1,2,3,4,5] (fun i=>[(11,.int .i64 (i : Int))]) (fun _=>[prB bp b p m N nm cm ns cs ny cy nt ct pm ps py pt false Mo w ap]) (fun _=>[]) (fun i=>i ≤ set.length ∧ (∀ j,j < i → stA N set j) ∧ ∀ x ∈ set.take i,x ∉ s) (fun i=>set.length - i) 0 [] rfl rfl rfl ⟨Nat.zero_le _,(fun j h=>absurd h (Nat.not_lt_zero j)),fun x h=>absurd h List.not_mem_nil⟩ (by repeat (first | exact Fr.sub_nil _ | refine Fr.sub_cons rfl ?_)) rfl rfl ?_
 rintro i ⟨hi,hno,hns⟩ ih
 simp only [List.cons_append,List.nil_append] at hi ih ⊢
 by_cases h9 : i < set.length
 ·obtain ⟨x,at_x⟩ : ∃ x,set[i]? = some x:=⟨_,List.getElem?_eq_getElem h9⟩
  have bad : ¬ stA N set i → rgB p m md N rows Mo s set = false:=fun h=>by
   rw [rgB,decide_eq_false (stP_no h9 h)];rfl
  have good : stA N set i → x ∉ s → (∀ j,j < i + 1 → stA N set j) ∧ ∀ z ∈ set.take (i + 1),z ∉ s:=fun h hx=>⟨fun j hj=>by
   rcases Nat.lt_succ_iff_lt_or_eq.1 hj with h1 | rfl
   ·exact hno j h1
   ·exact h,fun z hz=>by
    rw [List.take_add_one,at_x] at hz
    rcases List.mem_append.1 hz with hz | hz
    ·exact hns z hz
    ·rw [List.mem_singleton.1 hz];exact hx⟩
  by_cases a0 : x < 0
  ·rw [bad fun h=>by have:=(h x at_x).1;omega]
   refine j_nf [_,_,_,_,_] rfl ?_
   refine j_run it 1 rfl (by simp) ?_
   refine j_nf [_,_,_,_,_] rfl ?_
   refine j_if rfl rfl (fun h1=>?_) (fun h1=>by exfalso;omega)
   refine j_nf [_,_,_,_,_,_,_] rfl ?_
   refine j_run it 1 rfl (by simp) ?_
   refine j_step rfl (x_idx 5 (i) rfl rfl rfl sl22 rfl (by omega) fun z1 hz1 b1 o1=>?_)
   obtain rfl : _ = z1:=Option.some.inj (at_x.symm.trans hz1)
   refine j_step rfl (x_ld_int 0 rfl rfl ld3 fun ⟨r1,r2⟩=>?_)
   refine j_run it 2 rfl (by simp) ?_
   refine j_nf [_,_,_,_,_,_,_] rfl ?_
   refine j_run it 3 rfl (by simp) ?_
   refine j_split_dec (t:=18) rfl (fun h2=>?_) (fun h2=>by exfalso;omega)
   refine j_run it 12 rfl (by simp) ?_
   refine j_gskipU rfl rfl ?_
   refine j_gskipU rfl rfl ?_
   refine j_gskipU rfl rfl ?_
   refine j_gskipU rfl rfl ?_
   refine j_gskipU rfl rfl ?_
   refine j_gskipU rfl rfl ?_
   refine j_gskipU rfl rfl ?_
   refine j_run it 7 rfl (by simp) ?_
   refine j_nf [_,_,_,_,_,_] rfl ?_
   refine j_true rfl rfl ?_
   refine j_nf [_,_,_,_,_,_,_] rfl ?_
   refine j_run it 1 rfl (by simp) ?_
   refine j_nf [_,_,_,_,_,_] rfl ?_
   refine j_givK 1 [0] [] rfl (.tmp rfl .nil) rfl rfl rfl ⟨rfl,rfl,rfl⟩
  ·by_cases a1 : (N : Int) ≤ x
   ·rw [bad fun h=>by have:=(h x at_x).1;omega]
    refine j_nf [_,_,_,_,_] rfl ?_
    refine j_run it 1 rfl (by simp) ?_
    refine j_nf [_,_,_,_,_] rfl ?_
    refine j_if rfl rfl (fun h1=>?_) (fun h1=>by exfalso;omega)
    refine j_nf [_,_,_,_,_,_,_] rfl ?_
    refine j_run it 1 rfl (by simp) ?_
    refine j_step rfl (x_idx 5 (i) rfl rfl rfl sl22 rfl (by omega) fun z1 hz1 b1 o1=>?_)
    obtain rfl : _ = z1:=Option.some.inj (at_x.symm.trans hz1)
    refine j_step rfl (x_ld_int 0 rfl rfl ld3 fun ⟨r1,r2⟩=>?_)
    refine j_run it 2 rfl (by simp) ?_
    refine j_nf [_,_,_,_,_,_,_] rfl ?_
    refine j_run it 3 rfl (by simp) ?_
    refine j_split_dec (t:=18) rfl (fun h2=>by exfalso;omega) (fun h2=>?_)
    refine j_run it 3 rfl (by simp) ?_
    refine j_gstep rfl rfl (x_field rfl fd157_1 ?_)
    refine j_gstep rfl rfl (x_field rfl fd27_1 ?_)
    refine j_gstep rfl rfl (x_bld 0 rfl rfl ld3 rfl ?_)
    refine j_run it 3 rfl (by simp) ?_
    refine j_split_dec (t:=27) rfl (fun h3=>?_) (fun h3=>by exfalso;omega)
    refine j_run it 3 rfl (by simp) ?_
    refine j_gskipU rfl rfl ?_
    refine j_gskipU rfl rfl ?_
    refine j_gskipU rfl rfl ?_
    refine j_gskipU rfl rfl ?_
    refine j_gskipU rfl rfl ?_
    refine j_gskipU rfl rfl ?_
    refine j_gskipU rfl rfl ?_
    refine j_run it 7 rfl (by simp) ?_
    refine j_nf [_,_,_,_,_,_] rfl ?_
    refine j_true rfl rfl ?_
    refine j_nf [_,_,_,_,_,_,_] rfl ?_
    refine j_run it 1 rfl (by simp) ?_
    refine j_nf [_,_,_,_,_,_] rfl ?_
    refine j_givK 1 [0] [] rfl (.tmp rfl .nil) rfl rfl rfl ⟨rfl,rfl,rfl⟩
   ·have hin : ∀ h : x ∈ s,rgB p m md N rows Mo s set = false:=fun h=>by
     rw [rgB,List.any_eq_true.2 ⟨x,List.mem_of_getElem? at_x,decide_eq_true h⟩];simp
    rcases Nat.eq_zero_or_pos i with hi0 | hi0
    ·subst hi0
     by_cases a3 : x ∈ s
     ·rw [hin a3]
      have c_slices_Contains___int_int_:=fun {pl : Option Addr} {nl cl : Nat}=>S_slices_Contains___int_int_ (pl:=pl) (nl:=nl) (cl:=cl) (l:=s) (x:=x) (decide_eq_true a3)
      refine wk 6 cz ?_
      intro h1
      refine j_step rfl (x_idx 5 (0) rfl rfl rfl sl22 rfl (by omega) fun z1 hz1 b1 o1=>?_)
      obtain rfl : _ = z1:=Option.some.inj (at_x.symm.trans hz1)
      refine wk 15 cz ?_
      intro _ r1 r2 h2
      refine j_split_dec (t:=27) rfl (fun h3=>by exfalso;omega) (fun h3=>?_)
      refine wk 1 cz ?_
      refine j_gstep rfl rfl (x_call [5] rfl (c_slices_Contains___int_int_) rfl ?_)
      rintro _ _ _ ⟨rfl,rfl,rfl⟩
      simp only [List.cons_append,List.nil_append]
      refine wk 6 cz ?_
      refine j_givK 1 [0] [] rfl (.tmp rfl .nil) rfl rfl rfl ⟨rfl,rfl,rfl⟩
     ·have c_slices_Contains___int_int_:=fun {pl : Option Addr} {nl cl : Nat}=>S_slices_Contains___int_int_ (pl:=pl) (nl:=nl) (cl:=cl) (l:=s) (x:=x) (decide_eq_false a3)
      refine wk 6 cz ?_
      intro h1
      refine j_step rfl (x_idx 5 (0) rfl rfl rfl sl22 rfl (by omega) fun z1 hz1 b1 o1=>?_)
      obtain rfl : _ = z1:=Option.some.inj (at_x.symm.trans hz1)
      refine wk 15 cz ?_
      intro _ r1 r2 h2
      refine j_split_dec (t:=27) rfl (fun h3=>by exfalso;omega) (fun h3=>?_)
      refine wk 1 cz ?_
      refine j_gstep rfl rfl (x_call [5] rfl (c_slices_Contains___int_int_) rfl ?_)
      rintro _ _ _ ⟨rfl,rfl,rfl⟩
      simp only [List.cons_append,List.nil_append]
      refine wk 6 cz ?_
      exact tw (ih 1 (by omega) ⟨by omega,good (fun z hz=>by
       rw [at_x] at hz;obtain rfl:=Option.some.inj hz
       exact ⟨by omega,fun y h=>by omega⟩) a3⟩)
    ·obtain ⟨k,rfl⟩ : ∃ k,i = k + 1:=⟨i - 1,by omega⟩
     obtain ⟨y,at_y⟩ : ∃ y,set[k]? = some y:=⟨_,List.getElem?_eq_getElem (by omega)⟩
     by_cases a2 : x ≤ y
     ·rw [bad fun h=>by have:=(h x at_x).2 y (by omega) at_y;omega]
      refine j_nf [_,_,_,_,_] rfl ?_
      refine j_run it 1 rfl (by simp) ?_
      refine j_nf [_,_,_,_,_] rfl ?_
      refine j_if rfl rfl (fun h1=>?_) (fun h1=>by exfalso;omega)
      refine j_nf [_,_,_,_,_,_,_] rfl ?_
      refine j_run it 1 rfl (by simp) ?_
      refine j_step rfl (x_idx 5 (k + 1) rfl rfl rfl sl22 rfl (by omega) fun z1 hz1 b1 o1=>?_)
      obtain rfl : _ = z1:=Option.some.inj (at_x.symm.trans hz1)
      refine j_step rfl (x_ld_int 0 rfl rfl ld3 fun ⟨r1,r2⟩=>?_)
      refine j_run it 2 rfl (by simp) ?_
      refine j_nf [_,_,_,_,_,_,_] rfl ?_
      refine j_run it 3 rfl (by simp) ?_
      refine j_split_dec (t:=18) rfl (fun h2=>by exfalso;omega) (fun h2=>?_)
      refine j_run it 3 rfl (by simp) ?_
      refine j_gstep rfl rfl (x_field rfl fd157_1 ?_)
      refine j_gstep rfl rfl (x_field rfl fd27_1 ?_)
      refine j_gstep rfl rfl (x_bld 0 rfl rfl ld3 rfl ?_)
      refine j_run it 3 rfl (by simp) ?_
      refine j_split_dec (t:=27) rfl (fun h3=>by exfalso;omega) (fun h3=>?_)
      refine j_run it 3 rfl (by simp) ?_
      refine j_split_dec (t:=30) rfl (fun h4=>?_) (fun h4=>by exfalso;omega)
      refine j_run it 4 rfl ⟨⟨by omega,by omega⟩,trivial,trivial,trivial,trivial⟩ ?_
      refine j_gstep rfl rfl (x_idx 6 ((k + 1) - 1) rfl rfl rfl sl22 (by omega) (by omega) fun z1 hz2 b2 o2=>?_)
      obtain rfl : _ = z1:=Option.some.inj (at_y.symm.trans hz2)
      refine j_gstep rfl rfl (x_ld_int 0 rfl rfl ld3 fun ⟨r3,r4⟩=>?_)
      refine j_run it 4 rfl (by simp) ?_
      refine j_split_dec (t:=40) rfl (fun h5=>?_) (fun h5=>by exfalso;omega)
      refine j_run it 4 rfl (by simp) ?_
      refine j_nf [_,_,_,_,_,_] rfl ?_
      refine j_true rfl rfl ?_
      refine j_nf [_,_,_,_,_,_,_] rfl ?_
      refine j_run it 1 rfl (by simp) ?_
      refine j_nf [_,_,_,_,_,_] rfl ?_
      refine j_givK 1 [0] [] rfl (.tmp rfl .nil) rfl rfl rfl ⟨rfl,rfl,rfl⟩
     ·by_cases a3 : x ∈ s
      ·rw [hin a3]
       have c_slices_Contains___int_int_:=fun {pl : Option Addr} {nl cl : Nat}=>S_slices_Contains___int_int_ (pl:=pl) (nl:=nl) (cl:=cl) (l:=s) (x:=x) (decide_eq_true a3)
       refine j_nf [_,_,_,_,_] rfl ?_
       refine j_run it 1 rfl (by simp) ?_
       refine j_nf [_,_,_,_,_] rfl ?_
       refine j_if rfl rfl (fun h1=>?_) (fun h1=>by exfalso;omega)
       refine j_nf [_,_,_,_,_,_,_] rfl ?_
       refine j_run it 1 rfl (by simp) ?_
       refine j_step rfl (x_idx 5 (k + 1) rfl rfl rfl sl22 rfl (by omega) fun z1 hz1 b1 o1=>?_)
       obtain rfl : _ = z1:=Option.some.inj (at_x.symm.trans hz1)
       refine j_step rfl (x_ld_int 0 rfl rfl ld3 fun ⟨r1,r2⟩=>?_)
       refine j_run it 2 rfl (by simp) ?_
       refine j_nf [_,_,_,_,_,_,_] rfl ?_
       refine j_run it 3 rfl (by simp) ?_
       refine j_split_dec (t:=18) rfl (fun h2=>by exfalso;omega) (fun h2=>?_)
       refine j_run it 3 rfl (by simp) ?_
       refine j_gstep rfl rfl (x_field rfl fd157_1 ?_)
       refine j_gstep rfl rfl (x_field rfl fd27_1 ?_)
       refine j_gstep rfl rfl (x_bld 0 rfl rfl ld3 rfl ?_)
       refine j_run it 3 rfl (by simp) ?_
       refine j_split_dec (t:=27) rfl (fun h3=>by exfalso;omega) (fun h3=>?_)
       refine j_run it 3 rfl (by simp) ?_
       refine j_split_dec (t:=30) rfl (fun h4=>?_) (fun h4=>by exfalso;omega)
       refine j_run it 4 rfl ⟨⟨by omega,by omega⟩,trivial,trivial,trivial,trivial⟩ ?_
       refine j_gstep rfl rfl (x_idx 6 ((k + 1) - 1) rfl rfl rfl sl22 (by omega) (by omega) fun z1 hz2 b2 o2=>?_)
       obtain rfl : _ = z1:=Option.some.inj (at_y.symm.trans hz2)
       refine j_gstep rfl rfl (x_ld_int 0 rfl rfl ld3 fun ⟨r3,r4⟩=>?_)
       refine j_run it 4 rfl (by simp) ?_
       refine j_split_dec (t:=40) rfl (fun h5=>by exfalso;omega) (fun h5=>?_)
       refine j_run it 2 rfl (by simp) ?_
       refine j_gstep rfl rfl (x_call [6] rfl (c_slices_Contains___int_int_) rfl ?_)
       rintro _ _ _ ⟨rfl,rfl,rfl⟩
       simp only [List.cons_append,List.nil_append]
       refine j_run it 1 rfl (by simp) ?_
       refine j_nf [_,_,_,_,_,_] rfl ?_
       refine j_true rfl rfl ?_
       refine j_nf [_,_,_,_,_,_,_] rfl ?_
       refine j_run it 1 rfl (by simp) ?_
       refine j_nf [_,_,_,_,_,_] rfl ?_
       refine j_givK 1 [0] [] rfl (.tmp rfl .nil) rfl rfl rfl ⟨rfl,rfl,rfl⟩
      ·have c_slices_Contains___int_int_:=fun {pl : Option Addr} {nl cl : Nat}=>S_slices_Contains___int_int_ (pl:=pl) (nl:=nl) (cl:=cl) (l:=s) (x:=x) (decide_eq_false a3)
       refine j_nf [_,_,_,_,_] rfl ?_
       refine j_run it 1 rfl (by simp) ?_
       refine j_nf [_,_,_,_,_] rfl ?_
       refine j_if rfl rfl (fun h1=>?_) (fun h1=>by exfalso;omega)
       refine j_nf [_,_,_,_,_,_,_] rfl ?_
       refine j_run it 1 rfl (by simp) ?_
       refine j_step rfl (x_idx 5 (k + 1) rfl rfl rfl sl22 rfl (by omega) fun z1 hz1 b1 o1=>?_)
       obtain rfl : _ = z1:=Option.some.inj (at_x.symm.trans hz1)
       refine j_step rfl (x_ld_int 0 rfl rfl ld3 fun ⟨r1,r2⟩=>?_)
       refine j_run it 2 rfl (by simp) ?_
       refine j_nf [_,_,_,_,_,_,_] rfl ?_
       refine j_run it 3 rfl (by simp) ?_
       refine j_split_dec (t:=18) rfl (fun h2=>by exfalso;omega) (fun h2=>?_)
       refine j_run it 3 rfl (by simp) ?_
       refine j_gstep rfl rfl (x_field rfl fd157_1 ?_)
       refine j_gstep rfl rfl (x_field rfl fd27_1 ?_)
       refine j_gstep rfl rfl (x_bld 0 rfl rfl ld3 rfl ?_)
       refine j_run it 3 rfl (by simp) ?_
       refine j_split_dec (t:=27) rfl (fun h3=>by exfalso;omega) (fun h3=>?_)
       refine j_run it 3 rfl (by simp) ?_
       refine j_split_dec (t:=30) rfl (fun h4=>?_) (fun h4=>by exfalso;omega)
       refine j_run it 4 rfl ⟨⟨by omega,by omega⟩,trivial,trivial,trivial,trivial⟩ ?_
       refine j_gstep rfl rfl (x_idx 6 ((k + 1) - 1) rfl rfl rfl sl22 (by omega) (by omega) fun z1 hz2 b2 o2=>?_)
       obtain rfl : _ = z1:=Option.some.inj (at_y.symm.trans hz2)
       refine j_gstep rfl rfl (x_ld_int 0 rfl rfl ld3 fun ⟨r3,r4⟩=>?_)
       refine j_run it 4 rfl (by simp) ?_
       refine j_split_dec (t:=40) rfl (fun h5=>by exfalso;omega) (fun h5=>?_)
       refine j_run it 2 rfl (by simp) ?_
       refine j_gstep rfl rfl (x_call [6] rfl (c_slices_Contains___int_int_) rfl ?_)
       rintro _ _ _ ⟨rfl,rfl,rfl⟩
       simp only [List.cons_append,List.nil_append]
       refine j_run it 1 rfl (by simp) ?_
       refine j_nf [_,_,_,_,_,_] rfl ?_
       refine j_false rfl rfl ?_
       refine j_nf [_,_,_,_] rfl ?_
       refine j_run it 2 rfl ⟨trivial,⟨by omega,by omega⟩,trivial⟩ ?_
       refine j_nfn 1 [.lp [1,0,1,0,0],.blk 0,.c [1,1]] rfl ?_
       exact tw (ih (k + 2) (by omega) ⟨by omega,good (fun z hz=>by
        rw [at_x] at hz;obtain rfl:=Option.some.inj hz
        exact ⟨by omega,fun y' h hy=>by rw [show k + 1 - 1 = k by omega,at_y] at hy;obtain rfl:=Option.some.inj hy;omega⟩) a3⟩)
 ·obtain rfl : i = set.length:=by omega
  rw [List.take_length] at hns
  have hst : stP N set:=stP_iff.2 hno
  have e1 : decide (stP (N : Int) set) = true:=decide_eq_true hst
  have e2 : (set.any fun x=>decide (x ∈ s)) = false:=List.any_eq_false.2 fun x hx=>by rw [decide_eq_true_eq];exact hns x hx
  have hgr:=O.gr_piv (V:=invI p m md) hM (set:=set)
  have hln : set.length ≤ N:=by
   have h1 : (set.map Int.toNat).Nodup:=by
    rw [List.Nodup,List.pairwise_map]
    refine hst.2.imp_of_mem fun {a b} ha hb hab e=>?_
    have:=(hst.1 a ha).1;have:=(hst.1 b hb).1
    omega
   have h2:=nodup_len h1 (l':=List.range N) fun x hx=>by
    obtain ⟨y,hy,rfl⟩:=List.mem_map.1 hx
    have:=hst.1 y hy
    exact List.mem_range.2 (by omega)
   rwa [List.length_map,List.length_range] at h2
  have c_exclusion_proof__greedy:=fun {ng cg ce cl no co' : Nat} {pg pe pl po : Option Addr}=>S_exclusion_proof__greedy (p:=p) (m:=m) (N:=N) (b:=b) (bp:=bp) (nm:=nm) (cm:=cm) (ns:=ns) (cs:=cs) (ny:=ny) (cy:=cy) (nt:=nt) (ct:=ct) (pm:=pm) (ps:=ps) (py:=py) (pt:=pt) (co:=false) (Mo:=Mo) (w:=w) (ap:=ap) (ng:=ng) (cg:=cg) (ce:=ce) (cl:=cl) (most:=set.length) (no:=no) (co':=co') (pg:=pg) (pe:=pe) (pl:=pl) (po:=po) (o:=set) K hM hr1 hr hst.1 (by omega) (by omega)
  by_cases hg : (grP p m md rows set.length set [] [] []).length = set.length
  ·have e3 : rgB p m md N rows Mo s set = decide ((set.length : Int) = Mo):=by
    rw [rgB,e1,e2,decide_eq_true (hgr.1 hg)];rfl
   rw [e3]
   refine wk 7 cz ?_
   intro h1
   refine j_step rfl (x_callB 0 [0,1,2,3,5] rfl rfl (c_exclusion_proof__greedy) rfl ?_)
   rintro _ _ _ ⟨r1,rfl,rfl,rfl⟩
   simp only [List.cons_append,List.nil_append]
   refine wk 21 cz ?_
   intro h2
   refine j_givK 2 [0] [] rfl (.tmp rfl .nil) rfl rfl rfl ⟨rfl,rfl,rfl⟩
  ·have e3 : rgB p m md N rows Mo s set = false:=by
    rw [rgB,e1,e2,decide_eq_false (mt hgr.2 hg)];rfl
   rw [e3]
   refine wk 7 cz ?_
   intro h1
   refine j_step rfl (x_callB 0 [0,1,2,3,5] rfl rfl (c_exclusion_proof__greedy) rfl ?_)
   rintro _ _ _ ⟨r1,rfl,rfl,rfl⟩
   simp only [List.cons_append,List.nil_append]
   refine wk 9 cz ?_
   intro h2
   refine j_givK 2 [0] [] rfl (.tmp rfl .nil) rfl rfl rfl ⟨rfl,rfl,rfl⟩
end
open Go Go.Fw
set_option maxRecDepth 100000
set_option linter.unusedVariables false
set_option linter.unusedSimpArgs false
set_option maxHeartbeats 0
theorem rg_st {p m N : Nat} {md s set : List Int} {rows : List (List Int)} {k : Int} (h : rgB p m md N rows k s set = true) : stP N set:=by
 rw [rgB,Bool.and_eq_true,Bool.and_eq_true,Bool.and_eq_true] at h
 exact of_decide_eq_true h.1.1.1
theorem ext_nil {rt : List Int → List Int → Bool} {d : Nat} {s z : List Int} : exT rt d s z [] = none:=by
 cases d <;> rw [exT]
theorem ext_bad {rt : List Int → List Int → Bool} {d : Nat} {s z x : List Int} {T : List (List Int)} (h : rt s x = false) : exT rt d s z (x::T) = none:=by
 cases d <;> rw [exT,h] <;> rfl
theorem Ctr.weak {P : Program} {f : FuncId} {args : List Value} {β : List Blk} {Γ Γ' : List Fact} {Q : Value → List Fact → List Blk → Prop} (h : Ctr P f args β Γ Q) (hs : ∀ g ∈ Γ,g ∈ Γ') : Ctr P f args β Γ' Q:=⟨h.1,fun w A h1 h2 h3 h4=>h.2 w A h1 h2 h3 fun g hg=>h4 g (hs g hg)⟩
theorem sfx_at {x : List Int} {T sets : List (List Int)} (h : (x::T) <:+ sets) : T.length + 1 ≤ sets.length ∧ sets[sets.length - (T.length + 1)]? = some x:=by
 obtain ⟨l,rfl⟩:=h
 refine ⟨by rw [List.length_append,List.length_cons];omega,?_⟩
 rw [List.length_append,List.length_cons,List.getElem?_append_right (by omega),show l.length + (T.length + 1) - (T.length + 1) - l.length = 0 by omega]
 rfl
section
variable {p m N b bp nm cm ns cs ny cy nt ct : Nat} {pm ps py pt : Option Addr} {Mo w : Int} {md : List Int} {rows sets : List (List Int)}
theorem S_rightE {ng cg ce cl n1 c1 n2 c2 : Nat} {pg pe pl p1 p2 : Option Addr} {s set : List Int} {ap : Int} {res : Bool} (K : Fok p m md) (hM : Mat (p ^ m) N rows) (hr1 : 1 ≤ rows.length) (hr : rows.length ≤ 1000000) (hN : N ≤ 1000) (h : rgB p m md N rows Mo s set = res) :
  Ctr Tryz.prog 150 [.pointer (some ⟨bp,0,none⟩),.slice p1 n1 c1,.slice p2 n2 c2] [prB bp b p m N nm cm ns cs ny cy nt ct pm ps py pt false Mo w ap] [slF (encSl I64) ps ns cs rows,gfC b p m (p ^ m) pg ng cg pe (p ^ m - 1) ce pl (p ^ m) cl,slF I64 pe (p ^ m - 1) ce (exL p m md),slF I64 pl (p ^ m) cl (lgL p m md),slF I64 p1 n1 c1 s,slF I64 p2 n2 c2 set]
   (fun v Φ β=>v = .bool res ∧ Φ = [] ∧ β = [prB bp b p m N nm cm ns cs ny cy nt ct pm ps py pt false Mo w ap]):=h ▸ S_exclusion_proof__right K hM hr1 hr hN
theorem S_checkNil {n1 c1 n2 c2 : Nat} {p1 p2 : Option Addr} :
  Ctr Tryz.prog 129 [.pointer (some ⟨bp,0,none⟩),.slice p1 n1 c1,.slice p2 n2 c2] [prB bp b p m N nm cm ns cs ny cy nt ct pm ps py pt false Mo w ((sets.length - ([] : List (List Int)).length : Nat) : Int)] [slF (encSl I64) pt nt ct sets]
   (ChQ (fun ap=>prB bp b p m N nm cm ns cs ny cy nt ct pm ps py pt false Mo w (ap : Nat)) sets.length none):=by
 refine Ctr_of_j' (F:=F_exclusion_proof__check) rfl fun C=>?_
 refine j_len 0 rfl fun hn hb _=>?_
 subst hn
 have e0 : ([] : List (List Int)).length = 0:=rfl
 refine wk 9 cz ?_
 refine j_givK 1 [0] [] rfl (.tmp rfl .nil) rfl rfl rfl ⟨_,rfl,rfl,rfl⟩
theorem S_checkStep {ng cg ce cl n1 c1 n2 c2 : Nat} {pg pe pl p1 p2 : Option Addr} {s z x : List Int} {T : List (List Int)} {R : Option (List (List Int))} (K : Fok p m md) (hM : Mat (p ^ m) N rows) (hr1 : 1 ≤ rows.length) (hr : rows.length ≤ 1000000) (hN : N ≤ 1000) (hT : (x::T) <:+ sets)
  (hch : rgB p m md N rows Mo s x = true → ∀ {n1 c1 n2 c2 n3 c3 : Nat} {p1 p2 p3 : Option Addr},Ctr Tryz.prog 151 [.pointer (some ⟨bp,0,none⟩),.slice p1 n1 c1,.slice p2 n2 c2,.slice p3 n3 c3,.func (.func 129) #[.pointer (some ⟨bp,0,none⟩)] #[]] [prB bp b p m N nm cm ns cs ny cy nt ct pm ps py pt false Mo w ((sets.length - T.length : Nat) : Int)] [slF (encSl I64) ps ns cs rows,gfC b p m (p ^ m) pg ng cg pe (p ^ m - 1) ce pl (p ^ m) cl,slF I64 pe (p ^ m - 1) ce (exL p m md),slF I64 pl (p ^ m) cl (lgL p m md),slF (encSl I64) pt nt ct sets,slF I64 p1 n1 c1 s,slF I64 p2 n2 c2 z,slF I64 p3 n3 c3 x]
   (ChQ (fun ap=>prB bp b p m N nm cm ns cs ny cy nt ct pm ps py pt false Mo w (ap : Nat)) sets.length R)) :
  Ctr Tryz.prog 129 [.pointer (some ⟨bp,0,none⟩),.slice p1 n1 c1,.slice p2 n2 c2] [prB bp b p m N nm cm ns cs ny cy nt ct pm ps py pt false Mo w ((sets.length - (x::T).length : Nat) : Int)] [slF (encSl I64) ps ns cs rows,gfC b p m (p ^ m) pg ng cg pe (p ^ m - 1) ce pl (p ^ m) cl,slF I64 pe (p ^ m - 1) ce (exL p m md),slF I64 pl (p ^ m) cl (lgL p m md),slF (encSl I64) pt nt ct sets,slF I64 p1 n1 c1 s,slF I64 p2 n2 c2 z]
   (ChQ (fun ap=>prB bp b p m N nm cm ns cs ny cy nt ct pm ps py pt false Mo w (ap : Nat)) sets.length (if rgB p m md N rows Mo s x = true then R else none)):=by
 refine Ctr_of_j' (F:=F_exclusion_proof__check) rfl fun C=>?_
 refine j_len 4 rfl fun hn hb _=>?_
 subst hn
 have hb' : sets.length * 24 ≤ 140737488355328:=hb
 have e0 : (x::T).length = T.length + 1:=rfl
 obtain ⟨hk,at_x⟩:=sfx_at hT
 have hgx : sets.getD (sets.length - (T.length + 1)) default = x:=by rw [List.getD_eq_getElem?_getD,at_x];rfl
 have c_exclusion_proof__right:=fun {ng cg ce cl n1 c1 n2 c2 : Nat} {pg pe pl p1 p2 : Option Addr} {s set : List Int} {ap : Int} {res : Bool} (h : rgB p m md N rows Mo s set = res)=>S_rightE (p:=p) (m:=m) (N:=N) (b:=b) (bp:=bp) (nm:=nm) (cm:=cm) (ns:=ns) (cs:=cs) (ny:=ny) (cy:=cy) (nt:=sets.length) (ct:=ct) (pm:=pm) (ps:=ps) (py:=py) (pt:=pt) (Mo:=Mo) (w:=w) (ap:=ap) (rows:=rows) (ng:=ng) (cg:=cg) (ce:=ce) (cl:=cl) (n1:=n1) (c1:=c1) (n2:=n2) (c2:=c2) (pg:=pg) (pe:=pe) (pl:=pl) (p1:=p1) (p2:=p2) (s:=s) (set:=set) K hM hr1 hr hN h
 rw [e0]
 obtain ⟨k,hk2⟩ : ∃ k,sets.length - (T.length + 1) = k:=⟨_,rfl⟩
 rw [hk2] at at_x hgx ⊢
 cases hrt : rgB p m md N rows Mo s x with
 | false =>
  rw [← hgx] at hrt
  rw [if_neg (by simp)]
  refine wk 3 cz ?_
  (apply j_drawK it mx 23;(· rfl);(· rfl))
  (apply lxk_run 2;(· rfl);(· simp))
  (apply lxk_eq;(· rfl);(· exact d_x fun _=>x_field rfl fd157_7 dk_eq))
  (apply lxk_eq;(· rfl);(· exact d_bld 0 rfl rfl ld3 rfl))
  (apply lxk_run 2;(· rfl);(· simp))
  (apply lxk_eq;(· rfl);(· exact d_x fun _=>x_field rfl fd157_6 dk_eq))
  (apply lxk_eq;(· rfl);(· exact d_bld 0 rfl rfl ld25 rfl))
  (apply lxk_eq;(· rfl);(· exact d_x fun _=>x_len sl25 rfl dk_eq))
  (apply lxk_eq;(· rfl);(· exact d_x fun _=>x_false it rfl (by trivial) (by omega) dk_eq))
  (apply lxk_run 5;(· rfl);(· simp))
  (apply lxk_eq;(· rfl);(· exact d_x fun _=>x_field rfl fd157_6 dk_eq))
  (apply lxk_eq;(· rfl);(· exact d_bld 0 rfl rfl ld25 rfl))
  (apply lxk_run 2;(· rfl);(· simp))
  (apply lxk_eq;(· rfl);(· exact d_x fun _=>x_field rfl fd157_7 dk_eq))
  (apply lxk_eq;(· rfl);(· exact d_bld 0 rfl rfl ld3 rfl))
  (apply lxk_pt;(· rfl);(· exact d_x fun _=>x_idx 4 (k) rfl rfl rfl sl25 rfl (by omega) fun z1 hz1 b1 o1=>(dk_ptD default hz1 0 rfl));intro b1 o1)
  (apply lxk_sl;(· rfl);(· exact d_x fun _=>x_ld_sl 0 rfl rfl ld22 fun pa1 ca1=>(dk_sl 0 rfl));intro pa1 ca1)
  refine lxk_end rfl ?_
  simp only [List.map_cons,List.map_nil,List.cons_append,List.nil_append]
  refine j_gstep rfl rfl (x_callB 0 [2,3,4,5,7,0] rfl rfl (c_exclusion_proof__right (by omega)) rfl ?_)
  rintro _ _ _ ⟨rfl,rfl,rfl⟩
  simp only [List.cons_append,List.nil_append]
  refine wk 6 cz ?_
  refine j_givK 1 [0] [] rfl (.tmp rfl .nil) rfl rfl rfl ⟨_,rfl,rfl,rfl⟩
 | true =>
  have hch':=@hch hrt
  rw [if_pos rfl]
  rw [← hgx] at hrt hch'
  have hk3 : sets.length - T.length = k + 1:=by omega
  rw [hk3] at hch'
  clear hch
  cases R with
  | none =>
   simp only [ChQ] at hch' ⊢
   have c_exclusion_proof__children:=fun {n1 c1 n2 c2 n3 c3 : Nat} {p1 p2 p3 : Option Addr}=>hch' (n1:=n1) (c1:=c1) (n2:=n2) (c2:=c2) (n3:=n3) (c3:=c3) (p1:=p1) (p2:=p2) (p3:=p3)
   refine wk 3 cz ?_
   (apply j_drawK it mx 23;(· rfl);(· rfl))
   (apply lxk_run 2;(· rfl);(· simp))
   (apply lxk_eq;(· rfl);(· exact d_x fun _=>x_field rfl fd157_7 dk_eq))
   (apply lxk_eq;(· rfl);(· exact d_bld 0 rfl rfl ld3 rfl))
   (apply lxk_run 2;(· rfl);(· simp))
   (apply lxk_eq;(· rfl);(· exact d_x fun _=>x_field rfl fd157_6 dk_eq))
   (apply lxk_eq;(· rfl);(· exact d_bld 0 rfl rfl ld25 rfl))
   (apply lxk_eq;(· rfl);(· exact d_x fun _=>x_len sl25 rfl dk_eq))
   (apply lxk_eq;(· rfl);(· exact d_x fun _=>x_false it rfl (by trivial) (by omega) dk_eq))
   (apply lxk_run 5;(· rfl);(· simp))
   (apply lxk_eq;(· rfl);(· exact d_x fun _=>x_field rfl fd157_6 dk_eq))
   (apply lxk_eq;(· rfl);(· exact d_bld 0 rfl rfl ld25 rfl))
   (apply lxk_run 2;(· rfl);(· simp))
   (apply lxk_eq;(· rfl);(· exact d_x fun _=>x_field rfl fd157_7 dk_eq))
   (apply lxk_eq;(· rfl);(· exact d_bld 0 rfl rfl ld3 rfl))
   (apply lxk_pt;(· rfl);(· exact d_x fun _=>x_idx 4 (k) rfl rfl rfl sl25 rfl (by omega) fun z1 hz1 b1 o1=>(dk_ptD default hz1 0 rfl));intro b1 o1)
   (apply lxk_sl;(· rfl);(· exact d_x fun _=>x_ld_sl 0 rfl rfl ld22 fun pa1 ca1=>(dk_sl 0 rfl));intro pa1 ca1)
   refine lxk_end rfl ?_
   simp only [List.map_cons,List.map_nil,List.cons_append,List.nil_append]
   refine j_gstep rfl rfl (x_callB 0 [2,3,4,5,7,0] rfl rfl (c_exclusion_proof__right (by omega)) rfl ?_)
   rintro _ _ _ ⟨rfl,rfl,rfl⟩
   simp only [List.cons_append,List.nil_append]
   refine wk 11 cz ?_
   (apply j_drawK it mx 16;(· rfl);(· rfl))
   (apply lxk_run 5;(· rfl);(· simp))
   (apply lxk_eq;(· rfl);(· exact d_x fun _=>x_field rfl fd157_6 dk_eq))
   (apply lxk_eq;(· rfl);(· exact d_bld 0 rfl rfl ld25 rfl))
   (apply lxk_run 2;(· rfl);(· simp))
   (apply lxk_eq;(· rfl);(· exact d_x fun _=>x_field rfl fd157_7 dk_eq))
   (apply lxk_eq;(· rfl);(· exact d_bld 0 rfl rfl ld3 rfl))
   (apply lxk_eq (v:=Value.int IntKind.i64 (((((k) + 1) - 1 : Nat)) : Int));(· rfl);(· exact d_x fun _=>x_asN it _ rfl ⟨by omega,by omega⟩ (by omega) dk_eq))
   simp only [Nat.add_sub_cancel]
   (apply lxk_pt;(· rfl);(· exact d_x fun _=>x_idx 6 (k) rfl rfl rfl sl25 rfl (by omega) fun z1 hz1 b2 o2=>(dk_ptD default hz1 0 rfl));intro b2 o2)
   (apply lxk_sl;(· rfl);(· exact d_x fun _=>x_ld_sl 0 rfl rfl ld22 fun pa2 ca2=>(dk_sl 0 rfl));intro pa2 ca2)
   (apply lxk_run 2;(· rfl);(· simp))
   refine lxk_end rfl ?_
   simp only [List.map_cons,List.map_nil,List.cons_append,List.nil_append]
   refine j_step rfl (x_callB 0 [4,5,6,7,8,9,10,0] rfl rfl (c_exclusion_proof__children) rfl ?_)
   rintro _ _ _ ⟨ap1,rfl,rfl,rfl⟩
   simp only [List.cons_append,List.nil_append]
   refine wk 2 cz ?_
   refine j_givK 1 [0] [] rfl (.tmp rfl .nil) rfl rfl rfl ⟨_,rfl,rfl,rfl⟩
  | some T' =>
   simp only [ChQ] at hch' ⊢
   have c_exclusion_proof__children:=fun {n1 c1 n2 c2 n3 c3 : Nat} {p1 p2 p3 : Option Addr}=>hch' (n1:=n1) (c1:=c1) (n2:=n2) (c2:=c2) (n3:=n3) (c3:=c3) (p1:=p1) (p2:=p2) (p3:=p3)
   refine wk 3 cz ?_
   (apply j_drawK it mx 23;(· rfl);(· rfl))
   (apply lxk_run 2;(· rfl);(· simp))
   (apply lxk_eq;(· rfl);(· exact d_x fun _=>x_field rfl fd157_7 dk_eq))
   (apply lxk_eq;(· rfl);(· exact d_bld 0 rfl rfl ld3 rfl))
   (apply lxk_run 2;(· rfl);(· simp))
   (apply lxk_eq;(· rfl);(· exact d_x fun _=>x_field rfl fd157_6 dk_eq))
   (apply lxk_eq;(· rfl);(· exact d_bld 0 rfl rfl ld25 rfl))
   (apply lxk_eq;(· rfl);(· exact d_x fun _=>x_len sl25 rfl dk_eq))
   (apply lxk_eq;(· rfl);(· exact d_x fun _=>x_false it rfl (by trivial) (by omega) dk_eq))
   (apply lxk_run 5;(· rfl);(· simp))
   (apply lxk_eq;(· rfl);(· exact d_x fun _=>x_field rfl fd157_6 dk_eq))
   (apply lxk_eq;(· rfl);(· exact d_bld 0 rfl rfl ld25 rfl))
   (apply lxk_run 2;(· rfl);(· simp))
   (apply lxk_eq;(· rfl);(· exact d_x fun _=>x_field rfl fd157_7 dk_eq))
   (apply lxk_eq;(· rfl);(· exact d_bld 0 rfl rfl ld3 rfl))
   (apply lxk_pt;(· rfl);(· exact d_x fun _=>x_idx 4 (k) rfl rfl rfl sl25 rfl (by omega) fun z1 hz1 b1 o1=>(dk_ptD default hz1 0 rfl));intro b1 o1)
   (apply lxk_sl;(· rfl);(· exact d_x fun _=>x_ld_sl 0 rfl rfl ld22 fun pa1 ca1=>(dk_sl 0 rfl));intro pa1 ca1)
   refine lxk_end rfl ?_
   simp only [List.map_cons,List.map_nil,List.cons_append,List.nil_append]
   refine j_gstep rfl rfl (x_callB 0 [2,3,4,5,7,0] rfl rfl (c_exclusion_proof__right (by omega)) rfl ?_)
   rintro _ _ _ ⟨rfl,rfl,rfl⟩
   simp only [List.cons_append,List.nil_append]
   refine wk 11 cz ?_
   (apply j_drawK it mx 16;(· rfl);(· rfl))
   (apply lxk_run 5;(· rfl);(· simp))
   (apply lxk_eq;(· rfl);(· exact d_x fun _=>x_field rfl fd157_6 dk_eq))
   (apply lxk_eq;(· rfl);(· exact d_bld 0 rfl rfl ld25 rfl))
   (apply lxk_run 2;(· rfl);(· simp))
   (apply lxk_eq;(· rfl);(· exact d_x fun _=>x_field rfl fd157_7 dk_eq))
   (apply lxk_eq;(· rfl);(· exact d_bld 0 rfl rfl ld3 rfl))
   (apply lxk_eq (v:=Value.int IntKind.i64 (((((k) + 1) - 1 : Nat)) : Int));(· rfl);(· exact d_x fun _=>x_asN it _ rfl ⟨by omega,by omega⟩ (by omega) dk_eq))
   simp only [Nat.add_sub_cancel]
   (apply lxk_pt;(· rfl);(· exact d_x fun _=>x_idx 6 (k) rfl rfl rfl sl25 rfl (by omega) fun z1 hz1 b2 o2=>(dk_ptD default hz1 0 rfl));intro b2 o2)
   (apply lxk_sl;(· rfl);(· exact d_x fun _=>x_ld_sl 0 rfl rfl ld22 fun pa2 ca2=>(dk_sl 0 rfl));intro pa2 ca2)
   (apply lxk_run 2;(· rfl);(· simp))
   refine lxk_end rfl ?_
   simp only [List.map_cons,List.map_nil,List.cons_append,List.nil_append]
   refine j_step rfl (x_callB 0 [4,5,6,7,8,9,10,0] rfl rfl (c_exclusion_proof__children) rfl ?_)
   rintro _ _ _ ⟨rfl,rfl,rfl⟩
   simp only [List.cons_append,List.nil_append]
   refine wk 2 cz ?_
   refine j_givK 1 [0] [] rfl (.tmp rfl .nil) rfl rfl rfl ⟨rfl,rfl,rfl⟩
theorem S_exclusion_proof__check {ng cg ce cl : Nat} {pg pe pl : Option Addr} (K : Fok p m md) (hM : Mat (p ^ m) N rows) (hr1 : 1 ≤ rows.length) (hr : rows.length ≤ 1000000) (hN : N ≤ 1000) : ∀ (d : Nat) {n1 c1 n2 c2 : Nat} {p1 p2 : Option Addr} {s z : List Int} {T : List (List Int)},
  ((s.length + d : Nat) : Int) = w → s.length + d ≤ 1000 → z.length + 1000 * d ≤ 100000 → T <:+ sets →
  Ctr Tryz.prog 129 [.pointer (some ⟨bp,0,none⟩),.slice p1 n1 c1,.slice p2 n2 c2] [prB bp b p m N nm cm ns cs ny cy nt ct pm ps py pt false Mo w ((sets.length - T.length : Nat) : Int)] [slF (encSl I64) ps ns cs rows,gfC b p m (p ^ m) pg ng cg pe (p ^ m - 1) ce pl (p ^ m) cl,slF I64 pe (p ^ m - 1) ce (exL p m md),slF I64 pl (p ^ m) cl (lgL p m md),slF (encSl I64) pt nt ct sets,slF I64 p1 n1 c1 s,slF I64 p2 n2 c2 z]
   (ChQ (fun ap=>prB bp b p m N nm cm ns cs ny cy nt ct pm ps py pt false Mo w (ap : Nat)) sets.length (exT (rgB p m md N rows Mo) d s z T)):=by
 intro d
 induction d with
 | zero =>
  intro n1 c1 n2 c2 p1 p2 s z T hs hs2 hz hT
  cases T with
  | nil=>rw [ext_nil];exact Ctr.weak S_checkNil (by simp)
  | cons x T =>
   rw [exT]
   refine S_checkStep K hM hr1 hr hN hT fun hrt=>?_
   intro n1 c1 n2 c2 n3 c3 p1 p2 p3
   exact Ctr.weak (S_exclusion_proof__children0 (by omega)) (by simp)
 | succ d ih =>
  intro n1 c1 n2 c2 p1 p2 s z T hs hs2 hz hT
  cases T with
  | nil=>rw [ext_nil];exact Ctr.weak S_checkNil (by simp)
  | cons x T =>
   rw [exT]
   refine S_checkStep K hM hr1 hr hN hT fun hrt=>?_
   intro n1 c1 n2 c2 n3 c3 p1 p2 p3
   have hst:=rg_st hrt
   have hsl:=st_len hst
   refine S_exclusion_proof__children (by omega) hst (by omega) (by omega) (by omega) ((List.suffix_cons x T).trans hT) ?_
   intro n1 c1 n2 c2 p1 p2 y z' T hz' hT'
   exact ih (by rw [List.length_append,List.length_singleton];omega) (by rw [List.length_append,List.length_singleton];omega) (by omega) hT'
end
open Go Go.Fw
set_option maxRecDepth 100000
set_option linter.unusedVariables false
set_option linter.unusedSimpArgs false
set_option maxHeartbeats 0
def exB (p m : Nat) (md : List Int) (N : Nat) (rows : List (List Int)) (Mo : Int) (d : Nat) (sets : List (List Int)) : Bool:=decide (exT (rgB p m md N rows Mo) d [] [] sets = some [])
section
variable {p m N b bp nm cm ns cs ny cy nt ct : Nat} {pm ps py pt : Option Addr} {Mo : Int} {d : Nat} {md : List Int} {rows sets : List (List Int)}
theorem S_exclusion_proof__proves {ng cg ce cl nt' ct' : Nat} {pg pe pl pt' : Option Addr} {bo : Bool} (K : Fok p m md) (hM : Mat (p ^ m) N rows) (hr1 : 1 ≤ rows.length) (hr : rows.length ≤ 1000000) (hN : N ≤ 1000) (hd : d ≤ 64) (hbo : exB p m md N rows Mo d sets = bo) :
  Ctr Tryz.prog 92 [.pointer (some ⟨bp,0,none⟩),.agg #[.slice pt nt ct]] [prB bp b p m N nm cm ns cs ny cy nt' ct' pm ps py pt' false Mo d 0] [slF (encSl I64) ps ns cs rows,gfC b p m (p ^ m) pg ng cg pe (p ^ m - 1) ce pl (p ^ m) cl,slF I64 pe (p ^ m - 1) ce (exL p m md),slF I64 pl (p ^ m) cl (lgL p m md),slF (encSl I64) pt nt ct sets]
   (Rv (.int .i64 (if bo = true then 0 else 13)) []):=by
 refine Ctr_of_j' (F:=F_exclusion_proof__proves) rfl fun C=>?_
 refine j_len 4 rfl fun hn hb _=>?_
 subst hn
 refine j_add (slF I64 none 0 0 []) (fun w A _=>slF_nil _ w A none 0) ?_
 have e0 : ([] : List Int).length = 0:=rfl
 have h:=S_exclusion_proof__check (b:=b) (bp:=bp) (nm:=nm) (cm:=cm) (ns:=ns) (cs:=cs) (ny:=ny) (cy:=cy) (nt:=sets.length) (ct:=ct) (pm:=pm) (ps:=ps) (py:=py) (pt:=pt) (Mo:=Mo) (w:=d) (sets:=sets) (ng:=ng) (cg:=cg) (ce:=ce) (cl:=cl) (pg:=pg) (pe:=pe) (pl:=pl) K hM hr1 hr hN d (n1:=0) (c1:=0) (n2:=0) (c2:=0) (p1:=none) (p2:=none) (s:=[]) (z:=[]) (T:=sets) (by rw [e0,Nat.zero_add]) (by rw [e0];omega) (by rw [e0];omega) (List.suffix_refl _)
 rw [Nat.sub_self] at h
 cases hE : exT (rgB p m md N rows Mo) d [] [] sets with
 | none =>
  rw [hE] at h
  rw [exB,hE] at hbo
  simp only [reduceCtorEq,decide_false] at hbo
  subst hbo
  simp only [ChQ] at h
  have c_exclusion_proof__check:=h
  refine wk 12 cz ?_
  intro b1
  refine j_step rfl (x_callB 1 [1,2,3,4,5,0,0] rfl rfl (c_exclusion_proof__check) rfl ?_)
  rintro _ _ _ ⟨ap1,rfl,rfl,rfl⟩
  simp only [List.cons_append,List.nil_append]
  refine wk 8 cz ?_
  exact ge
 | some T =>
  rw [hE] at h
  rw [exB,hE] at hbo
  simp only [ChQ] at h
  have c_exclusion_proof__check:=h
  have hTl:=(exT_sfx hE).length_le
  cases T with
  | nil =>
   have e1 : ([] : List (List Int)).length = 0:=rfl
   simp only [decide_true] at hbo
   subst hbo
   rw [e1] at c_exclusion_proof__check
   refine wk 12 cz ?_
   intro b1
   refine j_step rfl (x_callB 1 [1,2,3,4,5,0,0] rfl rfl (c_exclusion_proof__check) rfl ?_)
   rintro _ _ _ ⟨rfl,rfl,rfl⟩
   simp only [List.cons_append,List.nil_append]
   refine wk 8 cz ?_
   exact ge
  | cons x T =>
   have e1 : (x::T).length = T.length + 1:=rfl
   simp only [Option.some.injEq,reduceCtorEq,decide_false] at hbo
   subst hbo
   rw [e1] at c_exclusion_proof__check hTl
   refine wk 12 cz ?_
   intro b1
   refine j_step rfl (x_callB 1 [1,2,3,4,5,0,0] rfl rfl (c_exclusion_proof__check) rfl ?_)
   rintro _ _ _ ⟨rfl,rfl,rfl⟩
   simp only [List.cons_append,List.nil_append]
   refine wk 8 cz ?_
   exact ge
theorem S_exclusion_open_ok {n c : Nat} {w : Int} (CC : Cok p m md N rows) (hw : InR .i64 w) : Ctr Tryz.prog 128 [.agg #[.int .i64 p,.int .i64 m,.slice pm nm cm,.int .i64 N,.slice ps n c],.int .i64 w] [] [slF I64 pm nm cm md,slF (encSl I64) ps n c rows]
   (fun v Φ β=>∃ (bp b : Nat) (pg : Option Addr) (cg : Nat) (pe : Option Addr) (ce : Nat) (pl : Option Addr) (cl : Nat),v = .tuple #[.pointer (some ⟨bp,0,none⟩),.int .i64 0] ∧ Φ = gfL p m md b pg cg pe ce pl cl ∧ β = [prB bp b p m N nm cm n c 0 0 0 0 pm ps none none false 0 w 0]):=by
 refine Ctr_of_j' (F:=F_exclusion_open) rfl fun C=>?_
 have hN : InR .i64 (N : Int):=by have:=CC.n64;simp only [InR];omega
 have c_code_Check:=fun {pm ps : Option Addr} {nm cm n c : Nat}=>S_code_Check (P:=(p : Int)) (M:=(m : Int)) (N:=(N : Int)) (pm:=pm) (ps:=ps) (nm:=nm) (cm:=cm) (n:=n) (c:=c) (md:=md) (rows:=rows) hN CC.ck
 have c_field_New:=fun {pm : Option Addr} {nm cm : Nat}=>S_field_New_ok (pm:=pm) (nm:=nm) (cm:=cm) CC.K
 refine wk 24 (ct @c_code_Check (ct @c_field_New cz)) ?_
 intro b1 h1 b2 pg1 cg1 pe1 ce1 pl1 cl1 b3
 refine j_givK 2 [0] [0,1,2,3] rfl (.tmp rfl (.tmp rfl .nil)) rfl rfl rfl ⟨_,_,_,_,_,_,_,_,rfl,rfl,rfl⟩
theorem S_exclusion_open_err {n c : Nat} {P M N w e : Int} (hN : InR .i64 N) (h : ckE P M md N rows = e) (he : e ≠ 0) : Ctr Tryz.prog 128 [.agg #[.int .i64 P,.int .i64 M,.slice pm nm cm,.int .i64 N,.slice ps n c],.int .i64 w] [] [slF I64 pm nm cm md,slF (encSl I64) ps n c rows]
   (Rv (.tuple #[.pointer none,.int .i64 e]) []):=by
 refine Ctr_of_j' (F:=F_exclusion_open) rfl fun C=>?_
 have hr:=ckE_rng P M md N rows
 have c_code_Check:=fun {pm ps : Option Addr} {nm cm n c : Nat}=>S_code_Check (P:=P) (M:=M) (N:=N) (pm:=pm) (ps:=ps) (nm:=nm) (cm:=cm) (n:=n) (c:=c) (md:=md) (rows:=rows) hN h
 refine wk 14 (ct @c_code_Check cz) ?_
 intro b1 h1
 exact ge
theorem S_exclusion_rank_ok {n c : Nat} (CC : Cok p m md N rows) (hM : 0 ≤ Mo) (hM2 : Mo ≤ rows.length) (hd : d ≤ N) : Ctr Tryz.prog 91 [.agg #[.int .i64 p,.int .i64 m,.slice pm nm cm,.int .i64 N,.slice ps n c],.int .i64 Mo,.int .i64 d] [] [slF I64 pm nm cm md,slF (encSl I64) ps n c rows]
   (fun v Φ β=>∃ (bp b : Nat) (pg : Option Addr) (cg : Nat) (pe : Option Addr) (ce : Nat) (pl : Option Addr) (cl : Nat),v = .tuple #[.pointer (some ⟨bp,0,none⟩),.int .i64 0] ∧ Φ = gfL p m md b pg cg pe ce pl cl ∧ β = [prB bp b p m N nm cm n c 0 0 0 0 pm ps none none false Mo d 0]):=by
 refine Ctr_of_j' (F:=F_exclusion_rank) rfl fun C=>?_
 refine j_len 1 rfl fun hn hb _=>?_
 subst hn
 have hn:=CC.n64
 have c_exclusion_open:=fun {pm ps : Option Addr} {nm cm n c : Nat}=>S_exclusion_open_ok (pm:=pm) (ps:=ps) (nm:=nm) (cm:=cm) (n:=n) (c:=c) (w:=d) CC (by simp only [InR];omega)
 refine wk 39 (ct @c_exclusion_open cz) ?_
 intro b1 bp1 b2 pg1 cg1 pe1 ce1 pl1 cl1 h1 h2 h3 h4 h5
 refine j_givK 2 [0] [0,1,2,3] rfl (.tmp rfl (.tmp rfl .nil)) rfl rfl rfl ⟨_,_,_,_,_,_,_,_,rfl,rfl,rfl⟩
theorem S_exclusion_rank_rng {n c : Nat} {w : Int} (CC : Cok p m md N rows) (hw : InR .i64 w) (h : Mo < 0 ∨ rows.length < Mo ∨ w < 0 ∨ N < w) : Ctr Tryz.prog 91 [.agg #[.int .i64 p,.int .i64 m,.slice pm nm cm,.int .i64 N,.slice ps n c],.int .i64 Mo,.int .i64 w] [] [slF I64 pm nm cm md,slF (encSl I64) ps n c rows]
   (Rv (.tuple #[.pointer none,.int .i64 6]) []):=by
 refine Ctr_of_j' (F:=F_exclusion_rank) rfl fun C=>?_
 refine j_len 1 rfl fun hn hb _=>?_
 subst hn
 have hn:=CC.n64
 have c_exclusion_open:=fun {pm ps : Option Addr} {nm cm n c : Nat}=>S_exclusion_open_ok (pm:=pm) (ps:=ps) (nm:=nm) (cm:=cm) (n:=n) (c:=c) (w:=w) CC hw
 by_cases h1 : Mo < 0
 ·refine wk 23 (ct @c_exclusion_open cz) ?_
  intro b1 bp1 b2 pg1 cg1 pe1 ce1 pl1 cl1 h2 h3
  exact ge
 ·by_cases h2 : rows.length < Mo
  ·refine wk 31 (ct @c_exclusion_open cz) ?_
   intro b1 bp1 b2 pg1 cg1 pe1 ce1 pl1 cl1 h3 h4 h5
   exact ge
  ·by_cases h3 : w < 0
   ·refine wk 36 (ct @c_exclusion_open cz) ?_
    intro b1 bp1 b2 pg1 cg1 pe1 ce1 pl1 cl1 h4 h5 h6 h7
    exact ge
   ·have h4 : N < w:=by omega
    refine wk 39 (ct @c_exclusion_open cz) ?_
    intro b1 bp1 b2 pg1 cg1 pe1 ce1 pl1 cl1 h5 h6 h7 h8 h9
    exact ge
theorem S_exclusion_rank_err {n c : Nat} {P M N w e : Int} (hN : InR .i64 N) (h : ckE P M md N rows = e) (he : e ≠ 0) : Ctr Tryz.prog 91 [.agg #[.int .i64 P,.int .i64 M,.slice pm nm cm,.int .i64 N,.slice ps n c],.int .i64 Mo,.int .i64 w] [] [slF I64 pm nm cm md,slF (encSl I64) ps n c rows]
   (Rv (.tuple #[.pointer none,.int .i64 e]) []):=by
 refine Ctr_of_j' (F:=F_exclusion_rank) rfl fun C=>?_
 have hr:=ckE_rng P M md N rows
 have c_exclusion_open:=fun {pm ps : Option Addr} {nm cm n c : Nat}=>S_exclusion_open_err (pm:=pm) (ps:=ps) (nm:=nm) (cm:=cm) (n:=n) (c:=c) (w:=w) hN h he
 refine wk 15 (ct @c_exclusion_open cz) ?_
 intro b1 h1
 exact ge
noncomputable def rkE (P M : Int) (md : List Int) (N : Int) (rows : List (List Int)) (Mo w : Int) (sets : List (List Int)) : Int :=
 if ckE P M md N rows ≠ 0 then ckE P M md N rows else if Mo < 0 ∨ rows.length < Mo ∨ w < 0 ∨ N < w then 6 else if exB P.toNat M.toNat md N.toNat rows Mo w.toNat sets = true then 0 else 13
theorem S_exclusion_CheckRank {n c : Nat} {P M N w e : Int} (hN : InR .i64 N) (hw : InR .i64 w) (hr1 : 1 ≤ rows.length) (h : rkE P M md N rows Mo w sets = e) : Ctr Tryz.prog 59 [.agg #[.int .i64 P,.int .i64 M,.slice pm nm cm,.int .i64 N,.slice ps n c],.int .i64 Mo,.int .i64 w,.agg #[.slice pt nt ct]] [] [slF I64 pm nm cm md,slF (encSl I64) ps n c rows,slF (encSl I64) pt nt ct sets]
   (Rv (.int .i64 e) []):=by
 refine Ctr_of_j' (F:=F_exclusion_CheckRank) rfl fun C=>?_
 refine j_len 1 rfl fun hn hb _=>?_
 subst hn
 have hr:=ckE_rng P M md N rows
 rw [rkE] at h
 by_cases hc : ckE P M md N rows = 0
 ·rw [if_neg (fun e=>e hc)] at h
  obtain ⟨p,m,N,rfl,rfl,rfl,CC⟩:=ck_of hc
  have h64:=CC.n64
  rw [Int.toNat_natCast,Int.toNat_natCast,Int.toNat_natCast] at h
  by_cases h1 : Mo < 0 ∨ rows.length < Mo ∨ w < 0 ∨ N < w
  ·rw [if_pos h1] at h
   subst h
   have c_exclusion_rank:=fun {pm ps : Option Addr} {nm cm n c : Nat}=>S_exclusion_rank_rng (pm:=pm) (ps:=ps) (nm:=nm) (cm:=cm) (n:=n) (c:=c) CC hw h1
   refine wk 7 cz ?_
   intro b1 b2
   refine j_step rfl (x_call [0,1] rfl (c_exclusion_rank) rfl ?_)
   rintro _ _ _ ⟨rfl,rfl,rfl⟩
   simp only [List.cons_append,List.nil_append]
   refine wk 8 cz ?_
   intro h2
   exact ge
  ·rw [if_neg h1] at h
   obtain ⟨d,rfl⟩:=Int.eq_ofNat_of_zero_le (show 0 ≤ w by omega)
   rw [Int.toNat_natCast] at h
   have c_exclusion_rank:=fun {pm ps : Option Addr} {nm cm n c : Nat}=>S_exclusion_rank_ok (pm:=pm) (ps:=ps) (nm:=nm) (cm:=cm) (n:=n) (c:=c) CC (show 0 ≤ Mo by omega) (by omega) (show d ≤ N by omega)
   have hl : rows.length ≤ 1000000:=by have:=CC.len;omega
   have c_exclusion_proof__proves:=fun {bp b nm cm ns cs ny cy nt ct ng cg ce cl nt' ct' : Nat} {pm ps py pt pg pe pl pt' : Option Addr}=>S_exclusion_proof__proves (p:=p) (m:=m) (N:=N) (b:=b) (bp:=bp) (nm:=nm) (cm:=cm) (ns:=ns) (cs:=cs) (ny:=ny) (cy:=cy) (nt:=nt) (ct:=ct) (pm:=pm) (ps:=ps) (py:=py) (pt:=pt) (Mo:=Mo) (d:=d) (sets:=sets) (ng:=ng) (cg:=cg) (ce:=ce) (cl:=cl) (pg:=pg) (pe:=pe) (pl:=pl) (nt':=nt') (ct':=ct') (pt':=pt') CC.K CC.mat hr1 hl (by omega) (by omega) rfl
   rw [h] at c_exclusion_proof__proves
   refine wk 7 cz ?_
   intro b1 b2
   refine j_step rfl (x_call [0,1] rfl (c_exclusion_rank) rfl ?_)
   rintro _ _ _ ⟨bp1,b3,pg1,cg1,pe1,ce1,pl1,cl1,rfl,rfl,rfl⟩
   simp only [List.cons_append,List.nil_append]
   refine wk 8 cz ?_
   intro h2
   refine j_step rfl (x_callB 0 [5,0,2,3,6] rfl rfl (c_exclusion_proof__proves) rfl ?_)
   rintro _ _ _ ⟨rfl,rfl,rfl⟩
   simp only [List.cons_append,List.nil_append]
   simp only [decide_true]
   refine wk 2 cz ?_
   exact ge
 ·rw [if_pos hc] at h
  subst h
  have c_exclusion_rank:=fun {pm ps : Option Addr} {nm cm n c : Nat}=>S_exclusion_rank_err (pm:=pm) (ps:=ps) (nm:=nm) (cm:=cm) (n:=n) (c:=c) (Mo:=Mo) (w:=w) hN rfl hc
  refine wk 7 cz ?_
  intro b1 b2
  refine j_step rfl (x_call [0,1] rfl (c_exclusion_rank) rfl ?_)
  rintro _ _ _ ⟨rfl,rfl,rfl⟩
  simp only [List.cons_append,List.nil_append]
  refine wk 8 cz ?_
  intro h1
  exact ge
theorem S_exclusion_weight {n c : Nat} {N : Nat} {P M dd r : Int} (hN : N ≤ 1000) (hd : InR .i64 dd) (h : (if dd < 1 ∨ N + 1 < dd then -1 else dd - 1) = r) : Ctr Tryz.prog 60 [.agg #[.int .i64 P,.int .i64 M,.slice pm nm cm,.int .i64 N,.slice ps n c],.int .i64 dd] [] [] (Rv (.int .i64 r) []):=by
 refine Ctr_of_j' (F:=F_exclusion_weight) rfl fun C=>?_
 simp only [InR] at hd
 by_cases h1 : dd < 1
 ·rw [if_pos (.inl h1)] at h
  subst h
  refine wk 14 cz ?_
  intro b1 h2
  exact ge
 ·by_cases h2 : N + 1 < dd
  ·rw [if_pos (.inr h2)] at h
   subst h
   refine wk 17 cz ?_
   intro b1 h3 h4
   exact ge
  ·rw [if_neg (by omega)] at h
   subst h
   refine wk 17 cz ?_
   intro b1 h3 h4
   exact ge
noncomputable def cdE (P M : Int) (md : List Int) (N : Int) (rows : List (List Int)) (dd : Int) (sets : List (List Int)) : Int :=
 if ckE P M md N rows ≠ 0 then ckE P M md N rows else if dd < 1 ∨ N + 1 < dd then 6 else if exB P.toNat M.toNat md N.toNat rows rows.length (dd - 1).toNat sets = true then 0 else 13
theorem S_exclusion_CheckDistance {n c : Nat} {p m N : Nat} {dd e : Int} (CC : Cok p m md N rows) (hd : InR .i64 dd) (hr1 : 1 ≤ rows.length) (h : cdE p m md N rows dd sets = e) : Ctr Tryz.prog 27 [.agg #[.int .i64 p,.int .i64 m,.slice pm nm cm,.int .i64 N,.slice ps n c],.int .i64 dd,.agg #[.slice pt nt ct]] [] [slF I64 pm nm cm md,slF (encSl I64) ps n c rows,slF (encSl I64) pt nt ct sets]
   (Rv (.int .i64 e) []):=by
 refine Ctr_of_j' (F:=F_exclusion_CheckDistance) rfl fun C=>?_
 refine j_len 1 rfl fun hn hb _=>?_
 subst hn
 have h64:=CC.n64
 have hln:=CC.len
 have hN : InR .i64 (N : Int):=by simp only [InR];omega
 rw [cdE,CC.ck,if_neg (by simp)] at h
 have c_exclusion_CheckRank:=fun {pm ps pt : Option Addr} {nm cm n c nt ct : Nat} {w e : Int} (hw : InR .i64 w) (h : rkE p m md N rows rows.length w sets = e)=>S_exclusion_CheckRank (P:=p) (M:=m) (pm:=pm) (ps:=ps) (nm:=nm) (cm:=cm) (n:=n) (c:=c) (nt:=nt) (ct:=ct) (pt:=pt) (md:=md) hN hw hr1 h
 by_cases h1 : dd < 1 ∨ N + 1 < dd
 ·rw [if_pos h1] at h
  subst h
  have c_exclusion_weight:=fun {pm ps : Option Addr} {nm cm n c : Nat} {P M : Int}=>S_exclusion_weight (P:=P) (M:=M) (pm:=pm) (ps:=ps) (nm:=nm) (cm:=cm) (n:=n) (c:=c) (N:=N) (by omega) hd (if_pos h1)
  have hk : rkE p m md N rows rows.length (-1) sets = 6:=by rw [rkE,CC.ck,if_neg (by simp),if_pos (by omega)]
  have hr : InR .i64 (-1):=by simp only [InR];omega
  refine wk 5 cz ?_
  intro b1 b2
  (apply j_drawK it mx 9;(· rfl);(· rfl))
  (apply lxk_eq;(· rfl);(· exact d_bld_all 1 rfl rfl ld27 rfl))
  (apply lxk_eq;(· rfl);(· exact d_x fun _=>x_field rfl fd27_2 dk_eq))
  (apply lxk_eq;(· rfl);(· exact d_bld 1 rfl rfl ld25 rfl))
  (apply lxk_eq;(· rfl);(· exact d_x fun _=>x_len sl25 rfl dk_eq))
  (apply lxk_eq;(· rfl);(· exact d_bld_all 1 rfl rfl ld27 rfl))
  (apply lxk_run 1;(· rfl);(· simp))
  (apply lxk_eq;(· rfl);(· exact d_x fun _=>x_call [] rfl (c_exclusion_weight) rfl (by rintro _ _ _ ⟨rfl,rfl,rfl⟩;exact dk_eq)))
  (apply lxk_eq;(· rfl);(· exact d_bld_all 0 rfl rfl ld29 rfl))
  (apply lxk_eq;(· rfl);(· exact d_x fun _=>x_call [0,1,2] rfl (c_exclusion_CheckRank (by omega) (by omega)) rfl (by rintro _ _ _ ⟨rfl,rfl,rfl⟩;exact dk_eq)))
  refine lxk_end rfl ?_
  simp only [List.map_cons,List.map_nil,List.cons_append,List.nil_append]
  refine wk 2 cz ?_
  exact ge
 ·rw [if_neg h1] at h
  have c_exclusion_weight:=fun {pm ps : Option Addr} {nm cm n c : Nat} {P M : Int}=>S_exclusion_weight (P:=P) (M:=M) (pm:=pm) (ps:=ps) (nm:=nm) (cm:=cm) (n:=n) (c:=c) (N:=N) (by omega) hd (if_neg h1)
  have hk : rkE p m md N rows rows.length (dd - 1) sets = e:=by rw [rkE,CC.ck,if_neg (by simp),if_neg (by omega)];exact h
  have hr : InR .i64 (dd - 1):=by simp only [InR];omega
  refine wk 5 cz ?_
  intro b1 b2
  (apply j_drawK it mx 9;(· rfl);(· rfl))
  (apply lxk_eq;(· rfl);(· exact d_bld_all 1 rfl rfl ld27 rfl))
  (apply lxk_eq;(· rfl);(· exact d_x fun _=>x_field rfl fd27_2 dk_eq))
  (apply lxk_eq;(· rfl);(· exact d_bld 1 rfl rfl ld25 rfl))
  (apply lxk_eq;(· rfl);(· exact d_x fun _=>x_len sl25 rfl dk_eq))
  (apply lxk_eq;(· rfl);(· exact d_bld_all 1 rfl rfl ld27 rfl))
  (apply lxk_run 1;(· rfl);(· simp))
  (apply lxk_eq;(· rfl);(· exact d_x fun _=>x_call [] rfl (c_exclusion_weight) rfl (by rintro _ _ _ ⟨rfl,rfl,rfl⟩;exact dk_eq)))
  (apply lxk_eq;(· rfl);(· exact d_bld_all 0 rfl rfl ld29 rfl))
  (apply lxk_eq;(· rfl);(· exact d_x fun _=>x_call [0,1,2] rfl (c_exclusion_CheckRank (by omega) (by omega)) rfl (by rintro _ _ _ ⟨rfl,rfl,rfl⟩;exact dk_eq)))
  refine lxk_end rfl ?_
  simp only [List.map_cons,List.map_nil,List.cons_append,List.nil_append]
  refine wk 2 cz ?_
  exact ge
end
open Go Go.Fw
set_option maxRecDepth 100000
set_option linter.unusedVariables false
set_option linter.unusedSimpArgs false
set_option maxHeartbeats 0
theorem binom_lt3 : ∀ (n k : Nat),3 ≤ n → binom n k + 1 ≤ 2 ^ (n - 1)
 | 0,_,h=>by omega
 | 1,_,h=>by omega
 | 2,_,h=>by omega
 | 3,k,_=>by
  rcases k with _ | _ | _ | _ | k
  ·decide
  ·decide
  ·decide
  ·decide
  ·rw [binom_gt 3 _ (by omega)];decide
 | n + 4,0,_=>by
  rw [binom_zero]
  have : 2 ^ 1 ≤ 2 ^ (n + 4 - 1):=Nat.pow_le_pow_right (by omega) (by omega)
  omega
 | n + 4,k + 1,_=>by
  have h1:=binom_lt3 (n + 3) k (by omega)
  have h2:=binom_lt3 (n + 3) (k + 1) (by omega)
  rw [binom_succ,show n + 4 - 1 = (n + 3 - 1) + 1 by omega,Nat.pow_succ]
  omega
theorem binom_64 {n k : Nat} (h : n ≤ 64) : binom n k ≤ 9223372036854775807:=by
 by_cases h3 : 3 ≤ n
 ·have h1:=binom_lt3 n k h3
  have h2 : 2 ^ (n - 1) ≤ 2 ^ 63:=Nat.pow_le_pow_right (by omega) (by omega)
  have h4 : (2 : Nat) ^ 63 = 9223372036854775808:=by decide
  omega
 ·have : binom n k ≤ 2:=by
   rcases n with _ | _ | _ | n
   ·rcases k with _ | k
    ·decide
    ·rw [binom_gt 0 _ (by omega)];omega
   ·rcases k with _ | _ | k
    ·decide
    ·decide
    ·rw [binom_gt 1 _ (by omega)];omega
   ·rcases k with _ | _ | _ | k
    ·decide
    ·decide
    ·decide
    ·rw [binom_gt 2 _ (by omega)];omega
   ·omega
  omega
def rwN (n : Nat) (f : Nat → Nat) : List Nat:=(List.range (n + 1)).map f
theorem rwN_len {n : Nat} {f : Nat → Nat} : (rwN n f).length = n + 1:=by simp [rwN]
theorem rwN_get {n j : Nat} {f : Nat → Nat} (h : j ≤ n) : (rwN n f)[j]? = some (f j):=by rw [rwN,List.getElem?_map,List.getElem?_range (by omega)];rfl
theorem rwN_ext {n : Nat} {f g : Nat → Nat} (h : ∀ t,t ≤ n → f t = g t) : rwN n f = rwN n g:=List.map_congr_left fun t ht=>h t (by have:=List.mem_range.1 ht;omega)
theorem rwN_set {n j v : Nat} {f : Nat → Nat} : (rwN n f).set j v = rwN n fun t=>if t = j then v else f t:=by
 refine List.ext_getElem (by rw [List.length_set,rwN_len,rwN_len]) fun i h1 h2=>?_
 rw [List.getElem_set]
 simp only [rwN,List.getElem_map,List.getElem_range]
 by_cases e : j = i
 ·rw [if_pos e,if_pos e.symm]
 ·rw [if_neg e,if_neg fun h=>e h.symm]
abbrev pasF (i j t : Nat) : Nat:=if j < t then binom i t else binom (i - 1) t
theorem pas_start {n i : Nat} : rwN n (pasF i i) = rwN n (binom (i - 1)):=rwN_ext fun t _=>by
 rw [pasF]
 split
 ·rename_i h;rw [binom_gt i t h,binom_gt (i - 1) t (by omega)]
 ·rfl
theorem pas_end {n i : Nat} : rwN n (pasF i 0) = rwN n (binom i):=rwN_ext fun t _=>by
 rw [pasF]
 split
 ·rfl
 ·rename_i h
  obtain rfl : t = 0:=by omega
  rw [binom_zero,binom_zero]
theorem pas_step {n i j : Nat} (h1 : 1 ≤ j) (h2 : j ≤ i) : (rwN n (pasF i j)).set j (binom (i - 1) j + binom (i - 1) (j - 1)) = rwN n (pasF i (j - 1)):=by
 rw [rwN_set]
 refine rwN_ext fun t _=>?_
 obtain ⟨i,rfl⟩ : ∃ i',i = i' + 1:=⟨i - 1,by omega⟩
 obtain ⟨j,rfl⟩ : ∃ j',j = j' + 1:=⟨j - 1,by omega⟩
 rw [pasF,pasF,Nat.add_sub_cancel,Nat.add_sub_cancel]
 by_cases e : t = j + 1
 ·rw [if_pos e,if_pos (by omega),e,binom_succ,Nat.add_comm]
 ·rw [if_neg e]
  by_cases h : j + 1 < t
  ·rw [if_pos h,if_pos (by omega)]
  ·rw [if_neg h,if_neg (by omega)]
theorem S_word_choose {n k : Nat} (hn : n ≤ 64) : Ctr Tryz.prog 61 [.int .i64 n,.int .i64 k] [] [] (Rv (.int .i64 (binom n k : Nat)) []):=by
 refine Ctr_of_j' (F:=F_word_choose) rfl fun C=>?_
 by_cases hk : n < k
 ·rw [binom_gt n k hk]
  refine wk 9 cz ?_
  intro h1
  exact ge
 ·refine wk 13 cz ?_
  intro h1 b1
  refine j_step rfl (x_bst_nat 0 1 rfl rfl rfl ld3 ?_ ?_ ?_) --ok
  ·rfl
  ·rw [List.length_replicate];omega
  rw [show (List.replicate (n + 1) 0).set 0 1 = rwN n (binom 0) by
   rw [show List.replicate (n + 1) 0 = rwN n (fun _=>0) by simp [rwN,List.map_const'],rwN_set]
   exact rwN_ext fun t _=>by cases t <;> rfl]
  simp only [setB,List.set_cons_zero]
  refine wk 3 cz ?_
  refine j_loopG (X:=Nat) [0,1,4,5] [] (fun i=>[(6,.int .i64 (i : Int))]) (fun i=>[(some b1,3,natCells .i64 (rwN n (binom (i - 1))))]) (fun _=>[]) (fun i=>1 ≤ i ∧ i ≤ n + 1) (fun i=>n + 1 - i) 1 [] rfl rfl rfl ⟨Nat.le_refl _,by omega⟩ (by repeat (first | exact Fr.sub_nil _ | refine Fr.sub_cons rfl ?_)) rfl rfl ?_
  rintro i ⟨hi1,hi⟩ ih
  simp only [List.cons_append,List.nil_append] at hi1 hi ih ⊢
  by_cases hin : i ≤ n
  ·have ih':=ih (i + 1) (by omega) ⟨by omega,by omega⟩
   rw [Nat.add_sub_cancel,← pas_end] at ih'
   rw [← pas_start (i:=i)]
   clear ih
   refine wk 7 cz ?_
   intro h2
   refine j_loopG (X:=Nat) [0,1,4,5,6,20,21,22,25] [] (fun j=>[(7,.int .i64 (j : Int))]) (fun j=>[(some b1,3,natCells .i64 (rwN n (pasF i j)))]) (fun _=>[]) (fun j=>j ≤ i) (fun j=>j) i [] rfl rfl rfl (Nat.le_refl _) (by repeat (first | exact Fr.sub_nil _ | refine Fr.sub_cons rfl ?_)) rfl rfl ?_
   rintro j hj ihj
   simp only [List.cons_append,List.nil_append] at hj ihj ⊢
   by_cases hj0 : 1 ≤ j
   ·have ihj':=ihj (j - 1) (by omega) (by omega)
    rw [← pas_step hj0 hj] at ihj'
    have g1 : (rwN n (pasF i j))[j]? = some (binom (i - 1) j):=by rw [rwN_get (by omega)];exact congrArg some (if_neg (by omega))
    have g2 : (rwN n (pasF i j))[j - 1]? = some (binom (i - 1) (j - 1)):=by rw [rwN_get (by omega)];exact congrArg some (if_neg (by omega))
    have hL : (rwN n (pasF i j)).length = n + 1:=rwN_len
    have hs:=binom_64 (n:=i) (k:=j) (by omega)
    rw [show binom i j = binom (i - 1) j + binom (i - 1) (j - 1) by
     obtain ⟨i,rfl⟩ : ∃ i',i = i' + 1:=⟨i - 1,by omega⟩
     obtain ⟨j,rfl⟩ : ∃ j',j = j' + 1:=⟨j - 1,by omega⟩
     rw [binom_succ,Nat.add_comm];rfl] at hs
    generalize rwN n (pasF i j) = L at *
    generalize binom (i - 1) j = u at *
    generalize binom (i - 1) (j - 1) = v at *
    clear ihj ih'
    refine wk 11 cz ?_
    intro h3
    simp only [setB,List.set_cons_zero]
    exact tw (ihj')
   ·obtain rfl : j = 0:=by omega
    clear ihj
    refine wk 7 cz ?_
    intro h3
    exact tw (ih')
  ·obtain rfl : i = n + 1:=by omega
   have at_k : (rwN n (binom n))[k]? = some (binom n k):=rwN_get (by omega)
   have hL : (rwN n (binom n)).length = n + 1:=rwN_len
   rw [Nat.add_sub_cancel]
   clear ih
   refine wk 7 cz ?_
   intro h2
   refine j_step rfl (x_bld_nat 0 rfl rfl ld3 (by first | omega | (simp;omega)) fun z1 hz1=>?_)
   obtain rfl : _ = z1:=Option.some.inj (at_k.symm.trans hz1)
   refine wk 2 cz ?_
   exact ge
theorem S_word_Binomial {n k : Nat} (hn : n ≤ 64) : Ctr Tryz.prog 28 [.int .i64 n,.int .i64 k] [] [] (Rv (.tuple #[.int .i64 (binom n k : Nat),.int .i64 0]) []):=by
 refine Ctr_of_j' (F:=F_word_Binomial) rfl fun C=>?_
 have c_word_choose:=S_word_choose (n:=n) (k:=k) hn
 have hb:=binom_64 (n:=n) (k:=k) hn
 refine wk 11 (ct @c_word_choose cz) ?_
 intro h1
 exact ge
theorem S_codewrightref11_Binomial {n k : Nat} (hn : n ≤ 64) : Ctr Tryz.prog 65 [.int .i64 n,.int .i64 k] [] [] (Rv (.tuple #[.int .i64 (binom n k : Nat),.int .i64 0]) []):=by
 refine Ctr_of_j' (F:=F_codewrightref11_Binomial) rfl fun C=>?_
 by_cases hk : n < k
 ·rw [binom_gt n k hk]
  refine wk 13 cz ?_
  intro h1 h2
  exact ge
 ·refine wk 17 cz ?_
  intro h1 h2 b1
  refine j_step rfl (x_bst_nat 0 1 rfl rfl rfl ld3 ?_ ?_ ?_) --ok
  ·rfl
  ·rw [List.length_replicate];omega
  rw [show (List.replicate (n + 1) 0).set 0 1 = rwN n (binom 0) by
   rw [show List.replicate (n + 1) 0 = rwN n (fun _=>0) by simp [rwN,List.map_const'],rwN_set]
   exact rwN_ext fun t _=>by cases t <;> rfl]
  simp only [setB,List.set_cons_zero]
  refine wk 3 cz ?_
  refine j_loopG (X:=Nat) [0,1,4,5,6] [] (fun i=>[(7,.int .i64 (i : Int))]) (fun i=>[(some b1,3,natCells .i64 (rwN n (binom (i - 1))))]) (fun _=>[]) (fun i=>1 ≤ i ∧ i ≤ n + 1) (fun i=>n + 1 - i) 1 [] rfl rfl rfl ⟨Nat.le_refl _,by omega⟩ (by repeat (first | exact Fr.sub_nil _ | refine Fr.sub_cons rfl ?_)) rfl rfl ?_
  rintro i ⟨hi1,hi⟩ ih
  simp only [List.cons_append,List.nil_append] at hi1 hi ih ⊢
  by_cases hin : i ≤ n
  ·have ih':=ih (i + 1) (by omega) ⟨by omega,by omega⟩
   rw [Nat.add_sub_cancel,← pas_end] at ih'
   rw [← pas_start (i:=i)]
   clear ih
   refine wk 7 cz ?_
   intro h3
   refine j_loopG (X:=Nat) [0,1,4,5,6,7,27,28,29,32] [] (fun j=>[(8,.int .i64 (j : Int))]) (fun j=>[(some b1,3,natCells .i64 (rwN n (pasF i j)))]) (fun _=>[]) (fun j=>j ≤ i) (fun j=>j) i [] rfl rfl rfl (Nat.le_refl _) (by repeat (first | exact Fr.sub_nil _ | refine Fr.sub_cons rfl ?_)) rfl rfl ?_
   rintro j hj ihj
   simp only [List.cons_append,List.nil_append] at hj ihj ⊢
   by_cases hj0 : 1 ≤ j
   ·have ihj':=ihj (j - 1) (by omega) (by omega)
    rw [← pas_step hj0 hj] at ihj'
    have g1 : (rwN n (pasF i j))[j]? = some (binom (i - 1) j):=by rw [rwN_get (by omega)];exact congrArg some (if_neg (by omega))
    have g2 : (rwN n (pasF i j))[j - 1]? = some (binom (i - 1) (j - 1)):=by rw [rwN_get (by omega)];exact congrArg some (if_neg (by omega))
    have hL : (rwN n (pasF i j)).length = n + 1:=rwN_len
    have hs:=binom_64 (n:=i) (k:=j) (by omega)
    rw [show binom i j = binom (i - 1) j + binom (i - 1) (j - 1) by
     obtain ⟨i,rfl⟩ : ∃ i',i = i' + 1:=⟨i - 1,by omega⟩
     obtain ⟨j,rfl⟩ : ∃ j',j = j' + 1:=⟨j - 1,by omega⟩
     rw [binom_succ,Nat.add_comm];rfl] at hs
    generalize rwN n (pasF i j) = L at *
    generalize binom (i - 1) j = u at *
    generalize binom (i - 1) (j - 1) = v at *
    clear ihj ih'
    refine wk 11 cz ?_
    intro h4
    simp only [setB,List.set_cons_zero]
    exact tw (ihj')
   ·obtain rfl : j = 0:=by omega
    clear ihj
    refine wk 7 cz ?_
    intro h4
    exact tw (ih')
  ·obtain rfl : i = n + 1:=by omega
   have at_k : (rwN n (binom n))[k]? = some (binom n k):=rwN_get (by omega)
   have hL : (rwN n (binom n)).length = n + 1:=rwN_len
   rw [Nat.add_sub_cancel]
   clear ih
   refine wk 7 cz ?_
   intro h3
   refine j_step rfl (x_bld_nat 0 rfl rfl ld3 (by first | omega | (simp;omega)) fun z1 hz1=>?_)
   obtain rfl : _ = z1:=Option.some.inj (at_k.symm.trans hz1)
   refine wk 2 cz ?_
   exact ge
def sumI : List Int → Int
 | []=>0
 | x::l=>x + sumI l
theorem sumI_app : ∀ {l k : List Int},sumI (l++k) = sumI l + sumI k
 | [],k=>by rw [List.nil_append,sumI,Int.zero_add]
 | x::l,k=>by rw [List.cons_append,sumI,sumI,sumI_app];omega
theorem sumI_snoc {l : List Int} {i : Nat} {x : Int} (h : l[i]? = some x) : sumI (l.take (i + 1)) = sumI (l.take i) + x:=by
 rw [List.take_add_one,h,Option.toList_some,sumI_app];simp [sumI]
theorem sumI_nn : ∀ {l : List Int},(∀ x ∈ l,0 ≤ x) → 0 ≤ sumI l
 | [],_=>Int.le_refl 0
 | x::l,h=>by rw [sumI];have:=h x (.head _);have:=sumI_nn (l:=l) fun y hy=>h y (.tail _ hy);omega
theorem sumI_take {l : List Int} (h : ∀ x ∈ l,0 ≤ x) (i : Nat) : 0 ≤ sumI (l.take i) ∧ sumI (l.take i) ≤ sumI l:=by
 have h1:=sumI_nn (l:=l.take i) fun x hx=>h x (List.mem_of_mem_take hx)
 have h2:=sumI_nn (l:=l.drop i) fun x hx=>h x (List.mem_of_mem_drop hx)
 have h3:=sumI_app (l:=l.take i) (k:=l.drop i)
 rw [List.take_append_drop] at h3
 omega
def minL : Int → List Int → Int
 | m,[]=>m
 | m,x::l=>minL (if x < m then x else m) l
def maxL : Int → List Int → Int
 | m,[]=>m
 | m,x::l=>maxL (if m < x then x else m) l
theorem minL_lt {c : Int} : ∀ {m : Int} {l : List Int},minL m l < c ↔ m < c ∨ ∃ x ∈ l,x < c
 | m,[]=>by simp [minL]
 | m,x::l=>by
  rw [minL,minL_lt]
  constructor
  ·rintro (h | ⟨y,hy,h⟩)
   ·split at h
    ·exact .inr ⟨x,.head _,h⟩
    ·exact .inl h
   ·exact .inr ⟨y,.tail _ hy,h⟩
  ·rintro (h | ⟨y,hy,h⟩)
   ·left;split <;> omega
   ·rcases List.mem_cons.1 hy with rfl | hy
    ·left;split <;> omega
    ·exact .inr ⟨y,hy,h⟩
theorem maxL_gt {c : Int} : ∀ {m : Int} {l : List Int},c < maxL m l ↔ c < m ∨ ∃ x ∈ l,c < x
 | m,[]=>by simp [maxL]
 | m,x::l=>by
  rw [maxL,maxL_gt]
  constructor
  ·rintro (h | ⟨y,hy,h⟩)
   ·split at h
    ·exact .inr ⟨x,.head _,h⟩
    ·exact .inl h
   ·exact .inr ⟨y,.tail _ hy,h⟩
  ·rintro (h | ⟨y,hy,h⟩)
   ·left;split <;> omega
   ·rcases List.mem_cons.1 hy with rfl | hy
    ·left;split <;> omega
    ·exact .inr ⟨y,hy,h⟩
def setN (n : Nat) : Nat → Nat
 | 0=>0
 | k + 1=>min (setN n k + min (binom n k) 65537) 65537
def cumN (n : Nat) : Nat → Nat
 | 0=>0
 | k + 1=>cumN n k + binom n k
theorem setN_cum {n : Nat} : ∀ {k : Nat},setN n k = min (cumN n k) 65537
 | 0=>by rw [setN,cumN];omega
 | k + 1=>by rw [setN,cumN,setN_cum];omega
theorem cumN_le {n : Nat} : ∀ {k d : Nat},cumN n k ≤ cumN n (k + d)
 | _,0=>Nat.le_refl _
 | k,d + 1=>by rw [← Nat.add_assoc,cumN];have:=cumN_le (n:=n) (k:=k) (d:=d);omega
section
variable {n t cl k c : Nat} {pl : Option Addr} {l : List Int} {x : Int}
theorem S_slices_Min___int_int_ (hr : ∀ y ∈ x::l,InR .i64 y) : Ctr Tryz.prog 29 [.slice pl k c] [] [slF I64 pl k c (x::l)] (Rv (.int .i64 (minL x l)) []):=by
 refine Ctr_of_j' (F:=F_slices_Min___int_int_) rfl fun C=>?_
 refine j_len 0 rfl fun hn hb _=>?_
 subst hn
 have hb' : (x::l).length * 8 ≤ 140737488355328:=hb
 have hl : (x::l).length = l.length + 1:=rfl
 have at_x : (x::l)[0]? = some x:=rfl
 refine wk 11 cz ?_
 intro h1 b1 o1 hz1
 refine j_step rfl (x_ld_int 0 rfl rfl ld3 fun ⟨r1,r2⟩=>?_)
 refine wk 4 cz ?_
 refine j_loopG (X:=Nat × Int) [0,2] [0,1] (fun y=>[(4,.int .i64 (y.1 : Int)),(3,.int .i64 y.2)]) (fun _=>[]) (fun _=>[]) (fun y=>1 ≤ y.1 ∧ y.1 ≤ (x::l).length ∧ InR .i64 y.2 ∧ minL x l = minL y.2 ((x::l).drop y.1)) (fun y=>(x::l).length - y.1) (1,x) [] rfl rfl rfl ⟨Nat.le_refl _,by dsimp only;omega,hr x (.head _),rfl⟩ (by repeat (first | exact Fr.sub_nil _ | refine Fr.sub_cons rfl ?_)) rfl rfl ?_
 rintro ⟨i,m⟩ ⟨hi1,hi,hm,hg⟩ ih
 simp only [List.cons_append,List.nil_append] at hi1 hi hm hg ih ⊢
 by_cases hil : i < (x::l).length
 ·obtain ⟨y,at_y⟩ : ∃ y,(x::l)[i]? = some y:=⟨_,List.getElem?_eq_getElem hil⟩
  have hy:=hr y (List.mem_of_getElem? at_y)
  have e : (x::l).drop i = y::(x::l).drop (i + 1):=by
   rw [List.drop_eq_getElem_cons hil];rw [List.getElem?_eq_getElem hil] at at_y;rw [Option.some.inj at_y]
  rw [e,minL] at hg
  have ih':=ih (i + 1,if y < m then y else m) (by dsimp only;omega) ⟨by dsimp only;omega,by dsimp only;omega,by dsimp only;split <;> assumption,hg⟩
  dsimp only at ih'
  clear ih
  refine wk 9 cz ?_
  intro h2 b2 o2 hz2
  refine j_step rfl (x_ld_int 0 rfl rfl ld3 fun ⟨r3,r4⟩=>?_)
  refine j_step rfl (x_min rfl rfl ?_)
  refine wk 4 cz ?_
  exact tw (ih')
 ·obtain rfl : i = (x::l).length:=by omega
  rw [List.drop_length,minL] at hg
  rw [hg]
  clear ih
  refine wk 9 cz ?_
  intro h2
  exact ge
theorem S_codewrightref54_sets (hn : n ≤ 64) (ht : t ≤ n) : Ctr Tryz.prog 32 [.int .i64 n,.int .i64 t] [] [] (Rv (.int .i64 (setN n (t + 1) : Nat)) []):=by
 refine Ctr_of_j' (F:=F_codewrightref54_sets) rfl fun C=>?_
 refine wk 7 cz ?_
 refine j_loopG (X:=Nat) [0,1,4] [] (fun k=>[(6,.int .i64 (k : Int)),(5,.int .i64 (setN n k : Nat))]) (fun _=>[]) (fun _=>[]) (fun k=>k ≤ t + 1) (fun k=>t + 1 - k) 0 [] rfl rfl rfl (Nat.zero_le _) (by repeat (first | exact Fr.sub_nil _ | refine Fr.sub_cons rfl ?_)) rfl rfl ?_
 rintro k hk ih
 simp only [List.cons_append,List.nil_append] at hk ih ⊢
 have hs : setN n k ≤ 65537:=by cases k <;> rw [setN] <;> omega
 by_cases hkt : k ≤ t
 ·have ih':=ih (k + 1) (by omega) (by omega)
  have hb:=binom_64 (n:=n) (k:=k) hn
  have c_codewrightref11_Binomial:=S_codewrightref11_Binomial (n:=n) (k:=k) hn
  rw [setN] at ih'
  generalize setN n k = s at *
  generalize binom n k = b at *
  clear ih
  refine wk 15 (ct @c_codewrightref11_Binomial cz) ?_
  intro h1 h2
  refine j_step rfl (x_min rfl rfl ?_)
  refine wk 3 cz ?_
  refine j_step rfl (x_min rfl rfl ?_)
  refine wk 4 cz ?_
  rw [show (if (65537 : Int) < ↑s + (if (65537 : Int) < ↑b then 65537 else ↑b) then 65537 else ↑s + (if (65537 : Int) < ↑b then 65537 else ↑b)) = ((min (s + min b 65537) 65537 : Nat) : Int) by (repeat' split) <;> omega]
  exact tw (ih')
 ·obtain rfl : k = t + 1:=by omega
  clear ih
  refine wk 12 cz ?_
  intro h1
  exact ge
end
open Go Go.Fw
set_option maxRecDepth 100000
set_option linter.unusedVariables false
set_option linter.unusedSimpArgs false
set_option maxHeartbeats 0
theorem S_codewrightref09_scale {p m nm cm : Nat} {a : Int} {pm pu : Option Addr} {nu cu : Nat} {u md : List Int} (K : Fok p m md) (a0 : 0 ≤ a) (a1 : a < ((p ^ m : Nat) : Int)) (hu : ∀ x ∈ u,0 ≤ x ∧ x < ((p ^ m : Nat) : Int)) :
  Ctr Tryz.prog 153 [.agg #[.int .i64 p,.int .i64 m,.slice pm nm cm],.int .i64 a,.slice pu nu cu] [] [slF I64 pm nm cm md,slF I64 pu nu cu u] (RwI nu (sclL (liftI (fM p (fpo m md))) a u)):=by
 refine Ctr_of_j' (F:=F_codewrightref09_scale) rfl fun C=>?_
 refine j_len 1 rfl fun hn hb _=>?_
 subst hn
 have hb' : u.length * 8 ≤ 140737488355328:=hb
 have c_codewrightref04_Mul:=fun {nm cm : Nat} {pm : Option Addr} {x y : Int}=>S_codewrightref04_Mul (nm:=nm) (cm:=cm) (pm:=pm) (x:=x) (y:=y) K
 have hml:=fun x (h : x ∈ u)=>K.fi.ml a x a0 a1 (hu x h).1 (hu x h).2
 have hq:=K.q
 generalize liftI (fM p (fpo m md)) = M at *
 generalize p ^ m = q at *
 refine wk 11 cz ?_
 intro b1 b2
 rw [show natCells .i64 (List.replicate u.length 0) = intCells .i64 ((sclL M a u).take 0++List.replicate (u.length - 0) 0) by simp [natCells,intCells]]
 refine j_loopG (X:=Nat) [1,2,3,6,7] [0,1] (fun i=>[(8,.int .i64 (i : Int))]) (fun i=>(some b2,3,intCells .i64 ((sclL M a u).take i++List.replicate (u.length - i) 0))::_) (fun _=>[]) (fun i=>i ≤ u.length) (fun i=>u.length - i) 0 [] rfl rfl rfl (Nat.zero_le _) (by repeat (first | exact Fr.sub_nil _ | refine Fr.sub_cons rfl ?_)) rfl rfl ?_
 rintro i hi ih
 simp only [List.cons_append,List.nil_append] at hi ih ⊢
 by_cases h9 : i < u.length
 ·obtain ⟨x,at_x⟩ : ∃ x,u[i]? = some x:=⟨_,List.getElem?_eq_getElem h9⟩
  have ex : u.getD i default = x:=by rw [List.getD_eq_getElem?_getD,at_x];rfl
  have hx:=hu x (List.mem_of_getElem? at_x)
  have hm:=hml x (List.mem_of_getElem? at_x)
  obtain ⟨hx0,hx1⟩:=hx
  have ih':=ih (i + 1) (by omega) (by omega)
  have eT : (sclL M a u)[i]? = some (M a (u.getD i default)):=by rw [sclL,List.getElem?_map,at_x,ex];rfl
  rw [← take_set eT h9] at ih'
  have hln : ((sclL M a u).take i++List.replicate (u.length - i) 0).length = u.length:=by simp [sclL];omega
  generalize (sclL M a u).take i++List.replicate (u.length - i) 0 = L at *
  rw [← ex] at hm
  refine wk 13 (ct @c_codewrightref04_Mul cz) ?_
  intro h1 b3 o1
  exact tw (ih')
 ·obtain rfl : i = u.length:=by omega
  rw [Nat.sub_self,List.replicate_zero,List.append_nil,List.take_of_length_le (by simp [sclL])]
  refine wk 9 cz ?_
  intro h1
  have hall : ∀ z ∈ sclL M a u,InR .i64 z:=fun z hz=>by
   obtain ⟨y,hy,rfl⟩:=List.mem_map.1 hz
   have:=hml y hy
   simp only [InR];omega
  have hln : (sclL M a u).length = u.length:=by simp [sclL]
  generalize sclL M a u = L at *
  refine j_rowInt 0 rfl hln.symm hall (by omega) ?_
  refine j_givK 2 [0] [0] rfl (.tmp rfl .nil) rfl rfl rfl ⟨⟨some b2,u.length,intCells .i64 L⟩,rfl,rfl,rfl⟩
theorem S_codewrightref09_AddTo {p m nm cm n : Nat} {a : Int} {pm pu pv : Option Addr} {nu cu nv cv : Nat} {u v md : List Int} (K : Fok p m md) (a0 : 0 ≤ a) (a1 : a < ((p ^ m : Nat) : Int)) (hu : Wd (p ^ m) n u) (hv : Wd (p ^ m) n v) :
  Ctr Tryz.prog 75 [.agg #[.int .i64 p,.int .i64 m,.slice pm nm cm],.slice pv nv cv,.int .i64 a,.slice pu nu cu] [] [slF I64 pm nm cm md,slF I64 pv nv cv v,slF I64 pu nu cu u] (RwI n (axp (liftI (fA p m)) (liftI (fM p (fpo m md))) a u v)):=by
 refine Ctr_of_j' (F:=F_codewrightref09_AddTo) rfl fun C=>?_
 refine j_len 1 rfl fun hn hb _=>?_
 refine j_len 2 rfl fun hn2 hb2 _=>?_
 have hul:=hu.1
 have hvl:=hv.1
 have hb' : v.length * 8 ≤ 140737488355328:=hn ▸ hb
 rw [hvl] at hn hb'
 rw [hul] at hn2
 subst hn
 subst hn2
 have FF:=K.fi
 have c_codewrightref04_Mul:=fun {nm cm : Nat} {pm : Option Addr} {x y : Int}=>S_codewrightref04_Mul (nm:=nm) (cm:=cm) (pm:=pm) (x:=x) (y:=y) K
 have c_codewrightref04_Add:=fun {nm cm : Nat} {pm : Option Addr} {x y : Int}=>S_codewrightref04_Add (nm:=nm) (cm:=cm) (pm:=pm) (x:=x) (y:=y) K
 have hT:=FF.axw a0 a1 hu hv
 have hq:=K.q
 generalize liftI (fM p (fpo m md)) = M at *
 generalize liftI (fA p m) = A0 at *
 generalize p ^ m = q at *
 have hTa : ∀ (i : Nat) (x y : Int),u[i]? = some x → v[i]? = some y → (axp A0 M a u v)[i]? = some (A0 y (M a x)):=fun i x y h1 h2=>by rw [axp,List.getElem?_zipWith,h1,h2]
 generalize axp A0 M a u v = T at *
 have hTl:=hT.1
 refine wk 11 cz ?_
 intro b1 b2
 rw [show natCells .i64 (List.replicate nu 0) = intCells .i64 (T.take 0++List.replicate (nu - 0) 0) by simp [natCells,intCells]]
 refine j_loopG (X:=Nat) [1,2,3,4,8,9] [0,1,2] (fun i=>[(10,.int .i64 (i : Int))]) (fun i=>(some b2,3,intCells .i64 (T.take i++List.replicate (nu - i) 0))::_) (fun _=>[]) (fun i=>i ≤ nu) (fun i=>nu - i) 0 [] rfl rfl rfl (Nat.zero_le _) (by repeat (first | exact Fr.sub_nil _ | refine Fr.sub_cons rfl ?_)) rfl rfl ?_
 rintro i hi ih
 simp only [List.cons_append,List.nil_append] at hi ih ⊢
 by_cases h9 : i < nu
 ·obtain ⟨x,at_x⟩ : ∃ x,u[i]? = some x:=⟨_,List.getElem?_eq_getElem (by omega)⟩
  obtain ⟨y,at_y⟩ : ∃ y,v[i]? = some y:=⟨_,List.getElem?_eq_getElem (by omega)⟩
  have ex : u.getD i default = x:=by rw [List.getD_eq_getElem?_getD,at_x];rfl
  have ey : v.getD i default = y:=by rw [List.getD_eq_getElem?_getD,at_y];rfl
  obtain ⟨x0,x1⟩:=hu.2 x (List.mem_of_getElem? at_x)
  obtain ⟨y0,y1⟩:=hv.2 y (List.mem_of_getElem? at_y)
  obtain ⟨m0,m1⟩:=FF.ml a x a0 a1 x0 x1
  have eT:=hTa i x y at_x at_y
  obtain ⟨t0,t1⟩:=hT.2 _ (List.mem_of_getElem? eT)
  have ih':=ih (i + 1) (by omega) (by omega)
  have hln : (T.take i++List.replicate (nu - i) 0).length = nu:=by rw [List.length_append,List.length_take,List.length_replicate];omega
  by_cases h0 : x = 0
  ·rw [h0,FF.m0 a0 a1,FF.a0 y y0 y1] at eT
   rw [← take_set eT h9] at ih'
   generalize T.take i++List.replicate (nu - i) 0 = L at *
   refine wk 9 cz ?_
   intro h1 b3 o1 hz1
   refine j_step rfl (x_ld_int 0 rfl rfl ld3 fun ⟨r1,r2⟩=>?_)
   refine wk 5 cz ?_
   intro b4 o2 hz2
   refine j_step rfl (x_ld_int 0 rfl rfl ld3 fun ⟨r3,r4⟩=>?_)
   refine wk 6 cz ?_
   intro h2
   exact tw (ih')
  ·rw [← ex,← ey] at eT t0 t1
   rw [← ex] at m0 m1
   rw [← take_set eT h9,← List.set_set (i:=i) (a:=y)] at ih'
   generalize T.take i++List.replicate (nu - i) 0 = L at *
   refine wk 9 cz ?_
   intro h1 b3 o1 hz1
   refine j_step rfl (x_ld_int 0 rfl rfl ld3 fun ⟨r1,r2⟩=>?_)
   refine wk 5 cz ?_
   intro b4 o2 hz2
   refine j_step rfl (x_ld_int 0 rfl rfl ld3 fun ⟨r3,r4⟩=>?_)
   refine wk 5 (ct @c_codewrightref04_Mul (ct @c_codewrightref04_Add cz)) ?_
   intro h2 b5 o3 b6 o4
   refine j_step rfl (x_bst_int 0 rfl rfl rfl ld3 (by first | omega | (simp;omega)) ?_)
   refine wk 3 cz ?_
   exact tw (ih')
 ·obtain rfl : i = nu:=by omega
  rw [Nat.sub_self,List.replicate_zero,List.append_nil,List.take_of_length_le (by omega)]
  refine wk 9 cz ?_
  intro h1
  refine j_rowInt 0 rfl hTl.symm (fun z hz=>by have:=hT.2 z hz;simp only [InR];omega) (by omega) ?_
  refine j_givK 2 [0] [0] rfl (.tmp rfl .nil) rfl rfl rfl ⟨⟨some b2,_,intCells .i64 T⟩,rfl,rfl,rfl⟩
abbrev ElR (n : Nat) (E : List (List Int) × List Nat) : Value → List Fact → List Blk → Prop:=fun v Φ β=>∃ (pb pp : Option Addr) (cb cp : Nat),v = .tuple #[.slice pb n cb,.slice pp E.2.length cp]
 ∧ Φ = [slF (encSl I64) pb n cb E.1,slF I64 pp E.2.length cp (toI E.2)] ∧ β = []
theorem S_codewrightref09_Eliminate {p m n N W nm cm c : Nat} {pm ps : Option Addr} {rows : List (List Int)} {md : List Int} (K : Fok p m md) (hn : n ≤ 1000000) (hNW : N ≤ W) (hW : W ≤ 1000000) (hl : rows.length = n) (hM : Mat (p ^ m) W rows) :
  Ctr Tryz.prog 131 [.agg #[.int .i64 p,.int .i64 m,.slice pm nm cm],.slice ps n c,.int .i64 N] [] [slF I64 pm nm cm md,slF (encSl I64) ps n c rows] (ElR n (elP p m md N 0 0 rows)):=by
 refine Ctr_of_j' (F:=F_codewrightref09_Eliminate) rfl fun C=>?_
 have O:=fok_fo K
 have hq:=K.q
 have q2:=O.q2
 subst hl
 generalize hEE : elP p m md N 0 0 rows = EE
 have c_codewrightref09_Copy:=fun {ps : Option Addr} {n c : Nat}=>S_codewrightref09_Copy (ps:=ps) (n:=n) (c:=c) (rows:=rows) fun r hr=>by rw [(hM r hr).1];exact hW
 have hb0 : rows.length * 24 ≤ 140737488355328:=by omega
 rcases Nat.eq_zero_or_pos rows.length with hn0 | hn0
 ·have hr0:=List.length_eq_zero_iff.1 hn0
  subst hr0
  rw [elP,elim_full _ _ _ _ (Nat.zero_le _)] at hEE
  subst hEE
  refine wk 14 (ct @c_codewrightref09_Copy cz) ?_
  intro b1 r1
  refine j_row0 I64 3 ?_
  refine j_loopG (X:=Unit) [2,3,6,7,8] [0,1,2,3] (fun _=>[(11,.int .i64 0),(10,.int .i64 0),(9,.slice none 0 0)]) (fun _=>_) (fun _=>[]) (fun _=>True) (fun _=>0) () [] rfl rfl rfl trivial (by repeat (first | exact Fr.sub_nil _ | refine Fr.sub_cons rfl ?_)) rfl rfl ?_
  rintro ⟨⟩ - ih
  simp only [List.cons_append,List.nil_append] at ih ⊢
  refine j_pubR 0 0 rfl rfl (by show 0 * 8 ≤ 140737488355328;omega) ?_
  refine j_pubR 0 2 rfl rfl (by show 0 * 24 ≤ 140737488355328;omega) ?_
  rcases Nat.eq_zero_or_pos N with hN0 | hN0
  ·subst hN0
   refine wk 7 cz ?_
   refine j_giv [0,1] rfl rfl rfl ⟨_,_,_,_,rfl,rfl,rfl⟩
  ·refine wk 14 cz ?_
   intro h1 h2
   refine j_giv [0,1] rfl rfl rfl ⟨_,_,_,_,rfl,rfl,rfl⟩
 refine wk 14 (ct @c_codewrightref09_Copy cz) ?_
 intro b1 r1
 refine j_rowB 0 rfl hn0 fun bh caph csh hr=>?_
 subst hr
 dsimp only
 refine j_row0 I64 3 ?_
 refine j_loopG (X:=Nat × List Value × Row × List (List Int) × List Nat) [2,3,6,7,8] [2] (fun x=>[(11,.int .i64 (x.1 : Int)),(10,.int .i64 (x.2.2.2.2.length : Int)),(9,.slice (ad x.2.2.1.bo) x.2.2.2.2.length x.2.2.1.cap)])
  (fun x=>(x.2.2.1.bo,3,x.2.2.1.cs)::(some bh,22,x.2.1)::_)
  (fun x=>[rowF I64 x.2.2.1 x.2.2.2.2.length (toI x.2.2.2.2),rowF (encSl I64) ⟨some bh,caph,x.2.1⟩ rows.length x.2.2.2.1])
  (fun x=>x.1 ≤ N ∧ x.2.2.2.1.length = rows.length ∧ Mat (p ^ m) W x.2.2.2.1 ∧ x.2.2.2.2.length ≤ rows.length ∧ (elP p m md (N - x.1) x.1 x.2.2.2.2.length x.2.2.2.1).1 = EE.1 ∧ x.2.2.2.2++(elP p m md (N - x.1) x.1 x.2.2.2.2.length x.2.2.2.1).2 = EE.2) (fun x=>N - x.1)
  (0,csh,⟨none,0,[]⟩,rows,[]) [0,1] rfl rfl rfl ⟨Nat.zero_le _,rfl,hM,Nat.zero_le _,congrArg Prod.fst hEE,congrArg Prod.snd hEE⟩ (by repeat (first | exact Fr.sub_nil _ | refine Fr.sub_cons rfl ?_)) rfl rfl ?_
 clear hEE
 generalize hnn : rows.length = n at *
 rintro ⟨c,ch,rp,L,pv⟩ ⟨hcN,hL,hLM,hpv,hE1,hE2⟩ ih
 simp only [List.cons_append,List.nil_append] at hcN hL hLM hpv hE1 hE2 ih ⊢
 by_cases hcl : c < N
 ·by_cases hpl : pv.length < n
  ·have hrl : ∀ k,k < n → (row0 L k).length = W:=fun k hk=>(hLM.row (by omega)).1
   have hra : ∀ k,k < n → L[k]? = some (row0 L k):=fun k hk=>by rw [row0,List.getD_eq_getElem?_getD,List.getElem?_eq_getElem (by omega)];rfl
   have hre : ∀ k,k < n → (row0 L k)[c]? = some (en L k c):=fun k hk=>by
    rw [en,at0,List.getD_eq_getElem?_getD,List.getElem?_eq_getElem (by rw [hrl k hk];omega)];rfl
   have hen : ∀ k,k < n → 0 ≤ en L k c ∧ en L k c < ((p ^ m : Nat) : Int):=fun k hk=>wd_at (by omega) (hLM.row (by omega)) c
   refine wk 14 cz ?_
   intro h1 h2
   refine j_loopG (X:=Nat) [2,3,6,7,8,9,10,11,16,17,18,19,20,21,22,23,24,27] [0,1,2] (fun k=>[(12,.int .i64 (k : Int))]) (fun _=>_) (fun _=>[]) (fun k=>pv.length ≤ k ∧ k ≤ n ∧ ∀ j,pv.length ≤ j → j < k → en L j c = 0) (fun k=>n - k) pv.length [] rfl rfl rfl ⟨Nat.le_refl _,hpv,fun j h1 h2=>by omega⟩ (by repeat (first | exact Fr.sub_nil _ | refine Fr.sub_cons rfl ?_)) rfl rfl ?_
   rintro k ⟨hk1,hk2,hk3⟩ ihk
   simp only [List.cons_append,List.nil_append] at hk1 hk2 hk3 ihk ⊢
   by_cases hkn : k < n
   ·have at_u:=hra k hkn
    have at_z:=hre k hkn
    have hru:=hrl k hkn
    by_cases hz0 : en L k c = 0
    ·rw [hz0] at at_z
     refine wk 8 cz ?_
     intro h3
     refine j_gstep rfl rfl (x_ldR_sl 1 1 (k) rfl rfl rfl ld22 rfl (by omega) fun z1 hz1 pa1 ca1=>?_)
     obtain rfl : _ = z1:=Option.some.inj (at_u.symm.trans hz1)
     refine wk 2 cz ?_
     intro b2 o1 hz2
     refine j_gstep rfl rfl (x_ld_int 0 rfl rfl ld3 fun ⟨r1,r2⟩=>?_)
     refine wk 6 cz ?_
     intro h4
     exact tw (ihk (k + 1) (by omega) ⟨by omega,by omega,fun j h1 h2=>by
      rcases Nat.lt_succ_iff_lt_or_eq.1 h2 with h | rfl
      ·exact hk3 j h1 h
      ·exact hz0⟩)
    ·clear ihk
     have hrt:=hra pv.length hpl
     obtain ⟨e0,e1⟩:=hen k hkn
     obtain ⟨⟨v0,v1⟩,hiv⟩:=O.iv _ e0 e1 hz0
     have hSl : (swpL L pv.length k).length = n:=by rw [swpL,List.length_set,List.length_set,hL]
     have hSW : ∀ i,i < n → Wd (p ^ m) W (row0 (swpL L pv.length k) i):=fun i hi=>swp_wd hLM (by omega) (by omega) (by omega)
     have hSra : ∀ i,i < n → (swpL L pv.length k)[i]? = some (row0 (swpL L pv.length k) i):=fun i hi=>by rw [row0,List.getD_eq_getElem?_getD,List.getElem?_eq_getElem (by omega)];rfl
     have hSt : row0 (swpL L pv.length k) pv.length = row0 L k:=by
      rw [swp_row (by omega) (by omega)]
      split
      ·rename_i e;rw [← e]
      ·rw [if_pos rfl]
     have at_v:=hSra pv.length hpl
     rw [hSt,swpL] at at_v
     have hrk:=hrl k hkn
     have ek : (row0 L k).getD c default = en L k c:=gd_at at_z
     have key : ∀ ch' : List Value,J F_codewrightref09_Eliminate C [It.c (pL 128159),It.blk 1,It.c (pL 2003),It.lp (pL 500),It.blk 0,It.c [1,1,1,1,1]]
       [(2,.int .i64 N),(3,.pointer (some ⟨b1,0,none⟩)),(6,.slice none 0 0),(7,.slice none 0 0),(8,.slice (ad (some bh)) n caph),(9,.slice (ad rp.bo) pv.length rp.cap),(10,.int .i64 (pv.length : Int)),(11,.int .i64 (c : Int))]
       [(rp.bo,3,rp.cs),(some bh,22,ch'),(some b1,24,[.int .i64 p,.int .i64 m,.slice pm nm cm])]
       [rowF I64 rp pv.length (toI pv),rowF (encSl I64) ⟨some bh,caph,ch'⟩ n ((swpL L pv.length k).set pv.length (sclL (liftI (fM p (fpo m md))) (invI p m md (en L k c)) (row0 L k))),slF I64 pm nm cm md] (Gives C (ElR n EE)):=by
      intro ch'
      clear at_v at_u at_z hrt hrk ek
      have hprW : Wd (p ^ m) W (sclL (liftI (fM p (fpo m md))) (invI p m md (en L k c)) (row0 L k)):=O.scl_wd v0 v1 (hLM.row (by omega))
      have hpiv : pivL (liftI (fA p m)) (liftI (fM p (fpo m md))) (negI p m) (invI p m md) pv.length k c L = (List.range n).map fun i=>if i = pv.length then sclL (liftI (fM p (fpo m md))) (invI p m md (en L k c)) (row0 L k) else axp (liftI (fA p m)) (liftI (fM p (fpo m md))) (negI p m (en (swpL L pv.length k) i c)) (sclL (liftI (fM p (fpo m md))) (invI p m md (en L k c)) (row0 L k)) (row0 (swpL L pv.length k) i):=by rw [pivL,hL]
      have hpM:=O.piv_wd hLM (show pv.length < L.length by omega) (show k < L.length by omega) hz0
      have hf : findP L pv.length c = some k:=findP_of hk1 (by omega) hz0 fun j h1 h2=>hk3 j h1 h2
      rw [elP,show N - c = (N - (c + 1)) + 1 by omega,elimL,hf] at hE1 hE2
      have hE1' : (elP p m md (N - (c + 1)) (c + 1) (pv.length + 1) (pivL (liftI (fA p m)) (liftI (fM p (fpo m md))) (negI p m) (invI p m md) pv.length k c L)).1 = EE.1:=hE1
      have hE2' : pv++c::(elP p m md (N - (c + 1)) (c + 1) (pv.length + 1) (pivL (liftI (fA p m)) (liftI (fM p (fpo m md))) (negI p m) (invI p m md) pv.length k c L)).2 = EE.2:=hE2
      have hpM' : Mat (p ^ m) W (pivL (liftI (fA p m)) (liftI (fM p (fpo m md))) (negI p m) (invI p m md) pv.length k c L):=hpM
      have hplen : (pivL (liftI (fA p m)) (liftI (fM p (fpo m md))) (negI p m) (invI p m md) pv.length k c L).length = n:=by rw [pivL_len,hL]
      clear hE1 hE2 hpM
      generalize pivL (liftI (fA p m)) (liftI (fM p (fpo m md))) (negI p m) (invI p m md) pv.length k c L = PV at *
      generalize sclL (liftI (fM p (fpo m md))) (invI p m md (en L k c)) (row0 L k) = pr at *
      have hSen : ∀ i,i < n → 0 ≤ en (swpL L pv.length k) i c ∧ en (swpL L pv.length k) i c < ((p ^ m : Nat) : Int):=fun i hi=>wd_at (by omega) (hSW i hi) c
      have hSre : ∀ i,i < n → (row0 (swpL L pv.length k) i)[c]? = some (en (swpL L pv.length k) i c):=fun i hi=>by
       rw [en,at0,List.getD_eq_getElem?_getD,List.getElem?_eq_getElem (by rw [(hSW i hi).1];omega)];rfl
      clear hSt hre hen hra hrl hf hz0 e0 e1 hiv v0 v1 hk3 hLM
      generalize swpL L pv.length k = S at *
      let CL : Nat → List (List Int):=fun i=>(List.range n).map fun j=>if j = pv.length then pr else if j < i then axp (liftI (fA p m)) (liftI (fM p (fpo m md))) (negI p m (en S j c)) pr (row0 S j) else row0 S j
      have hCl : ∀ i,(CL i).length = n:=fun i=>by simp [CL]
      have hCa : ∀ i j,j < n → (CL i)[j]? = some (if j = pv.length then pr else if j < i then axp (liftI (fA p m)) (liftI (fM p (fpo m md))) (negI p m (en S j c)) pr (row0 S j) else row0 S j):=fun i j hj=>by
       show ((List.range n).map _)[j]? = _
       rw [List.getElem?_map,List.getElem?_range hj];rfl
      have hC0 : S.set pv.length pr = CL 0:=by
       refine List.ext_getElem? fun j=>?_
       by_cases hj : j < n
       ·rw [hCa 0 j hj,List.getElem?_set]
        by_cases e : pv.length = j
        ·rw [if_pos e,if_pos (by omega),if_pos e.symm]
        ·rw [if_neg e,if_neg (fun h=>e h.symm),if_neg (by omega),hSra j hj]
       ·rw [List.getElem?_eq_none (by rw [List.length_set];omega),List.getElem?_eq_none (by rw [hCl];omega)]
      have hCn : CL n = PV:=by
       rw [hpiv]
       refine List.map_congr_left fun j hj=>?_
       have:=List.mem_range.1 hj
       by_cases e : j = pv.length
       ·rw [if_pos e,if_pos e]
       ·rw [if_neg e,if_neg e,if_pos this]
      have hCt : ∀ i,(CL i)[pv.length]? = some pr:=fun i=>by rw [hCa i _ hpl,if_pos rfl]
      have hCi : ∀ i,i < n → i ≠ pv.length → (CL i)[i]? = some (row0 S i):=fun i hi e=>by rw [hCa i i hi,if_neg e,if_neg (Nat.lt_irrefl i)]
      have hCsame : ∀ i,i < n → (i = pv.length ∨ en S i c = 0) → CL (i + 1) = CL i:=fun i hi h=>by
       refine List.map_congr_left fun j hj=>?_
       have hjn:=List.mem_range.1 hj
       by_cases e : j = pv.length
       ·rw [if_pos e,if_pos e]
       ·rw [if_neg e,if_neg e]
        by_cases e2 : j < i
        ·rw [if_pos e2,if_pos (by omega)]
        ·rw [if_neg e2]
         by_cases e3 : j = i
         ·subst e3
          rcases h with h | h
          ·exact absurd h e
          ·have n0 : negI p m 0 = 0:=O.n0
           rw [if_pos (by omega),h,n0,axp_id O.fi hprW (hSW j hjn)]
         ·rw [if_neg (by omega)]
      have hCset : ∀ i,i < n → i ≠ pv.length → CL (i + 1) = (CL i).set i (axp (liftI (fA p m)) (liftI (fM p (fpo m md))) (negI p m (en S i c)) pr (row0 S i)):=fun i hi e=>by
       refine List.ext_getElem? fun j=>?_
       by_cases hj : j < n
       ·rw [hCa _ j hj,List.getElem?_set]
        by_cases e2 : i = j
        ·subst e2
         rw [if_neg e,if_pos (Nat.lt_succ_self i),if_pos rfl,if_pos (by rw [hCl];exact hi)]
        ·rw [if_neg e2,hCa i j hj]
         by_cases e3 : j = pv.length
         ·rw [if_pos e3,if_pos e3]
         ·rw [if_neg e3,if_neg e3]
          by_cases e4 : j < i
          ·rw [if_pos e4,if_pos (by omega)]
          ·rw [if_neg e4,if_neg (by omega)]
       ·rw [List.getElem?_eq_none (by rw [hCl];omega),List.getElem?_eq_none (by rw [List.length_set,hCl];omega)]
      clear_value CL
      rw [hC0]
      refine wk 3 cz ?_
      refine j_loopG (X:=Nat × List Value) [2,3,6,7,8,9,10,11] [0,1,2] (fun x=>[(13,.int .i64 (x.1 : Int))]) (fun x=>(rp.bo,3,rp.cs)::(some bh,22,x.2)::_) (fun x=>[rowF (encSl I64) ⟨some bh,caph,x.2⟩ n (CL x.1)]) (fun x=>x.1 ≤ n) (fun x=>n - x.1) (0,ch') [1] rfl rfl rfl (Nat.zero_le _) (by repeat (first | exact Fr.sub_nil _ | refine Fr.sub_cons rfl ?_)) rfl rfl ?_
      rintro ⟨i,ch2⟩ hi ihi
      simp only [List.cons_append,List.nil_append] at hi ihi ⊢
      by_cases hin : i < n
      ·by_cases hit : i = pv.length
       ·have ih':=fun ch=>ihi (i + 1,ch) (by dsimp only;omega) (by dsimp only;omega)
        simp only [hCsame i hin (.inl hit)] at ih'
        refine wk 18 cz ?_
        intro h3 h4
        exact tw (ih' ch2)
       ·have at_w:=hCi i hin hit
        have at_x:=hSre i hin
        have hwl:=(hSW i hin).1
        by_cases hx0 : en S i c = 0
        ·have ih':=fun ch=>ihi (i + 1,ch) (by dsimp only;omega) (by dsimp only;omega)
         simp only [hCsame i hin (.inr hx0)] at ih'
         refine wk 14 cz ?_
         intro h3 h4
         refine j_gstep rfl rfl (x_ldR_sl 1 0 (i) rfl rfl rfl ld22 rfl (by omega) fun z1 hz1 pa1 ca1=>?_)
         obtain rfl : _ = z1:=Option.some.inj (at_w.symm.trans hz1)
         refine wk 2 cz ?_
         intro b2 o1 hz2
         refine j_gstep rfl rfl (x_ld_int 0 rfl rfl ld3 fun ⟨r1,r2⟩=>?_)
         refine wk 6 cz ?_
         intro h5
         exact tw (ih' ch2)
        ·have ih':=fun ch=>ihi (i + 1,ch) (by dsimp only;omega) (by dsimp only;omega)
         simp only [hCset i hin hit] at ih'
         have at_p:=hCt i
         have ex : (row0 S i).getD c default = en S i c:=gd_at at_x
         obtain ⟨x0,x1⟩:=hSen i hin
         obtain ⟨⟨g0,g1⟩,-⟩:=O.ng _ x0 x1
         have hneg : 0 ≤ ((nP p m ((row0 S i).getD c default).toNat : Nat) : Int) ∧ ((nP p m ((row0 S i).getD c default).toNat : Nat) : Int) < ((p ^ m : Nat) : Int):=by rw [ex];exact ⟨g0,g1⟩
         have c_codewrightref04_Neg:=fun {nm cm : Nat} {pm : Option Addr} {x : Int}=>S_codewrightref04_Neg (nm:=nm) (cm:=cm) (pm:=pm) (x:=x) K
         have c_codewrightref09_AddTo:=fun {nm cm nu cu nv cv : Nat} {pm pu pv : Option Addr} {a : Int} (a0 : 0 ≤ a) (a1 : a < ((p ^ m : Nat) : Int))=>(S_codewrightref09_AddTo (nm:=nm) (cm:=cm) (pm:=pm) (pu:=pu) (nu:=nu) (cu:=cu) (pv:=pv) (nv:=nv) (cv:=cv) (a:=a) K a0 a1 hprW (hSW i hin)).pubR (by show W * 8 ≤ 140737488355328;omega)
         refine wk 14 cz ?_
         intro h3 h4
         refine j_gstep rfl rfl (x_ldR_sl 1 0 (i) rfl rfl rfl ld22 rfl (by omega) fun z1 hz1 pa1 ca1=>?_)
         obtain rfl : _ = z1:=Option.some.inj (at_w.symm.trans hz1)
         refine wk 2 cz ?_
         intro b2 o1 hz2
         refine j_gstep rfl rfl (x_ld_int 0 rfl rfl ld3 fun ⟨r1,r2⟩=>?_)
         refine wk 5 (ct @c_codewrightref04_Neg (ct @c_codewrightref09_AddTo cz)) ?_
         intro h5 pa2 ca2 pa3 ca3 b3 o2 pa4 ca4 pa5 ca5
         refine j_step rfl (x_stR (vs:=[Value.slice pa5 W ca5]) (z:=axp (liftI (fA p m)) (liftI (fM p (fpo m md))) (↑(nP p m ((row0 S i).getD c default).toNat)) pr (row0 S i)) 1 7 (i) rfl rfl rfl rfl rfl ld22 (Nat.mul_one _).symm (by omega) (fun w A hG=>(rd_of_slF (hG _ (fact_mem (n:=0) rfl)))) fun cs1=>?_)
         refine wk 3 cz ?_
         rw [ex]
         exact tw (ih' cs1)
      ·obtain rfl : i = n:=by omega
       rw [hCn]
       clear ihi hC0 hCn hCt hCi hCsame hCset hCa hCl
       refine wk 9 cz ?_
       intro h3 b2
       refine j_step rfl (x_appR (z:=(↑c : Int)) 1 0 1 rfl rfl rfl rfl rfl sl22 zo22e rfl (fun w A hG=>(rd_int (by first | (simp only [InR];omega) | (simp [InR];done)))) (by omega) _ by22e (by omega) fun r1=>?_)
       refine wk 6 cz ?_
       have ih':=fun ch rp=>ih (c + 1,ch,rp,PV,pv++[c]) (by dsimp only;omega) ⟨by dsimp only;omega,hplen,hpM',by rw [List.length_append,List.length_singleton];omega,by rw [List.length_append,List.length_singleton];exact hE1',by rw [List.length_append,List.length_singleton,List.append_assoc];exact hE2'⟩
       have et : toI (pv++[c]) = toI pv++[(c : Int)]:=by simp [toI]
       simp only [et,List.length_append,List.length_singleton] at ih'
       refine j_toM [true,false,true,true] [0,1,4] (by exact fra rfl) rfl rfl (ih' ch2 r1)
     by_cases h1 : en L k c = 1
     ·have hV : invI p m md (en L k c) = 1:=by
       rw [h1] at hiv v0 v1 ⊢
       have v0' : 0 ≤ invI p m md 1:=v0
       have v1' : invI p m md 1 < ((p ^ m : Nat) : Int):=v1
       have h2 : liftI (fM p (fpo m md)) 1 (invI p m md 1) = 1:=hiv
       rw [O.fi.mc 1 _ (by omega) (by omega) v0' v1',O.fi.m1 _ v0' v1'] at h2
       exact h2
      have hs1 : (swpL L pv.length k).set pv.length (sclL (liftI (fM p (fpo m md))) (invI p m md (en L k c)) (row0 L k)) = (L.set pv.length (row0 L k)).set k (row0 L pv.length):=by
       rw [hV,scl_one O.fi (hLM.row (by omega))]
       obtain ⟨h2,h3⟩:=List.getElem?_eq_some_iff.1 at_v
       refine List.ext_getElem? fun j=>?_
       rw [List.getElem?_set]
       by_cases e : pv.length = j
       ·subst e
        rw [if_pos rfl,if_pos (by rw [hSl];exact hpl),at_v]
       ·rw [if_neg e];rfl
      rw [hs1] at key
      refine wk 8 cz ?_
      intro h3
      refine j_gstep rfl rfl (x_ldR_sl 1 1 (k) rfl rfl rfl ld22 rfl (by omega) fun z1 hz1 pa1 ca1=>?_)
      obtain rfl : _ = z1:=Option.some.inj (at_u.symm.trans hz1)
      refine wk 2 cz ?_
      intro b2 o1 hz2
      refine j_gstep rfl rfl (x_ld_int 0 rfl rfl ld3 fun ⟨r1,r2⟩=>?_)
      refine wk 10 cz ?_
      intro h4 h5
      (apply j_drawKW (x0:=none) it mx 0 13 [2,3] 1;(· rfl);(· rfl);(· rfl);(· decide))
      simp only [List.drop_zero]
      (apply lxk_run 6;(· rfl);(· simp))
      (apply lxk_eq;(· rfl);(· exact d_x fun _=>x_idx_own (k) (k) rfl rfl sl25 rfl (by omega) (Nat.mul_one _) dk_eq))
      (apply lxk_sl;(· rfl);(· exact d_ldR_sl 1 3 (k) rfl rfl rfl ld22 rfl (by assumption));intro pa2 ca2)
      (apply lxk_run 2;(· rfl);(· simp))
      (apply lxk_eq;(· rfl);(· exact d_x fun _=>x_idx_own (pv.length) (pv.length) rfl rfl sl25 rfl (by omega) (Nat.mul_one _) dk_eq))
      (apply lxk_sl;(· rfl);(· exact d_ldR_sl 1 3 (pv.length) rfl rfl rfl ld22 rfl (by assumption));intro pa3 ca3)
      (apply lxk_eq;(· rfl);(· exact d_x fun _=>x_idx_own (pv.length) (pv.length) rfl rfl sl25 rfl (by omega) (Nat.mul_one _) dk_eq))
      refine lxk_endW rfl ?_
      (rotate_left;rfl;rotate_right)
      simp only [List.map_cons,List.map_nil,List.cons_append,List.nil_append]
      refine win_step it rfl rfl ⟨⟨_,_,_,_,rfl,rfl,rfl,rfl,rfl,rfl,(by first | trivial | (repeat' first | exact trivial | apply And.intro | omega))⟩,⟨⟨_,_,_,_,rfl,rfl,rfl,rfl,rfl,rfl,(by first | trivial | (repeat' first | exact trivial | apply And.intro | omega))⟩,trivial⟩⟩ (x_stR (vs:=[Value.slice pa2 (row0 L k).length ca2]) (z:=row0 L k) 1 5 (pv.length) rfl rfl rfl rfl rfl ld22 (Nat.mul_one _).symm (by omega) (fun w A hG=>(rd_of_slF (hG _ (fact_mem (n:=1) rfl)))) fun cs1=>?_)
      refine win_end it ⟨⟨_,_,_,_,rfl,rfl,rfl,rfl,rfl,rfl,(by first | trivial | (repeat' first | exact trivial | apply And.intro | omega))⟩,⟨⟨_,_,_,_,rfl,rfl,rfl,rfl,rfl,rfl,(by first | trivial | (repeat' first | exact trivial | apply And.intro | omega))⟩,trivial⟩⟩ ?_
      refine wk 1 cz ?_
      refine j_step rfl (x_stR (vs:=[Value.slice pa3 (row0 L pv.length).length ca3]) (z:=row0 L pv.length) 1 0 (k) rfl rfl rfl rfl rfl ld22 (Nat.mul_one _).symm (by omega) (fun w A hG=>(rd_of_slF (hG _ (fact_mem (n:=1) rfl)))) fun cs2=>?_)
      refine wk 3 cz ?_
      refine j_step rfl (x_ldR_sl 1 0 (pv.length) rfl rfl rfl ld22 rfl (by omega) fun z1 hz3 pa4 ca4=>?_)
      obtain rfl : _ = z1:=Option.some.inj (at_v.symm.trans hz3)
      refine wk 2 cz ?_
      intro b3 o2 hz4
      refine j_step rfl (x_ld_int 0 rfl rfl ld3 fun ⟨r3,r4⟩=>?_)
      refine wk 3 cz ?_
      intro h6
      refine j_nfn 1 [.c (pL 128159),.blk 1,.c (pL 2003),.lp (pL 500),.blk 0,.c [1,1,1,1,1]] rfl ?_
      exact tw (key cs2)
     ·have c_codewrightref04_Inv:=fun {nm cm : Nat} {pm : Option Addr} {x : Int}=>S_codewrightref04_Inv (nm:=nm) (cm:=cm) (pm:=pm) (x:=x) K
      have c_codewrightref09_scale:=fun {nm cm cu : Nat} {pm pu : Option Addr} {a : Int} (a0 : 0 ≤ a) (a1 : a < ((p ^ m : Nat) : Int))=>(S_codewrightref09_scale (nm:=nm) (cm:=cm) (pm:=pm) (pu:=pu) (nu:=(row0 L k).length) (cu:=cu) (a:=a) (u:=row0 L k) K a0 a1 (hLM.row (by omega)).2).pubR (by show (row0 L k).length * 8 ≤ 140737488355328;omega)
      have hiv2 : 0 ≤ ((iF (p ^ m) (fM p (fpo m md)) ((row0 L k).getD c default).toNat : Nat) : Int) ∧ ((iF (p ^ m) (fM p (fpo m md)) ((row0 L k).getD c default).toNat : Nat) : Int) < ((p ^ m : Nat) : Int):=by rw [ek];exact ⟨v0,v1⟩
      rw [show (swpL L pv.length k).set pv.length (sclL (liftI (fM p (fpo m md))) (invI p m md (en L k c)) (row0 L k)) = ((L.set pv.length (row0 L k)).set k (row0 L pv.length)).set pv.length (sclL (liftI (fM p (fpo m md))) ((iF (p ^ m) (fM p (fpo m md)) (en L k c).toNat : Nat) : Int) (row0 L k)) from rfl] at key
      refine wk 8 cz ?_
      intro h3
      refine j_gstep rfl rfl (x_ldR_sl 1 1 (k) rfl rfl rfl ld22 rfl (by omega) fun z1 hz1 pa1 ca1=>?_)
      obtain rfl : _ = z1:=Option.some.inj (at_u.symm.trans hz1)
      refine wk 2 cz ?_
      intro b2 o1 hz2
      refine j_gstep rfl rfl (x_ld_int 0 rfl rfl ld3 fun ⟨r1,r2⟩=>?_)
      refine wk 10 cz ?_
      intro h4 h5
      (apply j_drawKW (x0:=none) it mx 0 13 [2,3] 1;(· rfl);(· rfl);(· rfl);(· decide))
      simp only [List.drop_zero]
      (apply lxk_run 6;(· rfl);(· simp))
      (apply lxk_eq;(· rfl);(· exact d_x fun _=>x_idx_own (k) (k) rfl rfl sl25 rfl (by omega) (Nat.mul_one _) dk_eq))
      (apply lxk_sl;(· rfl);(· exact d_ldR_sl 1 3 (k) rfl rfl rfl ld22 rfl (by assumption));intro pa2 ca2)
      (apply lxk_run 2;(· rfl);(· simp))
      (apply lxk_eq;(· rfl);(· exact d_x fun _=>x_idx_own (pv.length) (pv.length) rfl rfl sl25 rfl (by omega) (Nat.mul_one _) dk_eq))
      (apply lxk_sl;(· rfl);(· exact d_ldR_sl 1 3 (pv.length) rfl rfl rfl ld22 rfl (by assumption));intro pa3 ca3)
      (apply lxk_eq;(· rfl);(· exact d_x fun _=>x_idx_own (pv.length) (pv.length) rfl rfl sl25 rfl (by omega) (Nat.mul_one _) dk_eq))
      refine lxk_endW rfl ?_
      (rotate_left;rfl;rotate_right)
      simp only [List.map_cons,List.map_nil,List.cons_append,List.nil_append]
      refine win_step it rfl rfl ⟨⟨_,_,_,_,rfl,rfl,rfl,rfl,rfl,rfl,(by first | trivial | (repeat' first | exact trivial | apply And.intro | omega))⟩,⟨⟨_,_,_,_,rfl,rfl,rfl,rfl,rfl,rfl,(by first | trivial | (repeat' first | exact trivial | apply And.intro | omega))⟩,trivial⟩⟩ (x_stR (vs:=[Value.slice pa2 (row0 L k).length ca2]) (z:=row0 L k) 1 5 (pv.length) rfl rfl rfl rfl rfl ld22 (Nat.mul_one _).symm (by omega) (fun w A hG=>(rd_of_slF (hG _ (fact_mem (n:=1) rfl)))) fun cs1=>?_)
      refine win_end it ⟨⟨_,_,_,_,rfl,rfl,rfl,rfl,rfl,rfl,(by first | trivial | (repeat' first | exact trivial | apply And.intro | omega))⟩,⟨⟨_,_,_,_,rfl,rfl,rfl,rfl,rfl,rfl,(by first | trivial | (repeat' first | exact trivial | apply And.intro | omega))⟩,trivial⟩⟩ ?_
      refine wk 1 cz ?_
      refine j_step rfl (x_stR (vs:=[Value.slice pa3 (row0 L pv.length).length ca3]) (z:=row0 L pv.length) 1 0 (k) rfl rfl rfl rfl rfl ld22 (Nat.mul_one _).symm (by omega) (fun w A hG=>(rd_of_slF (hG _ (fact_mem (n:=1) rfl)))) fun cs2=>?_)
      refine wk 3 cz ?_
      refine j_step rfl (x_ldR_sl 1 0 (pv.length) rfl rfl rfl ld22 rfl (by omega) fun z1 hz3 pa4 ca4=>?_)
      obtain rfl : _ = z1:=Option.some.inj (at_v.symm.trans hz3)
      refine wk 2 cz ?_
      intro b3 o2 hz4
      refine j_step rfl (x_ld_int 0 rfl rfl ld3 fun ⟨r3,r4⟩=>?_)
      refine wk 5 (ct @c_codewrightref04_Inv (ct @c_codewrightref09_scale cz)) ?_
      intro h6 pa5 ca5 b4 o3 pa6 ca6 pa7 ca7
      refine j_step rfl (x_stR (vs:=[Value.slice pa7 (row0 L k).length ca7]) (z:=sclL (liftI (fM p (fpo m md))) (↑(iF (p ^ m) (fM p (fpo m md)) ((row0 L k).getD c default).toNat)) (row0 L k)) 1 6 (pv.length) rfl rfl rfl rfl rfl ld22 (Nat.mul_one _).symm (by omega) (fun w A hG=>(rd_of_slF (hG _ (fact_mem (n:=0) rfl)))) fun cs3=>?_)
      refine j_nfn 1 [.c (pL 128159),.blk 1,.c (pL 2003),.lp (pL 500),.blk 0,.c [1,1,1,1,1]] rfl ?_
      rw [ek]
      exact tw (key cs3)
   ·clear ihk
    obtain rfl : n = k:=by omega
    have hf : findP L pv.length c = none:=findP_no fun j h1 h2=>hk3 j h1 (by omega)
    rw [elP,show N - c = (N - (c + 1)) + 1 by omega,elimL,hf] at hE1 hE2
    refine wk 18 cz ?_
    intro h3 h4
    exact tw (ih (c + 1,ch,rp,L,pv) (by dsimp only;omega) ⟨by dsimp only;omega,hL,hLM,hpv,hE1,hE2⟩)
  ·rw [elP,elim_full _ _ _ _ (by omega)] at hE1 hE2
   rw [List.append_nil] at hE2
   obtain ⟨E1,E2⟩:=EE
   obtain rfl : L = E1:=hE1
   obtain rfl : pv = E2:=hE2
   clear ih
   refine j_pubR 0 0 rfl rfl (by show pv.length * 8 ≤ 140737488355328;omega) ?_
   refine j_pubR 0 2 rfl rfl (by show n * 24 ≤ 140737488355328;omega) ?_
   refine wk 14 cz ?_
   intro h1 h2
   refine j_giv [0,1] rfl rfl rfl ⟨_,_,_,_,rfl,rfl,rfl⟩
 ·obtain rfl : c = N:=by omega
  rw [Nat.sub_self,elP,elimL] at hE1 hE2
  rw [List.append_nil] at hE2
  obtain ⟨E1,E2⟩:=EE
  obtain rfl : L = E1:=hE1
  obtain rfl : pv = E2:=hE2
  clear ih
  refine j_pubR 0 0 rfl rfl (by show pv.length * 8 ≤ 140737488355328;omega) ?_
  refine j_pubR 0 2 rfl rfl (by show n * 24 ≤ 140737488355328;omega) ?_
  refine wk 12 cz ?_
  intro h1
  refine j_giv [0,1] rfl rfl rfl ⟨_,_,_,_,rfl,rfl,rfl⟩
theorem S_codewrightref09_Canon {p m n N nm cm c : Nat} {pm ps : Option Addr} {rows : List (List Int)} {md : List Int} (K : Fok p m md) (hn : n ≤ 1000000) (hN : N ≤ 1000000) (hl : rows.length = n) (hM : Mat (p ^ m) N rows) :
  Ctr Tryz.prog 97 [.agg #[.int .i64 p,.int .i64 m,.slice pm nm cm],.slice ps n c,.int .i64 N] [] [slF I64 pm nm cm md,slF (encSl I64) ps n c rows] (CnR (cnP p m md N rows)):=by
 refine Ctr_of_j' (F:=F_codewrightref09_Canon) rfl fun C=>?_
 have c_codewrightref09_Eliminate:=fun {nm cm c : Nat} {pm ps : Option Addr}=>S_codewrightref09_Eliminate (nm:=nm) (cm:=cm) (pm:=pm) (ps:=ps) (c:=c) K hn (Nat.le_refl N) hN hl hM
 have hEk : (elP p m md N 0 0 rows).2.length ≤ n:=by
  have:=elim_le (A:=liftI (fA p m)) (M:=liftI (fM p (fpo m md))) (N:=negI p m) (V:=invI p m md) N 0 0 rows (Nat.zero_le _)
  rw [Nat.zero_add,hl] at this;exact this
 show J _ _ _ _ _ _ (Gives C (CnR ((elP p m md N 0 0 rows).1.take (elP p m md N 0 0 rows).2.length,(elP p m md N 0 0 rows).2)))
 generalize elP p m md N 0 0 rows = E at *
 refine wk 11 (ct @c_codewrightref09_Eliminate cz) ?_
 intro b1 pb1 pp1 cb1 cp1
 refine j_step rfl (x_slice_h 0 (E.snd.length) rfl rfl rfl sl25 (by omega) (by omega) ?_)
 refine wk 2 cz ?_
 refine j_giv [0,2] rfl rfl rfl ⟨_,_,_,_,rfl,rfl,rfl⟩
theorem S_codewrightref09_Turn {n c N W : Nat} {ps : Option Addr} {rows : List (List Int)} (hN : N ≤ 1000000) (hNW : N ≤ W) (hM : ∀ r ∈ rows,r.length = W) :
  Ctr Tryz.prog 121 [.slice ps n c,.int .i64 N] [] [slF (encSl I64) ps n c rows]
   (fun v Φ β=>∃ (pb : Option Addr) (cb : Nat),v = .slice pb N cb ∧ Φ = [slF (encSl I64) pb N cb (trL N rows)] ∧ β = []):=by
 refine Ctr_of_j' (F:=F_codewrightref09_Turn) rfl fun C=>?_
 refine j_len 0 rfl fun hn hb _=>?_
 subst hn
 have hb' : rows.length * 24 ≤ 140737488355328:=hb
 have htl : ∀ k,(trL k rows).length = k:=fun k=>by simp [trL]
 have hts : ∀ k,trL (k + 1) rows = trL k rows++[colL rows k]:=fun k=>by rw [trL,trL,List.range_succ,List.map_append];rfl
 refine wk 7 cz ?_
 refine j_row0 (encSl I64) 22 ?_
 refine j_loopG (X:=Nat × Row) [0,1,4] [0,1] (fun x=>[(6,.int .i64 (x.1 : Int)),(5,.slice (ad x.2.bo) x.1 x.2.cap)]) (fun x=>[(x.2.bo,22,x.2.cs)]) (fun x=>[rowF (encSl I64) x.2 x.1 (trL x.1 rows)]) (fun x=>x.1 ≤ N) (fun x=>N - x.1) (0,⟨none,0,[]⟩) [0] rfl rfl rfl (Nat.zero_le _) (by repeat (first | exact Fr.sub_nil _ | refine Fr.sub_cons rfl ?_)) rfl rfl ?_
 rintro ⟨k,r⟩ hk ih
 simp only [List.cons_append,List.nil_append] at hk ih ⊢
 by_cases hkn : k < N
 ·have ih':=fun r=>ih (k + 1,r) (by dsimp only;omega) (by dsimp only;omega)
  simp only [hts] at ih'
  clear ih
  refine wk 9 cz ?_
  intro h1
  refine j_row0 I64 3 ?_
  refine j_loopG (X:=Nat × Row) [0,1,4,5,6,9,10,11] [0,1,2,3] (fun x=>[(8,.int .i64 (x.1 : Int)),(7,.slice (ad x.2.bo) x.1 x.2.cap)]) (fun x=>(x.2.bo,3,x.2.cs)::_) (fun x=>[rowF I64 x.2 x.1 ((rows.take x.1).map fun r=>at0 r k)]) (fun x=>x.1 ≤ rows.length) (fun x=>rows.length - x.1) (0,⟨none,0,[]⟩) [0] rfl rfl rfl (Nat.zero_le _) (by repeat (first | exact Fr.sub_nil _ | refine Fr.sub_cons rfl ?_)) rfl rfl ?_
  rintro ⟨i,r2⟩ hi ihi
  simp only [List.cons_append,List.nil_append] at hi ihi ⊢
  by_cases hin : i < rows.length
  ·obtain ⟨u,at_u⟩ : ∃ u,rows[i]? = some u:=⟨_,List.getElem?_eq_getElem hin⟩
   have hul:=hM u (List.mem_of_getElem? at_u)
   have at_y : u[k]? = some (at0 u k):=by
    rw [at0,List.getD_eq_getElem?_getD,List.getElem?_eq_getElem (by omega)];rfl
   have ih2:=fun r=>ihi (i + 1,r) (by dsimp only;omega) (by dsimp only;omega)
   simp only [List.take_add_one,at_u,Option.toList_some,List.map_append,List.map_cons,List.map_nil] at ih2
   refine wk 12 cz ?_
   intro h2 b1 o1 hz1 pa1 ca1 b2 o2 hz2
   refine j_step rfl (x_ld_int 0 rfl rfl ld3 fun ⟨r1,r3⟩=>?_)
   refine wk 1 cz ?_
   intro b3
   refine j_step rfl (x_appR (z:=(at0 u k : Int)) 1 0 3 rfl rfl rfl rfl rfl sl22 zo22e rfl (fun w A hG=>(rd_int (by first | (simp only [InR];omega) | (simp [InR];done)))) (by omega) _ by22e (by omega) fun r4=>?_)
   refine wk 4 cz ?_
   refine j_toM [true,false,true] [0,5,6,7,8] (by exact fra rfl) rfl rfl (ih2 r4)
  ·obtain rfl : i = rows.length:=by omega
   rw [List.take_length]
   clear ihi
   refine wk 9 cz ?_
   intro h2 b1
   refine j_pubR 1 0 rfl rfl (by show (rows.length) * 8 ≤ 140737488355328;omega) ?_
   refine j_step rfl (x_appR (z:=List.map (fun r=>at0 r k) rows) 1 0 3 rfl rfl rfl rfl rfl sl25 zo25e rfl (fun w A hG=>(rd_of_slF (hG _ (fact_mem (n:=0) rfl)))) (by omega) _ by25e (by omega) fun r1=>?_)
   refine wk 4 cz ?_
   refine j_toM [true,false] [0,5,6] (by exact fra rfl) rfl rfl (ih' r1)
 ·obtain rfl : k = N:=by omega
  refine j_pubR 0 0 rfl rfl (by show k * 24 ≤ 140737488355328;omega) ?_
  refine wk 7 cz ?_
  intro h1
  refine j_giv [0] rfl rfl rfl ⟨_,_,rfl,rfl,rfl⟩
theorem S_codewrightref09_Combine {p m nm cm nx cx n c N : Nat} {pm px ps : Option Addr} {x md : List Int} {rows : List (List Int)} (K : Fok p m md) (hN : N ≤ 1000000) (hM : Mat (p ^ m) N rows) (hx : Wd (p ^ m) rows.length x) :
  Ctr Tryz.prog 42 [.agg #[.int .i64 p,.int .i64 m,.slice pm nm cm],.slice px nx cx,.slice ps n c,.int .i64 N] [] [slF I64 pm nm cm md,slF I64 px nx cx x,slF (encSl I64) ps n c rows]
   (fun v Φ β=>∃ (pb : Option Addr) (cb : Nat),v = .slice pb N cb ∧ Φ = [slF I64 pb N cb (cbP p m md N x rows)] ∧ β = []):=by
 refine Ctr_of_j' (F:=F_codewrightref09_Combine) rfl fun C=>?_
 have O:=fok_fo K
 have hq:=K.q
 refine j_len 1 rfl fun hn hb _=>?_
 subst hn
 refine j_len 2 rfl fun hn hb2 _=>?_
 subst hn
 have hb' : x.length * 8 ≤ 140737488355328:=hb
 have hb2' : rows.length * 24 ≤ 140737488355328:=hb2
 have hxl:=hx.1
 have c_codewrightref09_AddTo:=fun {nm cm nu cu nv cv : Nat} {pm pu pv : Option Addr} {a : Int} {u v : List Int} (a0 : 0 ≤ a) (a1 : a < ((p ^ m : Nat) : Int)) (hu : Wd (p ^ m) N u) (hv : Wd (p ^ m) N v)=>(S_codewrightref09_AddTo (nm:=nm) (cm:=cm) (pm:=pm) (pu:=pu) (nu:=nu) (cu:=cu) (pv:=pv) (nv:=nv) (cv:=cv) (a:=a) (u:=u) (v:=v) K a0 a1 hu hv).pubR (by show N * 8 ≤ 140737488355328;omega)
 refine wk 10 cz ?_
 intro b1 b2
 have hz:=O.wz N
 rw [show natCells .i64 (List.replicate N 0) = intCells .i64 (zW N) by simp [natCells,intCells,zW]]
 refine j_pub_madei (kd:=.i64) (n:=N) 8 (zW N) 0 rfl hz.1.symm (fun y hy=>by have:=hz.2 y hy;simp only [InR];omega) (by omega) (by omega) ?_
 refine j_loopG (X:=Nat × Option Addr × Nat × List Int) [1,2,4,8] [0,1,2,3] (fun i=>[(10,.int .i64 (i.1 : Int)),(9,.slice i.2.1 N i.2.2.1)]) (fun _=>_) (fun i=>[slF I64 i.2.1 N i.2.2.1 i.2.2.2]) (fun i=>i.1 ≤ x.length ∧ Wd (p ^ m) N i.2.2.2 ∧ cmbF (liftI (fA p m)) (liftI (fM p (fpo m md))) (x.drop i.1) (rows.drop i.1) i.2.2.2 = cbP p m md N x rows) (fun i=>x.length - i.1) (0,some ⟨b2,0,none⟩,N,zW N) [0] rfl rfl rfl ⟨Nat.zero_le _,hz,rfl⟩ (by repeat (first | exact Fr.sub_nil _ | refine Fr.sub_cons rfl ?_)) rfl rfl ?_
 rintro ⟨i,pa,ca,u⟩ ⟨hi,hu,he⟩ ih
 simp only [List.cons_append,List.nil_append] at hi hu he ih ⊢
 by_cases h9 : i < x.length
 ·obtain ⟨a,at_a⟩ : ∃ a,x[i]? = some a:=⟨_,List.getElem?_eq_getElem h9⟩
  obtain ⟨v,at_v⟩ : ∃ v,rows[i]? = some v:=⟨_,List.getElem?_eq_getElem (by omega)⟩
  obtain ⟨a0,a1⟩:=hx.2 a (List.mem_of_getElem? at_a)
  have hv:=hM v (List.mem_of_getElem? at_v)
  have ea:=gd_at at_a
  have ev:=gd_at at_v
  rw [cmbF_drop at_a at_v] at he
  by_cases ha : a = 0
  ·rw [if_pos ha] at he
   refine wk 14 cz ?_
   intro h1 h2 b3 o1 hz1
   refine j_step rfl (x_ld_int 0 rfl rfl ld3 fun ⟨r1,r2⟩=>?_)
   refine wk 6 cz ?_
   intro h3
   exact tw (ih (i + 1,pa,ca,u) (by dsimp only;omega) ⟨by dsimp only;omega,hu,he⟩)
  ·rw [if_neg ha] at he
   rw [← ea,← ev] at he
   rw [← ev] at hv
   have hw:=O.fi.axw a0 a1 hv hu
   rw [← ea] at hw
   refine wk 14 cz ?_
   intro h1 h2 b3 o1 hz1
   refine j_step rfl (x_ld_int 0 rfl rfl ld3 fun ⟨r1,r2⟩=>?_)
   refine wk 8 (ct @c_codewrightref09_AddTo cz) ?_
   intro h3 b4 o2 b5 o3 pa1 ca1 pa2 ca2
   exact tw (ih (i + 1,pa2,ca2,axp (liftI (fA p m)) (liftI (fM p (fpo m md))) (x.getD i default) (rows.getD i default) u) (by dsimp only;omega) ⟨by dsimp only;omega,hw,he⟩)
 ·rw [cmbF_end (by omega)] at he
  subst he
  refine wk 12 cz ?_
  intro h1
  refine j_giv [0] rfl rfl rfl ⟨_,_,rfl,rfl,rfl⟩
open Classical in
noncomputable def sfE (P M : Int) (md : List Int) (N : Int) (rows : List (List Int)) : Int:=if ¬ chkF P M md then 1 else spE P.toNat M.toNat md N rows
theorem S_codewrightref10_Check {P M N e : Int} {nm cm n c : Nat} {pm ps : Option Addr} {md : List Int} {rows : List (List Int)} (hN : InR .i64 N) (he : sfE P M md N rows = e) :
  Ctr Tryz.prog 63 [.agg #[.int .i64 P,.int .i64 M,.slice pm nm cm],.agg #[.int .i64 N,.slice ps n c]] [] [slF I64 pm nm cm md,slF (encSl I64) ps n c rows] (Rv (.int .i64 e) []):=by
 refine Ctr_of_j' (F:=F_codewrightref10_Check) rfl fun C=>?_
 refine j_len 1 rfl fun hn hb _=>?_
 subst hn
 have hb' : rows.length * 24 ≤ 140737488355328:=hb
 have c_codewrightref09_Check:=fun {nm cm n c : Nat} {pm ps : Option Addr}=>S_codewrightref09_Check (P:=P) (M:=M) (N:=N) (md:=md) (rows:=rows) (nm:=nm) (cm:=cm) (n:=n) (c:=c) (pm:=pm) (ps:=ps) hN rfl
 rw [sfE] at he
 by_cases hc : chkF P M md
 ·rw [if_neg (fun h=>h hc)] at he
  have hk : mkE P M md N rows = mtE N rows (P.toNat ^ M.toNat):=by rw [mkE,if_neg (fun h=>h hc)]
  rw [hk] at c_codewrightref09_Check
  obtain ⟨p,m,rfl,rfl,K⟩:=chk_ok hc
  rw [Int.toNat_natCast,Int.toNat_natCast] at he c_codewrightref09_Check
  have hr:=mtE_rng N rows (p ^ m)
  rw [spE] at he
  by_cases h0 : mtE N rows (p ^ m) = 0
  ·rw [if_neg (by omega)] at he
   rw [h0] at c_codewrightref09_Check
   obtain ⟨k,rfl,hk,hl,hM⟩:=mtE_of h0
   rw [Int.toNat_natCast] at he
   have c_codewrightref09_Canon:=fun {nm cm c : Nat} {pm ps : Option Addr}=>S_codewrightref09_Canon (nm:=nm) (cm:=cm) (pm:=pm) (ps:=ps) (c:=c) (n:=rows.length) K (by omega) (show k ≤ 1000000 by omega) rfl hM
   by_cases hcn : (cnP p m md k rows).1 = rows
   ·rw [if_pos hcn] at he
    subst he
    have hd : decide ((cnP p m md k rows).1 = rows) = true:=decide_eq_true hcn
    refine wk 32 (ct @c_codewrightref09_Check (ct @c_codewrightref09_Canon (ct @S_codewrightref09_SameRows cz))) ?_
    intro b1 b2 h1 pb1 pp1 cb1 cp1
    exact ge
   ·rw [if_neg hcn] at he
    subst he
    have hd : decide ((cnP p m md k rows).1 = rows) = false:=decide_eq_false hcn
    refine wk 32 (ct @c_codewrightref09_Check (ct @c_codewrightref09_Canon (ct @S_codewrightref09_SameRows cz))) ?_
    intro b1 b2 h1 pb1 pp1 cb1 cp1
    exact ge
  ·rw [if_pos h0] at he
   subst he
   refine wk 16 (ct @c_codewrightref09_Check cz) ?_
   intro b1 b2 h1
   exact ge
 ·rw [if_pos hc] at he
  subst he
  have hk : mkE P M md N rows = 1:=by rw [mkE,if_pos hc]
  rw [hk] at c_codewrightref09_Check
  refine wk 16 (ct @c_codewrightref09_Check cz) ?_
  intro b1 b2 h1
  exact ge
theorem S_codewrightref12_Check {P M N e : Int} {pm ps : Option Addr} {nm cm n c : Nat} {md : List Int} {rows : List (List Int)} (hN : InR .i64 N) (h : ckE P M md N rows = e) :
  Ctr Tryz.prog 30 [.agg #[.int .i64 P,.int .i64 M,.slice pm nm cm,.int .i64 N,.slice ps n c]] [] [slF I64 pm nm cm md,slF (encSl I64) ps n c rows] (Rv (.int .i64 e) []):=by
 refine Ctr_of_j' (F:=F_codewrightref12_Check) rfl fun C=>?_
 rw [ckE] at h
 by_cases hc : chkF P M md
 ·rw [if_neg (fun h=>h hc)] at h
  have c_codewrightref04_Check:=fun {pm : Option Addr} {nm cm : Nat}=>S_codewrightref04_Check (P:=P) (M:=M) (md:=md) (pm:=pm) (nm:=nm) (cm:=cm) (if_pos hc).symm
  have hs : sfE P M md N rows = spE P.toNat M.toNat md N rows:=by rw [sfE,if_neg (fun h=>h hc)]
  by_cases h1 : N < 1
  ·rw [if_pos (.inl h1)] at h
   subst h
   refine wk 24 (ct @c_codewrightref04_Check cz) ?_
   intro b1 h2 h3
   exact ge
  ·by_cases h2 : 64 < N
   ·rw [if_pos (.inr h2)] at h
    subst h
    refine wk 26 (ct @c_codewrightref04_Check cz) ?_
    intro b1 h3 h4 h5
    exact ge
   ·rw [if_neg (by omega),← hs] at h
    have c_codewrightref10_Check:=fun {nm cm n c : Nat} {pm ps : Option Addr}=>S_codewrightref10_Check (nm:=nm) (cm:=cm) (n:=n) (c:=c) (pm:=pm) (ps:=ps) hN h
    refine wk 34 (ct @c_codewrightref04_Check (ct @c_codewrightref10_Check cz)) ?_
    intro b1 h3 h4 h5
    exact ge
 ·rw [if_pos hc] at h
  subst h
  have c_codewrightref04_Check:=fun {pm : Option Addr} {nm cm : Nat}=>S_codewrightref04_Check (P:=P) (M:=M) (md:=md) (pm:=pm) (nm:=nm) (cm:=cm) (if_neg hc).symm
  refine wk 15 (ct @c_codewrightref04_Check cz) ?_
  intro b1 h1
  exact ge
theorem S_codewrightref53_In {ps : Option Addr} {n c : Nat} {x : Int} {l : List Int} {res : Bool} (hr : decide (x ∈ l) = res) : Ctr Tryz.prog 86 [.slice ps n c,.int .i64 x] [] [slF I64 ps n c l] (Rv (.bool res) []):=by
 refine Ctr_of_j' (F:=F_codewrightref53_In) rfl fun C=>?_
 subst hr
 refine j_len 0 rfl fun hn hb _=>?_
 subst hn
 have hb' : l.length * 8 ≤ 140737488355328:=hb
 refine wk 5 cz ?_
 refine j_loopG (X:=Nat) [0,1] [0] (fun i=>[(5,.int .i64 (i : Int))]) (fun _=>[]) (fun _=>[]) (fun i=>i ≤ l.length ∧ ∀ y ∈ l.take i,x ≠ y) (fun i=>l.length - i) 0 [] rfl rfl rfl ⟨Nat.zero_le _,fun j h=>by simp at h⟩ (by repeat (first | exact Fr.sub_nil _ | refine Fr.sub_cons rfl ?_)) rfl rfl ?_
 rintro i ⟨hi,hno⟩ ih
 simp only [List.cons_append,List.nil_append] at hi ih ⊢
 by_cases h9 : i < l.length
 ·obtain ⟨y,at_y⟩ : ∃ y,l[i]? = some y:=⟨_,List.getElem?_eq_getElem h9⟩
  by_cases h8 : y = x
  ·subst h8
   rw [decide_eq_true (List.mem_of_getElem? at_y)]
   refine wk 9 cz ?_
   intro h1 b1 o1 hz1
   refine j_step rfl (x_ld_int 0 rfl rfl ld3 fun ⟨r1,r2⟩=>?_)
   refine wk 6 cz ?_
   intro h2
   exact ge
  ·refine wk 9 cz ?_
   intro h1 b1 o1 hz1
   refine j_step rfl (x_ld_int 0 rfl rfl ld3 fun ⟨r1,r2⟩=>?_)
   refine wk 6 cz ?_
   intro h2
   exact tw (ih (i + 1) (by omega) ⟨by omega,tk_all at_y hno fun e=>h8 e.symm⟩)
 ·rw [decide_eq_false fun hm=>hno x (by rwa [List.take_of_length_le (by omega)]) rfl]
  refine wk 9 cz ?_
  intro h1
  exact ge
section
variable {q : Nat} {A M : Int → Int → Int} {N V : Int → Int} (O : FO q A M N V)
include O
end
open Go Go.Fw
set_option maxRecDepth 100000
set_option linter.unusedVariables false
set_option linter.unusedSimpArgs false
set_option maxHeartbeats 0
theorem dot_snoc {q : Nat} {A M : Int → Int → Int} (F : FI q A M) : ∀ {n : Nat} {u v : List Int} {x y : Int},Wd q n u → Wd q n v → 0 ≤ x → x < q → 0 ≤ y → y < q → dotL A M (u++[x]) (v++[y]) = A (dotL A M u v) (M x y)
 | 0,u,v,x,y,hu,hv,x0,x1,y0,y1=>by
  rw [List.length_eq_zero_iff.1 hu.1,List.length_eq_zero_iff.1 hv.1]
  obtain ⟨m0,m1⟩:=F.ml x y x0 x1 y0 y1
  show A (M x y) 0 = A 0 (M x y)
  exact F.ac _ _ m0 m1 (Int.le_refl 0) F.z
 | n + 1,[],_,_,_,h,_,_,_,_,_=>by have:=h.1;simp at this
 | n + 1,_::_,[],_,_,_,h,_,_,_,_=>by have:=h.1;simp at this
 | n + 1,a::u,b::v,x,y,hu,hv,x0,x1,y0,y1=>by
  obtain ⟨a0,a1⟩:=hu.2 a (.head _)
  obtain ⟨b0,b1⟩:=hv.2 b (.head _)
  have hu' : Wd q n u:=⟨by simpa using hu.1,fun z hz=>hu.2 z (.tail _ hz)⟩
  have hv' : Wd q n v:=⟨by simpa using hv.1,fun z hz=>hv.2 z (.tail _ hz)⟩
  obtain ⟨m0,m1⟩:=F.ml a b a0 a1 b0 b1
  obtain ⟨k0,k1⟩:=F.ml x y x0 x1 y0 y1
  obtain ⟨d0,d1⟩:=F.dlt hu' hv'
  show A (M a b) (dotL A M (u++[x]) (v++[y])) = A (A (M a b) (dotL A M u v)) (M x y)
  rw [dot_snoc F hu' hv' x0 x1 y0 y1,F.aa _ _ _ m0 m1 d0 d1 k0 k1]
abbrev piL (w hs : List Int) : List Int:=hs.map fun j=>at0 w j.toNat
theorem S_codewrightref09_Pick {q N nw cw nh ch : Nat} {pw ph : Option Addr} {w hs : List Int} (hq : q ≤ 256) (h0 : 0 < q) (hw : Wd q N w) (hN : N ≤ 1000000) (hl : hs.length ≤ 1000000) (hst : ∀ x ∈ hs,0 ≤ x ∧ x < (N : Int)) :
  Ctr Tryz.prog 85 [.slice pw nw cw,.slice ph nh ch] [] [slF I64 pw nw cw w,slF I64 ph nh ch hs] (fun v Φ β=>∃ (pb : Option Addr) (cb : Nat),v = .slice pb hs.length cb ∧ Φ = [slF I64 pb hs.length cb (piL w hs)] ∧ β = []):=by
 refine Ctr_of_j' (F:=F_codewrightref09_Pick) rfl fun C=>?_
 refine j_len 0 rfl fun hn hb _=>?_
 subst hn
 refine j_len 1 rfl fun hn hb2 _=>?_
 subst hn
 have hwl:=hw.1
 have hTl : (piL w hs).length = hs.length:=List.length_map _
 have hTr : ∀ z ∈ piL w hs,InR .i64 z:=fun z hz=>by
  obtain ⟨j,_,rfl⟩:=List.mem_map.1 hz
  have:=wd_at h0 hw j.toNat
  simp only [InR];omega
 refine wk 10 cz ?_
 intro b1
 rw [show natCells .i64 (List.replicate hs.length 0) = intCells .i64 ((piL w hs).take 0++List.replicate (hs.length - 0) 0) by simp [natCells,intCells]]
 refine j_loopG (X:=Nat) [0,1,4,5] [0,1] (fun k=>[(6,.int .i64 (k : Int))]) (fun k=>(some b1,3,intCells .i64 ((piL w hs).take k++List.replicate (hs.length - k) 0))::_) (fun _=>[]) (fun k=>k ≤ hs.length) (fun k=>hs.length - k) 0 [] rfl rfl rfl (Nat.zero_le _) (by repeat (first | exact Fr.sub_nil _ | refine Fr.sub_cons rfl ?_)) rfl rfl ?_
 rintro k hk ihk
 simp only [List.cons_append,List.nil_append] at hk ihk ⊢
 by_cases h8 : k < hs.length
 ·obtain ⟨x,at_x⟩ : ∃ x,hs[k]? = some x:=⟨_,List.getElem?_eq_getElem h8⟩
  obtain ⟨x0,x1⟩:=hst x (List.mem_of_getElem? at_x)
  have hT : (piL w hs)[k]? = some (at0 w x.toNat):=by rw [piL,List.getElem?_map,at_x];rfl
  obtain ⟨x,rfl⟩:=Int.eq_ofNat_of_zero_le x0
  rw [Int.toNat_natCast] at hT
  have at_y : w[x]? = some (at0 w x):=by
   rw [at0,List.getD_eq_getElem?_getD,List.getElem?_eq_getElem (by omega)];rfl
  have ih':=ihk (k + 1) (by omega) (by omega)
  rw [← take_set hT h8] at ih'
  have hln : ((piL w hs).take k++List.replicate (hs.length - k) 0).length = hs.length:=by rw [List.length_append,List.length_take,List.length_replicate];omega
  generalize (piL w hs).take k++List.replicate (hs.length - k) 0 = L at *
  refine wk 9 cz ?_
  intro h1 b2 o1 hz1
  refine j_step rfl (x_ld_int 0 rfl rfl ld3 fun ⟨r1,r2⟩=>?_)
  refine wk 1 cz ?_
  intro b3 o2 hz2
  refine j_step rfl (x_ld_int 0 rfl rfl ld3 fun ⟨r3,r4⟩=>?_)
  refine wk 5 cz ?_
  exact tw (ih')
 ·obtain rfl : k = hs.length:=by omega
  rw [Nat.sub_self,List.replicate_zero,List.append_nil,List.take_of_length_le (by omega)]
  clear ihk
  refine wk 9 cz ?_
  intro h1
  refine j_rowInt 0 rfl hTl.symm hTr (by omega) ?_
  refine j_pubR 0 0 rfl rfl (by show hs.length * 8 ≤ 140737488355328;omega) ?_
  simp only [List.eraseIdx_cons_zero,List.eraseIdx_cons_succ]
  refine j_giv [0] rfl rfl rfl ⟨_,_,rfl,rfl,rfl⟩
theorem S_codewrightref26_in {ps : Option Addr} {n c : Nat} {x : Int} {l : List Int} {res : Bool} (hr : decide (x ∈ l) = res) : Ctr Tryz.prog 175 [.slice ps n c,.int .i64 x] [] [slF I64 ps n c l] (Rv (.bool res) []):=by
 refine Ctr_of_j' (F:=F_codewrightref26_in) rfl fun C=>?_
 subst hr
 refine j_len 0 rfl fun hn hb _=>?_
 subst hn
 have hb' : l.length * 8 ≤ 140737488355328:=hb
 refine wk 5 cz ?_
 refine j_loopG (X:=Nat) [0,1] [0] (fun i=>[(5,.int .i64 (i : Int))]) (fun _=>[]) (fun _=>[]) (fun i=>i ≤ l.length ∧ ∀ y ∈ l.take i,x ≠ y) (fun i=>l.length - i) 0 [] rfl rfl rfl ⟨Nat.zero_le _,fun j h=>by simp at h⟩ (by repeat (first | exact Fr.sub_nil _ | refine Fr.sub_cons rfl ?_)) rfl rfl ?_
 rintro i ⟨hi,hno⟩ ih
 simp only [List.cons_append,List.nil_append] at hi ih ⊢
 by_cases h9 : i < l.length
 ·obtain ⟨y,at_y⟩ : ∃ y,l[i]? = some y:=⟨_,List.getElem?_eq_getElem h9⟩
  by_cases h8 : y = x
  ·subst h8
   rw [decide_eq_true (List.mem_of_getElem? at_y)]
   refine wk 9 cz ?_
   intro h1 b1 o1 hz1
   refine j_step rfl (x_ld_int 0 rfl rfl ld3 fun ⟨r1,r2⟩=>?_)
   refine wk 6 cz ?_
   intro h2
   exact ge
  ·refine wk 9 cz ?_
   intro h1 b1 o1 hz1
   refine j_step rfl (x_ld_int 0 rfl rfl ld3 fun ⟨r1,r2⟩=>?_)
   refine wk 6 cz ?_
   intro h2
   exact tw (ih (i + 1) (by omega) ⟨by omega,tk_all at_y hno fun e=>h8 e.symm⟩)
 ·rw [decide_eq_false fun hm=>hno x (by rwa [List.take_of_length_le (by omega)]) rfl]
  refine wk 9 cz ?_
  intro h1
  exact ge
theorem S_codewrightref10_Rising {ps : Option Addr} {nn c : Nat} {n : Int} {l : List Int} {res : Bool} (hr : decide (stP n l) = res) : Ctr Tryz.prog 174 [.slice ps nn c,.int .i64 n] [] [slF I64 ps nn c l] (Rv (.bool res) []):=by
 refine Ctr_of_j' (F:=F_codewrightref10_Rising) rfl fun C=>?_
 subst hr
 refine j_len 0 rfl fun hn hb _=>?_
 subst hn
 have hb' : l.length * 8 ≤ 140737488355328:=hb
 refine wk 5 cz ?_
 refine j_loopG (X:=Nat) [0,1] [0] (fun i=>[(5,.int .i64 (i : Int))]) (fun _=>[]) (fun _=>[]) (fun i=>i ≤ l.length ∧ ∀ j,j < i → stA n l j) (fun i=>l.length - i) 0 [] rfl rfl rfl ⟨Nat.zero_le _,fun j h=>by omega⟩ (by repeat (first | exact Fr.sub_nil _ | refine Fr.sub_cons rfl ?_)) rfl rfl ?_
 rintro i ⟨hi,hno⟩ ih
 simp only [List.cons_append,List.nil_append] at hi ih ⊢
 by_cases h9 : i < l.length
 ·obtain ⟨x,at_x⟩ : ∃ x,l[i]? = some x:=⟨_,List.getElem?_eq_getElem h9⟩
  have ex:=gd_at at_x
  have bad : ∀ P : Prop,¬ stA n l i → decide (stP n l) = false:=fun _ h=>decide_eq_false (stP_no h9 h)
  have good : stA n l i → ∀ j,j < i + 1 → stA n l j:=fun h j hj=>by
   rcases Nat.lt_succ_iff_lt_or_eq.1 hj with h1 | rfl
   ·exact hno j h1
   ·exact h
  by_cases a0 : x < 0
  ·rw [bad True fun h=>by have:=(h x at_x).1;omega]
   refine wk 13 cz ?_
   intro h1 b1 o1
   exact ge
  ·by_cases a1 : n ≤ x
   ·rw [bad True fun h=>by have:=(h x at_x).1;omega]
    refine wk 13 cz ?_
    intro h1 b1 o1 b2 o2
    exact ge
   ·rcases Nat.eq_zero_or_pos i with hi0 | hi0
    ·subst hi0
     refine wk 13 cz ?_
     intro h1 b1 o1 b2 o2
     exact tw (ih 1 (by omega) ⟨by omega,good fun z hz=>by
      rw [at_x] at hz;obtain rfl:=Option.some.inj hz
      exact ⟨by omega,fun y h=>by omega⟩⟩)
    ·obtain ⟨k,rfl⟩ : ∃ k,i = k + 1:=⟨i - 1,by omega⟩
     obtain ⟨y,at_y⟩ : ∃ y,l[k]? = some y:=⟨_,List.getElem?_eq_getElem (by omega)⟩
     have ey:=gd_at at_y
     have ey' : l.getD (k + 1 - 1) default = y:=ey
     by_cases a2 : x ≤ y
     ·rw [bad True fun h=>by have:=(h x at_x).2 y (by omega) at_y;omega]
      refine wk 13 cz ?_
      intro h1 b1 o1 b2 o2 b3 o3 b4 o4
      exact ge
     ·refine wk 13 cz ?_
      intro h1 b1 o1 b2 o2 b3 o3 b4 o4
      exact tw (ih (k + 2) (by omega) ⟨by omega,good fun z hz=>by
       rw [at_x] at hz;obtain rfl:=Option.some.inj hz
       exact ⟨by omega,fun z h hz=>by
        rw [show k + 1 - 1 = k by omega,at_y] at hz;obtain rfl:=Option.some.inj hz;omega⟩⟩)
 ·rw [decide_eq_true (stP_iff.2 fun j hj=>hno j (by omega))]
  refine wk 9 cz ?_
  intro h1
  exact ge
theorem S_codewrightref13_Keep {q N n c nh ch : Nat} {ps ph : Option Addr} {rows : List (List Int)} {hs : List Int} (hq : q ≤ 256) (h0 : 0 < q) (hM : Mat q N rows) (hN : N ≤ 1000000) (hl : hs.length ≤ 1000000) (hst : ∀ x ∈ hs,0 ≤ x ∧ x < (N : Int)) :
  Ctr Tryz.prog 187 [.slice ps n c,.slice ph nh ch] [] [slF (encSl I64) ps n c rows,slF I64 ph nh ch hs] (fun v Φ β=>∃ (pb : Option Addr) (cb : Nat),v = .slice pb rows.length cb ∧ Φ = [slF (encSl I64) pb rows.length cb (rows.map fun r=>piL r hs)] ∧ β = []):=by
 refine Ctr_of_j' (F:=F_codewrightref13_Keep) rfl fun C=>?_
 refine j_len 0 rfl fun hn hb _=>?_
 subst hn
 have hb' : rows.length * 24 ≤ 140737488355328:=hb
 refine wk 7 cz ?_
 refine j_row0 (encSl I64) 22 ?_
 refine j_loopG (X:=Nat × Row) [0,1,4] [0,1,2] (fun z=>[(6,.int .i64 (z.1 : Int)),(5,.slice (ad z.2.bo) z.1 z.2.cap)]) (fun z=>(z.2.bo,22,z.2.cs)::_) (fun z=>[rowF (encSl I64) z.2 z.1 ((rows.take z.1).map fun r=>piL r hs)]) (fun z=>z.1 ≤ rows.length) (fun z=>rows.length - z.1) (0,⟨none,0,[]⟩) [0] rfl rfl rfl (Nat.zero_le _) (by repeat (first | exact Fr.sub_nil _ | refine Fr.sub_cons rfl ?_)) rfl rfl ?_
 rintro ⟨k,r⟩ hk ih
 simp only [List.cons_append,List.nil_append] at hk ih ⊢
 by_cases h9 : k < rows.length
 ·obtain ⟨u,at_u⟩ : ∃ u,rows[k]? = some u:=⟨_,List.getElem?_eq_getElem h9⟩
  have hu:=hM u (List.mem_of_getElem? at_u)
  have c_codewrightref09_Pick:=fun {nw cw nh ch : Nat} {pw ph : Option Addr}=>S_codewrightref09_Pick (nw:=nw) (cw:=cw) (nh:=nh) (ch:=ch) (pw:=pw) (ph:=ph) hq h0 hu hN hl hst
  have ih':=fun r=>ih (k + 1,r) (by dsimp only;omega) (by dsimp only;omega)
  dsimp only at ih'
  rw [List.take_add_one,at_u,Option.toList_some,List.map_append,List.map_cons,List.map_nil] at ih'
  refine wk 13 (ct @c_codewrightref09_Pick cz) ?_
  intro h1 b1 o1 hz1 pa1 ca1 pb1 cb1 b2
  refine j_step rfl (x_appR (z:=piL u hs) 1 0 3 rfl rfl rfl rfl rfl sl25 zo25e rfl (fun w A hG=>(rd_of_slF (hG _ (fact_mem (n:=0) rfl)))) (by omega) _ by25e (by omega) fun r1=>?_)
  refine wk 4 cz ?_
  refine j_toM [true,false] [0,5,6,7] (by exact fra rfl) rfl rfl (ih' r1)
 ·obtain rfl : k = rows.length:=by omega
  rw [List.take_length]
  refine wk 9 cz ?_
  intro h1
  refine j_pubR 0 0 rfl rfl (by show rows.length * 24 ≤ 140737488355328;omega) ?_
  simp only [List.eraseIdx_cons_zero,List.eraseIdx_cons_succ]
  refine j_giv [0] rfl rfl rfl ⟨_,_,rfl,rfl,rfl⟩
theorem S_codewrightref25_Of {p m N n c nm cm nh ch : Nat} {pm ps ph : Option Addr} {md hs : List Int} {rows : List (List Int)} (K : Fok p m md) (hM : Mat (p ^ m) N rows) (hr : rows.length ≤ 1000000) (hN : N ≤ 1000000) (hl : hs.length ≤ 1000000) (hst : ∀ x ∈ hs,0 ≤ x ∧ x < (N : Int)) :
  Ctr Tryz.prog 176 [.agg #[.int .i64 p,.int .i64 m,.slice pm nm cm],.slice ps n c,.slice ph nh ch] [] [slF I64 pm nm cm md,slF (encSl I64) ps n c rows,slF I64 ph nh ch hs] (Rv (.int .i64 ((cnP p m md hs.length (rows.map fun r=>piL r hs)).2.length : Nat)) []):=by
 refine Ctr_of_j' (F:=F_codewrightref25_Of) rfl fun C=>?_
 refine j_len 2 rfl fun hn hb _=>?_
 subst hn
 have hq:=K.q
 have hq2:=(fok_fn K).q2
 have c_codewrightref13_Keep:=fun {n c nh ch : Nat} {ps ph : Option Addr}=>S_codewrightref13_Keep (n:=n) (c:=c) (nh:=nh) (ch:=ch) (ps:=ps) (ph:=ph) hq (show 0 < p ^ m by omega) hM hN hl hst
 have c_codewrightref09_Canon:=fun {nm cm c : Nat} {pm ps : Option Addr}=>S_codewrightref09_Canon (nm:=nm) (cm:=cm) (c:=c) (pm:=pm) (ps:=ps) (n:=rows.length) (N:=hs.length) (rows:=rows.map fun r=>piL r hs) K hr hl (List.length_map _) (fun r hr=>by
  obtain ⟨u,hu,rfl⟩:=List.mem_map.1 hr
  refine ⟨List.length_map _,fun x hx=>?_⟩
  obtain ⟨j,_,rfl⟩:=List.mem_map.1 hx
  exact wd_at (by omega) (hM u hu) _)
 refine wk 4 cz ?_
 intro b1
 (apply j_drawK it mx 11;(· rfl);(· rfl))
 (apply lxk_eq;(· rfl);(· exact d_bld_all 0 rfl rfl ld24 rfl))
 (apply lxk_run 2;(· rfl);(· simp))
 (apply lxk_sl;(· rfl);(· exact d_x fun _=>x_call [1,2] rfl (c_codewrightref13_Keep) rfl (by rintro _ _ _ ⟨pb1,cb1,rfl,rfl,rfl⟩;exact (dk_sl 0 rfl)));intro pa1 ca1)
 (apply lxk_run 1;(· rfl);(· simp))
 (apply lxk_eq;(· rfl);(· exact d_x fun _=>x_len sl22 rfl dk_eq))
 (apply lxk_fa (val:=(fun g=>Value.tuple #[Value.slice (g 0).fst (cnP p m md hs.length (List.map (fun r=>piL r hs) rows)).snd.length (g 2).snd.fst,Value.slice (g 1).fst (cnP p m md hs.length (List.map (fun r=>piL r hs) rows)).snd.length (g 3).snd.fst])) (f:=(fun g=>[slF (encSl I64) (g 0).fst (cnP p m md hs.length (List.map (fun r=>piL r hs) rows)).snd.length (g 2).snd.fst (cnP p m md hs.length (List.map (fun r=>piL r hs) rows)).fst,slF I64 (g 1).fst (cnP p m md hs.length (List.map (fun r=>piL r hs) rows)).snd.length (g 3).snd.fst (toI (cnP p m md hs.length (List.map (fun r=>piL r hs) rows)).snd)]));(· rfl);(· exact d_x fun _=>x_call [1,0] rfl (c_codewrightref09_Canon) rfl (by rintro _ _ _ ⟨pbg0,ppg1,cbg2,cpg3,rfl,rfl,rfl⟩;exact fun _ _ _ hG=>⟨(fun | 0=>(pbg0,0,0,[]) | 1=>(ppg1,0,0,[]) | 2=>(none,cbg2,0,[]) | 3=>(none,cpg3,0,[]) | _=>default),rfl,fun g hg=>drop_own (hG _ (List.mem_append_left _ hg))⟩));intro g1;dsimp only [List.map_cons,List.map_nil])
 (apply lxk_pv [16] (fun vs=>vs.getD 0 undef) (v:=Value.tuple #[Value.slice (g1 0).fst (cnP p m md hs.length (List.map (fun r=>piL r hs) rows)).snd.length (g1 2).snd.fst,Value.slice (g1 1).fst (cnP p m md hs.length (List.map (fun r=>piL r hs) rows)).snd.length (g1 3).snd.fst]);(· rfl);(· rfl);(· rfl);(· rfl);(· exact d_x fun _=>x_pv it rfl (by trivial) dk_eq))
 (apply lxk_pv [9] (fun vs=>match vs.getD 0 undef with | .tuple a=>a.getD 0 undef | _=>undef) (v:=Value.slice (g1 0).fst (cnP p m md hs.length (List.map (fun r=>piL r hs) rows)).snd.length (g1 2).snd.fst);(· rfl);(· rfl);(· rfl);(· rfl);(· exact d_x fun _=>x_pv it rfl (by trivial) dk_eq))
 (apply lxk_pv [9] (fun vs=>match vs.getD 0 undef with | .tuple a=>a.getD 1 undef | _=>undef) (v:=Value.slice (g1 1).fst (cnP p m md hs.length (List.map (fun r=>piL r hs) rows)).snd.length (g1 3).snd.fst);(· rfl);(· rfl);(· rfl);(· rfl);(· exact d_x fun _=>x_pv it rfl (by trivial) dk_eq))
 (apply lxk_pv [17] (fun vs=>vs.getD 0 undef) (v:=Value.slice (g1 0).fst (cnP p m md hs.length (List.map (fun r=>piL r hs) rows)).snd.length (g1 2).snd.fst);(· rfl);(· rfl);(· rfl);(· rfl);(· exact d_x fun _=>x_pv it rfl (by trivial) dk_eq))
 refine lxk_end rfl ?_
 simp only [List.map_cons,List.map_nil,List.cons_append,List.nil_append]
 refine wk 6 cz ?_
 exact ge
theorem S_codewrightref26_with {ps px : Option Addr} {n c k d : Nat} {l x : List Int} (hl : (l++x).length ≤ 1000000) : Ctr Tryz.prog 158 [.slice ps n c,.slice px k d] [] [slF I64 ps n c l,slF I64 px k d x] (RwI (l++x).length (l++x)):=by
 refine Ctr_of_j' (F:=F_codewrightref26_with) rfl fun C=>?_
 rw [List.length_append] at hl
 refine j_len 0 rfl fun hn hb _=>?_
 subst hn
 refine j_len 1 rfl fun hn hb _=>?_
 subst hn
 refine wk 5 cz ?_
 intro b1
 (apply j_rowlit (E:=encInt IntKind.i64 8) (n:=0) (cs:=[]) [] [] 0 (fun w A hG=>allrd_nil);(· rfl);(· rfl);(· rfl);(· rfl);(· decide))
 refine j_step rfl (x_appS 0 0 1 rfl rfl rfl rfl rfl sl22 zo22e rfl (by omega) _ by22e (by omega) fun r1=>?_)
 refine wk 1 cz ?_
 refine j_step rfl (x_appS 0 0 3 rfl rfl rfl rfl rfl sl22 zo22e rfl (by omega) _ by22e (by omega) fun r2=>?_)
 refine wk 2 cz ?_
 simp only [List.nil_append,Nat.zero_add]
 refine j_givK 1 [0] [0] rfl (.tmp rfl .nil) rfl rfl rfl ⟨r2,by rw [List.length_append];rfl,by rw [List.length_append],rfl⟩
section
variable {p m N n c nm cm ny cy k : Nat} {pm ps py : Option Addr} {Mo w : Int} {md : List Int} {rows : List (List Int)}
theorem S_codewrightref26_claim__right {n1 c1 n2 c2 : Nat} {p1 p2 : Option Addr} {s set : List Int} {res : Bool} (K : Fok p m md) (hM : Mat (p ^ m) N rows) (hr : rows.length ≤ 1000000) (hN : N ≤ 1000) (h : rgB p m md N rows Mo s set = res) :
  Ctr Tryz.prog 156 [.agg #[.int .i64 p,.int .i64 m,.slice pm nm cm,.int .i64 N,.slice ps n c,.int .i64 Mo,.int .i64 w,.slice py ny cy,.bool false],.slice p1 n1 c1,.slice p2 n2 c2] [] [slF I64 pm nm cm md,slF (encSl I64) ps n c rows,slF I64 p1 n1 c1 s,slF I64 p2 n2 c2 set] (Rv (.bool res) []):=by
 refine Ctr_of_j' (F:=F_codewrightref26_claim__right) rfl fun C=>?_
 refine j_len 3 rfl fun hn hb _=>?_
 subst hn
 have hb' : set.length * 8 ≤ 140737488355328:=hb
 rw [rgB] at h
 cases hst : decide (stP (N : Int) set) with
 | false =>
  rw [hst] at h
  simp only [Bool.false_and] at h
  subst h
  refine wk 15 (ct @S_codewrightref10_Rising cz) ?_
  intro b1
  exact ge
 | true =>
 have hst':=of_decide_eq_true hst
 rw [hst,Bool.true_and] at h
 have hl:=st_len hst'
 refine wk 15 (ct @S_codewrightref10_Rising cz) ?_
 intro b1
 refine j_loopG (X:=Nat) [1,2,3] [0,1,2,3] (fun i=>[(7,.int .i64 (i : Int))]) (fun _=>_) (fun _=>[]) (fun i=>i ≤ set.length ∧ ∀ x ∈ set.take i,x ∉ s) (fun i=>set.length - i) 0 [] rfl rfl rfl ⟨Nat.zero_le _,fun x h=>absurd h List.not_mem_nil⟩ (by repeat (first | exact Fr.sub_nil _ | refine Fr.sub_cons rfl ?_)) rfl rfl ?_
 rintro i ⟨hi,hno⟩ ih
 simp only [List.cons_append,List.nil_append] at hi ih ⊢
 by_cases h9 : i < set.length
 ·obtain ⟨x,at_x⟩ : ∃ x,set[i]? = some x:=⟨_,List.getElem?_eq_getElem h9⟩
  by_cases a3 : x ∈ s
  ·have hin:=decide_eq_true a3
   rw [List.any_eq_true.2 ⟨x,List.mem_of_getElem? at_x,hin⟩] at h
   simp only [Bool.not_true,Bool.false_and] at h
   subst h
   refine wk 8 cz ?_
   intro h1
   refine j_step rfl (x_idx 3 (i) rfl rfl rfl sl22 rfl (by omega) fun z1 hz1 b2 o1=>?_)
   obtain rfl : _ = z1:=Option.some.inj (at_x.symm.trans hz1)
   refine j_step rfl (x_ld_int 0 rfl rfl ld3 fun ⟨r1,r2⟩=>?_)
   refine wk 6 (ct @S_codewrightref26_in cz) ?_
   exact ge
  ·have hin:=decide_eq_false a3
   refine wk 8 cz ?_
   intro h1
   refine j_step rfl (x_idx 3 (i) rfl rfl rfl sl22 rfl (by omega) fun z1 hz1 b2 o1=>?_)
   obtain rfl : _ = z1:=Option.some.inj (at_x.symm.trans hz1)
   refine j_step rfl (x_ld_int 0 rfl rfl ld3 fun ⟨r1,r2⟩=>?_)
   refine wk 6 (ct @S_codewrightref26_in cz) ?_
   exact tw (ih (i + 1) (by omega) ⟨by omega,tk_all at_x hno a3⟩)
 ·obtain rfl : i = set.length:=by omega
  rw [List.take_length] at hno
  rw [show (set.any fun x=>decide (x ∈ s)) = false from List.any_eq_false.2 fun x hx=>by rw [decide_eq_true_eq];exact hno x hx] at h
  simp only [Bool.not_false,Bool.true_and] at h
  have c_codewrightref25_Of:=fun {n c nm cm nh ch : Nat} {pm ps ph : Option Addr}=>S_codewrightref25_Of (n:=n) (c:=c) (nm:=nm) (cm:=cm) (nh:=nh) (ch:=ch) (pm:=pm) (ps:=ps) (ph:=ph) K hM hr (by omega) (show set.length ≤ 1000000 by omega) hst'.1
  by_cases hg : (cnP p m md set.length (rows.map fun r=>piL r set)).2.length = set.length
  ·rw [decide_eq_true hg,Bool.true_and] at h
   subst h
   refine wk 33 (ct @c_codewrightref25_Of cz) ?_
   intro h1 h2
   exact ge
  ·rw [decide_eq_false hg,Bool.false_and] at h
   subst h
   refine wk 23 (ct @c_codewrightref25_Of cz) ?_
   intro h1 h2
   exact ge
theorem S_codewrightref26_claim__kids {n1 c1 n2 c2 n3 c3 : Nat} {p1 p2 p3 : Option Addr} {s z set L : List Int} (hl : set.length ≤ 1000000) (h : (if (s.length : Int) < w then kidL z set else []) = L) :
  Ctr Tryz.prog 157 [.agg #[.int .i64 p,.int .i64 m,.slice pm nm cm,.int .i64 N,.slice ps n c,.int .i64 Mo,.int .i64 w,.slice py ny cy,.bool false],.slice p1 n1 c1,.slice p2 n2 c2,.slice p3 n3 c3] [] [slF I64 p1 n1 c1 s,slF I64 p2 n2 c2 z,slF I64 p3 n3 c3 set] (RwI L.length L):=by
 refine Ctr_of_j' (F:=F_codewrightref26_claim__kids) rfl fun C=>?_
 refine j_len 0 rfl fun hn hb _=>?_
 subst hn
 refine j_len 2 rfl fun hn hb2 _=>?_
 subst hn
 refine wk 8 cz ?_
 intro b1
 refine j_row0 I64 3 ?_
 refine j_loopG (X:=Nat × Row × List Int) [1,2,3,4,8] [0,1,2,3] (fun x=>[(10,.int .i64 (x.1 : Int)),(9,.slice (ad x.2.1.bo) x.2.2.length x.2.1.cap)])
  (fun x=>(x.2.1.bo,3,x.2.1.cs)::_) (fun x=>[rowF I64 x.2.1 x.2.2.length x.2.2])
  (fun x=>x.1 ≤ set.length ∧ x.2.2.length ≤ x.1 ∧ x.2.2++(if (s.length : Int) < w then kidL z (set.drop x.1) else []) = L) (fun x=>set.length - x.1) (0,⟨none,0,[]⟩,[]) [0] rfl rfl rfl ⟨Nat.zero_le _,Nat.le_refl _,h⟩ (by repeat (first | exact Fr.sub_nil _ | refine Fr.sub_cons rfl ?_)) rfl rfl ?_
 rintro ⟨i,r,y⟩ ⟨hi,hy,hg⟩ ih
 simp only [List.cons_append,List.nil_append] at hi hy hg ih ⊢
 by_cases hil : i < set.length
 ·by_cases hw : (s.length : Int) < w
  ·obtain ⟨x,at_x⟩ : ∃ x,set[i]? = some x:=⟨_,List.getElem?_eq_getElem hil⟩
   have e3 : set.drop i = x::set.drop (i + 1):=by
    rw [List.drop_eq_getElem_cons hil];rw [List.getElem?_eq_getElem hil] at at_x;rw [Option.some.inj at_x]
   rw [e3] at hg
   by_cases hx : x ∈ z
   ·have hin:=decide_eq_true hx
    rw [kid_in hx] at hg
    have ih':=ih (i + 1,r,y) (by dsimp only;omega) (by dsimp only;exact ⟨by omega,by omega,hg⟩)
    refine wk 16 cz ?_
    intro h1 h2 b2 o1 hz1
    refine j_step rfl (x_ld_int 0 rfl rfl ld3 fun ⟨r1,r2⟩=>?_)
    refine wk 7 (ct @S_codewrightref26_in cz) ?_
    exact tw (ih')
   ·have hin:=decide_eq_false hx
    rw [kid_out hx,if_pos hw] at hg
    have ih':=fun r=>ih (i + 1,r,y++[x]) (by dsimp only;omega) (by dsimp only;refine ⟨by omega,by rw [List.length_append,List.length_singleton];omega,?_⟩;rw [if_pos hw,List.append_assoc];exact hg)
    dsimp only at ih'
    simp only [List.length_append,List.length_singleton] at ih'
    refine wk 16 cz ?_
    intro h1 h2 b2 o1 hz1
    refine j_step rfl (x_ld_int 0 rfl rfl ld3 fun ⟨r1,r2⟩=>?_)
    refine wk 7 (ct @S_codewrightref26_in cz) ?_
    intro b3 o2 hz2
    refine j_step rfl (x_ld_int 0 rfl rfl ld3 fun ⟨r3,r4⟩=>?_)
    refine wk 1 cz ?_
    intro b4
    refine j_step rfl (x_appR (z:=(x : Int)) 1 0 2 rfl rfl rfl rfl rfl sl22 zo22e rfl (fun w A hG=>(rd_int (by first | (simp only [InR];omega) | (simp [InR];done)))) (by omega) _ by22e (by omega) fun r5=>?_)
    refine wk 4 cz ?_
    refine j_toM [true,false,true] [0,4,5,6,7] (by exact fra rfl) rfl rfl (ih' r5)
  ·rw [if_neg hw,List.append_nil] at hg
   subst hg
   refine wk 16 cz ?_
   intro h1 h2
   refine j_givK 2 [0] [0] rfl (.tmp rfl .nil) rfl rfl rfl ⟨r,rfl,rfl,rfl⟩
 ·obtain rfl : i = set.length:=by omega
  rw [List.drop_length,show kidL z [] = [] from rfl,ite_self,List.append_nil] at hg
  subst hg
  refine wk 12 cz ?_
  intro h1
  refine j_givK 2 [0] [0] rfl (.tmp rfl .nil) rfl rfl rfl ⟨r,rfl,rfl,rfl⟩
end
open Go Go.Fw
set_option maxRecDepth 100000
set_option linter.unusedVariables false
set_option linter.unusedSimpArgs false
set_option maxHeartbeats 0
abbrev ReB (b : Bool) (t : List (List Int)) : Value → List Fact → List Blk → Prop:=fun v Φ β=>∃ (pa : Option Addr) (k ca : Nat),v = .tuple #[.slice pa k ca,.bool b] ∧ Φ = [slF (encSl I64) pa k ca t] ∧ β = []
abbrev ReO (o : Option (List (List Int))) : Value → List Fact → List Blk → Prop:=ReB o.isSome (o.getD [])
theorem ext_go {rt : List Int → List Int → Bool} {d : Nat} {s z x : List Int} {T : List (List Int)} (h : rt s x = true) : exT rt d s z (x::T) = exGo (exT rt (d - 1)) s z [] (if 0 < d then kidL z x else []) T:=by
 cases d with
 | zero=>rw [exT,if_pos h];rfl
 | succ d=>rw [exT,if_pos h,if_pos (Nat.succ_pos d)];rfl
section
variable {p m N : Nat} {Mo w : Int} {md : List Int} {rows : List (List Int)}
theorem S_codewrightref26_claim__follow (K : Fok p m md) (hM : Mat (p ^ m) N rows) (hr : rows.length ≤ 1000000) (hN : N ≤ 1000) : ∀ (d : Nat) {n c nm cm ny cy n1 c1 n2 c2 nt ct : Nat} {pm ps py p1 p2 pt : Option Addr} {s z : List Int} {T : List (List Int)},
  ((s.length + d : Nat) : Int) = w → s.length + d ≤ 1000 → z.length + 1000 * d ≤ 100000 →
  Ctr Tryz.prog 133 [.agg #[.int .i64 p,.int .i64 m,.slice pm nm cm,.int .i64 N,.slice ps n c,.int .i64 Mo,.int .i64 w,.slice py ny cy,.bool false],.slice p1 n1 c1,.slice p2 n2 c2,.slice pt nt ct] []
   [slF I64 pm nm cm md,slF (encSl I64) ps n c rows,slF I64 p1 n1 c1 s,slF I64 p2 n2 c2 z,slF (encSl I64) pt nt ct T] (ReO (exT (rgB p m md N rows Mo) d s z T)):=by
 intro d
 induction d using Nat.strongRecOn with
 | ind d ihd =>
 intro n c nm cm ny cy n1 c1 n2 c2 nt ct pm ps py p1 p2 pt s z T hs hs2 hz
 refine Ctr_of_j' (F:=F_codewrightref26_claim__follow) rfl fun C=>?_
 refine j_len 3 rfl fun hn hb2 _=>?_
 subst hn
 refine j_len 4 rfl fun hn hb _=>?_
 subst hn
 refine j_add (slF (encSl I64) none 0 0 []) (fun w A _=>slF_nil _ w A none 0) ?_
 cases T with
 | nil =>
  have e0 : ([] : List (List Int)).length = 0:=rfl
  rw [ext_nil]
  refine wk 10 cz ?_
  intro b1
  refine j_giv [0] rfl rfl rfl ⟨_,_,_,rfl,rfl,rfl⟩
 | cons x T =>
  have e0 : (x::T).length = T.length + 1:=rfl
  have at_x : (x::T)[0]? = some x:=rfl
  have c_codewrightref26_claim__right:=fun {n c nm cm ny cy n1 c1 n2 c2 : Nat} {pm ps py p1 p2 : Option Addr} {s set : List Int} {res : Bool} (h : rgB p m md N rows Mo s set = res)=>S_codewrightref26_claim__right (n:=n) (c:=c) (nm:=nm) (cm:=cm) (ny:=ny) (cy:=cy) (n1:=n1) (c1:=c1) (n2:=n2) (c2:=c2) (pm:=pm) (ps:=ps) (py:=py) (p1:=p1) (p2:=p2) (w:=w) K hM hr hN h
  cases hrt : rgB p m md N rows Mo s x with
  | false =>
   rw [ext_bad hrt]
   refine wk 4 cz ?_
   intro b1
   (apply j_drawK it mx 12;(· rfl);(· rfl))
   (apply lxk_run 1;(· rfl);(· simp))
   (apply lxk_eq;(· rfl);(· exact d_x fun _=>x_len sl25 rfl dk_eq))
   (apply lxk_eq;(· rfl);(· exact d_x fun _=>x_false it rfl (by trivial) (by omega) dk_eq))
   (apply lxk_run 1;(· rfl);(· simp))
   (apply lxk_eq;(· rfl);(· exact d_bld_all 0 rfl rfl ld130 rfl))
   (apply lxk_run 2;(· rfl);(· simp))
   (apply lxk_pt;(· rfl);(· exact d_x fun _=>x_idx 5 0 rfl rfl rfl sl25 (by omega) (by omega) fun z1 hz1 b2 o1=>(dk_ptD default hz1 0 rfl));intro b2 o1)
   (apply lxk_sl;(· rfl);(· exact d_x fun _=>x_ld_sl 0 rfl rfl ld22 fun pa1 ca1=>(dk_sl 0 rfl));intro pa1 ca1)
   (apply lxk_eq;(· rfl);(· exact d_x fun _=>x_call [3,4,5,0] rfl (c_codewrightref26_claim__right (by assumption)) rfl (by rintro _ _ _ ⟨rfl,rfl,rfl⟩;exact dk_eq)))
   (apply lxk_run 2;(· rfl);(· simp))
   refine lxk_end rfl ?_
   simp only [List.map_cons,List.map_nil,List.cons_append,List.nil_append]
   refine wk 5 cz ?_
   refine j_giv [2] rfl rfl rfl ⟨_,_,_,rfl,rfl,rfl⟩
  | true =>
   rw [ext_go hrt]
   have hlx:=st_len (rg_st hrt)
   have hkl : (kidL z x).length ≤ x.length:=List.length_filter_le _ _
   obtain ⟨L,hL⟩ : ∃ L,(if 0 < d then kidL z x else []) = L:=⟨_,rfl⟩
   rw [hL]
   have hL2 : (if (s.length : Int) < w then kidL z x else []) = L:=by
    rw [← hL]
    by_cases h0 : 0 < d
    ·rw [if_pos h0,if_pos (by omega)]
    ·rw [if_neg h0,if_neg (by omega)]
   have hd0 : 0 < d ∨ L.length = 0:=by
    by_cases h0 : 0 < d
    ·exact .inl h0
    ·rw [if_neg h0] at hL;subst hL;exact .inr rfl
   have hLx : ∀ y ∈ L,y ∈ x:=fun y hy=>by
    by_cases h0 : 0 < d
    ·rw [if_pos h0] at hL;rw [← hL] at hy;exact (List.mem_filter.1 hy).1
    ·rw [if_neg h0] at hL;rw [← hL] at hy;cases hy
   have hLl : L.length ≤ 1000:=by
    by_cases h0 : 0 < d
    ·rw [if_pos h0] at hL;rw [← hL];omega
    ·rcases hd0 with h | h <;> omega
   have c_codewrightref26_claim__kids:=fun {n c nm cm ny cy n1 c1 n2 c2 n3 c3 : Nat} {pm ps py p1 p2 p3 : Option Addr}=>(S_codewrightref26_claim__kids (p:=p) (m:=m) (N:=N) (Mo:=Mo) (n:=n) (c:=c) (nm:=nm) (cm:=cm) (ny:=ny) (cy:=cy) (n1:=n1) (c1:=c1) (n2:=n2) (c2:=c2) (n3:=n3) (c3:=c3) (pm:=pm) (ps:=ps) (py:=py) (p1:=p1) (p2:=p2) (p3:=p3) (w:=w) (s:=s) (z:=z) (set:=(x::T).getD 0 default) (L:=L) (show x.length ≤ 1000000 by omega) hL2).pubR (by show _ * 8 ≤ 140737488355328;omega)
   obtain ⟨G,hG⟩ : ∃ G,exGo (exT (rgB p m md N rows Mo) (d - 1)) s z [] L T = G:=⟨_,rfl⟩
   rw [hG]
   refine wk 4 cz ?_
   intro b1
   (apply j_drawK it mx 12;(· rfl);(· rfl))
   (apply lxk_run 1;(· rfl);(· simp))
   (apply lxk_eq;(· rfl);(· exact d_x fun _=>x_len sl25 rfl dk_eq))
   (apply lxk_eq;(· rfl);(· exact d_x fun _=>x_false it rfl (by trivial) (by omega) dk_eq))
   (apply lxk_run 1;(· rfl);(· simp))
   (apply lxk_eq;(· rfl);(· exact d_bld_all 0 rfl rfl ld130 rfl))
   (apply lxk_run 2;(· rfl);(· simp))
   (apply lxk_pt;(· rfl);(· exact d_x fun _=>x_idx 5 0 rfl rfl rfl sl25 (by omega) (by omega) fun z1 hz1 b2 o1=>(dk_ptD default hz1 0 rfl));intro b2 o1)
   (apply lxk_sl;(· rfl);(· exact d_x fun _=>x_ld_sl 0 rfl rfl ld22 fun pa1 ca1=>(dk_sl 0 rfl));intro pa1 ca1)
   (apply lxk_eq;(· rfl);(· exact d_x fun _=>x_call [3,4,5,0] rfl (c_codewrightref26_claim__right (by assumption)) rfl (by rintro _ _ _ ⟨rfl,rfl,rfl⟩;exact dk_eq)))
   (apply lxk_run 2;(· rfl);(· simp))
   refine lxk_end rfl ?_
   simp only [List.map_cons,List.map_nil,List.cons_append,List.nil_append]
   refine wk 3 cz ?_
   (apply j_drawK it mx 7;(· rfl);(· rfl))
   (apply lxk_eq;(· rfl);(· exact d_bld_all 0 rfl rfl ld130 rfl))
   (apply lxk_run 3;(· rfl);(· simp))
   (apply lxk_pt;(· rfl);(· exact d_x fun _=>x_idx 7 0 rfl rfl rfl sl25 (by omega) (by omega) fun z1 hz1 b3 o2=>(dk_ptD default hz1 0 rfl));intro b3 o2)
   (apply lxk_sl;(· rfl);(· exact d_x fun _=>x_ld_sl 0 rfl rfl ld22 fun pa2 ca2=>(dk_sl 0 rfl));intro pa2 ca2)
   (apply lxk_sl;(· rfl);(· exact d_x fun _=>x_call [7,8,0] rfl (c_codewrightref26_claim__kids) rfl (by rintro _ _ _ ⟨pa3,ca3,rfl,rfl,rfl⟩;exact (dk_sl 0 rfl)));intro pa3 ca3)
   refine lxk_end rfl ?_
   simp only [List.map_cons,List.map_nil,List.cons_append,List.nil_append]
   refine wk 3 cz ?_
   refine j_step rfl (x_slice_l 10 1 rfl rfl rfl sl25 (by omega) (by omega) fun pa4=>?_)
   refine wk 6 cz ?_
   refine j_loopG (X:=Nat × Option Addr × Nat × Nat × List (List Int) × Bool) [1,2,4,8,9,10] [0,1,2,3,4,5,6,7,8,9,10,11] (fun v=>[(13,.int .i64 (v.1 : Int)),(11,.slice v.2.1 v.2.2.1 v.2.2.2.1),(12,.bool v.2.2.2.2.2)]) (fun _=>_) (fun v=>[slF (encSl I64) v.2.1 v.2.2.1 v.2.2.2.1 v.2.2.2.2.1])
    (fun v=>v.1 ≤ L.length ∧ (v.2.2.2.2.2 = true → exGo (exT (rgB p m md N rows Mo) (d - 1)) s z (L.take v.1) (L.drop v.1) v.2.2.2.2.1 = G) ∧ (v.2.2.2.2.2 = false → G = none ∧ v.2.2.2.2.1 = [])) (fun v=>L.length - v.1) (0,pa4,(x::T).length - 1,ct - 1,T,true) [0] rfl rfl rfl ⟨Nat.zero_le _,fun _=>hG,fun h=>Bool.noConfusion h⟩ (by repeat (first | exact Fr.sub_nil _ | refine Fr.sub_cons rfl ?_)) rfl rfl ?_
   rintro ⟨i,pu,ku,cu,tr,ok⟩ ⟨hi,hg,hg2⟩ ih
   simp only [List.cons_append,List.nil_append] at hi hg hg2 ih ⊢
   cases ok with
   | false =>
    obtain ⟨rfl,rfl⟩:=hg2 rfl
    clear hg hg2 ih
    by_cases hil : i < L.length
    ·refine wk 12 cz ?_
     intro h1
     refine j_giv [0] rfl rfl rfl ⟨_,_,_,rfl,rfl,rfl⟩
    ·refine wk 12 cz ?_
     intro h1
     refine j_giv [0] rfl rfl rfl ⟨_,_,_,rfl,rfl,rfl⟩
   | true =>
   have hg:=hg rfl
   clear hg2
   by_cases hil : i < L.length
   ·have hd1 : 0 < d:=by omega
    have e3 : L.drop i = L.getD i default::L.drop (i + 1):=by
     rw [List.drop_eq_getElem_cons hil,List.getD_eq_getElem?_getD,List.getElem?_eq_getElem hil];rfl
    have e4 : L.take (i + 1) = L.take i++[L.getD i default]:=by rw [List.take_add_one,List.getD_eq_getElem?_getD,List.getElem?_eq_getElem hil];rfl
    have e1 : (s++[L.getD i default]).length = s.length + 1:=by simp
    have e2 : (z++L.take i).length = z.length + i:=by rw [List.length_append,List.length_take];omega
    have hz3 : z.length ≤ 200000:=by omega
    have hy : 0 ≤ L.getD i default ∧ L.getD i default < (N : Int):=by
     have h1 : L.getD i default ∈ L:=by rw [List.getD_eq_getElem?_getD,List.getElem?_eq_getElem hil];exact List.getElem_mem hil
     exact (rg_st hrt).1 _ (hLx _ h1)
    obtain ⟨hy0,hy1⟩:=hy
    have c_codewrightref26_with:=fun {ps px : Option Addr} {n c k d : Nat} {l x : List Int} (hl : (l++x).length ≤ 1000000)=>(S_codewrightref26_with (ps:=ps) (px:=px) (n:=n) (c:=c) (k:=k) (d:=d) hl).pubR (by show _ * 8 ≤ 140737488355328;omega)
    rw [e3,exGo] at hg
    have c_codewrightref26_claim__follow:=fun {n c nm cm ny cy n1 c1 n2 c2 nt ct : Nat} {pm ps py p1 p2 pt : Option Addr}=>ihd (d - 1) (by omega) (n:=n) (c:=c) (nm:=nm) (cm:=cm) (ny:=ny) (cy:=cy) (n1:=n1) (c1:=c1) (n2:=n2) (c2:=c2) (nt:=nt) (ct:=ct) (pm:=pm) (ps:=ps) (py:=py) (p1:=p1) (p2:=p2) (pt:=pt) (s:=s++[L.getD i default]) (z:=z++L.take i) (T:=tr) (by omega) (by omega) (by omega)
    cases ho : exT (rgB p m md N rows Mo) (d - 1) (s++[L.getD i default]) (z++L.take i) tr with
    | none =>
     rw [ho] at hg
     have hh : ReO (exT (rgB p m md N rows Mo) (d - 1) (s++[L.getD i default]) (z++L.take i) tr) = ReB false []:=by rw [ho];rfl
     rw [hh] at c_codewrightref26_claim__follow
     refine wk 10 cz ?_
     intro h1
     (apply j_drawK it mx 19;(· rfl);(· rfl))
     (apply lxk_eq;(· rfl);(· exact d_bld_all 0 rfl rfl ld130 rfl))
     (apply lxk_run 3;(· rfl);(· simp))
     (apply lxk_pt;(· rfl);(· exact d_x fun _=>x_idx 2 (i) rfl rfl rfl sl22 rfl (by omega) fun z1 hz1 b4 o3=>(dk_ptD default hz1 0 rfl));intro b4 o3)
     (apply lxk_eq;(· rfl);(· exact d_x fun _=>x_ld_int 0 rfl rfl ld3 fun ⟨r1,r2⟩=>dk_eq))
     (apply lxk_sl;(· rfl);(· exact d_x fun _=>x_lit sl22 zo22e rfl rfl rfl rfl (by decide) (by decide) rfl fun b5=>dk_all (E:=I64) [[Value.int IntKind.i64 (L.getD i default)]] [L.getD i default] (fun w A hG=>(allrd_cons ⟨rfl,by first | assumption | (simp only [InR];omega)⟩ allrd_nil)) rfl rfl rfl (by first | decide | exact Nat.le_of_ble_eq_true rfl));intro pa5 ca4)
     (apply lxk_sl;(· rfl);(· exact d_x fun _=>x_call [12,0] rfl (c_codewrightref26_with (by omega)) rfl (by rintro _ _ _ ⟨pa6,ca5,rfl,rfl,rfl⟩;exact (dk_sl 0 rfl)));intro pa6 ca5)
     (apply lxk_run 3;(· rfl);(· simp))
     (apply lxk_sl;(· rfl);(· exact d_x fun _=>x_slice_h 2 (i) rfl rfl rfl sl22 (by omega) (by omega) (dk_sl 0 rfl));intro pa7 ca6)
     (apply lxk_sl;(· rfl);(· exact d_x fun _=>x_call [15,0] rfl (c_codewrightref26_with (by omega)) rfl (by rintro _ _ _ ⟨pa8,ca7,rfl,rfl,rfl⟩;exact (dk_sl 0 rfl)));intro pa8 ca7)
     (apply lxk_run 1;(· rfl);(· simp))
     (apply lxk_fa (val:=(fun g=>Value.tuple #[Value.slice (g 0).fst (g 1).snd.fst (g 2).snd.fst,Value.bool false])) (f:=(fun g=>[slF (encSl I64) (g 0).fst (g 1).snd.fst (g 2).snd.fst []]));(· rfl);(· exact d_x fun _=>x_call [13,14,2,0,5] rfl (c_codewrightref26_claim__follow) rfl (by rintro _ _ _ ⟨pag0,kg1,cag2,rfl,rfl,rfl⟩;exact fun _ _ _ hG=>⟨(fun | 0=>(pag0,0,0,[]) | 1=>(none,kg1,0,[]) | 2=>(none,cag2,0,[]) | _=>default),rfl,fun g hg=>drop_own (hG _ (List.mem_append_left _ hg))⟩));intro g1;dsimp only [List.map_cons,List.map_nil])
     (apply lxk_pv [59] (fun vs=>vs.getD 0 undef) (v:=Value.tuple #[Value.slice (g1 0).fst (g1 1).snd.fst (g1 2).snd.fst,Value.bool false]);(· rfl);(· rfl);(· rfl);(· rfl);(· exact d_x fun _=>x_pv it rfl (by trivial) dk_eq))
     (apply lxk_pv [44] (fun vs=>match vs.getD 0 undef with | .tuple a=>a.getD 0 undef | _=>undef) (v:=Value.slice (g1 0).fst (g1 1).snd.fst (g1 2).snd.fst);(· rfl);(· rfl);(· rfl);(· rfl);(· exact d_x fun _=>x_pv it rfl (by trivial) dk_eq))
     (apply lxk_eq;(· rfl);(· exact d_x fun _=>x_pv it rfl (by trivial) dk_eq))
     (apply lxk_pv [60] (fun vs=>vs.getD 0 undef) (v:=Value.slice (g1 0).fst (g1 1).snd.fst (g1 2).snd.fst);(· rfl);(· rfl);(· rfl);(· rfl);(· exact d_x fun _=>x_pv it rfl (by trivial) dk_eq))
     refine lxk_end rfl ?_
     simp only [List.map_cons,List.map_nil,List.cons_append,List.nil_append]
     refine wk 4 cz ?_
     exact tw (ih (i + 1,(g1 0).1,(g1 1).2.1,(g1 2).2.1,[],false) (by dsimp only;omega) ⟨by dsimp only;omega,fun h=>Bool.noConfusion h,fun _=>⟨hg.symm,rfl⟩⟩)
    | some t' =>
     rw [ho] at hg
     have hh : ReO (exT (rgB p m md N rows Mo) (d - 1) (s++[L.getD i default]) (z++L.take i) tr) = ReB true t':=by rw [ho];rfl
     rw [hh] at c_codewrightref26_claim__follow
     refine wk 10 cz ?_
     intro h1
     (apply j_drawK it mx 19;(· rfl);(· rfl))
     (apply lxk_eq;(· rfl);(· exact d_bld_all 0 rfl rfl ld130 rfl))
     (apply lxk_run 3;(· rfl);(· simp))
     (apply lxk_pt;(· rfl);(· exact d_x fun _=>x_idx 2 (i) rfl rfl rfl sl22 rfl (by omega) fun z1 hz1 b4 o3=>(dk_ptD default hz1 0 rfl));intro b4 o3)
     (apply lxk_eq;(· rfl);(· exact d_x fun _=>x_ld_int 0 rfl rfl ld3 fun ⟨r1,r2⟩=>dk_eq))
     (apply lxk_sl;(· rfl);(· exact d_x fun _=>x_lit sl22 zo22e rfl rfl rfl rfl (by decide) (by decide) rfl fun b5=>dk_all (E:=I64) [[Value.int IntKind.i64 (L.getD i default)]] [L.getD i default] (fun w A hG=>(allrd_cons ⟨rfl,by first | assumption | (simp only [InR];omega)⟩ allrd_nil)) rfl rfl rfl (by first | decide | exact Nat.le_of_ble_eq_true rfl));intro pa5 ca4)
     (apply lxk_sl;(· rfl);(· exact d_x fun _=>x_call [12,0] rfl (c_codewrightref26_with (by omega)) rfl (by rintro _ _ _ ⟨pa6,ca5,rfl,rfl,rfl⟩;exact (dk_sl 0 rfl)));intro pa6 ca5)
     (apply lxk_run 3;(· rfl);(· simp))
     (apply lxk_sl;(· rfl);(· exact d_x fun _=>x_slice_h 2 (i) rfl rfl rfl sl22 (by omega) (by omega) (dk_sl 0 rfl));intro pa7 ca6)
     (apply lxk_sl;(· rfl);(· exact d_x fun _=>x_call [15,0] rfl (c_codewrightref26_with (by omega)) rfl (by rintro _ _ _ ⟨pa8,ca7,rfl,rfl,rfl⟩;exact (dk_sl 0 rfl)));intro pa8 ca7)
     (apply lxk_run 1;(· rfl);(· simp))
     (apply lxk_fa (val:=(fun g=>Value.tuple #[Value.slice (g 0).fst (g 1).snd.fst (g 2).snd.fst,Value.bool true])) (f:=(fun g=>[slF (encSl I64) (g 0).fst (g 1).snd.fst (g 2).snd.fst t']));(· rfl);(· exact d_x fun _=>x_call [13,14,2,0,5] rfl (c_codewrightref26_claim__follow) rfl (by rintro _ _ _ ⟨pag0,kg1,cag2,rfl,rfl,rfl⟩;exact fun _ _ _ hG=>⟨(fun | 0=>(pag0,0,0,[]) | 1=>(none,kg1,0,[]) | 2=>(none,cag2,0,[]) | _=>default),rfl,fun g hg=>drop_own (hG _ (List.mem_append_left _ hg))⟩));intro g1;dsimp only [List.map_cons,List.map_nil])
     (apply lxk_pv [59] (fun vs=>vs.getD 0 undef) (v:=Value.tuple #[Value.slice (g1 0).fst (g1 1).snd.fst (g1 2).snd.fst,Value.bool true]);(· rfl);(· rfl);(· rfl);(· rfl);(· exact d_x fun _=>x_pv it rfl (by trivial) dk_eq))
     (apply lxk_pv [44] (fun vs=>match vs.getD 0 undef with | .tuple a=>a.getD 0 undef | _=>undef) (v:=Value.slice (g1 0).fst (g1 1).snd.fst (g1 2).snd.fst);(· rfl);(· rfl);(· rfl);(· rfl);(· exact d_x fun _=>x_pv it rfl (by trivial) dk_eq))
     (apply lxk_eq;(· rfl);(· exact d_x fun _=>x_pv it rfl (by trivial) dk_eq))
     (apply lxk_pv [60] (fun vs=>vs.getD 0 undef) (v:=Value.slice (g1 0).fst (g1 1).snd.fst (g1 2).snd.fst);(· rfl);(· rfl);(· rfl);(· rfl);(· exact d_x fun _=>x_pv it rfl (by trivial) dk_eq))
     refine lxk_end rfl ?_
     simp only [List.map_cons,List.map_nil,List.cons_append,List.nil_append]
     refine wk 4 cz ?_
     exact tw (ih (i + 1,(g1 0).1,(g1 1).2.1,(g1 2).2.1,t',true) (by dsimp only;omega) ⟨by dsimp only;omega,fun _=>by dsimp only;rw [e4];exact hg,fun h=>Bool.noConfusion h⟩)
   ·obtain rfl : i = L.length:=by omega
    rw [List.take_length,List.drop_length,exGo] at hg
    subst hg
    refine wk 12 cz ?_
    intro h1
    refine j_giv [0] rfl rfl rfl ⟨_,_,_,rfl,rfl,rfl⟩
end
section
variable {p m N n c nm cm nt ct ny cy : Nat} {pm ps pt py : Option Addr} {Mo : Int} {d : Nat} {md : List Int} {rows sets : List (List Int)}
abbrev ReL (b : Bool) (t : List (List Int)) : Value → List Fact → List Blk → Prop:=fun v Φ β=>∃ (pa : Option Addr) (ca : Nat),v = .tuple #[.slice pa t.length ca,.bool b] ∧ Φ = [slF (encSl I64) pa t.length ca t] ∧ β = []
theorem reL {b : Bool} {t : List (List Int)} (C : Cx) (w : World) (v : Value) (Φ : List Fact) (β' : List Blk) (hQ : ReB b t v Φ β') (hO : Own C w β') (hf : ∀ g ∈ Φ,g.holds w (ok C w β')) : ∃ Φ2 β2,ReL b t v Φ2 β2 ∧ Own C w β2 ∧ ∀ g ∈ Φ2,g.holds w (ok C w β2):=by
 obtain ⟨pa,k,ca,rfl,rfl,rfl⟩:=hQ
 have:=(hf _ (.head _)).1
 subst this
 exact ⟨_,_,⟨pa,ca,rfl,rfl,rfl⟩,hO,hf⟩
theorem S_codewrightref26_claim__proves {bo : Bool} (K : Fok p m md) (hM : Mat (p ^ m) N rows) (hr : rows.length ≤ 1000000) (hN : N ≤ 1000) (hd : d ≤ 64) (hbo : decide (exT (rgB p m md N rows Mo) d [] [] sets = some []) = bo) :
  Ctr Tryz.prog 100 [.agg #[.int .i64 p,.int .i64 m,.slice pm nm cm,.int .i64 N,.slice ps n c,.int .i64 Mo,.int .i64 d,.slice py ny cy,.bool false],.agg #[.slice pt nt ct]] [] [slF I64 pm nm cm md,slF (encSl I64) ps n c rows,slF (encSl I64) pt nt ct sets]
   (Rv (.int .i64 (if bo = true then 0 else 13)) []):=by
 refine Ctr_of_j' (F:=F_codewrightref26_claim__proves) rfl fun C=>?_
 refine j_add (slF I64 none 0 0 []) (fun w A _=>slF_nil _ w A none 0) ?_
 have e0 : ([] : List Int).length = 0:=rfl
 have h:=fun {n c nm cm ny cy nt ct : Nat} {pm ps py pt : Option Addr}=>S_codewrightref26_claim__follow (p:=p) (m:=m) (N:=N) (Mo:=Mo) (w:=d) (rows:=rows) K hM hr hN d (n:=n) (c:=c) (nm:=nm) (cm:=cm) (ny:=ny) (cy:=cy) (n1:=0) (c1:=0) (n2:=0) (c2:=0) (nt:=nt) (ct:=ct) (pm:=pm) (ps:=ps) (py:=py) (p1:=none) (p2:=none) (pt:=pt) (s:=[]) (z:=[]) (T:=sets) (by rw [e0,Nat.zero_add]) (by rw [e0];omega) (by rw [e0];omega)
 cases hE : exT (rgB p m md N rows Mo) d [] [] sets with
 | none =>
  have hh : ReO (exT (rgB p m md N rows Mo) d [] [] sets) = ReB false []:=by rw [hE];rfl
  rw [hh] at h
  rw [hE] at hbo
  simp only [reduceCtorEq,decide_false] at hbo
  subst hbo
  have c_codewrightref26_claim__follow:=@h
  refine wk 8 cz ?_
  intro b1 b2
  refine j_step rfl (x_call [1,2,0,0,3] rfl (c_codewrightref26_claim__follow) rfl ?_)
  rintro _ _ _ ⟨pa1,k1,ca1,rfl,rfl,rfl⟩
  simp only [List.cons_append,List.nil_append]
  refine wk 8 cz ?_
  exact ge
 | some T =>
  have hh : ReO (exT (rgB p m md N rows Mo) d [] [] sets) = ReB true T:=by rw [hE];rfl
  rw [hh] at h
  rw [hE] at hbo
  have c_codewrightref26_claim__follow:=fun {n c nm cm ny cy nt ct : Nat} {pm ps py pt : Option Addr}=>(h (n:=n) (c:=c) (nm:=nm) (cm:=cm) (ny:=ny) (cy:=cy) (nt:=nt) (ct:=ct) (pm:=pm) (ps:=ps) (py:=py) (pt:=pt)).mono reL
  cases T with
  | nil =>
   have e1 : ([] : List (List Int)).length = 0:=rfl
   simp only [decide_true] at hbo
   subst hbo
   refine wk 8 cz ?_
   intro b1 b2
   refine j_step rfl (x_call [1,2,0,0,3] rfl (c_codewrightref26_claim__follow) rfl ?_)
   rintro _ _ _ ⟨pa1,ca1,rfl,rfl,rfl⟩
   simp only [List.cons_append,List.nil_append]
   refine wk 10 cz ?_
   intro h1
   exact ge
  | cons x T =>
   have e1 : (x::T).length = T.length + 1:=rfl
   simp only [Option.some.injEq,reduceCtorEq,decide_false] at hbo
   subst hbo
   refine wk 8 cz ?_
   intro b1 b2
   refine j_step rfl (x_call [1,2,0,0,3] rfl (c_codewrightref26_claim__follow) rfl ?_)
   rintro _ _ _ ⟨pa1,ca1,rfl,rfl,rfl⟩
   simp only [List.cons_append,List.nil_append]
   refine wk 10 cz ?_
   intro h1
   exact ge
theorem S_codewrightref26_rank (CC : Cok p m md N rows) (hM : 0 ≤ Mo) (hM2 : Mo ≤ rows.length) (hd : d ≤ N) : Ctr Tryz.prog 99 [.agg #[.int .i64 p,.int .i64 m,.slice pm nm cm,.int .i64 N,.slice ps n c],.int .i64 Mo,.int .i64 d] [] [slF I64 pm nm cm md,slF (encSl I64) ps n c rows] (Rv (.int .i64 0) []):=by
 refine Ctr_of_j' (F:=F_codewrightref26_rank) rfl fun C=>?_
 refine j_len 1 rfl fun hn hb _=>?_
 subst hn
 have h64:=CC.n64
 have c_codewrightref12_Check:=fun {pm ps : Option Addr} {nm cm n c : Nat}=>S_codewrightref12_Check (P:=p) (M:=m) (N:=N) (pm:=pm) (ps:=ps) (nm:=nm) (cm:=cm) (n:=n) (c:=c) (md:=md) (rows:=rows) (by simp only [InR];omega) CC.ck
 refine wk 25 (ct @c_codewrightref12_Check cz) ?_
 intro b1 h1 h2 h3
 refine j_gstep rfl rfl (x_field rfl fd27_1 ?_)
 refine j_gstep rfl rfl (x_bld 0 rfl rfl ld3 rfl ?_)
 refine j_run it 3 rfl (by simp) ?_
 refine wk 5 cz ?_
 intro h4
 exact ge
theorem S_codewrightref26_CheckRank {e : Int} (CC : Cok p m md N rows) (hM : 0 ≤ Mo) (hM2 : Mo ≤ rows.length) (hd : d ≤ N) (h : (if exB p m md N rows Mo d sets = true then 0 else 13) = e) : Ctr Tryz.prog 64 [.agg #[.int .i64 p,.int .i64 m,.slice pm nm cm,.int .i64 N,.slice ps n c],.int .i64 Mo,.int .i64 d,.agg #[.slice pt nt ct]] [] [slF I64 pm nm cm md,slF (encSl I64) ps n c rows,slF (encSl I64) pt nt ct sets] (Rv (.int .i64 e) []):=by
 refine Ctr_of_j' (F:=F_codewrightref26_CheckRank) rfl fun C=>?_
 have h64:=CC.n64
 have hln:=CC.len
 have c_codewrightref26_rank:=fun {n c nm cm : Nat} {pm ps : Option Addr}=>S_codewrightref26_rank (n:=n) (c:=c) (nm:=nm) (cm:=cm) (pm:=pm) (ps:=ps) CC hM hM2 hd
 have c_codewrightref26_claim__proves:=fun {n c nm cm nt ct ny cy : Nat} {pm ps pt py : Option Addr}=>S_codewrightref26_claim__proves (n:=n) (c:=c) (nm:=nm) (cm:=cm) (nt:=nt) (ct:=ct) (ny:=ny) (cy:=cy) (pm:=pm) (ps:=ps) (pt:=pt) (py:=py) (Mo:=Mo) (d:=d) (sets:=sets) CC.K CC.mat (by omega) (by omega) (by omega) rfl
 rw [show (decide (exT (rgB p m md N rows Mo) d [] [] sets = some [])) = exB p m md N rows Mo d sets from rfl,h] at c_codewrightref26_claim__proves
 refine wk 7 cz ?_
 intro b1 b2
 refine j_step rfl (x_call [0,1] rfl (c_codewrightref26_rank) rfl ?_)
 rintro _ _ _ ⟨rfl,rfl,rfl⟩
 simp only [List.cons_append,List.nil_append]
 refine wk 10 cz ?_
 intro h1
 refine j_step rfl (x_call [0,1,2] rfl (c_codewrightref26_claim__proves) rfl ?_)
 rintro _ _ _ ⟨rfl,rfl,rfl⟩
 simp only [List.cons_append,List.nil_append]
 simp only [decide_true]
 refine wk 2 cz ?_
 exact ge
theorem S_codewrightref26_CheckDistance {P M N dd e : Int} (hN : InR .i64 N) (hd : InR .i64 dd) (h : cdE P M md N rows dd sets = e) : Ctr Tryz.prog 31 [.agg #[.int .i64 P,.int .i64 M,.slice pm nm cm,.int .i64 N,.slice ps n c],.int .i64 dd,.agg #[.slice pt nt ct]] [] [slF I64 pm nm cm md,slF (encSl I64) ps n c rows,slF (encSl I64) pt nt ct sets]
   (Rv (.int .i64 e) []):=by
 refine Ctr_of_j' (F:=F_codewrightref26_CheckDistance) rfl fun C=>?_
 refine j_len 1 rfl fun hn hb _=>?_
 subst hn
 have hr:=ckE_rng P M md N rows
 have c_codewrightref12_Check:=fun {pm ps : Option Addr} {nm cm n c : Nat}=>S_codewrightref12_Check (P:=P) (M:=M) (N:=N) (pm:=pm) (ps:=ps) (nm:=nm) (cm:=cm) (n:=n) (c:=c) (md:=md) (rows:=rows) hN rfl
 rw [cdE] at h
 by_cases hc : ckE P M md N rows = 0
 ·rw [if_neg (fun e=>e hc)] at h
  rw [hc] at c_codewrightref12_Check
  obtain ⟨p,m,N,rfl,rfl,rfl,CC⟩:=ck_of hc
  have h64:=CC.n64
  have hln:=CC.len
  rw [Int.toNat_natCast,Int.toNat_natCast,Int.toNat_natCast] at h
  by_cases h1 : dd < 1
  ·rw [if_pos (.inl h1)] at h
   subst h
   refine wk 6 cz ?_
   intro b1 b2
   refine j_step rfl (x_call [0,1] rfl (c_codewrightref12_Check) rfl ?_)
   rintro _ _ _ ⟨rfl,rfl,rfl⟩
   simp only [List.cons_append,List.nil_append]
   refine wk 16 cz ?_
   intro h2 h3
   exact ge
  ·by_cases h2 : N + 1 < dd
   ·rw [if_pos (.inr h2)] at h
    subst h
    refine wk 6 cz ?_
    intro b1 b2
    refine j_step rfl (x_call [0,1] rfl (c_codewrightref12_Check) rfl ?_)
    rintro _ _ _ ⟨rfl,rfl,rfl⟩
    simp only [List.cons_append,List.nil_append]
    refine wk 19 cz ?_
    intro h3 h4 h5
    exact ge
   ·rw [if_neg (by omega)] at h
    have c_codewrightref26_CheckRank:=fun {n c nm cm nt ct : Nat} {pm ps pt : Option Addr}=>S_codewrightref26_CheckRank (n:=n) (c:=c) (nm:=nm) (cm:=cm) (nt:=nt) (ct:=ct) (pm:=pm) (ps:=ps) (pt:=pt) (sets:=sets) (Mo:=rows.length) (d:=(dd - 1).toNat) CC (by omega) (by omega) (by omega) h
    rw [show (((dd - 1).toNat : Nat) : Int) = dd - 1 by omega] at c_codewrightref26_CheckRank
    refine wk 6 cz ?_
    intro b1 b2
    refine j_step rfl (x_call [0,1] rfl (c_codewrightref12_Check) rfl ?_)
    rintro _ _ _ ⟨rfl,rfl,rfl⟩
    simp only [List.cons_append,List.nil_append]
    refine wk 23 cz ?_
    intro h3 h4 h5
    refine j_step rfl (x_call [0,1,2] rfl (c_codewrightref26_CheckRank) rfl ?_)
    rintro _ _ _ ⟨rfl,rfl,rfl⟩
    simp only [List.cons_append,List.nil_append]
    simp only [decide_true]
    refine wk 2 cz ?_
    exact ge
 ·rw [if_pos hc] at h
  subst h
  refine wk 6 cz ?_
  intro b1 b2
  refine j_step rfl (x_call [0,1] rfl (c_codewrightref12_Check) rfl ?_)
  rintro _ _ _ ⟨rfl,rfl,rfl⟩
  simp only [List.cons_append,List.nil_append]
  refine wk 8 cz ?_
  intro h1
  exact ge
end
end Go.Proofs.YteadncphjconmaaGreat
