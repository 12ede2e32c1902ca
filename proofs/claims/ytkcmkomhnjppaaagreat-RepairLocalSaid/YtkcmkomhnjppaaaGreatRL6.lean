/-
The words of a space that vanish outside some positions; the least witness. The least witness, and the program's answer whether helpers suffice. The document's tests of entries, shapes and sets; its copies. Multiples and sums of rows in the document. Elimination in the document. Canonical rows, null spaces, combinations and columns in the document. The document's tests of spaces and codes, of sets and pairs. Columns and ranks in the document, what is enough, and the least witness. Whether helpers suffice: what the program answers. What is enough by ranks and by witnesses; the walk of RepairSuffices. Words of messages in the document; the walk of RepairDetermines. The branches of a node of a hitting tree, in the program and in the document. Rows of an elimination are combinations of the rows; solutions of equations. What is left of a word when the rows of a reduced matrix are taken off; words of a code that vanish at the helpers. Differences in a field; the program's test of a word. The rows of a space are taken off a word, in the program. The program's test whether a word is in a space, or in a code. The program's test whether a word is in a code. Hitting trees: what the program's walk through one answers, and what an accepted one shows. Lists put behind one another, in the library. The program's walk through a hitting tree. The program's judgement on a hitting tree. The program's CheckProof. The law's function RepairSound: an accepted tree, and what the document says. A word of the span of a reduced matrix leaves nothing. Witnesses in plain words: words of the code that vanish at the helpers. The document's fields: sums of products; rows of elements. The document's test whether a word is in a space. Sets with one more position; branches, in the document. The hunt for a smallest set of helpers, in plain words. The hunt through the hitting trees of least witnesses, in the program. What remains of the helpers when each one that is not needed is left out. What a plan says, in plain words. Equations with their right hand sides, and their solution by places.
-/
import Derived.Test.YtkcmkomhnjppaaaGreatRL5
set_option linter.unusedVariables false
set_option linter.unusedSimpArgs false
namespace Go.Proofs.YtkcmkomhnjppaaaGreat
open Go Go.Fw
set_option maxRecDepth 100000
set_option linter.unusedVariables false
set_option linter.unusedSimpArgs false
set_option maxHeartbeats 0
theorem othL_mem {n : Nat} {ls : List (List Int)} {x : Int} : x ∈ othL n ls ↔ (0 ≤ x ∧ x < n) ∧ ∀ l ∈ ls,x ∉ l:=by
 rw [othL,List.mem_map]
 constructor
 ·rintro ⟨i,hi,rfl⟩
  obtain ⟨h1,h2⟩:=List.mem_filter.1 hi
  refine ⟨⟨by omega,by have:=List.mem_range.1 h1;omega⟩,fun l hl hx=>?_⟩
  rw [othB,List.any_eq_true.2 ⟨l,hl,decide_eq_true hx⟩] at h2
  cases h2
 ·rintro ⟨⟨h0,h1⟩,h2⟩
  refine ⟨x.toNat,List.mem_filter.2 ⟨List.mem_range.2 (by omega),?_⟩,by omega⟩
  rw [othB]
  cases h : ls.any fun l=>decide (((x.toNat : Nat) : Int) ∈ l) with
  | false=>rfl
  | true =>
   obtain ⟨l,hl,hx⟩:=List.any_eq_true.1 h
   rw [Int.toNat_of_nonneg h0] at hx
   exact absurd (of_decide_eq_true hx) (h2 l hl)
theorem othL_len (n : Nat) (ls : List (List Int)) : (othL n ls).length ≤ n:=by
 rw [othL,List.length_map];have:=List.length_filter_le (othB ls) (List.range n);rwa [List.length_range] at this
theorem othL_st (n : Nat) (ls : List (List Int)) : stP n (othL n ls):=by
 refine ⟨fun x hx=>(othL_mem.1 hx).1,?_⟩
 rw [othL,List.pairwise_map]
 refine List.Pairwise.sublist List.filter_sublist ?_
 refine List.pairwise_lt_range.imp fun h=>?_
 omega
theorem trL_col {rows : List (List Int)} {O : List Int} : trL O.length (rows.map fun r=>O.map fun j=>at0 r j.toNat) = O.map fun j=>colL rows j.toNat:=by
 refine List.ext_getElem (by simp [trL]) fun i h1 h2=>?_
 have hi : i < O.length:=by simpa using h2
 simp only [trL,List.getElem_map,List.getElem_range,colL,List.map_map]
 refine List.map_congr_left fun r _=>?_
 show at0 (O.map fun j=>at0 r j.toNat) i = at0 r O[i].toNat
 rw [at0,List.getD_eq_getElem?_getD,List.getElem?_map,List.getElem?_eq_getElem hi];rfl
abbrev wiP (p m : Nat) (md : List Int) (n : Nat) (gen : List (List Int)) (hs : List Int) : List (List Int):=wiL (liftI (fA p m)) (liftI (fM p (fpo m md))) (negI p m) (invI p m md) n gen (hs.map fun j=>colL gen j.toNat)
theorem cnP_len {p m n : Nat} {md : List Int} {rows : List (List Int)} (K : Fok p m md) (hM : Mat (p ^ m) n rows) : (cnP p m md n rows).1.length = (cnP p m md n rows).2.length ∧ (cnP p m md n rows).2.length ≤ n:=by
 have O:=fok_fo K
 have h1 : Red (p ^ m) n (cnP p m md n rows).1 (cnP p m md n rows).2:=(O.cn hM).1
 exact ⟨O.cn_len hM,h1.piv_le⟩
theorem nuP_len {p m n : Nat} {md : List Int} {rows : List (List Int)} (K : Fok p m md) (hM : Mat (p ^ m) n rows) : (nuP p m md n rows).length ≤ n:=by
 have O:=fok_fo K
 have h1 : Mat (p ^ m) n (nvL (negI p m) n (cnP p m md n rows)):=O.nv_mat (O.cn hM).1
 obtain ⟨h2,h3⟩:=cnP_len K h1
 show (cnP p m md n (nvL (negI p m) n (cnP p m md n rows))).1.length ≤ n
 omega
theorem S_space_Supported_ok {p m n c nm cm N ns cs' : Nat} {pm ps pt : Option Addr} {md set : List Int} {rows : List (List Int)} (CC : Cok p m md N rows) (hst : stP N set) :
  Ctr Tryz.prog 98 [.agg #[.int .i64 p,.int .i64 m,.slice pm nm cm],.agg #[.int .i64 N,.slice ps n c],.slice pt ns cs'] [] [slF I64 pm nm cm md,slF (encSl I64) ps n c rows,slF I64 pt ns cs' set]
   (fun v Φ β=>∃ (pb : Option Addr) (cb : Nat),v = .tuple #[.agg #[.int .i64 N,.slice pb (wiP p m md N rows (othL N [set])).length cb],.int .i64 0] ∧ Φ = [slF (encSl I64) pb (wiP p m md N rows (othL N [set])).length cb (wiP p m md N rows (othL N [set]))] ∧ β = []):=by
 refine Ctr_of_j' (F:=F_space_Supported) rfl fun C=>?_
 have K:=CC.K
 have O:=fok_fo K
 have hq:=K.q
 have hN : N ≤ 256:=by have:=CC.n64;omega
 have hl : rows.length ≤ 256:=by have:=CC.len;omega
 have hM:=CC.mat
 refine j_len 1 rfl fun hn hb _=>?_
 subst hn
 refine j_len 2 rfl fun hn hb2 _=>?_
 subst hn
 have hb' : rows.length * 24 ≤ 140737488355328:=hb
 have hb2' : set.length * 8 ≤ 140737488355328:=hb2
 have c_space_open:=fun {pm ps : Option Addr} {nm cm n c : Nat}=>S_space_open_ok (pm:=pm) (nm:=nm) (cm:=cm) (ps:=ps) (n:=n) (c:=c) (rows:=rows) K hN hl hM CC.can
 refine wk 22 (ct @c_space_open cz) ?_
 intro b1 b2 b3 b4 pg1 cg1 pe1 ce1 pl1 cl1 pp1 cp1 b5 h1
 refine j_loopG (X:=Nat) [2,3,4,6,30,31] [0,1,2,3,4,5,6,7] (fun i=>[(32,.int .i64 (i : Int))]) (fun _=>_) (fun _=>[]) (fun i=>i ≤ set.length) (fun i=>set.length - i) 0 [] rfl rfl rfl (Nat.zero_le _) (by repeat (first | exact Fr.sub_nil _ | refine Fr.sub_cons rfl ?_)) rfl rfl ?_
 rintro i hi ih
 simp only [List.cons_append,List.nil_append] at hi ih ⊢
 by_cases h9 : i < set.length
 ·obtain ⟨x,at_x⟩ : ∃ x,set[i]? = some x:=⟨_,List.getElem?_eq_getElem h9⟩
  obtain ⟨⟨x0,x1⟩,x2⟩:=stP_iff.1 hst i h9 x at_x
  rcases Nat.eq_zero_or_pos i with hi0 | hi0
  ·subst hi0
   refine wk 21 cz ?_
   intro h2 b6 o1 hz1 _ r1 r2 h3
   refine j_split_dec (t:=45) rfl (fun h4=>by exfalso;omega) (fun h4=>?_)
   refine wk 6 cz ?_
   exact tw (ih 1 (by omega) (by omega))
  ·obtain ⟨k,rfl⟩ : ∃ k,i = k + 1:=⟨i - 1,by omega⟩
   obtain ⟨y,at_y⟩ : ∃ y,set[k]? = some y:=⟨_,List.getElem?_eq_getElem (by omega)⟩
   have hxy:=x2 y (by omega) at_y
   refine j_nf [_,_,_,_,_] rfl ?_
   refine j_run it 1 rfl (by simp) ?_
   refine j_nf [_,_,_,_,_] rfl ?_
   refine j_if rfl rfl (fun h2=>?_) (fun h2=>by exfalso;omega)
   refine j_nf [_,_,_,_,_,_,_] rfl ?_
   refine j_run it 1 rfl (by simp) ?_
   refine j_step rfl (x_idx 7 (k + 1) rfl rfl rfl sl22 rfl (by omega) fun z1 hz1 b6 o1=>?_)
   obtain rfl : _ = z1:=Option.some.inj (at_x.symm.trans hz1)
   refine j_step rfl (x_ld_int 0 rfl rfl ld3 fun ⟨r1,r2⟩=>?_)
   refine j_run it 2 rfl (by simp) ?_
   refine j_nf [_,_,_,_,_,_,_] rfl ?_
   refine j_run it 3 rfl (by simp) ?_
   refine j_split_dec (t:=39) rfl (fun h3=>by exfalso;omega) (fun h3=>?_)
   refine j_run it 1 rfl (by simp) ?_
   refine j_gstep rfl rfl (x_field rfl fd67_0 ?_)
   refine j_gstep rfl rfl (x_bld 2 rfl rfl ld3 rfl ?_)
   refine j_run it 3 rfl (by simp) ?_
   refine j_split_dec (t:=45) rfl (fun h4=>by exfalso;omega) (fun h4=>?_)
   refine j_run it 3 rfl (by simp) ?_
   refine j_split_dec (t:=48) rfl (fun h5=>?_) (fun h5=>by exfalso;omega)
   refine j_run it 4 rfl ⟨⟨by omega,by omega⟩,trivial,trivial,trivial,trivial⟩ ?_
   refine j_gstep rfl rfl (x_idx 8 ((k + 1) - 1) rfl rfl rfl sl22 (by omega) (by omega) fun z1 hz2 b7 o2=>?_)
   obtain rfl : _ = z1:=Option.some.inj (at_y.symm.trans hz2)
   refine j_gstep rfl rfl (x_ld_int 0 rfl rfl ld3 fun ⟨r3,r4⟩=>?_)
   refine j_run it 3 rfl (by simp) ?_
   refine j_nf [_,_,_,_,_,_] rfl ?_
   refine j_if rfl rfl (fun h6=>by exfalso;omega) (fun h6=>?_)
   refine j_nf [_,_,_,_] rfl ?_
   refine j_run it 2 rfl ⟨trivial,⟨by omega,by omega⟩,trivial⟩ ?_
   refine j_nfn 1 [.lp (pL 116),.blk 0,.c [1,1,1]] rfl ?_
   exact tw (ih (k + 2) (by omega) (by omega))
 ·clear ih
  have hle:=fun k=>othL_len k [set]
  have hos:=othL_succ
  refine wk 11 cz ?_
  intro h2
  refine j_row0 I64 3 ?_
  refine j_loopG (X:=Nat × Row) [2,3,4,6,61] [0,1,2,3,4,5,6,7,8] (fun x=>[(62,.int .i64 (x.1 : Int)),(12,.slice (ad x.2.bo) (othL x.1 [set]).length x.2.cap)]) (fun x=>(x.2.bo,3,x.2.cs)::_) (fun x=>[rowF I64 x.2 (othL x.1 [set]).length (othL x.1 [set])]) (fun x=>x.1 ≤ N) (fun x=>N - x.1) (0,⟨none,0,[]⟩) [0] rfl rfl rfl (Nat.zero_le _) (by repeat (first | exact Fr.sub_nil _ | refine Fr.sub_cons rfl ?_)) rfl rfl ?_
  rintro ⟨k,r⟩ hk ih
  simp only [List.cons_append,List.nil_append] at hk ih ⊢
  by_cases h9 : k < N
  ·have hk1:=hle k
   have ih':=fun r=>ih (k + 1,r)
   simp only [hos] at ih'
   have hB : othB [set] k = !decide ((k : Int) ∈ set):=by simp [othB]
   by_cases hm : (k : Int) ∈ set
   ·have hd : decide ((k : Int) ∈ set) = true:=decide_eq_true hm
    rw [hB,hd,Bool.not_true,if_neg (by simp),List.append_nil] at ih'
    refine wk 15 (ct @S_slices_Contains___int_int_ cz) ?_
    intro h3
    exact tw (ih' r (by omega) (by omega))
   ·have hd : decide ((k : Int) ∈ set) = false:=decide_eq_false hm
    rw [hB,hd,Bool.not_false,if_pos rfl] at ih'
    simp only [List.length_append,List.length_singleton] at ih'
    refine wk 15 (ct @S_slices_Contains___int_int_ cz) ?_
    intro h3 b6
    refine j_step rfl (x_appR (z:=(↑k : Int)) 1 0 0 rfl rfl rfl rfl rfl sl22 zo22e rfl (fun w A hG=>(rd_int (by first | (simp only [InR];omega) | (simp [InR];done)))) (by omega) _ by22e (by omega) fun r1=>?_)
    refine wk 4 cz ?_
    refine j_toM [true,false,true,true,true,true] [0,2,3,4,5,6,7,8,9,10] (by exact fra rfl) rfl rfl (ih' r1 (by omega) (by omega))
  ·obtain rfl : k = N:=by omega
   clear ih
   have hk1:=hle k
   have hot : ∀ x ∈ othL k [set],0 ≤ x ∧ x < (k : Int):=fun x hx=>(othL_mem.1 hx).1
   generalize othL k [set] = T at *
   refine j_pubR 0 0 rfl rfl (by show T.length * 8 ≤ 140737488355328;omega) ?_
   have c_matrix_Columns:=fun {pm ps pt : Option Addr} {nm cm n c ns cs' : Nat}=>S_matrix_Columns_ok (pm:=pm) (nm:=nm) (cm:=cm) (ps:=ps) (n:=n) (c:=c) (pt:=pt) (ns:=ns) (cs':=cs') (rows:=rows) (set:=T) K hN hl hM (by omega) hot
   have hq0 : 0 < p ^ m:=by have:=O.q2;omega
   have hM1 : Mat (p ^ m) T.length (rows.map fun r=>T.map fun j=>at0 r j.toNat):=fun r hr=>by
    obtain ⟨u,hu,rfl⟩:=List.mem_map.1 hr
    refine ⟨List.length_map _,fun x hx=>?_⟩
    obtain ⟨j,_,rfl⟩:=List.mem_map.1 hx
    exact wd_at hq0 (hM u hu) _
   have c_matrix_Transpose:=fun {pm ps : Option Addr} {nm cm n c : Nat}=>S_matrix_Transpose_ok (pm:=pm) (nm:=nm) (cm:=cm) (ps:=ps) (n:=n) (c:=c) (rows:=rows.map fun r=>T.map fun j=>at0 r j.toNat) (N:=T.length) K (by omega) (by rw [List.length_map];exact hl) hM1
   simp only [trL_col,List.length_map] at c_matrix_Transpose
   have hM2 : Mat (p ^ m) rows.length (T.map fun j=>colL rows j.toNat):=fun r hr=>by
    obtain ⟨j,_,rfl⟩:=List.mem_map.1 hr
    exact wd_col hq0 hM _
   have c_matrix_Kernel:=fun {pm ps : Option Addr} {nm cm n c : Nat}=>S_matrix_Kernel_ok (pm:=pm) (nm:=nm) (cm:=cm) (ps:=ps) (n:=n) (c:=c) (rows:=T.map fun j=>colL rows j.toNat) (N:=rows.length) K hl (by rw [List.length_map];omega) hM2
   have hM3 : Mat (p ^ m) rows.length (nuP p m md rows.length (T.map fun j=>colL rows j.toNat)):=(O.nu hM2).1
   have hl3 : (nuP p m md rows.length (T.map fun j=>colL rows j.toNat)).length ≤ 256:=by
    have:=nuP_len K hM2
    omega
   have hW : woL (liftI (fA p m)) (liftI (fM p (fpo m md))) (negI p m) (invI p m md) k rows (T.map fun j=>colL rows j.toNat) = (nuP p m md rows.length (T.map fun j=>colL rows j.toNat)).map fun x=>cbP p m md k x rows:=rfl
   have hM4:=O.wo_mat (n:=k) hM hM2
   have hlen4:=(cnP_len K hM4).1
   rw [show wiP p m md k rows T = (cnP p m md k (woL (liftI (fA p m)) (liftI (fM p (fpo m md))) (negI p m) (invI p m md) k rows (T.map fun j=>colL rows j.toNat))).1 from rfl,hlen4]
   have hM4' : Mat (p ^ m) k (woL (liftI (fA p m)) (liftI (fM p (fpo m md))) (negI p m) (invI p m md) k rows (T.map fun j=>colL rows j.toNat)):=hM4
   have hl4 : (woL (liftI (fA p m)) (liftI (fM p (fpo m md))) (negI p m) (invI p m md) k rows (T.map fun j=>colL rows j.toNat)).length ≤ 256:=by rw [hW,List.length_map];exact hl3
   have c_matrix_Canonical:=fun {pm ps : Option Addr} {nm cm n c : Nat}=>S_matrix_Canonical_ok (pm:=pm) (nm:=nm) (cm:=cm) (ps:=ps) (n:=n) (c:=c) K hN hl4 hM4'
   have c_matrix_Mul:=fun {pm ps p2 : Option Addr} {nm cm n c n2 c2 : Nat}=>S_matrix_Mul_ok (pm:=pm) (nm:=nm) (cm:=cm) (ps:=ps) (n:=n) (c:=c) (p2:=p2) (n2:=n2) (c2:=c2) (N:=k) K hN hl hM hl3 rfl hM3
   rw [hW] at *
   have hMl : ((nuP p m md rows.length (T.map fun j=>colL rows j.toNat)).map fun x=>cbP p m md k x rows).length = (nuP p m md rows.length (T.map fun j=>colL rows j.toNat)).length:=List.length_map _
   clear hW hlen4 hM4 hM4' hl4 hMl
   generalize nuP p m md rows.length (T.map fun j=>colL rows j.toNat) = U at *
   generalize (T.map fun j=>colL rows j.toNat) = H at *
   refine wk 68 (ct @c_matrix_Columns (ct @c_matrix_Transpose (ct @c_matrix_Kernel (ct @c_matrix_Mul (ct @c_matrix_Canonical cz))))) ?_
   intro h3 pb1 cb1 b6 h4 pb2 cb2 pb3 cb3 b7 h5 pb4 cb4 b8 h6 pb5 pp2 cb5 cp2 b9
   refine j_givC [0] rfl (.agg 5 rfl rfl ld67 rfl (.tmp rfl .nil)) rfl ⟨_,_,rfl,rfl,rfl⟩
theorem st_ext : ∀ {l k : List Int},l.Pairwise (· < ·) → k.Pairwise (· < ·) → (∀ x,x ∈ l ↔ x ∈ k) → l = k
 | [],[],_,_,_=>rfl
 | [],y::k,_,_,h=>by have:=(h y).2 (.head _);cases this
 | x::l,[],_,_,h=>by have:=(h x).1 (.head _);cases this
 | x::l,y::k,h1,h2,h=>by
  obtain ⟨a1,a2⟩:=List.pairwise_cons.1 h1
  obtain ⟨b1,b2⟩:=List.pairwise_cons.1 h2
  have e : x = y:=by
   rcases List.mem_cons.1 ((h x).1 (.head _)) with e | hx
   ·exact e
   ·rcases List.mem_cons.1 ((h y).2 (.head _)) with e | hy
    ·exact e.symm
    ·have:=b1 x hx;have:=a1 y hy;omega
  subst e
  rw [st_ext a2 b2 fun z=>?_]
  constructor
  ·intro hz
   rcases List.mem_cons.1 ((h z).1 (.tail _ hz)) with e | hk
   ·have:=a1 z hz;omega
   ·exact hk
  ·intro hz
   rcases List.mem_cons.1 ((h z).2 (.tail _ hz)) with e | hk
   ·have:=b1 z hz;omega
   ·exact hk
theorem oth_oth {n : Nat} {hs : List Int} (h : stP n hs) : othL n [othL n [hs]] = hs:=by
 refine st_ext (othL_st n _).2 h.2 fun x=>?_
 rw [othL_mem]
 constructor
 ·rintro ⟨h0,h1⟩
  have h2:=h1 _ (.head _)
  rw [othL_mem] at h2
  refine Classical.byContradiction fun hx=>h2 ⟨h0,fun l hl=>?_⟩
  rw [List.mem_singleton.1 hl];exact hx
 ·intro hx
  refine ⟨h.1 x hx,fun l hl=>?_⟩
  rw [List.mem_singleton.1 hl,othL_mem]
  exact fun hh=>hh.2 hs (.head _) hx
def nzL (lost : List Int) (w : List Int) : Bool:=lost.any fun x=>decide (w.getD x.toNat 0 ≠ 0)
abbrev wtP (p m : Nat) (md : List Int) (n : Nat) (gen : List (List Int)) (lost hs : List Int) : Option (List Int):=(wiP p m md n gen hs).find? (nzL lost)
abbrev WtQ (n : Nat) (o : Option (List Int)) : Value → List Fact → List Blk → Prop:=fun v Φ β=>∃ (pa : Option Addr) (k ca : Nat),v = .slice pa k ca ∧ Φ = [slF I64 pa k ca (o.getD [])] ∧ β = [] ∧ (pa = none ↔ o = none) ∧ (o = none → k = 0 ∧ ca = 0)
theorem fok_fn {p m : Nat} {md : List Int} (K : Fok p m md) : FO (p ^ m) (liftI (fA p m)) (liftI (fM p (fpo m md))) (negI p m) (invI p m md):=fok_fo K
theorem hs_mat {p m n : Nat} {md : List Int} {gen : List (List Int)} (CC : Cok p m md n gen) (hs : List Int) : Mat (p ^ m) gen.length (hs.map fun j=>colL gen j.toNat):=fun r hr=>by
 have hq:=(fok_fo CC.K).q2
 obtain ⟨j,_,rfl⟩:=List.mem_map.1 hr
 exact wd_col (by omega) CC.mat _
theorem wi_len {p m n : Nat} {md : List Int} {gen : List (List Int)} (CC : Cok p m md n gen) (hs : List Int) : (wiP p m md n gen hs).length ≤ n:=by
 have h1:=(fok_fn CC.K).wo_mat (n:=n) CC.mat (hs_mat CC hs)
 obtain ⟨h2,h3⟩:=cnP_len CC.K h1
 show (cnP p m md n (woL (liftI (fA p m)) (liftI (fM p (fpo m md))) (negI p m) (invI p m md) n gen (hs.map fun j=>colL gen j.toNat))).1.length ≤ n
 omega
theorem wi_wd {p m n : Nat} {md : List Int} {gen : List (List Int)} (CC : Cok p m md n gen) (hs : List Int) : Mat (p ^ m) n (wiP p m md n gen hs):=by
 exact ((fok_fn CC.K).wi CC.mat (hs_mat CC hs)).1
theorem S_repair_witnessS {p m n c nm cm N nl cl nh ch : Nat} {pm ps pl ph : Option Addr} {md lost hs : List Int} {rows : List (List Int)} (CC : Cok p m md N rows) (hlo : stP N lost) :
  Ctr Tryz.prog 49 [.agg #[.int .i64 p,.int .i64 m,.slice pm nm cm,.int .i64 N,.slice ps n c],.slice pl nl cl,.slice ph nh ch] [] [slF I64 pm nm cm md,slF (encSl I64) ps n c rows,slF I64 pl nl cl lost,slF I64 ph nh ch hs] (WtQ N (wtP p m md N rows lost (othL N [othL N [hs]]))):=by
 refine Ctr_of_j' (F:=F_repair_witness) rfl fun C=>?_
 have hN:=CC.n64
 have hn1:=CC.n1
 have hle:=othL_len N [hs]
 have c_repair_others:=fun {ps : Option Addr} {nn c : Nat}=>(S_repair_others (ps:=ps) (nn:=nn) (c:=c) (n:=N) (ls:=[hs]) (by omega)).pubR (by show (othL N [hs]).length * 8 ≤ 140737488355328;omega)
 have c_space_Supported:=fun {pm ps pt : Option Addr} {nm cm n c ns cs' : Nat}=>S_space_Supported_ok (pm:=pm) (nm:=nm) (cm:=cm) (ps:=ps) (n:=n) (c:=c) (pt:=pt) (ns:=ns) (cs':=cs') CC (othL_st N [hs])
 have hW:=wi_wd CC (othL N [othL N [hs]])
 have hWl:=wi_len CC (othL N [othL N [hs]])
 unfold wtP
 generalize wiP p m md N rows (othL N [othL N [hs]]) = W at *
 refine wk 4 cz ?_
 intro b1
 (apply j_drawKW (x0:=none) it mx 0 17 [15] 1;(· rfl);(· rfl);(· rfl);(· decide))
 simp only [List.drop_zero]
 (apply lxk_eq;(· rfl);(· exact d_x fun _=>x_field rfl fd27_0 dk_eq))
 (apply lxk_eq;(· rfl);(· exact d_bld_agg 0 rfl rfl ld24 rfl rfl))
 (apply lxk_eq;(· rfl);(· exact d_x fun _=>x_field rfl fd27_1 dk_eq))
 (apply lxk_eq;(· rfl);(· exact d_bld 0 rfl rfl ld3 rfl))
 (apply lxk_eq;(· rfl);(· exact d_x fun _=>x_field rfl fd27_2 dk_eq))
 (apply lxk_eq;(· rfl);(· exact d_bld 0 rfl rfl ld25 rfl))
 (apply lxk_fa (val:=fun g=>Value.agg #[Value.int IntKind.i64 ↑N,Value.slice (g 1).1 (n) (g 1).2.1]) (f:=fun g=>[slF (encSl I64) (g 1).1 (n) (g 1).2.1 (rows)]);(· rfl);(· exact d_x fun _=>x_build (cs:=[Value.int IntKind.i64 ↑N,Value.slice ps n c]) st67 zo67 rfl rfl (fun _ _ _ hG=>⟨(fun | 1=>(ps,c,0,[]) | _=>default),rfl,fun g hg=>by (simp only [List.mem_cons,List.not_mem_nil,or_false] at hg;rcases hg with rfl;(· exact drop_own (hG _ (fact_mem (n:=1) rfl))))⟩));intro g1;dsimp only [List.map_cons,List.map_nil])
 (apply lxk_eq;(· rfl);(· exact d_x fun _=>x_field rfl fd27_1 dk_eq))
 (apply lxk_eq;(· rfl);(· exact d_bld 0 rfl rfl ld3 rfl))
 (apply lxk_run 1;(· rfl);(· simp))
 (apply lxk_sl;(· rfl);(· exact d_x fun _=>x_lit sl25 zo25e rfl rfl rfl rfl (by decide) (by decide) rfl fun b2=>dk_all (E:=(encSl (I64))) [[Value.slice ph nh ch]] [hs] (fun w A hG=>(allrd_cons (rd_of_slF (hG _ (fact_mem (n:=3) rfl))) allrd_nil)) rfl rfl rfl (by first | decide | exact Nat.le_of_ble_eq_true rfl));intro pa1 ca1)
 (apply lxk_sl;(· rfl);(· exact d_x fun _=>x_call [0] rfl (c_repair_others) rfl (by rintro _ _ _ ⟨pa2,ca2,rfl,rfl,rfl⟩;exact (dk_sl 0 rfl)));intro pa2 ca2)
 (apply lxk_fa (val:=(fun g=>Value.tuple #[Value.agg #[Value.int IntKind.i64 ↑N,Value.slice (g 0).fst W.length (g 1).snd.fst],Value.int IntKind.i64 0])) (f:=(fun g=>[slF (encSl I64) (g 0).fst W.length (g 1).snd.fst W]));(· rfl);(· exact d_x fun _=>x_call [3,2,0] rfl (c_space_Supported) rfl (by rintro _ _ _ ⟨pbg0,cbg1,rfl,rfl,rfl⟩;exact fun _ _ _ hG=>⟨(fun | 0=>(pbg0,0,0,[]) | 1=>(none,cbg1,0,[]) | _=>default),rfl,fun g hg=>drop_own (hG _ (List.mem_append_left _ hg))⟩));intro g2;dsimp only [List.map_cons,List.map_nil])
 (apply lxk_pv [24] (fun vs=>vs.getD 0 undef) (v:=Value.tuple #[Value.agg #[Value.int IntKind.i64 ↑N,Value.slice (g2 0).fst W.length (g2 1).snd.fst],Value.int IntKind.i64 0]);(· rfl);(· rfl);(· rfl);(· rfl);(· exact d_x fun _=>x_pv it rfl (by trivial) dk_eq))
 (apply lxk_pv [11] (fun vs=>match vs.getD 0 undef with | .tuple a=>a.getD 0 undef | _=>undef) (v:=Value.agg #[Value.int IntKind.i64 ↑N,Value.slice (g2 0).fst W.length (g2 1).snd.fst]);(· rfl);(· rfl);(· rfl);(· rfl);(· exact d_x fun _=>x_pv it rfl (by trivial) dk_eq))
 (apply lxk_eq;(· rfl);(· exact d_x fun _=>x_pv it rfl (by trivial) dk_eq))
 (apply lxk_alloc;(· rfl);(· exact zo67);intro b2)
 refine lxk_endW rfl ?_
 (rotate_left;rfl;rotate_right)
 simp only [List.map_cons,List.map_nil,List.cons_append,List.nil_append]
 refine win_step it rfl rfl ⟨⟨_,_,_,_,rfl,rfl,rfl,rfl,rfl,rfl,(by first | trivial | (repeat' first | exact trivial | apply And.intro | omega))⟩,trivial⟩ (x_bst_all 0 rfl rfl rfl ld67 rfl rfl (by simp [Value.oneCell']) ?_)
 refine win_end it ⟨⟨_,_,_,_,rfl,rfl,rfl,rfl,rfl,rfl,(by first | trivial | (repeat' first | exact trivial | apply And.intro | omega))⟩,trivial⟩ ?_
 refine wk 7 cz ?_
 refine j_loopG (X:=Nat) [1,28,29] [0,1,2,3,4,5,6,7] (fun i=>[(30,.int .i64 (i : Int))]) (fun _=>_) (fun _=>[]) (fun i=>i ≤ W.length ∧ W.find? (nzL lost) = (W.drop i).find? (nzL lost)) (fun i=>W.length - i) 0 [] rfl rfl rfl ⟨Nat.zero_le _,rfl⟩ (by repeat (first | exact Fr.sub_nil _ | refine Fr.sub_cons rfl ?_)) rfl rfl ?_
 rintro i ⟨hi,he⟩ ih
 simp only [List.cons_append,List.nil_append] at hi he ih ⊢
 by_cases h9 : i < W.length
 ·obtain ⟨w,at_w,ed⟩ : ∃ w,W[i]? = some w ∧ W.drop i = w::W.drop (i + 1):=⟨W[i],List.getElem?_eq_getElem h9,List.drop_eq_getElem_cons h9⟩
  have hw:=(hW w (List.mem_of_getElem? at_w)).1
  have hlw : ∀ x ∈ lost,0 ≤ x ∧ x < (w.length : Int):=fun x hx=>by rw [hw];exact hlo.1 x hx
  have c_repair_nonzero:=fun {pa pb : Option Addr} {na ca nb cb : Nat}=>S_repair_nonzero (pa:=pa) (pb:=pb) (na:=na) (ca:=ca) (nb:=nb) (cb:=cb) hlw
  rw [ed,List.find?_cons] at he
  cases hz : nzL lost w with
  | true =>
   rw [hz] at he
   rw [show (lost.any fun x=>decide (w.getD x.toNat 0 ≠ 0)) = true from hz] at c_repair_nonzero
   rw [he]
   refine wk 16 (ct @c_repair_nonzero cz) ?_
   intro h1 b3 o1 hz1 pa3 ca3
   refine j_slsome 0 rfl (by omega) fun b o hpa=>?_
   refine j_giv [0] rfl rfl rfl ⟨pa3,_,ca3,rfl,rfl,rfl,⟨fun h=>(by rw [hpa] at h;cases h),fun h=>(by cases h)⟩,fun h=>(by cases h)⟩
  | false =>
   rw [hz] at he
   rw [show (lost.any fun x=>decide (w.getD x.toNat 0 ≠ 0)) = false from hz] at c_repair_nonzero
   refine wk 16 (ct @c_repair_nonzero cz) ?_
   intro h1 b3 o1 hz1 pa3 ca3
   exact tw (ih (i + 1) (by omega) ⟨by omega,he⟩)
 ·rw [List.drop_of_length_le (by omega)] at he
  rw [he]
  clear ih
  refine wk 7 cz ?_
  intro h1
  refine j_add (slF I64 none 0 0 []) (fun w A _=>slF_nil I64 w A none 0) ?_
  refine j_giv [0] rfl rfl rfl ⟨none,0,0,rfl,rfl,rfl,⟨fun _=>rfl,fun _=>rfl⟩,fun _=>⟨rfl,rfl⟩⟩
noncomputable def pairE (P M : Int) (md : List Int) (N : Int) (rows : List (List Int)) (lost hs : List Int) : Int :=
 if ckE P M md N rows ≠ 0 then ckE P M md N rows else if ¬ (stP N lost ∧ stP N hs) then 5 else if (lost.any fun x=>decide (x ∈ hs)) = true then 10 else 0
theorem S_repair_witness {p m n c nm cm N nl cl nh ch : Nat} {pm ps pl ph : Option Addr} {md lost hs : List Int} {rows : List (List Int)} (CC : Cok p m md N rows) (hlo : stP N lost) (hst : stP N hs) :
  Ctr Tryz.prog 49 [.agg #[.int .i64 p,.int .i64 m,.slice pm nm cm,.int .i64 N,.slice ps n c],.slice pl nl cl,.slice ph nh ch] [] [slF I64 pm nm cm md,slF (encSl I64) ps n c rows,slF I64 pl nl cl lost,slF I64 ph nh ch hs] (WtQ N (wtP p m md N rows lost hs)):=by
 have h:=S_repair_witnessS (n:=n) (c:=c) (nm:=nm) (cm:=cm) (nl:=nl) (cl:=cl) (nh:=nh) (ch:=ch) (pm:=pm) (ps:=ps) (pl:=pl) (ph:=ph) (hs:=hs) CC hlo
 rwa [oth_oth hst] at h
theorem S_repair_sides {P M N e : Int} {n c nm cm nl cl nh ch : Nat} {pm ps pl ph : Option Addr} {md lost hs : List Int} {rows : List (List Int)} (hN : InR .i64 N) (h : pairE P M md N rows lost hs = e) :
  Ctr Tryz.prog 69 [.agg #[.int .i64 P,.int .i64 M,.slice pm nm cm,.int .i64 N,.slice ps n c],.slice pl nl cl,.slice ph nh ch] [] [slF I64 pm nm cm md,slF (encSl I64) ps n c rows,slF I64 pl nl cl lost,slF I64 ph nh ch hs] (Rv (.int .i64 e) []):=by
 refine Ctr_of_j' (F:=F_repair_sides) rfl fun C=>?_
 have hr:=ckE_rng P M md N rows
 have c_code_Check:=fun {pm ps : Option Addr} {nm cm n c : Nat}=>S_code_Check (P:=P) (M:=M) (N:=N) (md:=md) (rows:=rows) (pm:=pm) (nm:=nm) (cm:=cm) (ps:=ps) (n:=n) (c:=c) hN rfl
 rw [pairE] at h
 by_cases h0 : ckE P M md N rows = 0
 ·rw [if_neg (fun e=>e h0)] at h
  rw [h0] at c_code_Check
  by_cases h1 : stP N lost
  ·have d1 : decide (stP N lost) = true:=decide_eq_true h1
   have c_repair_set:=fun {ps : Option Addr} {nn c : Nat} {n : Int} {l : List Int} {res : Bool} (hr : decide (stP n l) = res)=>S_repair_set (ps:=ps) (nn:=nn) (c:=c) hr
   by_cases h2 : stP N hs
   ·have d2 : decide (stP N hs) = true:=decide_eq_true h2
    rw [if_neg (fun e=>e ⟨h1,h2⟩)] at h
    cases hm : (lost.any fun x=>decide (x ∈ hs)) with
    | true =>
     rw [hm,if_pos rfl] at h
     subst h
     have c_repair_meet:=fun {pa pb : Option Addr} {na ca nb cb : Nat}=>S_repair_meet (pa:=pa) (pb:=pb) (na:=na) (ca:=ca) (nb:=nb) (cb:=cb) (k:=lost) (l:=hs)
     rw [hm] at c_repair_meet
     refine wk 31 (ct @c_code_Check (ct @c_repair_set (ct @c_repair_set (ct @c_repair_meet cz)))) ?_
     intro b1 h3
     exact ge
    | false =>
     rw [hm,if_neg (by simp)] at h
     subst h
     have c_repair_meet:=fun {pa pb : Option Addr} {na ca nb cb : Nat}=>S_repair_meet (pa:=pa) (pb:=pb) (na:=na) (ca:=ca) (nb:=nb) (cb:=cb) (k:=lost) (l:=hs)
     rw [hm] at c_repair_meet
     refine wk 31 (ct @c_code_Check (ct @c_repair_set (ct @c_repair_set (ct @c_repair_meet cz)))) ?_
     intro b1 h3
     exact ge
   ·have d2 : decide (stP N hs) = false:=decide_eq_false h2
    rw [if_pos (fun e=>h2 e.2)] at h
    subst h
    refine wk 26 (ct @c_code_Check (ct @c_repair_set (ct @c_repair_set cz))) ?_
    intro b1 h3
    exact ge
  ·have d1 : decide (stP N lost) = false:=decide_eq_false h1
   rw [if_pos (fun e=>h1 e.1)] at h
   subst h
   refine wk 22 (ct @c_code_Check (ct @S_repair_set cz)) ?_
   intro b1 h2
   exact ge
 ·rw [if_pos h0] at h
  subst h
  refine wk 14 (ct @c_code_Check cz) ?_
  intro b1 h1
  exact ge
theorem gd_at {α : Type} [Inhabited α] {l : List α} {i : Nat} {x : α} (h : l[i]? = some x) : l.getD i default = x:=by rw [List.getD_eq_getElem?_getD,h];rfl
theorem S_codewrightref09_Entries {p m nm cm n c : Nat} {pm ps : Option Addr} {md l : List Int} (K : Fok p m md) : Ctr Tryz.prog 44 [.agg #[.int .i64 p,.int .i64 m,.slice pm nm cm],.slice ps n c] [] [slF I64 ps n c l] (Rv (.int .i64 (entE l (p ^ m))) []):=by
 refine Ctr_of_j' (F:=F_codewrightref09_Entries) rfl fun C=>?_
 refine j_len 0 rfl fun hn hb _=>?_
 subst hn
 have hb' : l.length * 8 ≤ 140737488355328:=hb
 have ho:=K.ord
 refine wk 6 cz ?_
 intro b1
 refine j_loopG (X:=Nat) [1,2] [0] (fun i=>[(5,.int .i64 (i : Int))]) (fun _=>_) (fun _=>[]) (fun i=>i ≤ l.length ∧ ∀ x ∈ l.take i,0 ≤ x ∧ x < ((p ^ m : Nat) : Int)) (fun i=>l.length - i) 0 [] rfl rfl rfl ⟨Nat.zero_le _,fun x h=>by simp at h⟩ (by repeat (first | exact Fr.sub_nil _ | refine Fr.sub_cons rfl ?_)) rfl rfl ?_
 rintro i ⟨hi,hno⟩ ih
 simp only [List.cons_append,List.nil_append] at hi ih ⊢
 by_cases h9 : i < l.length
 ·obtain ⟨y,hy⟩ : ∃ y,l[i]? = some y:=⟨_,List.getElem?_eq_getElem h9⟩
  have ey:=gd_at hy
  by_cases h8 : 0 ≤ y ∧ y < ((p ^ m : Nat) : Int)
  ·have hd : decide (0 ≤ l.getD i default ∧ l.getD i default < ordI (p : Int) (m : Int)) = true:=by rw [ey,ho];exact decide_eq_true h8
   refine wk 13 (ct @S_codewrightref04_Is cz) ?_
   intro h1 b2 o1
   exact tw (ih (i + 1) (by omega) ⟨by omega,fun x hx=>by
    rw [List.take_add_one,hy] at hx
    rcases List.mem_append.1 hx with hx | hx
    ·exact hno x hx
    ·rw [Option.toList_some,List.mem_singleton] at hx
     rw [hx];exact h8⟩)
  ·have hd : decide (0 ≤ l.getD i default ∧ l.getD i default < ordI (p : Int) (m : Int)) = false:=by rw [ey,ho];exact decide_eq_false h8
   rw [entE,if_neg fun h=>h8 (h y (List.mem_of_getElem? hy))]
   refine wk 13 (ct @S_codewrightref04_Is cz) ?_
   intro h1 b2 o1
   exact ge
 ·rw [entE,if_pos fun x hx=>hno x (by rwa [List.take_of_length_le (by omega)])]
  refine wk 9 cz ?_
  intro h1
  exact ge
theorem tk_all {α : Type} {P : α → Prop} {l : List α} {i : Nat} {r : α} (hr : l[i]? = some r) (h : ∀ x ∈ l.take i,P x) (hp : P r) : ∀ x ∈ l.take (i + 1),P x:=fun x hx=>by
 rw [List.take_add_one,hr] at hx
 rcases List.mem_append.1 hx with hx | hx
 ·exact h x hx
 ·rw [Option.toList_some,List.mem_singleton] at hx
  rw [hx];exact hp
open Classical in
noncomputable def mkE (P M : Int) (md : List Int) (N : Int) (rows : List (List Int)) : Int:=if ¬ chkF P M md then 1 else mtE N rows (P.toNat ^ M.toNat)
theorem S_codewrightref09_Check {P M N e : Int} {nm cm n c : Nat} {pm ps : Option Addr} {md : List Int} {rows : List (List Int)} (hN : InR .i64 N) (he : mkE P M md N rows = e) :
  Ctr Tryz.prog 78 [.agg #[.int .i64 P,.int .i64 M,.slice pm nm cm],.agg #[.int .i64 N,.slice ps n c]] [] [slF I64 pm nm cm md,slF (encSl I64) ps n c rows] (Rv (.int .i64 e) []):=by
 refine Ctr_of_j' (F:=F_codewrightref09_Check) rfl fun C=>?_
 refine j_len 1 rfl fun hn hb _=>?_
 subst hn
 have hb' : rows.length * 24 ≤ 140737488355328:=hb
 obtain ⟨N0,N1⟩:=hN
 rw [mkE] at he
 by_cases hc : chkF P M md
 ·rw [if_neg (fun h=>h hc)] at he
  have c_codewrightref04_Check:=fun {pm : Option Addr} {nm cm : Nat}=>S_codewrightref04_Check (P:=P) (M:=M) (md:=md) (pm:=pm) (nm:=nm) (cm:=cm) (if_pos hc).symm
  obtain ⟨p,m,rfl,rfl,K⟩:=chk_ok hc
  rw [Int.toNat_natCast,Int.toNat_natCast] at he
  have hq:=K.q
  have c_codewrightref09_Entries:=fun {nm cm n c : Nat} {pm ps : Option Addr} {l : List Int}=>S_codewrightref09_Entries (nm:=nm) (cm:=cm) (pm:=pm) (ps:=ps) (n:=n) (c:=c) (l:=l) K
  subst he
  by_cases h1 : N < 0 ∨ 256 < N ∨ 256 < rows.length
  ·rw [mtE,if_pos h1]
   by_cases a1 : N < 0
   ·refine wk 24 (ct @c_codewrightref04_Check cz) ?_
    intro b1 b2 h2 h3
    exact ge
   ·by_cases a2 : 256 < N
    ·refine wk 30 (ct @c_codewrightref04_Check cz) ?_
     intro b1 b2 h2 h3 h4
     exact ge
    ·have a3 : 256 < rows.length:=by omega
     refine wk 33 (ct @c_codewrightref04_Check cz) ?_
     intro b1 b2 h2 h3 h4 h5
     exact ge
  ·rw [mtE,if_neg h1]
   have a1 : ¬ N < 0:=by omega
   have a2 : ¬ 256 < N:=by omega
   have a3 : ¬ 256 < rows.length:=by omega
   refine wk 33 (ct @c_codewrightref04_Check cz) ?_
   intro b1 b2 h2 h3 h4 h5
   refine j_loopG (X:=Nat) [2,3,5] [0,1] (fun i=>[(6,.int .i64 (i : Int))]) (fun _=>_) (fun _=>[]) (fun i=>i ≤ rows.length ∧ ∀ r ∈ rows.take i,(r.length : Int) = N) (fun i=>rows.length - i) 0 [] rfl rfl rfl ⟨Nat.zero_le _,fun x h=>by simp at h⟩ (by repeat (first | exact Fr.sub_nil _ | refine Fr.sub_cons rfl ?_)) rfl rfl ?_
   rintro i ⟨hi,hno⟩ ih
   simp only [List.cons_append,List.nil_append] at hi ih ⊢
   by_cases h9 : i < rows.length
   ·obtain ⟨r,hr⟩ : ∃ r,rows[i]? = some r:=⟨_,List.getElem?_eq_getElem h9⟩
    have er:=gd_at hr
    by_cases h8 : (r.length : Int) = N
    ·have h7 : ((rows.getD i default).length : Int) = N:=by rw [er];exact h8
     refine wk 15 cz ?_
     intro h6 b3 o1 pa1 ca1 h10
     exact tw (ih (i + 1) (by omega) ⟨by omega,tk_all hr hno h8⟩)
    ·have h7 : ((rows.getD i default).length : Int) ≠ N:=by rw [er];exact h8
     rw [if_pos ⟨r,List.mem_of_getElem? hr,h8⟩]
     refine wk 15 cz ?_
     intro h6 b3 o1 pa1 ca1 h10
     exact ge
   ·have hlen : ∀ r ∈ rows,(r.length : Int) = N:=fun r hr=>hno r (by rwa [List.take_of_length_le (by omega)])
    rw [if_neg fun ⟨r,hr,h⟩=>h (hlen r hr)]
    clear ih hno hi
    refine wk 11 cz ?_
    intro h6
    refine j_loopG (X:=Nat) [2,3] [0,1] (fun i=>[(7,.int .i64 (i : Int)),(5,.int .i64 0)]) (fun _=>_) (fun _=>[]) (fun i=>i ≤ rows.length ∧ ∀ r ∈ rows.take i,∀ x ∈ r,0 ≤ x ∧ x < ((p ^ m : Nat) : Int)) (fun i=>rows.length - i) 0 [] rfl rfl rfl ⟨Nat.zero_le _,fun x h=>by simp at h⟩ (by repeat (first | exact Fr.sub_nil _ | refine Fr.sub_cons rfl ?_)) rfl rfl ?_
    rintro i ⟨hi,hno⟩ ih
    simp only [List.cons_append,List.nil_append] at hi ih ⊢
    by_cases h9 : i < rows.length
    ·obtain ⟨r,hr⟩ : ∃ r,rows[i]? = some r:=⟨_,List.getElem?_eq_getElem h9⟩
     have er:=gd_at hr
     by_cases h8 : ∀ x ∈ r,0 ≤ x ∧ x < ((p ^ m : Nat) : Int)
     ·have he : entE (rows.getD i default) (p ^ m) = 0:=by rw [er,entE,if_pos h8]
      refine wk 18 (ct @c_codewrightref09_Entries cz) ?_
      intro h7 b3 o1 pa1 ca1 h10
      exact tw (ih (i + 1) (by omega) ⟨by omega,tk_all hr hno h8⟩)
     ·have he : entE (rows.getD i default) (p ^ m) = 2:=by rw [er,entE,if_neg h8]
      rw [if_neg fun h=>h8 (h r (List.mem_of_getElem? hr)),← he]
      refine wk 18 (ct @c_codewrightref09_Entries cz) ?_
      intro h7 b3 o1 pa1 ca1 h10
      exact ge
    ·rw [if_pos fun r hr=>hno r (by rwa [List.take_of_length_le (by omega)])]
     refine wk 11 cz ?_
     intro h7
     exact ge
 ·rw [if_pos hc] at he
  subst he
  have c_codewrightref04_Check:=fun {pm : Option Addr} {nm cm : Nat}=>S_codewrightref04_Check (P:=P) (M:=M) (md:=md) (pm:=pm) (nm:=nm) (cm:=cm) (if_neg hc).symm
  refine wk 15 (ct @c_codewrightref04_Check cz) ?_
  intro b1 b2 h1
  exact ge
theorem S_codewrightref09_SameInts {pl pk : Option Addr} {nl cl nk ck : Nat} {l k : List Int} {res : Bool} (hr : decide (l = k) = res) : Ctr Tryz.prog 122 [.slice pl nl cl,.slice pk nk ck] [] [slF I64 pl nl cl l,slF I64 pk nk ck k] (Rv (.bool res) []):=by
 refine Ctr_of_j' (F:=F_codewrightref09_SameInts) rfl fun C=>?_
 subst hr
 refine j_len 0 rfl fun hn hb _=>?_
 refine j_len 1 rfl fun hn2 hb2 _=>?_
 subst hn
 subst hn2
 have hb' : l.length * 8 ≤ 140737488355328:=hb
 have hb2' : k.length * 8 ≤ 140737488355328:=hb2
 by_cases hl : l.length = k.length
 ·refine wk 13 cz ?_
  intro h1
  refine j_loopG (X:=Nat) [0,1] [0,1] (fun i=>[(5,.int .i64 (i : Int))]) (fun _=>[]) (fun _=>[]) (fun i=>i ≤ l.length ∧ ∀ j,j < i → l[j]? = k[j]?) (fun i=>l.length - i) 0 [] rfl rfl rfl ⟨Nat.zero_le _,fun j h=>by omega⟩ (by repeat (first | exact Fr.sub_nil _ | refine Fr.sub_cons rfl ?_)) rfl rfl ?_
  rintro i ⟨hi,hno⟩ ih
  simp only [List.cons_append,List.nil_append] at hi ih ⊢
  by_cases h9 : i < l.length
  ·obtain ⟨y,hy⟩ : ∃ y,l[i]? = some y:=⟨_,List.getElem?_eq_getElem h9⟩
   obtain ⟨z,hz⟩ : ∃ z,k[i]? = some z:=⟨_,List.getElem?_eq_getElem (by omega)⟩
   have ey:=gd_at hy
   have ez:=gd_at hz
   by_cases h8 : y = z
   ·subst h8
    refine wk 13 cz ?_
    intro h2 b1 o1 b2 o2 h3
    exact tw (ih (i + 1) (by omega) ⟨by omega,fun j hj=>by
     rcases Nat.lt_succ_iff_lt_or_eq.1 hj with h | rfl
     ·exact hno j h
     ·rw [hy,hz]⟩)
   ·rw [decide_eq_false (show l ≠ k from fun e=>by rw [e,hz] at hy;exact h8 (Option.some.inj hy).symm)]
    refine wk 13 cz ?_
    intro h2 b1 o1 b2 o2 h3
    exact ge
  ·rw [decide_eq_true (show l = k from List.ext_getElem? fun j=>by
    by_cases h : j < i
    ·exact hno j h
    ·rw [List.getElem?_eq_none (by omega),List.getElem?_eq_none (by omega)])]
   refine wk 9 cz ?_
   intro h2
   exact ge
 ·rw [decide_eq_false (show l ≠ k from fun e=>hl (by rw [e]))]
  refine wk 13 cz ?_
  intro h1
  exact ge
theorem S_codewrightref09_SameRows {pl pk : Option Addr} {nl cl nk ck : Nat} {l k : List (List Int)} {res : Bool} (hr : decide (l = k) = res) : Ctr Tryz.prog 80 [.slice pl nl cl,.slice pk nk ck] [] [slF (encSl I64) pl nl cl l,slF (encSl I64) pk nk ck k] (Rv (.bool res) []):=by
 refine Ctr_of_j' (F:=F_codewrightref09_SameRows) rfl fun C=>?_
 subst hr
 refine j_len 0 rfl fun hn hb _=>?_
 refine j_len 1 rfl fun hn2 hb2 _=>?_
 subst hn
 subst hn2
 have hb' : l.length * 24 ≤ 140737488355328:=hb
 have hb2' : k.length * 24 ≤ 140737488355328:=hb2
 by_cases hl : l.length = k.length
 ·refine wk 13 cz ?_
  intro h1
  refine j_loopG (X:=Nat) [0,1] [0,1] (fun i=>[(5,.int .i64 (i : Int))]) (fun _=>[]) (fun _=>[]) (fun i=>i ≤ l.length ∧ ∀ j,j < i → l[j]? = k[j]?) (fun i=>l.length - i) 0 [] rfl rfl rfl ⟨Nat.zero_le _,fun j h=>by omega⟩ (by repeat (first | exact Fr.sub_nil _ | refine Fr.sub_cons rfl ?_)) rfl rfl ?_
  rintro i ⟨hi,hno⟩ ih
  simp only [List.cons_append,List.nil_append] at hi ih ⊢
  by_cases h9 : i < l.length
  ·obtain ⟨y,hy⟩ : ∃ y,l[i]? = some y:=⟨_,List.getElem?_eq_getElem h9⟩
   obtain ⟨z,hz⟩ : ∃ z,k[i]? = some z:=⟨_,List.getElem?_eq_getElem (by omega)⟩
   have ey:=gd_at hy
   have ez:=gd_at hz
   by_cases h8 : y = z
   ·have hd : decide (l.getD i default = k.getD i default) = true:=by rw [ey,ez];exact decide_eq_true h8
    refine wk 13 (ct @S_codewrightref09_SameInts cz) ?_
    intro h2 b1 o1 pa1 ca1 b2 o2 pa2 ca2
    exact tw (ih (i + 1) (by omega) ⟨by omega,fun j hj=>by
     rcases Nat.lt_succ_iff_lt_or_eq.1 hj with h | rfl
     ·exact hno j h
     ·rw [hy,hz,h8]⟩)
   ·have hd : decide (l.getD i default = k.getD i default) = false:=by rw [ey,ez];exact decide_eq_false h8
    rw [decide_eq_false (show l ≠ k from fun e=>by rw [e,hz] at hy;exact h8 (Option.some.inj hy).symm)]
    refine wk 13 (ct @S_codewrightref09_SameInts cz) ?_
    intro h2 b1 o1 pa1 ca1 b2 o2 pa2 ca2
    exact ge
  ·rw [decide_eq_true (show l = k from List.ext_getElem? fun j=>by
    by_cases h : j < i
    ·exact hno j h
    ·rw [List.getElem?_eq_none (by omega),List.getElem?_eq_none (by omega)])]
   refine wk 9 cz ?_
   intro h2
   exact ge
 ·rw [decide_eq_false (show l ≠ k from fun e=>hl (by rw [e]))]
  refine wk 13 cz ?_
  intro h1
  exact ge
theorem S_codewrightref11_IsSubset {ps : Option Addr} {nn c : Nat} {n : Int} {l : List Int} {res : Bool} (hr : decide (stP n l) = res) : Ctr Tryz.prog 55 [.int .i64 n,.slice ps nn c] [] [slF I64 ps nn c l] (Rv (.bool res) []):=by
 refine Ctr_of_j' (F:=F_codewrightref11_IsSubset) rfl fun C=>?_
 subst hr
 refine j_len 0 rfl fun hn hb _=>?_
 subst hn
 have hb' : l.length * 8 ≤ 140737488355328:=hb
 refine wk 5 cz ?_
 refine j_loopG (X:=Nat) [0,1] [0] (fun i=>[(5,.int .i64 (i : Int))]) (fun _=>[]) (fun _=>[]) (fun i=>i ≤ l.length ∧ ∀ j,j < i → stA n l j) (fun i=>l.length - i) 0 [] rfl rfl rfl ⟨Nat.zero_le _,fun j h=>by omega⟩ (by repeat (first | exact Fr.sub_nil _ | refine Fr.sub_cons rfl ?_)) rfl rfl ?_
 rintro i ⟨hi,hno⟩ ih
 simp only [List.cons_append,List.nil_append] at hi ih ⊢
 by_cases h9 : i < l.length
 ·obtain ⟨x,at_x⟩ : ∃ x,l[i]? = some x:=⟨_,List.getElem?_eq_getElem h9⟩
  have ex:=gd_at at_x
  have bad : ∀ P : Prop,¬ stA n l i → decide (stP n l) = false:=fun _ h=>decide_eq_false (stP_no h9 h)
  have good : stA n l i → ∀ j,j < i + 1 → stA n l j:=fun h j hj=>by
   rcases Nat.lt_succ_iff_lt_or_eq.1 hj with h1 | rfl
   ·exact hno j h1
   ·exact h
  by_cases a0 : x < 0
  ·rw [bad True fun h=>by have:=(h x at_x).1;omega]
   refine j_nf [_,_,_,_,_,_] rfl ?_
   refine j_run it 2 rfl (by simp) ?_
   refine j_step rfl (x_len sl22 rfl ?_)
   refine j_run it 1 rfl (by simp) ?_
   refine j_nf [_,_,_,_,_] rfl ?_
   refine j_if rfl rfl (fun h1=>?_) (fun h1=>by exfalso;omega)
   refine j_nf [_,_,_,_,_,_,_,_] rfl ?_
   refine j_run it 2 rfl (by simp) ?_
   refine j_step rfl (x_idx 0 (i) rfl rfl rfl sl22 rfl (by omega) fun z1 hz1 b1 o1=>?_)
   obtain rfl : _ = z1:=Option.some.inj (at_x.symm.trans hz1)
   refine j_step rfl (x_ld_int 0 rfl rfl ld3 fun ⟨r1,r2⟩=>?_)
   refine j_run it 2 rfl (by simp) ?_
   refine j_split_dec (t:=17) rfl (fun h2=>?_) (fun h2=>by exfalso;omega)
   refine j_run it 7 rfl (by simp) ?_
   refine j_nf [_,_,_,_,_,_,_] rfl ?_
   refine j_true rfl rfl ?_
   refine j_nf [_,_,_,_,_,_,_,_] rfl ?_
   refine j_run it 1 rfl (by simp) ?_
   refine j_nf [_,_,_,_,_,_,_] rfl ?_
   exact ge
  ·by_cases a1 : n ≤ x
   ·rw [bad True fun h=>by have:=(h x at_x).1;omega]
    refine wk 13 cz ?_
    intro h1 b1 o1 hz1 _ r1 r2
    refine j_split_dec (t:=17) rfl (fun h2=>by exfalso;omega) (fun h2=>?_)
    refine wk 2 cz ?_
    intro b2 o2 hz2
    refine j_gstep rfl rfl (x_ld_int 0 rfl rfl ld3 fun ⟨r3,r4⟩=>?_)
    refine wk 6 cz ?_
    intro h3
    exact ge
   ·rcases Nat.eq_zero_or_pos i with hi0 | hi0
    ·subst hi0
     refine wk 13 cz ?_
     intro h1 b1 o1 hz1 _ r1 r2
     refine j_split_dec (t:=17) rfl (fun h2=>by exfalso;omega) (fun h2=>?_)
     refine wk 2 cz ?_
     intro b2 o2 hz2
     refine j_gstep rfl rfl (x_ld_int 0 rfl rfl ld3 fun ⟨r3,r4⟩=>?_)
     refine wk 10 cz ?_
     intro h3
     exact tw (ih 1 (by omega) ⟨by omega,good fun z hz=>by
      rw [at_x] at hz;obtain rfl:=Option.some.inj hz
      exact ⟨by omega,fun y h=>by omega⟩⟩)
    ·obtain ⟨k,rfl⟩ : ∃ k,i = k + 1:=⟨i - 1,by omega⟩
     obtain ⟨y,at_y⟩ : ∃ y,l[k]? = some y:=⟨_,List.getElem?_eq_getElem (by omega)⟩
     have ey:=gd_at at_y
     have ey' : l.getD (k + 1 - 1) default = y:=ey
     by_cases a2 : x ≤ y
     ·rw [bad True fun h=>by have:=(h x at_x).2 y (by omega) at_y;omega]
      refine wk 13 cz ?_
      intro h1 b1 o1 hz1 _ r1 r2
      refine j_split_dec (t:=17) rfl (fun h2=>by exfalso;omega) (fun h2=>?_)
      refine wk 2 cz ?_
      intro b2 o2 hz2
      refine j_gstep rfl rfl (x_ld_int 0 rfl rfl ld3 fun ⟨r3,r4⟩=>?_)
      refine wk 10 cz ?_
      intro h3 b3 o3 b4 o4
      exact ge
     ·refine wk 13 cz ?_
      intro h1 b1 o1 hz1 _ r1 r2
      refine j_split_dec (t:=17) rfl (fun h2=>by exfalso;omega) (fun h2=>?_)
      refine wk 2 cz ?_
      intro b2 o2 hz2
      refine j_gstep rfl rfl (x_ld_int 0 rfl rfl ld3 fun ⟨r3,r4⟩=>?_)
      refine wk 10 cz ?_
      intro h3 b3 o3 b4 o4
      exact tw (ih (k + 2) (by omega) ⟨by omega,good fun z hz=>by
       rw [at_x] at hz;obtain rfl:=Option.some.inj hz
       exact ⟨by omega,fun z h hz=>by
        rw [show k + 1 - 1 = k by omega,at_y] at hz;obtain rfl:=Option.some.inj hz;omega⟩⟩)
 ·rw [decide_eq_true (stP_iff.2 fun j hj=>hno j (by omega))]
  refine wk 9 cz ?_
  intro h1
  exact ge
theorem S_codewrightref09_Copy {ps : Option Addr} {n c : Nat} {rows : List (List Int)} (hL : ∀ r ∈ rows,r.length ≤ 1000000) : Ctr Tryz.prog 158 [.slice ps n c] [] [slF (encSl I64) ps n c rows]
  (fun v Φ β=>∃ r : Row,v = .slice (ad r.bo) rows.length r.cap ∧ Φ = [rowF (encSl I64) r rows.length rows] ∧ β = [(r.bo,22,r.cs)]):=by
 refine Ctr_of_j' (F:=F_codewrightref09_Copy) rfl fun C=>?_
 refine j_len 0 rfl fun hn hb _=>?_
 subst hn
 have hb' : rows.length * 24 ≤ 140737488355328:=hb
 refine wk 7 cz ?_
 refine j_row0 (encSl I64) 22 ?_
 refine j_loopG (X:=Nat × Row) [0,2] [0,1] (fun x=>[(4,.int .i64 (x.1 : Int)),(3,.slice (ad x.2.bo) x.1 x.2.cap)]) (fun x=>[(x.2.bo,22,x.2.cs)]) (fun x=>[rowF (encSl I64) x.2 x.1 (rows.take x.1)]) (fun x=>x.1 ≤ rows.length) (fun x=>rows.length - x.1) (0,⟨none,0,[]⟩) [0] rfl rfl rfl (Nat.zero_le _) (by repeat (first | exact Fr.sub_nil _ | refine Fr.sub_cons rfl ?_)) rfl rfl ?_
 rintro ⟨k,r⟩ hk ih
 simp only [List.cons_append,List.nil_append] at hk ih ⊢
 by_cases h9 : k < rows.length
 ·obtain ⟨u,at_u⟩ : ∃ u,rows[k]? = some u:=⟨_,List.getElem?_eq_getElem h9⟩
  have hul:=hL u (List.mem_of_getElem? at_u)
  have ih':=fun r=>ih (k + 1,r) (by dsimp only;omega) (by dsimp only;omega)
  simp only [List.take_add_one,at_u,Option.toList_some] at ih'
  clear ih
  refine wk 12 cz ?_
  intro h1 b1 b2 o1 hz1 pa1 ca1
  (apply j_rowlit (E:=encInt IntKind.i64 8) (n:=0) (cs:=[]) [] [] 0 (fun w A hG=>allrd_nil);(· rfl);(· rfl);(· rfl);(· rfl);(· decide))
  refine j_step rfl (x_appS 0 0 1 rfl rfl rfl rfl rfl sl22 zo22e rfl (by omega) _ by22e (by omega) fun r1=>?_)
  refine wk 1 cz ?_
  intro b3
  refine j_pubR 1 0 rfl rfl (by show (0 + u.length) * 8 ≤ 140737488355328;omega) ?_
  refine j_step rfl (x_appR (z:=[]++u) 1 0 5 rfl rfl rfl rfl rfl sl25 zo25e rfl (fun w A hG=>(rd_of_slF (hG _ (fact_mem (n:=0) rfl)))) (by omega) _ by25e (by omega) fun r2=>?_)
  refine wk 4 cz ?_
  simp only [List.nil_append]
  refine j_toM [true,false] [0,7,8] (by exact fra rfl) rfl rfl (ih' r2)
 ·obtain rfl : k = rows.length:=by omega
  rw [List.take_length]
  refine wk 9 cz ?_
  intro h1
  refine j_givK 1 [0] [0] rfl (.tmp rfl .nil) rfl rfl rfl ⟨r,rfl,rfl,rfl⟩
theorem S_codewrightref09_scale {p m nm cm : Nat} {a : Int} {pm pu : Option Addr} {nu cu : Nat} {u md : List Int} (K : Fok p m md) (a0 : 0 ≤ a) (a1 : a < ((p ^ m : Nat) : Int)) (hu : ∀ x ∈ u,0 ≤ x ∧ x < ((p ^ m : Nat) : Int)) :
  Ctr Tryz.prog 159 [.agg #[.int .i64 p,.int .i64 m,.slice pm nm cm],.int .i64 a,.slice pu nu cu] [] [slF I64 pm nm cm md,slF I64 pu nu cu u] (RwI nu (sclL (liftI (fM p (fpo m md))) a u)):=by
 refine Ctr_of_j' (F:=F_codewrightref09_scale) rfl fun C=>?_
 refine j_len 1 rfl fun hn hb _=>?_
 subst hn
 have hb' : u.length * 8 ≤ 140737488355328:=hb
 have c_codewrightref04_Mul:=fun {nm cm : Nat} {pm : Option Addr} {x y : Int}=>S_codewrightref04_Mul (nm:=nm) (cm:=cm) (pm:=pm) (x:=x) (y:=y) K
 have hml:=fun x (h : x ∈ u)=>K.fi.ml a x a0 a1 (hu x h).1 (hu x h).2
 have hq:=K.q
 generalize liftI (fM p (fpo m md)) = M at *
 generalize p ^ m = q at *
 refine wk 11 cz ?_
 intro b1 b2
 rw [show natCells .i64 (List.replicate u.length 0) = intCells .i64 ((sclL M a u).take 0++List.replicate (u.length - 0) 0) by simp [natCells,intCells]]
 refine j_loopG (X:=Nat) [1,2,3,6,7] [0,1] (fun i=>[(8,.int .i64 (i : Int))]) (fun i=>(some b2,3,intCells .i64 ((sclL M a u).take i++List.replicate (u.length - i) 0))::_) (fun _=>[]) (fun i=>i ≤ u.length) (fun i=>u.length - i) 0 [] rfl rfl rfl (Nat.zero_le _) (by repeat (first | exact Fr.sub_nil _ | refine Fr.sub_cons rfl ?_)) rfl rfl ?_
 rintro i hi ih
 simp only [List.cons_append,List.nil_append] at hi ih ⊢
 by_cases h9 : i < u.length
 ·obtain ⟨x,at_x⟩ : ∃ x,u[i]? = some x:=⟨_,List.getElem?_eq_getElem h9⟩
  have ex : u.getD i default = x:=by rw [List.getD_eq_getElem?_getD,at_x];rfl
  have hx:=hu x (List.mem_of_getElem? at_x)
  have hm:=hml x (List.mem_of_getElem? at_x)
  obtain ⟨hx0,hx1⟩:=hx
  have ih':=ih (i + 1) (by omega) (by omega)
  have eT : (sclL M a u)[i]? = some (M a (u.getD i default)):=by rw [sclL,List.getElem?_map,at_x,ex];rfl
  rw [← take_set eT h9] at ih'
  have hln : ((sclL M a u).take i++List.replicate (u.length - i) 0).length = u.length:=by simp [sclL];omega
  generalize (sclL M a u).take i++List.replicate (u.length - i) 0 = L at *
  rw [← ex] at hm
  refine wk 13 (ct @c_codewrightref04_Mul cz) ?_
  intro h1 b3 o1
  exact tw (ih')
 ·obtain rfl : i = u.length:=by omega
  rw [Nat.sub_self,List.replicate_zero,List.append_nil,List.take_of_length_le (by simp [sclL])]
  refine wk 9 cz ?_
  intro h1
  have hall : ∀ z ∈ sclL M a u,InR .i64 z:=fun z hz=>by
   obtain ⟨y,hy,rfl⟩:=List.mem_map.1 hz
   have:=hml y hy
   simp only [InR];omega
  have hln : (sclL M a u).length = u.length:=by simp [sclL]
  generalize sclL M a u = L at *
  refine j_rowInt 0 rfl hln.symm hall (by omega) ?_
  refine j_givK 2 [0] [0] rfl (.tmp rfl .nil) rfl rfl rfl ⟨⟨some b2,u.length,intCells .i64 L⟩,rfl,rfl,rfl⟩
theorem S_codewrightref09_AddTo {p m nm cm n : Nat} {a : Int} {pm pu pv : Option Addr} {nu cu nv cv : Nat} {u v md : List Int} (K : Fok p m md) (a0 : 0 ≤ a) (a1 : a < ((p ^ m : Nat) : Int)) (hu : Wd (p ^ m) n u) (hv : Wd (p ^ m) n v) :
  Ctr Tryz.prog 109 [.agg #[.int .i64 p,.int .i64 m,.slice pm nm cm],.slice pv nv cv,.int .i64 a,.slice pu nu cu] [] [slF I64 pm nm cm md,slF I64 pv nv cv v,slF I64 pu nu cu u] (RwI n (axp (liftI (fA p m)) (liftI (fM p (fpo m md))) a u v)):=by
 refine Ctr_of_j' (F:=F_codewrightref09_AddTo) rfl fun C=>?_
 refine j_len 1 rfl fun hn hb _=>?_
 refine j_len 2 rfl fun hn2 hb2 _=>?_
 have hul:=hu.1
 have hvl:=hv.1
 have hb' : v.length * 8 ≤ 140737488355328:=hn ▸ hb
 rw [hvl] at hn hb'
 rw [hul] at hn2
 subst hn
 subst hn2
 have FF:=K.fi
 have c_codewrightref04_Mul:=fun {nm cm : Nat} {pm : Option Addr} {x y : Int}=>S_codewrightref04_Mul (nm:=nm) (cm:=cm) (pm:=pm) (x:=x) (y:=y) K
 have c_codewrightref04_Add:=fun {nm cm : Nat} {pm : Option Addr} {x y : Int}=>S_codewrightref04_Add (nm:=nm) (cm:=cm) (pm:=pm) (x:=x) (y:=y) K
 have hT:=FF.axw a0 a1 hu hv
 have hq:=K.q
 generalize liftI (fM p (fpo m md)) = M at *
 generalize liftI (fA p m) = A0 at *
 generalize p ^ m = q at *
 have hTa : ∀ (i : Nat) (x y : Int),u[i]? = some x → v[i]? = some y → (axp A0 M a u v)[i]? = some (A0 y (M a x)):=fun i x y h1 h2=>by rw [axp,List.getElem?_zipWith,h1,h2]
 generalize axp A0 M a u v = T at *
 have hTl:=hT.1
 refine wk 11 cz ?_
 intro b1 b2
 rw [show natCells .i64 (List.replicate nu 0) = intCells .i64 (T.take 0++List.replicate (nu - 0) 0) by simp [natCells,intCells]]
 refine j_loopG (X:=Nat) [1,2,3,4,8,9] [0,1,2] (fun i=>[(10,.int .i64 (i : Int))]) (fun i=>(some b2,3,intCells .i64 (T.take i++List.replicate (nu - i) 0))::_) (fun _=>[]) (fun i=>i ≤ nu) (fun i=>nu - i) 0 [] rfl rfl rfl (Nat.zero_le _) (by repeat (first | exact Fr.sub_nil _ | refine Fr.sub_cons rfl ?_)) rfl rfl ?_
 rintro i hi ih
 simp only [List.cons_append,List.nil_append] at hi ih ⊢
 by_cases h9 : i < nu
 ·obtain ⟨x,at_x⟩ : ∃ x,u[i]? = some x:=⟨_,List.getElem?_eq_getElem (by omega)⟩
  obtain ⟨y,at_y⟩ : ∃ y,v[i]? = some y:=⟨_,List.getElem?_eq_getElem (by omega)⟩
  have ex : u.getD i default = x:=by rw [List.getD_eq_getElem?_getD,at_x];rfl
  have ey : v.getD i default = y:=by rw [List.getD_eq_getElem?_getD,at_y];rfl
  obtain ⟨x0,x1⟩:=hu.2 x (List.mem_of_getElem? at_x)
  obtain ⟨y0,y1⟩:=hv.2 y (List.mem_of_getElem? at_y)
  obtain ⟨m0,m1⟩:=FF.ml a x a0 a1 x0 x1
  have eT:=hTa i x y at_x at_y
  obtain ⟨t0,t1⟩:=hT.2 _ (List.mem_of_getElem? eT)
  have ih':=ih (i + 1) (by omega) (by omega)
  have hln : (T.take i++List.replicate (nu - i) 0).length = nu:=by rw [List.length_append,List.length_take,List.length_replicate];omega
  by_cases h0 : x = 0
  ·rw [h0,FF.m0 a0 a1,FF.a0 y y0 y1] at eT
   rw [← take_set eT h9] at ih'
   generalize T.take i++List.replicate (nu - i) 0 = L at *
   refine wk 9 cz ?_
   intro h1 b3 o1 hz1
   refine j_step rfl (x_ld_int 0 rfl rfl ld3 fun ⟨r1,r2⟩=>?_)
   refine wk 5 cz ?_
   intro b4 o2 hz2
   refine j_step rfl (x_ld_int 0 rfl rfl ld3 fun ⟨r3,r4⟩=>?_)
   refine wk 6 cz ?_
   intro h2
   exact tw (ih')
  ·rw [← ex,← ey] at eT t0 t1
   rw [← ex] at m0 m1
   rw [← take_set eT h9,← List.set_set (i:=i) (a:=y)] at ih'
   generalize T.take i++List.replicate (nu - i) 0 = L at *
   refine wk 9 cz ?_
   intro h1 b3 o1 hz1
   refine j_step rfl (x_ld_int 0 rfl rfl ld3 fun ⟨r1,r2⟩=>?_)
   refine wk 5 cz ?_
   intro b4 o2 hz2
   refine j_step rfl (x_ld_int 0 rfl rfl ld3 fun ⟨r3,r4⟩=>?_)
   refine wk 5 (ct @c_codewrightref04_Mul (ct @c_codewrightref04_Add cz)) ?_
   intro h2 b5 o3 b6 o4
   refine j_step rfl (x_bst_int 0 rfl rfl rfl ld3 (by first | omega | (simp;omega)) ?_)
   refine wk 3 cz ?_
   exact tw (ih')
 ·obtain rfl : i = nu:=by omega
  rw [Nat.sub_self,List.replicate_zero,List.append_nil,List.take_of_length_le (by omega)]
  refine wk 9 cz ?_
  intro h1
  refine j_rowInt 0 rfl hTl.symm (fun z hz=>by have:=hT.2 z hz;simp only [InR];omega) (by omega) ?_
  refine j_givK 2 [0] [0] rfl (.tmp rfl .nil) rfl rfl rfl ⟨⟨some b2,_,intCells .i64 T⟩,rfl,rfl,rfl⟩
abbrev ElR (n : Nat) (E : List (List Int) × List Nat) : Value → List Fact → List Blk → Prop:=fun v Φ β=>∃ (pb pp : Option Addr) (cb cp : Nat),v = .tuple #[.slice pb n cb,.slice pp E.2.length cp]
 ∧ Φ = [slF (encSl I64) pb n cb E.1,slF I64 pp E.2.length cp (toI E.2)] ∧ β = []
theorem S_codewrightref09_Eliminate {p m n N W nm cm c : Nat} {pm ps : Option Addr} {rows : List (List Int)} {md : List Int} (K : Fok p m md) (hn : n ≤ 1000000) (hNW : N ≤ W) (hW : W ≤ 1000000) (hl : rows.length = n) (hM : Mat (p ^ m) W rows) :
  Ctr Tryz.prog 121 [.agg #[.int .i64 p,.int .i64 m,.slice pm nm cm],.slice ps n c,.int .i64 N] [] [slF I64 pm nm cm md,slF (encSl I64) ps n c rows] (ElR n (elP p m md N 0 0 rows)):=by
 refine Ctr_of_j' (F:=F_codewrightref09_Eliminate) rfl fun C=>?_
 have O:=fok_fo K
 have hq:=K.q
 have q2:=O.q2
 subst hl
 generalize hEE : elP p m md N 0 0 rows = EE
 have c_codewrightref09_Copy:=fun {ps : Option Addr} {n c : Nat}=>S_codewrightref09_Copy (ps:=ps) (n:=n) (c:=c) (rows:=rows) fun r hr=>by rw [(hM r hr).1];exact hW
 have hb0 : rows.length * 24 ≤ 140737488355328:=by omega
 rcases Nat.eq_zero_or_pos rows.length with hn0 | hn0
 ·have hr0:=List.length_eq_zero_iff.1 hn0
  subst hr0
  rw [elP,elim_full _ _ _ _ (Nat.zero_le _)] at hEE
  subst hEE
  refine wk 14 (ct @c_codewrightref09_Copy cz) ?_
  intro b1 r1
  refine j_row0 I64 3 ?_
  refine j_loopG (X:=Unit) [2,3,6,7,8] [0,1,2,3] (fun _=>[(11,.int .i64 0),(10,.int .i64 0),(9,.slice none 0 0)]) (fun _=>_) (fun _=>[]) (fun _=>True) (fun _=>0) () [] rfl rfl rfl trivial (by repeat (first | exact Fr.sub_nil _ | refine Fr.sub_cons rfl ?_)) rfl rfl ?_
  rintro ⟨⟩ - ih
  simp only [List.cons_append,List.nil_append] at ih ⊢
  refine j_pubR 0 0 rfl rfl (by show 0 * 8 ≤ 140737488355328;omega) ?_
  refine j_pubR 0 2 rfl rfl (by show 0 * 24 ≤ 140737488355328;omega) ?_
  rcases Nat.eq_zero_or_pos N with hN0 | hN0
  ·subst hN0
   refine wk 7 cz ?_
   refine j_giv [0,1] rfl rfl rfl ⟨_,_,_,_,rfl,rfl,rfl⟩
  ·refine wk 14 cz ?_
   intro h1 h2
   refine j_giv [0,1] rfl rfl rfl ⟨_,_,_,_,rfl,rfl,rfl⟩
 refine wk 14 (ct @c_codewrightref09_Copy cz) ?_
 intro b1 r1
 refine j_rowB 0 rfl hn0 fun bh caph csh hr=>?_
 subst hr
 dsimp only
 refine j_row0 I64 3 ?_
 refine j_loopG (X:=Nat × List Value × Row × List (List Int) × List Nat) [2,3,6,7,8] [2] (fun x=>[(11,.int .i64 (x.1 : Int)),(10,.int .i64 (x.2.2.2.2.length : Int)),(9,.slice (ad x.2.2.1.bo) x.2.2.2.2.length x.2.2.1.cap)])
  (fun x=>(x.2.2.1.bo,3,x.2.2.1.cs)::(some bh,22,x.2.1)::_)
  (fun x=>[rowF I64 x.2.2.1 x.2.2.2.2.length (toI x.2.2.2.2),rowF (encSl I64) ⟨some bh,caph,x.2.1⟩ rows.length x.2.2.2.1])
  (fun x=>x.1 ≤ N ∧ x.2.2.2.1.length = rows.length ∧ Mat (p ^ m) W x.2.2.2.1 ∧ x.2.2.2.2.length ≤ rows.length ∧ (elP p m md (N - x.1) x.1 x.2.2.2.2.length x.2.2.2.1).1 = EE.1 ∧ x.2.2.2.2++(elP p m md (N - x.1) x.1 x.2.2.2.2.length x.2.2.2.1).2 = EE.2) (fun x=>N - x.1)
  (0,csh,⟨none,0,[]⟩,rows,[]) [0,1] rfl rfl rfl ⟨Nat.zero_le _,rfl,hM,Nat.zero_le _,congrArg Prod.fst hEE,congrArg Prod.snd hEE⟩ (by repeat (first | exact Fr.sub_nil _ | refine Fr.sub_cons rfl ?_)) rfl rfl ?_
 clear hEE
 generalize hnn : rows.length = n at *
 rintro ⟨c,ch,rp,L,pv⟩ ⟨hcN,hL,hLM,hpv,hE1,hE2⟩ ih
 simp only [List.cons_append,List.nil_append] at hcN hL hLM hpv hE1 hE2 ih ⊢
 by_cases hcl : c < N
 ·by_cases hpl : pv.length < n
  ·have hrl : ∀ k,k < n → (row0 L k).length = W:=fun k hk=>(hLM.row (by omega)).1
   have hra : ∀ k,k < n → L[k]? = some (row0 L k):=fun k hk=>by rw [row0,List.getD_eq_getElem?_getD,List.getElem?_eq_getElem (by omega)];rfl
   have hre : ∀ k,k < n → (row0 L k)[c]? = some (en L k c):=fun k hk=>by
    rw [en,at0,List.getD_eq_getElem?_getD,List.getElem?_eq_getElem (by rw [hrl k hk];omega)];rfl
   have hen : ∀ k,k < n → 0 ≤ en L k c ∧ en L k c < ((p ^ m : Nat) : Int):=fun k hk=>wd_at (by omega) (hLM.row (by omega)) c
   refine wk 14 cz ?_
   intro h1 h2
   refine j_loopG (X:=Nat) [2,3,6,7,8,9,10,11,16,17,18,19,20,21,22,23,24,27] [0,1,2] (fun k=>[(12,.int .i64 (k : Int))]) (fun _=>_) (fun _=>[]) (fun k=>pv.length ≤ k ∧ k ≤ n ∧ ∀ j,pv.length ≤ j → j < k → en L j c = 0) (fun k=>n - k) pv.length [] rfl rfl rfl ⟨Nat.le_refl _,hpv,fun j h1 h2=>by omega⟩ (by repeat (first | exact Fr.sub_nil _ | refine Fr.sub_cons rfl ?_)) rfl rfl ?_
   rintro k ⟨hk1,hk2,hk3⟩ ihk
   simp only [List.cons_append,List.nil_append] at hk1 hk2 hk3 ihk ⊢
   by_cases hkn : k < n
   ·have at_u:=hra k hkn
    have at_z:=hre k hkn
    have hru:=hrl k hkn
    by_cases hz0 : en L k c = 0
    ·rw [hz0] at at_z
     refine wk 8 cz ?_
     intro h3
     refine j_gstep rfl rfl (x_ldR_sl 1 1 (k) rfl rfl rfl ld22 rfl (by omega) fun z1 hz1 pa1 ca1=>?_)
     obtain rfl : _ = z1:=Option.some.inj (at_u.symm.trans hz1)
     refine wk 2 cz ?_
     intro b2 o1 hz2
     refine j_gstep rfl rfl (x_ld_int 0 rfl rfl ld3 fun ⟨r1,r2⟩=>?_)
     refine wk 6 cz ?_
     intro h4
     exact tw (ihk (k + 1) (by omega) ⟨by omega,by omega,fun j h1 h2=>by
      rcases Nat.lt_succ_iff_lt_or_eq.1 h2 with h | rfl
      ·exact hk3 j h1 h
      ·exact hz0⟩)
    ·clear ihk
     have hrt:=hra pv.length hpl
     obtain ⟨e0,e1⟩:=hen k hkn
     obtain ⟨⟨v0,v1⟩,hiv⟩:=O.iv _ e0 e1 hz0
     have hSl : (swpL L pv.length k).length = n:=by rw [swpL,List.length_set,List.length_set,hL]
     have hSW : ∀ i,i < n → Wd (p ^ m) W (row0 (swpL L pv.length k) i):=fun i hi=>swp_wd hLM (by omega) (by omega) (by omega)
     have hSra : ∀ i,i < n → (swpL L pv.length k)[i]? = some (row0 (swpL L pv.length k) i):=fun i hi=>by rw [row0,List.getD_eq_getElem?_getD,List.getElem?_eq_getElem (by omega)];rfl
     have hSt : row0 (swpL L pv.length k) pv.length = row0 L k:=by
      rw [swp_row (by omega) (by omega)]
      split
      ·rename_i e;rw [← e]
      ·rw [if_pos rfl]
     have at_v:=hSra pv.length hpl
     rw [hSt,swpL] at at_v
     have hrk:=hrl k hkn
     have ek : (row0 L k).getD c default = en L k c:=gd_at at_z
     have key : ∀ ch' : List Value,J F_codewrightref09_Eliminate C [It.c (pL 128159),It.blk 1,It.c (pL 2003),It.lp (pL 500),It.blk 0,It.c [1,1,1,1,1]]
       [(2,.int .i64 N),(3,.pointer (some ⟨b1,0,none⟩)),(6,.slice none 0 0),(7,.slice none 0 0),(8,.slice (ad (some bh)) n caph),(9,.slice (ad rp.bo) pv.length rp.cap),(10,.int .i64 (pv.length : Int)),(11,.int .i64 (c : Int))]
       [(rp.bo,3,rp.cs),(some bh,22,ch'),(some b1,24,[.int .i64 p,.int .i64 m,.slice pm nm cm])]
       [rowF I64 rp pv.length (toI pv),rowF (encSl I64) ⟨some bh,caph,ch'⟩ n ((swpL L pv.length k).set pv.length (sclL (liftI (fM p (fpo m md))) (invI p m md (en L k c)) (row0 L k))),slF I64 pm nm cm md] (Gives C (ElR n EE)):=by
      intro ch'
      clear at_v at_u at_z hrt hrk ek
      have hprW : Wd (p ^ m) W (sclL (liftI (fM p (fpo m md))) (invI p m md (en L k c)) (row0 L k)):=O.scl_wd v0 v1 (hLM.row (by omega))
      have hpiv : pivL (liftI (fA p m)) (liftI (fM p (fpo m md))) (negI p m) (invI p m md) pv.length k c L = (List.range n).map fun i=>if i = pv.length then sclL (liftI (fM p (fpo m md))) (invI p m md (en L k c)) (row0 L k) else axp (liftI (fA p m)) (liftI (fM p (fpo m md))) (negI p m (en (swpL L pv.length k) i c)) (sclL (liftI (fM p (fpo m md))) (invI p m md (en L k c)) (row0 L k)) (row0 (swpL L pv.length k) i):=by rw [pivL,hL]
      have hpM:=O.piv_wd hLM (show pv.length < L.length by omega) (show k < L.length by omega) hz0
      have hf : findP L pv.length c = some k:=findP_of hk1 (by omega) hz0 fun j h1 h2=>hk3 j h1 h2
      rw [elP,show N - c = (N - (c + 1)) + 1 by omega,elimL,hf] at hE1 hE2
      have hE1' : (elP p m md (N - (c + 1)) (c + 1) (pv.length + 1) (pivL (liftI (fA p m)) (liftI (fM p (fpo m md))) (negI p m) (invI p m md) pv.length k c L)).1 = EE.1:=hE1
      have hE2' : pv++c::(elP p m md (N - (c + 1)) (c + 1) (pv.length + 1) (pivL (liftI (fA p m)) (liftI (fM p (fpo m md))) (negI p m) (invI p m md) pv.length k c L)).2 = EE.2:=hE2
      have hpM' : Mat (p ^ m) W (pivL (liftI (fA p m)) (liftI (fM p (fpo m md))) (negI p m) (invI p m md) pv.length k c L):=hpM
      have hplen : (pivL (liftI (fA p m)) (liftI (fM p (fpo m md))) (negI p m) (invI p m md) pv.length k c L).length = n:=by rw [pivL_len,hL]
      clear hE1 hE2 hpM
      generalize pivL (liftI (fA p m)) (liftI (fM p (fpo m md))) (negI p m) (invI p m md) pv.length k c L = PV at *
      generalize sclL (liftI (fM p (fpo m md))) (invI p m md (en L k c)) (row0 L k) = pr at *
      have hSen : ∀ i,i < n → 0 ≤ en (swpL L pv.length k) i c ∧ en (swpL L pv.length k) i c < ((p ^ m : Nat) : Int):=fun i hi=>wd_at (by omega) (hSW i hi) c
      have hSre : ∀ i,i < n → (row0 (swpL L pv.length k) i)[c]? = some (en (swpL L pv.length k) i c):=fun i hi=>by
       rw [en,at0,List.getD_eq_getElem?_getD,List.getElem?_eq_getElem (by rw [(hSW i hi).1];omega)];rfl
      clear hSt hre hen hra hrl hf hz0 e0 e1 hiv v0 v1 hk3 hLM
      generalize swpL L pv.length k = S at *
      let CL : Nat → List (List Int):=fun i=>(List.range n).map fun j=>if j = pv.length then pr else if j < i then axp (liftI (fA p m)) (liftI (fM p (fpo m md))) (negI p m (en S j c)) pr (row0 S j) else row0 S j
      have hCl : ∀ i,(CL i).length = n:=fun i=>by simp [CL]
      have hCa : ∀ i j,j < n → (CL i)[j]? = some (if j = pv.length then pr else if j < i then axp (liftI (fA p m)) (liftI (fM p (fpo m md))) (negI p m (en S j c)) pr (row0 S j) else row0 S j):=fun i j hj=>by
       show ((List.range n).map _)[j]? = _
       rw [List.getElem?_map,List.getElem?_range hj];rfl
      have hC0 : S.set pv.length pr = CL 0:=by
       refine List.ext_getElem? fun j=>?_
       by_cases hj : j < n
       ·rw [hCa 0 j hj,List.getElem?_set]
        by_cases e : pv.length = j
        ·rw [if_pos e,if_pos (by omega),if_pos e.symm]
        ·rw [if_neg e,if_neg (fun h=>e h.symm),if_neg (by omega),hSra j hj]
       ·rw [List.getElem?_eq_none (by rw [List.length_set];omega),List.getElem?_eq_none (by rw [hCl];omega)]
      have hCn : CL n = PV:=by
       rw [hpiv]
       refine List.map_congr_left fun j hj=>?_
       have:=List.mem_range.1 hj
       by_cases e : j = pv.length
       ·rw [if_pos e,if_pos e]
       ·rw [if_neg e,if_neg e,if_pos this]
      have hCt : ∀ i,(CL i)[pv.length]? = some pr:=fun i=>by rw [hCa i _ hpl,if_pos rfl]
      have hCi : ∀ i,i < n → i ≠ pv.length → (CL i)[i]? = some (row0 S i):=fun i hi e=>by rw [hCa i i hi,if_neg e,if_neg (Nat.lt_irrefl i)]
      have hCsame : ∀ i,i < n → (i = pv.length ∨ en S i c = 0) → CL (i + 1) = CL i:=fun i hi h=>by
       refine List.map_congr_left fun j hj=>?_
       have hjn:=List.mem_range.1 hj
       by_cases e : j = pv.length
       ·rw [if_pos e,if_pos e]
       ·rw [if_neg e,if_neg e]
        by_cases e2 : j < i
        ·rw [if_pos e2,if_pos (by omega)]
        ·rw [if_neg e2]
         by_cases e3 : j = i
         ·subst e3
          rcases h with h | h
          ·exact absurd h e
          ·have n0 : negI p m 0 = 0:=O.n0
           rw [if_pos (by omega),h,n0,axp_id O.fi hprW (hSW j hjn)]
         ·rw [if_neg (by omega)]
      have hCset : ∀ i,i < n → i ≠ pv.length → CL (i + 1) = (CL i).set i (axp (liftI (fA p m)) (liftI (fM p (fpo m md))) (negI p m (en S i c)) pr (row0 S i)):=fun i hi e=>by
       refine List.ext_getElem? fun j=>?_
       by_cases hj : j < n
       ·rw [hCa _ j hj,List.getElem?_set]
        by_cases e2 : i = j
        ·subst e2
         rw [if_neg e,if_pos (Nat.lt_succ_self i),if_pos rfl,if_pos (by rw [hCl];exact hi)]
        ·rw [if_neg e2,hCa i j hj]
         by_cases e3 : j = pv.length
         ·rw [if_pos e3,if_pos e3]
         ·rw [if_neg e3,if_neg e3]
          by_cases e4 : j < i
          ·rw [if_pos e4,if_pos (by omega)]
          ·rw [if_neg e4,if_neg (by omega)]
       ·rw [List.getElem?_eq_none (by rw [hCl];omega),List.getElem?_eq_none (by rw [List.length_set,hCl];omega)]
      clear_value CL
      rw [hC0]
      refine wk 3 cz ?_
      refine j_loopG (X:=Nat × List Value) [2,3,6,7,8,9,10,11] [0,1,2] (fun x=>[(13,.int .i64 (x.1 : Int))]) (fun x=>(rp.bo,3,rp.cs)::(some bh,22,x.2)::_) (fun x=>[rowF (encSl I64) ⟨some bh,caph,x.2⟩ n (CL x.1)]) (fun x=>x.1 ≤ n) (fun x=>n - x.1) (0,ch') [1] rfl rfl rfl (Nat.zero_le _) (by repeat (first | exact Fr.sub_nil _ | refine Fr.sub_cons rfl ?_)) rfl rfl ?_
      rintro ⟨i,ch2⟩ hi ihi
      simp only [List.cons_append,List.nil_append] at hi ihi ⊢
      by_cases hin : i < n
      ·by_cases hit : i = pv.length
       ·have ih':=fun ch=>ihi (i + 1,ch) (by dsimp only;omega) (by dsimp only;omega)
        simp only [hCsame i hin (.inl hit)] at ih'
        refine wk 18 cz ?_
        intro h3 h4
        exact tw (ih' ch2)
       ·have at_w:=hCi i hin hit
        have at_x:=hSre i hin
        have hwl:=(hSW i hin).1
        by_cases hx0 : en S i c = 0
        ·have ih':=fun ch=>ihi (i + 1,ch) (by dsimp only;omega) (by dsimp only;omega)
         simp only [hCsame i hin (.inr hx0)] at ih'
         refine wk 14 cz ?_
         intro h3 h4
         refine j_gstep rfl rfl (x_ldR_sl 1 0 (i) rfl rfl rfl ld22 rfl (by omega) fun z1 hz1 pa1 ca1=>?_)
         obtain rfl : _ = z1:=Option.some.inj (at_w.symm.trans hz1)
         refine wk 2 cz ?_
         intro b2 o1 hz2
         refine j_gstep rfl rfl (x_ld_int 0 rfl rfl ld3 fun ⟨r1,r2⟩=>?_)
         refine wk 6 cz ?_
         intro h5
         exact tw (ih' ch2)
        ·have ih':=fun ch=>ihi (i + 1,ch) (by dsimp only;omega) (by dsimp only;omega)
         simp only [hCset i hin hit] at ih'
         have at_p:=hCt i
         have ex : (row0 S i).getD c default = en S i c:=gd_at at_x
         obtain ⟨x0,x1⟩:=hSen i hin
         obtain ⟨⟨g0,g1⟩,-⟩:=O.ng _ x0 x1
         have hneg : 0 ≤ ((nP p m ((row0 S i).getD c default).toNat : Nat) : Int) ∧ ((nP p m ((row0 S i).getD c default).toNat : Nat) : Int) < ((p ^ m : Nat) : Int):=by rw [ex];exact ⟨g0,g1⟩
         have c_codewrightref04_Neg:=fun {nm cm : Nat} {pm : Option Addr} {x : Int}=>S_codewrightref04_Neg (nm:=nm) (cm:=cm) (pm:=pm) (x:=x) K
         have c_codewrightref09_AddTo:=fun {nm cm nu cu nv cv : Nat} {pm pu pv : Option Addr} {a : Int} (a0 : 0 ≤ a) (a1 : a < ((p ^ m : Nat) : Int))=>(S_codewrightref09_AddTo (nm:=nm) (cm:=cm) (pm:=pm) (pu:=pu) (nu:=nu) (cu:=cu) (pv:=pv) (nv:=nv) (cv:=cv) (a:=a) K a0 a1 hprW (hSW i hin)).pubR (by show W * 8 ≤ 140737488355328;omega)
         refine wk 14 cz ?_
         intro h3 h4
         refine j_gstep rfl rfl (x_ldR_sl 1 0 (i) rfl rfl rfl ld22 rfl (by omega) fun z1 hz1 pa1 ca1=>?_)
         obtain rfl : _ = z1:=Option.some.inj (at_w.symm.trans hz1)
         refine wk 2 cz ?_
         intro b2 o1 hz2
         refine j_gstep rfl rfl (x_ld_int 0 rfl rfl ld3 fun ⟨r1,r2⟩=>?_)
         refine wk 5 (ct @c_codewrightref04_Neg (ct @c_codewrightref09_AddTo cz)) ?_
         intro h5 pa2 ca2 pa3 ca3 b3 o2 pa4 ca4 pa5 ca5
         refine j_step rfl (x_stR (vs:=[Value.slice pa5 W ca5]) (z:=axp (liftI (fA p m)) (liftI (fM p (fpo m md))) (↑(nP p m ((row0 S i).getD c default).toNat)) pr (row0 S i)) 1 7 (i) rfl rfl rfl rfl rfl ld22 (Nat.mul_one _).symm (by omega) (fun w A hG=>(rd_of_slF (hG _ (fact_mem (n:=0) rfl)))) fun cs1=>?_)
         refine wk 3 cz ?_
         rw [ex]
         exact tw (ih' cs1)
      ·obtain rfl : i = n:=by omega
       rw [hCn]
       clear ihi hC0 hCn hCt hCi hCsame hCset hCa hCl
       refine wk 9 cz ?_
       intro h3 b2
       refine j_step rfl (x_appR (z:=(↑c : Int)) 1 0 1 rfl rfl rfl rfl rfl sl22 zo22e rfl (fun w A hG=>(rd_int (by first | (simp only [InR];omega) | (simp [InR];done)))) (by omega) _ by22e (by omega) fun r1=>?_)
       refine wk 6 cz ?_
       have ih':=fun ch rp=>ih (c + 1,ch,rp,PV,pv++[c]) (by dsimp only;omega) ⟨by dsimp only;omega,hplen,hpM',by rw [List.length_append,List.length_singleton];omega,by rw [List.length_append,List.length_singleton];exact hE1',by rw [List.length_append,List.length_singleton,List.append_assoc];exact hE2'⟩
       have et : toI (pv++[c]) = toI pv++[(c : Int)]:=by simp [toI]
       simp only [et,List.length_append,List.length_singleton] at ih'
       refine j_toM [true,false,true,true] [0,1,4] (by exact fra rfl) rfl rfl (ih' ch2 r1)
     by_cases h1 : en L k c = 1
     ·have hV : invI p m md (en L k c) = 1:=by
       rw [h1] at hiv v0 v1 ⊢
       have v0' : 0 ≤ invI p m md 1:=v0
       have v1' : invI p m md 1 < ((p ^ m : Nat) : Int):=v1
       have h2 : liftI (fM p (fpo m md)) 1 (invI p m md 1) = 1:=hiv
       rw [O.fi.mc 1 _ (by omega) (by omega) v0' v1',O.fi.m1 _ v0' v1'] at h2
       exact h2
      have hs1 : (swpL L pv.length k).set pv.length (sclL (liftI (fM p (fpo m md))) (invI p m md (en L k c)) (row0 L k)) = (L.set pv.length (row0 L k)).set k (row0 L pv.length):=by
       rw [hV,scl_one O.fi (hLM.row (by omega))]
       obtain ⟨h2,h3⟩:=List.getElem?_eq_some_iff.1 at_v
       refine List.ext_getElem? fun j=>?_
       rw [List.getElem?_set]
       by_cases e : pv.length = j
       ·subst e
        rw [if_pos rfl,if_pos (by rw [hSl];exact hpl),at_v]
       ·rw [if_neg e];rfl
      rw [hs1] at key
      refine wk 8 cz ?_
      intro h3
      refine j_gstep rfl rfl (x_ldR_sl 1 1 (k) rfl rfl rfl ld22 rfl (by omega) fun z1 hz1 pa1 ca1=>?_)
      obtain rfl : _ = z1:=Option.some.inj (at_u.symm.trans hz1)
      refine wk 2 cz ?_
      intro b2 o1 hz2
      refine j_gstep rfl rfl (x_ld_int 0 rfl rfl ld3 fun ⟨r1,r2⟩=>?_)
      refine wk 10 cz ?_
      intro h4 h5
      (apply j_drawKW (x0:=none) it mx 0 13 [2,3] 1;(· rfl);(· rfl);(· rfl);(· decide))
      simp only [List.drop_zero]
      (apply lxk_run 6;(· rfl);(· simp))
      (apply lxk_eq;(· rfl);(· exact d_x fun _=>x_idx_own (k) (k) rfl rfl sl25 rfl (by omega) (Nat.mul_one _) dk_eq))
      (apply lxk_sl;(· rfl);(· exact d_ldR_sl 1 3 (k) rfl rfl rfl ld22 rfl (by assumption));intro pa2 ca2)
      (apply lxk_run 2;(· rfl);(· simp))
      (apply lxk_eq;(· rfl);(· exact d_x fun _=>x_idx_own (pv.length) (pv.length) rfl rfl sl25 rfl (by omega) (Nat.mul_one _) dk_eq))
      (apply lxk_sl;(· rfl);(· exact d_ldR_sl 1 3 (pv.length) rfl rfl rfl ld22 rfl (by assumption));intro pa3 ca3)
      (apply lxk_eq;(· rfl);(· exact d_x fun _=>x_idx_own (pv.length) (pv.length) rfl rfl sl25 rfl (by omega) (Nat.mul_one _) dk_eq))
      refine lxk_endW rfl ?_
      (rotate_left;rfl;rotate_right)
      simp only [List.map_cons,List.map_nil,List.cons_append,List.nil_append]
      refine win_step it rfl rfl ⟨⟨_,_,_,_,rfl,rfl,rfl,rfl,rfl,rfl,(by first | trivial | (repeat' first | exact trivial | apply And.intro | omega))⟩,⟨⟨_,_,_,_,rfl,rfl,rfl,rfl,rfl,rfl,(by first | trivial | (repeat' first | exact trivial | apply And.intro | omega))⟩,trivial⟩⟩ (x_stR (vs:=[Value.slice pa2 (row0 L k).length ca2]) (z:=row0 L k) 1 5 (pv.length) rfl rfl rfl rfl rfl ld22 (Nat.mul_one _).symm (by omega) (fun w A hG=>(rd_of_slF (hG _ (fact_mem (n:=1) rfl)))) fun cs1=>?_)
      refine win_end it ⟨⟨_,_,_,_,rfl,rfl,rfl,rfl,rfl,rfl,(by first | trivial | (repeat' first | exact trivial | apply And.intro | omega))⟩,⟨⟨_,_,_,_,rfl,rfl,rfl,rfl,rfl,rfl,(by first | trivial | (repeat' first | exact trivial | apply And.intro | omega))⟩,trivial⟩⟩ ?_
      refine wk 1 cz ?_
      refine j_step rfl (x_stR (vs:=[Value.slice pa3 (row0 L pv.length).length ca3]) (z:=row0 L pv.length) 1 0 (k) rfl rfl rfl rfl rfl ld22 (Nat.mul_one _).symm (by omega) (fun w A hG=>(rd_of_slF (hG _ (fact_mem (n:=1) rfl)))) fun cs2=>?_)
      refine wk 3 cz ?_
      refine j_step rfl (x_ldR_sl 1 0 (pv.length) rfl rfl rfl ld22 rfl (by omega) fun z1 hz3 pa4 ca4=>?_)
      obtain rfl : _ = z1:=Option.some.inj (at_v.symm.trans hz3)
      refine wk 2 cz ?_
      intro b3 o2 hz4
      refine j_step rfl (x_ld_int 0 rfl rfl ld3 fun ⟨r3,r4⟩=>?_)
      refine wk 3 cz ?_
      intro h6
      refine j_nfn 1 [.c (pL 128159),.blk 1,.c (pL 2003),.lp (pL 500),.blk 0,.c [1,1,1,1,1]] rfl ?_
      exact tw (key cs2)
     ·have c_codewrightref04_Inv:=fun {nm cm : Nat} {pm : Option Addr} {x : Int}=>S_codewrightref04_Inv (nm:=nm) (cm:=cm) (pm:=pm) (x:=x) K
      have c_codewrightref09_scale:=fun {nm cm cu : Nat} {pm pu : Option Addr} {a : Int} (a0 : 0 ≤ a) (a1 : a < ((p ^ m : Nat) : Int))=>(S_codewrightref09_scale (nm:=nm) (cm:=cm) (pm:=pm) (pu:=pu) (nu:=(row0 L k).length) (cu:=cu) (a:=a) (u:=row0 L k) K a0 a1 (hLM.row (by omega)).2).pubR (by show (row0 L k).length * 8 ≤ 140737488355328;omega)
      have hiv2 : 0 ≤ ((iF (p ^ m) (fM p (fpo m md)) ((row0 L k).getD c default).toNat : Nat) : Int) ∧ ((iF (p ^ m) (fM p (fpo m md)) ((row0 L k).getD c default).toNat : Nat) : Int) < ((p ^ m : Nat) : Int):=by rw [ek];exact ⟨v0,v1⟩
      rw [show (swpL L pv.length k).set pv.length (sclL (liftI (fM p (fpo m md))) (invI p m md (en L k c)) (row0 L k)) = ((L.set pv.length (row0 L k)).set k (row0 L pv.length)).set pv.length (sclL (liftI (fM p (fpo m md))) ((iF (p ^ m) (fM p (fpo m md)) (en L k c).toNat : Nat) : Int) (row0 L k)) from rfl] at key
      refine wk 8 cz ?_
      intro h3
      refine j_gstep rfl rfl (x_ldR_sl 1 1 (k) rfl rfl rfl ld22 rfl (by omega) fun z1 hz1 pa1 ca1=>?_)
      obtain rfl : _ = z1:=Option.some.inj (at_u.symm.trans hz1)
      refine wk 2 cz ?_
      intro b2 o1 hz2
      refine j_gstep rfl rfl (x_ld_int 0 rfl rfl ld3 fun ⟨r1,r2⟩=>?_)
      refine wk 10 cz ?_
      intro h4 h5
      (apply j_drawKW (x0:=none) it mx 0 13 [2,3] 1;(· rfl);(· rfl);(· rfl);(· decide))
      simp only [List.drop_zero]
      (apply lxk_run 6;(· rfl);(· simp))
      (apply lxk_eq;(· rfl);(· exact d_x fun _=>x_idx_own (k) (k) rfl rfl sl25 rfl (by omega) (Nat.mul_one _) dk_eq))
      (apply lxk_sl;(· rfl);(· exact d_ldR_sl 1 3 (k) rfl rfl rfl ld22 rfl (by assumption));intro pa2 ca2)
      (apply lxk_run 2;(· rfl);(· simp))
      (apply lxk_eq;(· rfl);(· exact d_x fun _=>x_idx_own (pv.length) (pv.length) rfl rfl sl25 rfl (by omega) (Nat.mul_one _) dk_eq))
      (apply lxk_sl;(· rfl);(· exact d_ldR_sl 1 3 (pv.length) rfl rfl rfl ld22 rfl (by assumption));intro pa3 ca3)
      (apply lxk_eq;(· rfl);(· exact d_x fun _=>x_idx_own (pv.length) (pv.length) rfl rfl sl25 rfl (by omega) (Nat.mul_one _) dk_eq))
      refine lxk_endW rfl ?_
      (rotate_left;rfl;rotate_right)
      simp only [List.map_cons,List.map_nil,List.cons_append,List.nil_append]
      refine win_step it rfl rfl ⟨⟨_,_,_,_,rfl,rfl,rfl,rfl,rfl,rfl,(by first | trivial | (repeat' first | exact trivial | apply And.intro | omega))⟩,⟨⟨_,_,_,_,rfl,rfl,rfl,rfl,rfl,rfl,(by first | trivial | (repeat' first | exact trivial | apply And.intro | omega))⟩,trivial⟩⟩ (x_stR (vs:=[Value.slice pa2 (row0 L k).length ca2]) (z:=row0 L k) 1 5 (pv.length) rfl rfl rfl rfl rfl ld22 (Nat.mul_one _).symm (by omega) (fun w A hG=>(rd_of_slF (hG _ (fact_mem (n:=1) rfl)))) fun cs1=>?_)
      refine win_end it ⟨⟨_,_,_,_,rfl,rfl,rfl,rfl,rfl,rfl,(by first | trivial | (repeat' first | exact trivial | apply And.intro | omega))⟩,⟨⟨_,_,_,_,rfl,rfl,rfl,rfl,rfl,rfl,(by first | trivial | (repeat' first | exact trivial | apply And.intro | omega))⟩,trivial⟩⟩ ?_
      refine wk 1 cz ?_
      refine j_step rfl (x_stR (vs:=[Value.slice pa3 (row0 L pv.length).length ca3]) (z:=row0 L pv.length) 1 0 (k) rfl rfl rfl rfl rfl ld22 (Nat.mul_one _).symm (by omega) (fun w A hG=>(rd_of_slF (hG _ (fact_mem (n:=1) rfl)))) fun cs2=>?_)
      refine wk 3 cz ?_
      refine j_step rfl (x_ldR_sl 1 0 (pv.length) rfl rfl rfl ld22 rfl (by omega) fun z1 hz3 pa4 ca4=>?_)
      obtain rfl : _ = z1:=Option.some.inj (at_v.symm.trans hz3)
      refine wk 2 cz ?_
      intro b3 o2 hz4
      refine j_step rfl (x_ld_int 0 rfl rfl ld3 fun ⟨r3,r4⟩=>?_)
      refine wk 5 (ct @c_codewrightref04_Inv (ct @c_codewrightref09_scale cz)) ?_
      intro h6 pa5 ca5 b4 o3 pa6 ca6 pa7 ca7
      refine j_step rfl (x_stR (vs:=[Value.slice pa7 (row0 L k).length ca7]) (z:=sclL (liftI (fM p (fpo m md))) (↑(iF (p ^ m) (fM p (fpo m md)) ((row0 L k).getD c default).toNat)) (row0 L k)) 1 6 (pv.length) rfl rfl rfl rfl rfl ld22 (Nat.mul_one _).symm (by omega) (fun w A hG=>(rd_of_slF (hG _ (fact_mem (n:=0) rfl)))) fun cs3=>?_)
      refine j_nfn 1 [.c (pL 128159),.blk 1,.c (pL 2003),.lp (pL 500),.blk 0,.c [1,1,1,1,1]] rfl ?_
      rw [ek]
      exact tw (key cs3)
   ·clear ihk
    obtain rfl : n = k:=by omega
    have hf : findP L pv.length c = none:=findP_no fun j h1 h2=>hk3 j h1 (by omega)
    rw [elP,show N - c = (N - (c + 1)) + 1 by omega,elimL,hf] at hE1 hE2
    refine wk 18 cz ?_
    intro h3 h4
    exact tw (ih (c + 1,ch,rp,L,pv) (by dsimp only;omega) ⟨by dsimp only;omega,hL,hLM,hpv,hE1,hE2⟩)
  ·rw [elP,elim_full _ _ _ _ (by omega)] at hE1 hE2
   rw [List.append_nil] at hE2
   obtain ⟨E1,E2⟩:=EE
   obtain rfl : L = E1:=hE1
   obtain rfl : pv = E2:=hE2
   clear ih
   refine j_pubR 0 0 rfl rfl (by show pv.length * 8 ≤ 140737488355328;omega) ?_
   refine j_pubR 0 2 rfl rfl (by show n * 24 ≤ 140737488355328;omega) ?_
   refine wk 14 cz ?_
   intro h1 h2
   refine j_giv [0,1] rfl rfl rfl ⟨_,_,_,_,rfl,rfl,rfl⟩
 ·obtain rfl : c = N:=by omega
  rw [Nat.sub_self,elP,elimL] at hE1 hE2
  rw [List.append_nil] at hE2
  obtain ⟨E1,E2⟩:=EE
  obtain rfl : L = E1:=hE1
  obtain rfl : pv = E2:=hE2
  clear ih
  refine j_pubR 0 0 rfl rfl (by show pv.length * 8 ≤ 140737488355328;omega) ?_
  refine j_pubR 0 2 rfl rfl (by show n * 24 ≤ 140737488355328;omega) ?_
  refine wk 12 cz ?_
  intro h1
  refine j_giv [0,1] rfl rfl rfl ⟨_,_,_,_,rfl,rfl,rfl⟩
theorem S_codewrightref09_Canon {p m n N nm cm c : Nat} {pm ps : Option Addr} {rows : List (List Int)} {md : List Int} (K : Fok p m md) (hn : n ≤ 1000000) (hN : N ≤ 1000000) (hl : rows.length = n) (hM : Mat (p ^ m) N rows) :
  Ctr Tryz.prog 79 [.agg #[.int .i64 p,.int .i64 m,.slice pm nm cm],.slice ps n c,.int .i64 N] [] [slF I64 pm nm cm md,slF (encSl I64) ps n c rows] (CnR (cnP p m md N rows)):=by
 refine Ctr_of_j' (F:=F_codewrightref09_Canon) rfl fun C=>?_
 have c_codewrightref09_Eliminate:=fun {nm cm c : Nat} {pm ps : Option Addr}=>S_codewrightref09_Eliminate (nm:=nm) (cm:=cm) (pm:=pm) (ps:=ps) (c:=c) K hn (Nat.le_refl N) hN hl hM
 have hEk : (elP p m md N 0 0 rows).2.length ≤ n:=by
  have:=elim_le (A:=liftI (fA p m)) (M:=liftI (fM p (fpo m md))) (N:=negI p m) (V:=invI p m md) N 0 0 rows (Nat.zero_le _)
  rw [Nat.zero_add,hl] at this;exact this
 show J _ _ _ _ _ _ (Gives C (CnR ((elP p m md N 0 0 rows).1.take (elP p m md N 0 0 rows).2.length,(elP p m md N 0 0 rows).2)))
 generalize elP p m md N 0 0 rows = E at *
 refine wk 11 (ct @c_codewrightref09_Eliminate cz) ?_
 intro b1 pb1 pp1 cb1 cp1
 refine j_step rfl (x_slice_h 0 (E.snd.length) rfl rfl rfl sl25 (by omega) (by omega) ?_)
 refine wk 2 cz ?_
 refine j_giv [0,2] rfl rfl rfl ⟨_,_,_,_,rfl,rfl,rfl⟩
theorem S_codewrightref09_Combine {p m nm cm nx cx n c N : Nat} {pm px ps : Option Addr} {x md : List Int} {rows : List (List Int)} (K : Fok p m md) (hN : N ≤ 1000000) (hM : Mat (p ^ m) N rows) (hx : Wd (p ^ m) rows.length x) :
  Ctr Tryz.prog 59 [.agg #[.int .i64 p,.int .i64 m,.slice pm nm cm],.slice px nx cx,.slice ps n c,.int .i64 N] [] [slF I64 pm nm cm md,slF I64 px nx cx x,slF (encSl I64) ps n c rows]
   (fun v Φ β=>∃ (pb : Option Addr) (cb : Nat),v = .slice pb N cb ∧ Φ = [slF I64 pb N cb (cbP p m md N x rows)] ∧ β = []):=by
 refine Ctr_of_j' (F:=F_codewrightref09_Combine) rfl fun C=>?_
 have O:=fok_fo K
 have hq:=K.q
 refine j_len 1 rfl fun hn hb _=>?_
 subst hn
 refine j_len 2 rfl fun hn hb2 _=>?_
 subst hn
 have hb' : x.length * 8 ≤ 140737488355328:=hb
 have hb2' : rows.length * 24 ≤ 140737488355328:=hb2
 have hxl:=hx.1
 have c_codewrightref09_AddTo:=fun {nm cm nu cu nv cv : Nat} {pm pu pv : Option Addr} {a : Int} {u v : List Int} (a0 : 0 ≤ a) (a1 : a < ((p ^ m : Nat) : Int)) (hu : Wd (p ^ m) N u) (hv : Wd (p ^ m) N v)=>(S_codewrightref09_AddTo (nm:=nm) (cm:=cm) (pm:=pm) (pu:=pu) (nu:=nu) (cu:=cu) (pv:=pv) (nv:=nv) (cv:=cv) (a:=a) (u:=u) (v:=v) K a0 a1 hu hv).pubR (by show N * 8 ≤ 140737488355328;omega)
 refine wk 10 cz ?_
 intro b1 b2
 have hz:=O.wz N
 rw [show natCells .i64 (List.replicate N 0) = intCells .i64 (zW N) by simp [natCells,intCells,zW]]
 refine j_pub_madei (kd:=.i64) (n:=N) 8 (zW N) 0 rfl hz.1.symm (fun y hy=>by have:=hz.2 y hy;simp only [InR];omega) (by omega) (by omega) ?_
 refine j_loopG (X:=Nat × Option Addr × Nat × List Int) [1,2,4,8] [0,1,2,3] (fun i=>[(10,.int .i64 (i.1 : Int)),(9,.slice i.2.1 N i.2.2.1)]) (fun _=>_) (fun i=>[slF I64 i.2.1 N i.2.2.1 i.2.2.2]) (fun i=>i.1 ≤ x.length ∧ Wd (p ^ m) N i.2.2.2 ∧ cmbF (liftI (fA p m)) (liftI (fM p (fpo m md))) (x.drop i.1) (rows.drop i.1) i.2.2.2 = cbP p m md N x rows) (fun i=>x.length - i.1) (0,some ⟨b2,0,none⟩,N,zW N) [0] rfl rfl rfl ⟨Nat.zero_le _,hz,rfl⟩ (by repeat (first | exact Fr.sub_nil _ | refine Fr.sub_cons rfl ?_)) rfl rfl ?_
 rintro ⟨i,pa,ca,u⟩ ⟨hi,hu,he⟩ ih
 simp only [List.cons_append,List.nil_append] at hi hu he ih ⊢
 by_cases h9 : i < x.length
 ·obtain ⟨a,at_a⟩ : ∃ a,x[i]? = some a:=⟨_,List.getElem?_eq_getElem h9⟩
  obtain ⟨v,at_v⟩ : ∃ v,rows[i]? = some v:=⟨_,List.getElem?_eq_getElem (by omega)⟩
  obtain ⟨a0,a1⟩:=hx.2 a (List.mem_of_getElem? at_a)
  have hv:=hM v (List.mem_of_getElem? at_v)
  have ea:=gd_at at_a
  have ev:=gd_at at_v
  rw [cmbF_drop at_a at_v] at he
  by_cases ha : a = 0
  ·rw [if_pos ha] at he
   refine wk 14 cz ?_
   intro h1 h2 b3 o1 hz1
   refine j_step rfl (x_ld_int 0 rfl rfl ld3 fun ⟨r1,r2⟩=>?_)
   refine wk 6 cz ?_
   intro h3
   exact tw (ih (i + 1,pa,ca,u) (by dsimp only;omega) ⟨by dsimp only;omega,hu,he⟩)
  ·rw [if_neg ha] at he
   rw [← ea,← ev] at he
   rw [← ev] at hv
   have hw:=O.fi.axw a0 a1 hv hu
   rw [← ea] at hw
   refine wk 14 cz ?_
   intro h1 h2 b3 o1 hz1
   refine j_step rfl (x_ld_int 0 rfl rfl ld3 fun ⟨r1,r2⟩=>?_)
   refine wk 8 (ct @c_codewrightref09_AddTo cz) ?_
   intro h3 b4 o2 b5 o3 pa1 ca1 pa2 ca2
   exact tw (ih (i + 1,pa2,ca2,axp (liftI (fA p m)) (liftI (fM p (fpo m md))) (x.getD i default) (rows.getD i default) u) (by dsimp only;omega) ⟨by dsimp only;omega,hw,he⟩)
 ·rw [cmbF_end (by omega)] at he
  subst he
  refine wk 12 cz ?_
  intro h1
  refine j_giv [0] rfl rfl rfl ⟨_,_,rfl,rfl,rfl⟩
def ldL (N : Nat) (P : List Nat) (k : Nat) : List Int:=(List.range N).map fun e=>if e ∈ P.take k then ((P.idxOf e : Nat) : Int) else -1
theorem ldL_len {N k : Nat} {P : List Nat} : (ldL N P k).length = N:=by simp [ldL]
theorem ldL_zero {N : Nat} {P : List Nat} : ldL N P 0 = List.replicate N (-1):=by
 refine List.ext_getElem (by simp [ldL]) fun j h1 h2=>?_
 simp only [ldL,List.getElem_map,List.getElem_range,List.take_zero,List.getElem_replicate]
 exact if_neg (by simp)
theorem ldL_set {q N n k a : Nat} {R : List (List Int)} {P : List Nat} (h : Red q n R P) (hk : P[k]? = some a) : (ldL N P k).set a (k : Int) = ldL N P (k + 1):=by
 refine List.ext_getElem (by simp [ldL]) fun j h1 h2=>?_
 rw [List.getElem_set]
 simp only [ldL,List.getElem_map,List.getElem_range]
 by_cases e : a = j
 ·subst e
  rw [if_pos rfl,if_pos (List.mem_of_getElem? (i:=k) (by rw [List.getElem?_take,if_pos (by omega),hk])),h.idx hk]
 ·rw [if_neg e,List.take_add_one,hk]
  by_cases hm : j ∈ P.take k
  ·rw [if_pos hm,if_pos (List.mem_append_left _ hm)]
  ·rw [if_neg hm,if_neg]
   intro hm2
   rcases List.mem_append.1 hm2 with h3 | h3
   ·exact hm h3
   ·rw [Option.toList_some,List.mem_singleton] at h3;exact e h3.symm
theorem ldL_at {N j : Nat} {P : List Nat} (hj : j < N) : (ldL N P P.length)[j]? = some (if j ∈ P then ((P.idxOf j : Nat) : Int) else -1):=by
 rw [ldL,List.getElem?_map,List.getElem?_range hj,List.take_length];rfl
theorem S_codewrightref09_Null {p m n N nm cm c : Nat} {pm ps : Option Addr} {rows : List (List Int)} {md : List Int} (K : Fok p m md) (hn : n ≤ 1000000) (hN : N ≤ 1000000) (hl : rows.length = n) (hM : Mat (p ^ m) N rows) :
  Ctr Tryz.prog 108 [.agg #[.int .i64 p,.int .i64 m,.slice pm nm cm],.slice ps n c,.int .i64 N] [] [slF I64 pm nm cm md,slF (encSl I64) ps n c rows]
   (fun v Φ β=>∃ (pb : Option Addr) (cb : Nat),v = .slice pb (nuP p m md N rows).length cb ∧ Φ = [slF (encSl I64) pb (nuP p m md N rows).length cb (nuP p m md N rows)] ∧ β = []):=by
 refine Ctr_of_j' (F:=F_codewrightref09_Null) rfl fun C=>?_
 have O:=fok_fn K
 have hq:=K.q
 have q2:=O.q2
 have c_codewrightref09_Canon:=fun {nm cm c n : Nat} {pm ps : Option Addr} {rows : List (List Int)} (hn : n ≤ 1000000) (hl : rows.length = n) (hM : Mat (p ^ m) N rows)=>S_codewrightref09_Canon (nm:=nm) (cm:=cm) (pm:=pm) (ps:=ps) (c:=c) K hn hN hl hM
 have c_codewrightref04_Neg:=fun {nm cm : Nat} {pm : Option Addr} {x : Int}=>S_codewrightref04_Neg (nm:=nm) (cm:=cm) (pm:=pm) (x:=x) K
 have hred : Red (p ^ m) N (cnP p m md N rows).1 (cnP p m md N rows).2:=(O.cn hM).1
 have hEl : (cnP p m md N rows).1.length = (cnP p m md N rows).2.length:=O.cn_len hM
 have hnm : Mat (p ^ m) N (nvK (negI p m) N (cnP p m md N rows) N):=O.nv_mat hred
 have hnl : (cnP p m md N (nvK (negI p m) N (cnP p m md N rows) N)).1.length = (cnP p m md N (nvK (negI p m) N (cnP p m md N rows) N)).2.length:=O.cn_len hnm
 have hnk:=fun k=>nvK_len (N:=negI p m) (n:=N) (k:=k) (E:=cnP p m md N rows)
 rw [show nuP p m md N rows = (cnP p m md N (nvK (negI p m) N (cnP p m md N rows) N)).1 from rfl,hnl]
 clear hnl
 refine wk 15 (ct @c_codewrightref09_Canon cz) ?_
 intro b1 pb1 pp1 cb1 cp1 b2
 generalize hE : cnP p m md N rows = E at *
 have hple:=hred.piv_le
 rw [show natCells .i64 (List.replicate N 0) = intCells .i64 (List.replicate 0 (-1 : Int)++List.replicate (N - 0) (0 : Int)) by simp [natCells,intCells]]
 refine j_loopG (X:=Nat) [2,3,6,7,8,9] [0,1,2,3] (fun i=>[(10,.int .i64 (i : Int))]) (fun i=>(some b2,3,intCells .i64 (List.replicate i (-1 : Int)++List.replicate (N - i) (0 : Int)))::_) (fun _=>[]) (fun i=>i ≤ N) (fun i=>N - i) 0 [] rfl rfl rfl (Nat.zero_le _) (by repeat (first | exact Fr.sub_nil _ | refine Fr.sub_cons rfl ?_)) rfl rfl ?_
 rintro i hi ih
 simp only [List.cons_append,List.nil_append] at hi ih ⊢
 by_cases hiN : i < N
 ·have ih':=ih (i + 1) (by omega) (by omega)
  have hset : List.replicate (i + 1) (-1 : Int)++List.replicate (N - (i + 1)) (0 : Int) = (List.replicate i (-1 : Int)++List.replicate (N - i) (0 : Int)).set i (-1):=by
   have e2 : List.replicate (N - i) (0 : Int) = 0::List.replicate (N - (i + 1)) 0:=by rw [show N - i = (N - (i + 1)) + 1 by omega,List.replicate_succ]
   rw [e2,List.set_append_right _ _ (by simp),List.length_replicate,Nat.sub_self,List.set_cons_zero,List.replicate_succ',List.append_assoc];rfl
  rw [hset] at ih'
  have hln : (List.replicate i (-1 : Int)++List.replicate (N - i) (0 : Int)).length = N:=by simp;omega
  generalize List.replicate i (-1 : Int)++List.replicate (N - i) (0 : Int) = L at *
  refine wk 11 cz ?_
  intro h1
  exact tw (ih')
 ·obtain rfl : i = N:=by omega
  clear ih
  rw [Nat.sub_self,List.replicate_zero,List.append_nil,← ldL_zero (P:=E.2)]
  refine wk 7 cz ?_
  intro h1
  refine j_loopG (X:=Nat) [2,3,6,7,8,9] [0,1,2,3] (fun k=>[(11,.int .i64 (k : Int))]) (fun k=>(some b2,3,intCells .i64 (ldL i E.2 k))::_) (fun _=>[]) (fun k=>k ≤ E.2.length) (fun k=>E.2.length - k) 0 [] rfl rfl rfl (Nat.zero_le _) (by repeat (first | exact Fr.sub_nil _ | refine Fr.sub_cons rfl ?_)) rfl rfl ?_
  rintro k hk ih
  simp only [List.cons_append,List.nil_append] at hk ih ⊢
  by_cases hkE : k < E.2.length
  ·obtain ⟨a,ha⟩ : ∃ a,E.2[k]? = some a:=⟨_,List.getElem?_eq_getElem hkE⟩
   have at_a : (toI E.2)[k]? = some (a : Int):=by rw [toI,List.getElem?_map,ha];rfl
   have haN:=hred.ech.lt a (List.mem_of_getElem? ha)
   have ih':=ih (k + 1) (by omega) (by omega)
   rw [← ldL_set hred ha] at ih'
   have hln:=ldL_len (N:=i) (P:=E.2) (k:=k)
   generalize ldL i E.2 k = L at *
   refine wk 9 cz ?_
   intro h2 b3 o1 hz1
   refine j_step rfl (x_ld_int 0 rfl rfl ld3 fun ⟨r1,r2⟩=>?_)
   refine wk 6 cz ?_
   exact tw (ih')
  ·obtain rfl : k = E.2.length:=by omega
   clear ih
   have hla:=fun j (hj : j < i)=>ldL_at (P:=E.2) hj
   have hln:=ldL_len (N:=i) (P:=E.2) (k:=E.2.length)
   generalize ldL i E.2 E.2.length = LD at *
   refine wk 11 cz ?_
   intro h2
   refine j_row0 (encSl I64) 22 ?_
   refine j_loopG (X:=Nat × Row) [2,3,6,7,8,9] [0,1,2,3,4] (fun x=>[(13,.int .i64 (x.1 : Int)),(12,.slice (ad x.2.bo) (nvK (negI p m) i E x.1).length x.2.cap)]) (fun x=>(x.2.bo,22,x.2.cs)::_) (fun x=>[rowF (encSl I64) x.2 (nvK (negI p m) i E x.1).length (nvK (negI p m) i E x.1)]) (fun x=>x.1 ≤ i) (fun x=>i - x.1) (0,⟨none,0,[]⟩) [0] rfl rfl rfl (Nat.zero_le _) (by repeat (first | exact Fr.sub_nil _ | refine Fr.sub_cons rfl ?_)) rfl rfl ?_
   rintro ⟨k,r⟩ hk ih
   simp only [List.cons_append,List.nil_append] at hk ih ⊢
   by_cases h8 : k < i
   ·have ih':=fun r=>ih (k + 1,r) (by dsimp only;omega) (by dsimp only;omega)
    simp only [nvK_succ] at ih'
    have hnk1:=hnk k
    have at_l:=hla k h8
    clear ih
    by_cases hm : k ∈ E.2
    ·rw [if_pos hm] at at_l
     simp only [if_pos hm,List.append_nil] at ih'
     refine wk 7 cz ?_
     intro h3
     refine j_step rfl (x_bld_int 1 rfl rfl ld3 (by first | omega | (simp;omega)) fun z1 hz1=>?_)
     obtain rfl : _ = z1:=Option.some.inj (at_l.symm.trans hz1)
     refine wk 6 cz ?_
     intro h4
     exact tw (ih' r)
    ·rw [if_neg hm] at at_l
     simp only [if_neg hm,List.length_append,List.length_singleton] at ih'
     refine wk 7 cz ?_
     intro h3
     refine j_step rfl (x_bld_int 1 rfl rfl ld3 (by first | omega | (simp;omega)) fun z1 hz1=>?_)
     obtain rfl : _ = z1:=Option.some.inj (at_l.symm.trans hz1)
     refine wk 10 cz ?_
     intro h4 b3
     refine j_step rfl (x_bst_nat 0 1 rfl rfl rfl ld3 (by first | rfl | omega) (by first | omega | (simp;omega)) ?_)
     refine wk 3 cz ?_
     have hx0 : natCells .i64 ((List.replicate i 0).set k 1) = intCells .i64 (nvI (negI p m) i E.1 E.2 k 0):=by
      rw [nvI_zero]
      simp [natCells,intCells,zW,List.map_set]
     simp only [setB]
     rw [hx0]
     refine j_loopG (X:=Nat) [2,3,6,7,8,9,12,13,14,46,47,48,51,52,53,54,55,56,57,58,59,60] [0,1,2,3,4,5] (fun t=>[(15,.int .i64 (t : Int))]) (fun t=>(some b3,3,intCells .i64 (nvI (negI p m) i E.1 E.2 k t))::_) (fun _=>[]) (fun t=>t ≤ E.2.length) (fun t=>E.2.length - t) 0 [] rfl rfl rfl (Nat.zero_le _) (by repeat (first | exact Fr.sub_nil _ | refine Fr.sub_cons rfl ?_)) rfl rfl ?_
     rintro t ht ih
     simp only [List.cons_append,List.nil_append] at ht ih ⊢
     by_cases h9 : t < E.2.length
     ·obtain ⟨a,ha⟩ : ∃ a,E.2[t]? = some a:=⟨_,List.getElem?_eq_getElem h9⟩
      have at_a : (toI E.2)[t]? = some (a : Int):=by rw [toI,List.getElem?_map,ha];rfl
      obtain ⟨u,at_u⟩ : ∃ u,E.1[t]? = some u:=⟨_,List.getElem?_eq_getElem (by omega)⟩
      have hu:=hred.mat u (List.mem_of_getElem? at_u)
      have hul:=hu.1
      have ea:=gd_at at_a
      have eu:=gd_at at_u
      have hen : at0 u k = en E.1 t k:=by rw [en,row0,List.getD_eq_getElem?_getD,at_u];rfl
      have at_y : (E.1.getD t default)[k]? = some (en E.1 t k):=by
       rw [eu,← hen,at0,List.getD_eq_getElem?_getD,List.getElem?_eq_getElem (by omega)];rfl
      have ey:=gd_at at_y
      rw [← eu] at hul
      obtain ⟨y0,y1⟩:=wd_at (q:=p ^ m) (by omega) hu k
      rw [hen] at y0 y1
      have haN:=hred.ech.lt a (List.mem_of_getElem? ha)
      have ih':=ih (t + 1) (by omega) (by omega)
      rw [← nvI_set hred hm ha] at ih'
      have hln:=nvI_len (N:=negI p m) (n:=i) (c:=k) (i:=t) (R:=E.1) (P:=E.2)
      generalize nvI (negI p m) i E.1 E.2 k t = L at *
      refine wk 13 (ct @c_codewrightref04_Neg cz) ?_
      intro h5 b4 o1 b5 o2 pa1 ca1 b6 o3
      simp only [ey,ea,Int.toNat_natCast]
      exact tw (ih')
     ·obtain rfl : t = E.2.length:=by omega
      rw [nvI_all]
      clear ih
      have hnw:=O.null_wd hred k
      have hnr : ∀ z ∈ nullV (negI p m) i E.1 E.2 k,InR .i64 z:=fun z hz=>by
       have:=hnw.2 z hz
       simp only [InR];omega
      have hnl : (nullV (negI p m) i E.1 E.2 k).length = i:=hnw.1
      generalize nullV (negI p m) i E.1 E.2 k = T at *
      refine wk 3 cz ?_
      refine j_rowInt 0 rfl hnl.symm hnr (by omega) ?_
      refine wk 6 cz ?_
      intro h5 b4
      refine j_pubRb 1 0 rfl rfl (by show (i) * 8 ≤ 140737488355328;omega) ?_
      refine j_step rfl (x_appR (z:=T) 1 0 2 rfl rfl rfl rfl rfl sl25 zo25e rfl (fun w A hG=>(rd_of_slF (hG _ (fact_mem (n:=0) rfl)))) (by omega) _ by25e (by omega) fun r1=>?_)
      refine wk 4 cz ?_
      refine j_toM [true,false,true,true] [0,4,5,6,7,8] (by exact fra rfl) rfl rfl (ih' r1)
   ·obtain rfl : k = i:=by omega
    have:=hnk k
    refine j_pubR 0 0 rfl rfl (by show (nvK (negI p m) k E k).length * 24 ≤ 140737488355328;omega) ?_
    refine wk 12 (ct @c_codewrightref09_Canon cz) ?_
    intro h3 pb2 pp2 cb2 cp2
    refine j_giv [0] rfl rfl rfl ⟨_,_,rfl,rfl,rfl⟩
open Classical in
noncomputable def sfE (P M : Int) (md : List Int) (N : Int) (rows : List (List Int)) : Int:=if ¬ chkF P M md then 1 else spE P.toNat M.toNat md N rows
theorem S_codewrightref10_Check {P M N e : Int} {nm cm n c : Nat} {pm ps : Option Addr} {md : List Int} {rows : List (List Int)} (hN : InR .i64 N) (he : sfE P M md N rows = e) :
  Ctr Tryz.prog 34 [.agg #[.int .i64 P,.int .i64 M,.slice pm nm cm],.agg #[.int .i64 N,.slice ps n c]] [] [slF I64 pm nm cm md,slF (encSl I64) ps n c rows] (Rv (.int .i64 e) []):=by
 refine Ctr_of_j' (F:=F_codewrightref10_Check) rfl fun C=>?_
 refine j_len 1 rfl fun hn hb _=>?_
 subst hn
 have hb' : rows.length * 24 ≤ 140737488355328:=hb
 have c_codewrightref09_Check:=fun {nm cm n c : Nat} {pm ps : Option Addr}=>S_codewrightref09_Check (P:=P) (M:=M) (N:=N) (md:=md) (rows:=rows) (nm:=nm) (cm:=cm) (n:=n) (c:=c) (pm:=pm) (ps:=ps) hN rfl
 rw [sfE] at he
 by_cases hc : chkF P M md
 ·rw [if_neg (fun h=>h hc)] at he
  have hk : mkE P M md N rows = mtE N rows (P.toNat ^ M.toNat):=by rw [mkE,if_neg (fun h=>h hc)]
  rw [hk] at c_codewrightref09_Check
  obtain ⟨p,m,rfl,rfl,K⟩:=chk_ok hc
  rw [Int.toNat_natCast,Int.toNat_natCast] at he c_codewrightref09_Check
  have hr:=mtE_rng N rows (p ^ m)
  rw [spE] at he
  by_cases h0 : mtE N rows (p ^ m) = 0
  ·rw [if_neg (by omega)] at he
   rw [h0] at c_codewrightref09_Check
   obtain ⟨k,rfl,hk,hl,hM⟩:=mtE_of h0
   rw [Int.toNat_natCast] at he
   have c_codewrightref09_Canon:=fun {nm cm c : Nat} {pm ps : Option Addr}=>S_codewrightref09_Canon (nm:=nm) (cm:=cm) (pm:=pm) (ps:=ps) (c:=c) (n:=rows.length) K (by omega) (show k ≤ 1000000 by omega) rfl hM
   by_cases hcn : (cnP p m md k rows).1 = rows
   ·rw [if_pos hcn] at he
    subst he
    have hd : decide ((cnP p m md k rows).1 = rows) = true:=decide_eq_true hcn
    refine wk 32 (ct @c_codewrightref09_Check (ct @c_codewrightref09_Canon (ct @S_codewrightref09_SameRows cz))) ?_
    intro b1 b2 h1 pb1 pp1 cb1 cp1
    exact ge
   ·rw [if_neg hcn] at he
    subst he
    have hd : decide ((cnP p m md k rows).1 = rows) = false:=decide_eq_false hcn
    refine wk 32 (ct @c_codewrightref09_Check (ct @c_codewrightref09_Canon (ct @S_codewrightref09_SameRows cz))) ?_
    intro b1 b2 h1 pb1 pp1 cb1 cp1
    exact ge
  ·rw [if_pos h0] at he
   subst he
   refine wk 16 (ct @c_codewrightref09_Check cz) ?_
   intro b1 b2 h1
   exact ge
 ·rw [if_pos hc] at he
  subst he
  have hk : mkE P M md N rows = 1:=by rw [mkE,if_pos hc]
  rw [hk] at c_codewrightref09_Check
  refine wk 16 (ct @c_codewrightref09_Check cz) ?_
  intro b1 b2 h1
  exact ge
theorem S_codewrightref12_Check {P M N e : Int} {pm ps : Option Addr} {nm cm n c : Nat} {md : List Int} {rows : List (List Int)} (hN : InR .i64 N) (h : ckE P M md N rows = e) :
  Ctr Tryz.prog 14 [.agg #[.int .i64 P,.int .i64 M,.slice pm nm cm,.int .i64 N,.slice ps n c]] [] [slF I64 pm nm cm md,slF (encSl I64) ps n c rows] (Rv (.int .i64 e) []):=by
 refine Ctr_of_j' (F:=F_codewrightref12_Check) rfl fun C=>?_
 rw [ckE] at h
 by_cases hc : chkF P M md
 ·rw [if_neg (fun h=>h hc)] at h
  have c_codewrightref04_Check:=fun {pm : Option Addr} {nm cm : Nat}=>S_codewrightref04_Check (P:=P) (M:=M) (md:=md) (pm:=pm) (nm:=nm) (cm:=cm) (if_pos hc).symm
  have hs : sfE P M md N rows = spE P.toNat M.toNat md N rows:=by rw [sfE,if_neg (fun h=>h hc)]
  by_cases h1 : N < 1
  ·rw [if_pos (.inl h1)] at h
   subst h
   refine wk 24 (ct @c_codewrightref04_Check cz) ?_
   intro b1 h2 h3
   exact ge
  ·by_cases h2 : 64 < N
   ·rw [if_pos (.inr h2)] at h
    subst h
    refine wk 26 (ct @c_codewrightref04_Check cz) ?_
    intro b1 h3 h4 h5
    exact ge
   ·rw [if_neg (by omega),← hs] at h
    have c_codewrightref10_Check:=fun {nm cm n c : Nat} {pm ps : Option Addr}=>S_codewrightref10_Check (nm:=nm) (cm:=cm) (n:=n) (c:=c) (pm:=pm) (ps:=ps) hN h
    refine wk 34 (ct @c_codewrightref04_Check (ct @c_codewrightref10_Check cz)) ?_
    intro b1 h3 h4 h5
    exact ge
 ·rw [if_pos hc] at h
  subst h
  have c_codewrightref04_Check:=fun {pm : Option Addr} {nm cm : Nat}=>S_codewrightref04_Check (P:=P) (M:=M) (md:=md) (pm:=pm) (nm:=nm) (cm:=cm) (if_neg hc).symm
  refine wk 15 (ct @c_codewrightref04_Check cz) ?_
  intro b1 h1
  exact ge
noncomputable def setsE (P M : Int) (md : List Int) (N : Int) (rows : List (List Int)) (ls : List (List Int)) : Int:=if ckE P M md N rows ≠ 0 then ckE P M md N rows else if ∀ l ∈ ls,stP N l then 0 else 5
theorem S_codewrightref53_Sets {P M N e : Int} {pm ps pl : Option Addr} {nm cm n c nl cl : Nat} {md : List Int} {rows ls : List (List Int)} (hN : InR .i64 N) (h : setsE P M md N rows ls = e) :
  Ctr Tryz.prog 20 [.agg #[.int .i64 P,.int .i64 M,.slice pm nm cm,.int .i64 N,.slice ps n c],.slice pl nl cl] [] [slF I64 pm nm cm md,slF (encSl I64) ps n c rows,slF (encSl I64) pl nl cl ls] (Rv (.int .i64 e) []):=by
 refine Ctr_of_j' (F:=F_codewrightref53_Sets) rfl fun C=>?_
 refine j_len 2 rfl fun hn hb _=>?_
 subst hn
 have hb' : ls.length * 24 ≤ 140737488355328:=hb
 have hr:=ckE_rng P M md N rows
 have c_codewrightref12_Check:=fun {pm ps : Option Addr} {nm cm n c : Nat}=>S_codewrightref12_Check (pm:=pm) (ps:=ps) (nm:=nm) (cm:=cm) (n:=n) (c:=c) (P:=P) (M:=M) (N:=N) (md:=md) (rows:=rows) hN rfl
 rw [setsE] at h
 by_cases h0 : ckE P M md N rows = 0
 ·rw [if_neg (fun e=>e h0)] at h
  rw [h0] at c_codewrightref12_Check
  refine wk 10 (ct @c_codewrightref12_Check cz) ?_
  intro b1
  refine j_loopG (X:=Nat × Int) [1,2,4] [0,1,2] (fun i=>[(6,.int .i64 (i.1 : Int)),(5,.int .i64 i.2)]) (fun _=>_) (fun _=>[]) (fun i=>i.1 ≤ ls.length ∧ (i.2 = 0 ∧ (∀ l ∈ ls.take i.1,stP N l) ∨ i.2 = 5 ∧ e = 5)) (fun i=>ls.length - i.1) (0,0) [] rfl rfl rfl ⟨Nat.zero_le _,.inl ⟨rfl,fun x h=>by simp at h⟩⟩ (by repeat (first | exact Fr.sub_nil _ | refine Fr.sub_cons rfl ?_)) rfl rfl ?_
  rintro ⟨i,e2⟩ ⟨hi,hno⟩ ih
  simp only [List.cons_append,List.nil_append] at hi hno ih ⊢
  rcases hno with ⟨rfl,hno⟩ | ⟨rfl,rfl⟩
  ·by_cases h9 : i < ls.length
   ·obtain ⟨l,hl⟩ : ∃ l,ls[i]? = some l:=⟨_,List.getElem?_eq_getElem h9⟩
    have el:=gd_at hl
    by_cases h8 : stP N l
    ·have hd : decide (stP N (ls.getD i default)) = true:=by rw [el];exact decide_eq_true h8
     refine wk 16 (ct @S_codewrightref11_IsSubset cz) ?_
     intro h1 h2 b2 o1 pa1 ca1
     exact tw (ih (i + 1,0) (by dsimp only;omega) ⟨by dsimp only;omega,.inl ⟨rfl,tk_all hl hno h8⟩⟩)
    ·have hd : decide (stP N (ls.getD i default)) = false:=by rw [el];exact decide_eq_false h8
     rw [if_neg fun hh=>h8 (hh l (List.mem_of_getElem? hl))] at h
     refine wk 18 (ct @S_codewrightref11_IsSubset cz) ?_
     intro h1 h2 b2 o1 pa1 ca1
     exact tw (ih (i + 1,5) (by dsimp only;omega) ⟨by dsimp only;omega,.inr ⟨rfl,h.symm⟩⟩)
   ·rw [if_pos fun l hl=>hno l (by rwa [List.take_of_length_le (by omega)])] at h
    subst h
    refine wk 12 cz ?_
    intro h1
    exact ge
  ·by_cases h9 : i < ls.length
   ·refine wk 12 cz ?_
    intro h1 h2
    exact ge
   ·refine wk 12 cz ?_
    intro h1
    exact ge
 ·rw [if_pos h0] at h
  subst h
  refine wk 10 (ct @c_codewrightref12_Check cz) ?_
  intro b1
  refine j_loopG (X:=Unit) [1,2,4] [0,1,2] (fun i=>[(6,.int .i64 0),(5,.int .i64 (ckE P M md N rows))]) (fun _=>_) (fun _=>[]) (fun _=>True) (fun _=>0) () [] rfl rfl rfl trivial (by repeat (first | exact Fr.sub_nil _ | refine Fr.sub_cons rfl ?_)) rfl rfl ?_
  rintro ⟨⟩ - ih
  simp only [List.cons_append,List.nil_append] at ih ⊢
  by_cases h9 : 0 < ls.length
  ·refine wk 12 cz ?_
   intro h1 h2
   exact ge
  ·refine wk 12 cz ?_
   intro h1
   exact ge
abbrev coL (gen : List (List Int)) (hs : List Int) : List (List Int):=hs.map fun j=>colL gen j.toNat
theorem st_len {n : Nat} {l : List Int} (h : stP n l) : l.length ≤ n:=by
 have h1 : (l.map Int.toNat).Nodup:=by
  rw [List.Nodup,List.pairwise_map]
  refine h.2.imp_of_mem fun {a b} ha hb hab e=>?_
  have:=(h.1 a ha).1;have:=(h.1 b hb).1
  omega
 have h2:=nodup_len h1 (l':=List.range n) fun x hx=>by
  obtain ⟨y,hy,rfl⟩:=List.mem_map.1 hx
  have:=h.1 y hy
  exact List.mem_range.2 (by omega)
 rwa [List.length_map,List.length_range] at h2
abbrev enB (p m : Nat) (md : List Int) (rows : List (List Int)) (lost hs : List Int) : Bool:=decide ((((cnP p m md rows.length (coL rows hs)).2.length : Nat) : Int) = (((cnP p m md rows.length (coL rows hs++coL rows lost)).2.length : Nat) : Int))
theorem pair_of {P M N : Int} {md lost hs : List Int} {rows : List (List Int)} (h : pairE P M md N rows lost hs = 0) : ∃ p m n : Nat,P = p ∧ M = m ∧ N = n ∧ Cok p m md n rows ∧ stP n lost ∧ stP n hs ∧ ∀ x ∈ lost,x ∉ hs:=by
 rw [pairE] at h
 by_cases h0 : ckE P M md N rows = 0
 ·obtain ⟨p,m,n,rfl,rfl,rfl,CC⟩:=ck_of h0
  rw [if_neg (fun e=>e h0)] at h
  by_cases h1 : stP n lost ∧ stP n hs
  ·rw [if_neg (fun e=>e h1)] at h
   refine ⟨p,m,n,rfl,rfl,rfl,CC,h1.1,h1.2,fun x hx hy=>?_⟩
   rw [if_pos (List.any_eq_true.2 ⟨x,hx,decide_eq_true hy⟩)] at h
   omega
  ·rw [if_pos h1] at h;omega
 ·rw [if_pos h0] at h;exact absurd h h0
theorem pairE_rng (P M : Int) (md : List Int) (N : Int) (rows : List (List Int)) (lost hs : List Int) : 0 ≤ pairE P M md N rows lost hs ∧ pairE P M md N rows lost hs ≤ 10:=by
 have:=ckE_rng P M md N rows
 rw [pairE]
 repeat' split
 all_goals omega
noncomputable def sufB (P M : Int) (md : List Int) (N : Int) (rows : List (List Int)) (lost hs : List Int) : Bool:=decide (pairE P M md N rows lost hs = 0) && (wtP P.toNat M.toNat md N.toNat rows lost hs).isNone
theorem S_repair_Suffices {P M N : Int} {n c nm cm nl cl nh ch : Nat} {pm ps pl ph : Option Addr} {md lost hs : List Int} {rows : List (List Int)} (hN : InR .i64 N) :
  Ctr Tryz.prog 28 [.agg #[.int .i64 P,.int .i64 M,.slice pm nm cm,.int .i64 N,.slice ps n c],.slice pl nl cl,.slice ph nh ch] [] [slF I64 pm nm cm md,slF (encSl I64) ps n c rows,slF I64 pl nl cl lost,slF I64 ph nh ch hs] (Rv (.tuple #[.bool (sufB P M md N rows lost hs),.int .i64 (pairE P M md N rows lost hs)]) []):=by
 refine Ctr_of_j' (F:=F_repair_Suffices) rfl fun C=>?_
 have hr:=pairE_rng P M md N rows lost hs
 have c_repair_sides:=fun {n c nm cm nl cl nh ch : Nat} {pm ps pl ph : Option Addr}=>S_repair_sides (P:=P) (M:=M) (N:=N) (md:=md) (rows:=rows) (lost:=lost) (hs:=hs) (pm:=pm) (nm:=nm) (cm:=cm) (ps:=ps) (n:=n) (c:=c) (pl:=pl) (nl:=nl) (cl:=cl) (ph:=ph) (nh:=nh) (ch:=ch) hN rfl
 rw [sufB]
 by_cases h0 : pairE P M md N rows lost hs = 0
 ·obtain ⟨p,m,N,rfl,rfl,rfl,CC,hlo,hhs,-⟩:=pair_of h0
  rw [h0] at c_repair_sides ⊢
  rw [decide_eq_true rfl,Bool.true_and,Int.toNat_natCast,Int.toNat_natCast,Int.toNat_natCast]
  have c_repair_witness:=fun {n c nm cm nl cl nh ch : Nat} {pm ps pl ph : Option Addr}=>S_repair_witness (pm:=pm) (nm:=nm) (cm:=cm) (ps:=ps) (n:=n) (c:=c) (pl:=pl) (nl:=nl) (cl:=cl) (ph:=ph) (nh:=nh) (ch:=ch) CC hlo hhs
  refine wk 15 (ct @c_repair_sides cz) ?_
  intro b1 h1
  refine j_step rfl (x_call [0,1,2,3] rfl c_repair_witness rfl ?_)
  rintro _ _ _ ⟨pa,k,ca,rfl,rfl,rfl,hn,hz⟩
  simp only [List.cons_append,List.nil_append]
  cases hw : wtP p m md N rows lost hs with
  | none =>
   obtain rfl:=hn.2 hw
   obtain ⟨rfl,rfl⟩:=hz hw
   refine j_step rfl (x_eqnilN sl22 rfl rfl ?_)
   refine wk 2 cz ?_
   exact ge
  | some w =>
   cases pa with
   | none=>exact absurd (hn.1 rfl) (by rw [hw];simp)
   | some a =>
    refine j_step rfl (x_eqnilS sl22 rfl rfl ?_)
    refine wk 2 cz ?_
    exact ge
 ·rw [decide_eq_false h0,Bool.false_and]
  refine wk 15 (ct @c_repair_sides cz) ?_
  intro b1 h1
  exact ge
theorem wt_none {p m n : Nat} {md : List Int} {gen : List (List Int)} {lost hs : List Int} : wtP p m md n gen lost hs = none ↔ ∀ j ∈ lost,∀ r ∈ wiP p m md n gen hs,at0 r j.toNat = 0:=by
 rw [wtP,List.find?_eq_none]
 constructor
 ·intro h j hj r hr
  have h1:=h r hr
  refine Classical.byContradiction fun h2=>h1 ?_
  exact List.any_eq_true.2 ⟨j,hj,decide_eq_true h2⟩
 ·intro h r hr h1
  obtain ⟨j,hj,h2⟩:=List.any_eq_true.1 h1
  exact of_decide_eq_true h2 (h j hj r hr)
theorem en_wt {p m n : Nat} {md : List Int} {gen : List (List Int)} {lost hs : List Int} (CC : Cok p m md n gen) (hlo : stP n lost) : enB p m md gen lost hs = (wtP p m md n gen lost hs).isNone:=by
 have O:=fok_fn CC.K
 have h:=O.enough_iff (n:=n) (lost:=lost.map Int.toNat) CC.mat (hs_mat CC hs) fun j hj=>by
  obtain ⟨x,hx,rfl⟩:=List.mem_map.1 hj
  have:=hlo.1 x hx
  omega
 have e : (lost.map Int.toNat).map (colL gen) = coL gen lost:=by rw [List.map_map];rfl
 rw [e] at h
 rw [Bool.eq_iff_iff,Option.isNone_iff_eq_none,wt_none,decide_eq_true_iff]
 refine Iff.trans ⟨fun h=>Int.ofNat.inj h,fun h=>congrArg _ h⟩ (h.trans ⟨fun h j hj=>h _ (List.mem_map.2 ⟨j,hj,rfl⟩),fun h j hj=>?_⟩)
 obtain ⟨x,hx,rfl⟩:=List.mem_map.1 hj
 exact h x hx
theorem fok2 : Fok 2 1 []:=by
 have h : chkF ((2 : Nat) : Int) ((1 : Nat) : Int) []:=⟨⟨by decide,by decide,by decide,by decide⟩,⟨by decide,fun d h1 h2=>by
  have : d < 2:=h2
  omega⟩,fun _=>rfl,fun h=>absurd rfl h⟩
 obtain ⟨p,m,h1,h2,K⟩:=chk_ok h
 obtain rfl : 2 = p:=Int.ofNat.inj h1
 obtain rfl : 1 = m:=Int.ofNat.inj h2
 exact K
theorem mat2 : Mat (2 ^ 1) 2 [[1,1]]:=fun r hr=>by
 rw [List.mem_singleton.1 hr]
 refine ⟨rfl,fun x hx=>?_⟩
 have : x = 1:=by simpa using hx
 subst this;decide
theorem cok2 : Cok 2 1 [] 2 [[1,1]]:=by
 have O:=fok_fn fok2
 refine ⟨fok2,by decide,by decide,mat2,?_⟩
 obtain ⟨⟨v0,v1⟩,hiv⟩:=O.iv 1 (by decide) (by decide) (by decide)
 have hV : invI 2 1 [] 1 = 1:=by
  rw [O.fi.mc 1 _ (by decide) (by decide) v0 v1,O.fi.m1 _ v0 v1] at hiv
  exact hiv
 have hf : findP [[1,1]] 0 0 = some 0:=by decide
 have hp : pivL (liftI (fA 2 1)) (liftI (fM 2 (fpo 1 []))) (negI 2 1) (invI 2 1 []) 0 0 0 [[1,1]] = [sclL (liftI (fM 2 (fpo 1 []))) (invI 2 1 [] 1) [1,1]]:=rfl
 rw [hV,scl_one O.fi (mat2 _ (.head _))] at hp
 have he : elimL (liftI (fA 2 1)) (liftI (fM 2 (fpo 1 []))) (negI 2 1) (invI 2 1 []) 2 0 0 [[1,1]] = ([[1,1]],[0]):=by
  rw [elimL,hf]
  show ((elimL _ _ _ _ 1 1 1 (pivL (liftI (fA 2 1)) (liftI (fM 2 (fpo 1 []))) (negI 2 1) (invI 2 1 []) 0 0 0 [[1,1]])).1,0::(elimL _ _ _ _ 1 1 1 (pivL (liftI (fA 2 1)) (liftI (fM 2 (fpo 1 []))) (negI 2 1) (invI 2 1 []) 0 0 0 [[1,1]])).2) = _
  rw [hp,elim_full _ _ _ _ (Nat.le_refl 1)]
 rw [cnP,cnE,he];rfl
theorem st2 (x : Int) (h : 0 ≤ x ∧ x < 2) : stP ((2 : Nat) : Int) [x]:=⟨fun y hy=>by rw [List.mem_singleton.1 hy];exact h,List.pairwise_singleton _ _⟩
theorem pair2 : pairE 2 1 [] 2 [[1,1]] [0] [1] = 0:=by
 have h : ckE 2 1 [] 2 [[1,1]] = 0:=cok2.ck
 rw [pairE,h,if_neg (by decide),if_neg (fun h=>h ⟨st2 0 (by decide),st2 1 (by decide)⟩)]
 rfl
theorem suf2 : sufB 2 1 [] 2 [[1,1]] [0] [1] = true:=by
 rw [sufB,pair2]
 have hw : wtP 2 1 [] 2 [[1,1]] [0] [1] = none:=wt_none.2 fun j hj=>by
  rw [List.mem_singleton.1 hj]
  exact (((fok_fn fok2).wi cok2.mat (hs_mat cok2 [1])).2 0 (by decide)).2 fun x _ hs=>hs _ (.head _)
 show (decide (0 = 0) && (wtP 2 1 [] 2 [[1,1]] [0] [1]).isNone) = true
 rw [hw];rfl
theorem S_codewrightlaw53_alive : Ctr Tryz.prog 9 [] [] [] (Rv (.bool true) []):=by
 refine Ctr_of_j' (F:=F_codewrightlaw53_alive) rfl fun C=>?_
 have c_repair_Suffices:=fun {n c nm cm nl cl nh ch : Nat} {pm ps pl ph : Option Addr}=>S_repair_Suffices (P:=2) (M:=1) (N:=2) (md:=[]) (rows:=[[1,1]]) (lost:=[0]) (hs:=[1]) (n:=n) (c:=c) (nm:=nm) (cm:=cm) (nl:=nl) (cl:=cl) (nh:=nh) (ch:=ch) (pm:=pm) (ps:=ps) (pl:=pl) (ph:=ph) (by simp only [InR];omega)
 rw [suf2,pair2] at c_repair_Suffices
 refine wk 9 cz ?_
 intro b1 b2 b3 b4
 refine j_pub_madei (kd:=.i64) (n:=2) 8 [1,1] 3 rfl rfl (by simp [InR]) (by decide) (by decide) ?_
 simp only [List.eraseIdx_cons_zero,List.eraseIdx_cons_succ]
 refine j_pub_madei (kd:=.i64) (n:=1) 8 [1] 0 rfl rfl (by simp [InR]) (by decide) (by decide) ?_
 simp only [List.eraseIdx_cons_zero]
 refine j_pub_madei (kd:=.i64) (n:=1) 8 [0] 0 rfl rfl (by simp [InR]) (by decide) (by decide) ?_
 simp only [List.eraseIdx_cons_zero]
 refine j_add (slF I64 none 0 0 []) (fun w A _=>slF_nil I64 w A none 0) ?_
 refine j_pub_all (E:=(encSl (encInt IntKind.i64 8))) (n:=1) [[Value.slice (some { block:=b1,off:=0 }) 2 2]] [[1,1]] 0 (fun w A hG=>(allrd_cons (rd_of_slF (hG _ (fact_mem (n:=3) rfl))) allrd_nil)) rfl rfl rfl rfl (by first | decide | exact Nat.le_of_ble_eq_true rfl) (by first | decide | exact Nat.le_of_ble_eq_true rfl) ?_
 refine wk 5 (ct @c_repair_Suffices cz) ?_
 exact ge
def liE (l : List Int) (n q : Nat) : Int:=if l.length ≠ n then 4 else entE l q
theorem liE_iff {l : List Int} {n q : Nat} : liE l n q = 0 ↔ Wd q n l:=by
 rw [liE]
 by_cases h : l.length = n
 ·rw [if_neg (fun e=>e h),entE]
  by_cases h2 : ∀ x ∈ l,0 ≤ x ∧ x < (q : Int)
  ·rw [if_pos h2];exact ⟨fun _=>⟨h,h2⟩,fun _=>rfl⟩
  ·rw [if_neg h2];exact ⟨fun e=>by omega,fun e=>absurd e.2 h2⟩
 ·rw [if_pos h];exact ⟨fun e=>by omega,fun e=>absurd e.1 h⟩
theorem S_codewrightref12_List {p m nm cm n c k : Nat} {pm ps : Option Addr} {md l : List Int} {e : Int} (K : Fok p m md) (he : liE l k (p ^ m) = e) : Ctr Tryz.prog 58 [.agg #[.int .i64 p,.int .i64 m,.slice pm nm cm],.slice ps n c,.int .i64 k] [] [slF I64 pm nm cm md,slF I64 ps n c l] (Rv (.int .i64 e) []):=by
 refine Ctr_of_j' (F:=F_codewrightref12_List) rfl fun C=>?_
 refine j_len 1 rfl fun hn hb _=>?_
 subst hn
 have c_codewrightref09_Entries:=fun {nm cm n c : Nat} {pm ps : Option Addr} {l : List Int}=>S_codewrightref09_Entries (nm:=nm) (cm:=cm) (pm:=pm) (ps:=ps) (n:=n) (c:=c) (l:=l) K
 subst he
 rw [liE]
 by_cases h : l.length = k
 ·rw [if_neg (fun e=>e h)]
  refine wk 15 (ct @c_codewrightref09_Entries cz) ?_
  intro b1 h1
  exact ge
 ·rw [if_pos h]
  refine wk 12 cz ?_
  intro b1 h1
  exact ge
theorem S_codewrightref12_Encode_ok {p m N nm cm n c nx cx : Nat} {pm ps px : Option Addr} {md msg : List Int} {rows : List (List Int)} (CC : Cok p m md N rows) (hx : Wd (p ^ m) rows.length msg) :
  Ctr Tryz.prog 22 [.agg #[.int .i64 p,.int .i64 m,.slice pm nm cm,.int .i64 N,.slice ps n c],.slice px nx cx] [] [slF I64 pm nm cm md,slF (encSl I64) ps n c rows,slF I64 px nx cx msg]
   (fun v Φ β=>∃ (pb : Option Addr) (cb : Nat),v = .tuple #[.slice pb N cb,.int .i64 0] ∧ Φ = [slF I64 pb N cb (cbP p m md N msg rows)] ∧ β = []):=by
 refine Ctr_of_j' (F:=F_codewrightref12_Encode) rfl fun C=>?_
 have hN:=CC.n64
 have hlr:=CC.len
 refine j_len 1 rfl fun hn hb _=>?_
 subst hn
 have c_codewrightref12_Check:=fun {pm ps : Option Addr} {nm cm n c : Nat}=>S_codewrightref12_Check (pm:=pm) (ps:=ps) (nm:=nm) (cm:=cm) (n:=n) (c:=c) (show InR .i64 (N : Int) by simp only [InR];omega) CC.ck
 have c_codewrightref12_List:=fun {nm cm n c : Nat} {pm ps : Option Addr}=>S_codewrightref12_List (nm:=nm) (cm:=cm) (pm:=pm) (ps:=ps) (n:=n) (c:=c) CC.K (liE_iff.2 hx)
 have c_codewrightref09_Combine:=fun {nm cm nx cx n c : Nat} {pm px ps : Option Addr}=>S_codewrightref09_Combine (nm:=nm) (cm:=cm) (nx:=nx) (cx:=cx) (n:=n) (c:=c) (pm:=pm) (px:=px) (ps:=ps) CC.K (show N ≤ 1000000 by omega) CC.mat hx
 refine wk 35 (ct @c_codewrightref12_Check (ct @c_codewrightref12_List (ct @c_codewrightref09_Combine cz))) ?_
 intro b1 h1 h2 pb1 cb1
 refine j_giv [0] rfl rfl rfl ⟨_,_,rfl,rfl,rfl⟩
theorem S_codewrightref12_Encode_bad {p m N nm cm n c nx cx : Nat} {pm ps px : Option Addr} {md msg : List Int} {rows : List (List Int)} {e : Int} (CC : Cok p m md N rows) (he : liE msg rows.length (p ^ m) = e) (h0 : e ≠ 0) :
  Ctr Tryz.prog 22 [.agg #[.int .i64 p,.int .i64 m,.slice pm nm cm,.int .i64 N,.slice ps n c],.slice px nx cx] [] [slF I64 pm nm cm md,slF (encSl I64) ps n c rows,slF I64 px nx cx msg]
   (Rv (.tuple #[.slice none 0 0,.int .i64 e]) []):=by
 refine Ctr_of_j' (F:=F_codewrightref12_Encode) rfl fun C=>?_
 have hN:=CC.n64
 have hlr:=CC.len
 refine j_len 1 rfl fun hn hb _=>?_
 subst hn
 have c_codewrightref12_Check:=fun {pm ps : Option Addr} {nm cm n c : Nat}=>S_codewrightref12_Check (pm:=pm) (ps:=ps) (nm:=nm) (cm:=cm) (n:=n) (c:=c) (show InR .i64 (N : Int) by simp only [InR];omega) CC.ck
 have c_codewrightref12_List:=fun {nm cm n c : Nat} {pm ps : Option Addr}=>S_codewrightref12_List (nm:=nm) (cm:=cm) (pm:=pm) (ps:=ps) (n:=n) (c:=c) CC.K he
 refine wk 27 (ct @c_codewrightref12_Check (ct @c_codewrightref12_List cz)) ?_
 intro b1 h1 h2
 exact ge
theorem S_codewrightref12_Encode_err {P M N e : Int} {nm cm n c nx cx : Nat} {pm ps px : Option Addr} {md msg : List Int} {rows : List (List Int)} (hN : InR .i64 N) (he : ckE P M md N rows = e) (h0 : e ≠ 0) :
  Ctr Tryz.prog 22 [.agg #[.int .i64 P,.int .i64 M,.slice pm nm cm,.int .i64 N,.slice ps n c],.slice px nx cx] [] [slF I64 pm nm cm md,slF (encSl I64) ps n c rows,slF I64 px nx cx msg]
   (Rv (.tuple #[.slice none 0 0,.int .i64 e]) []):=by
 refine Ctr_of_j' (F:=F_codewrightref12_Encode) rfl fun C=>?_
 have hr:=ckE_rng P M md N rows
 have c_codewrightref12_Check:=fun {pm ps : Option Addr} {nm cm n c : Nat}=>S_codewrightref12_Check (pm:=pm) (ps:=ps) (nm:=nm) (cm:=cm) (n:=n) (c:=c) hN he
 refine wk 18 (ct @c_codewrightref12_Check cz) ?_
 intro b1 h1 h2
 exact ge
def brB (lost away z w : List Int) (i : Nat) : Bool:=!decide (at0 w i = 0) && !decide ((i : Int) ∈ lost) && !decide ((i : Int) ∈ away) && !decide ((i : Int) ∈ z)
def brL (lost away z w : List Int) (n : Nat) : List Int:=((List.range n).filter (brB lost away z w)).map fun i : Nat=>(i : Int)
theorem brL_succ {lost away z w : List Int} {n : Nat} : brL lost away z w (n + 1) = brL lost away z w n++if brB lost away z w n then [(n : Int)] else []:=by
 rw [brL,List.range_succ,List.filter_append,List.map_append,← brL]
 cases h : brB lost away z w n <;> simp [h]
theorem brL_le {lost away z w : List Int} {n : Nat} : (brL lost away z w n).length ≤ n:=by
 rw [brL,List.length_map];have:=List.length_filter_le (brB lost away z w) (List.range n);rwa [List.length_range] at this
theorem brL_mem {lost away z w : List Int} {n : Nat} {x : Int} : x ∈ brL lost away z w n ↔ ∃ i : Nat,x = i ∧ i < n ∧ at0 w i ≠ 0 ∧ (i : Int) ∉ lost ∧ (i : Int) ∉ away ∧ (i : Int) ∉ z:=by
 rw [brL,List.mem_map]
 constructor
 ·rintro ⟨i,hi,rfl⟩
  rw [List.mem_filter,List.mem_range] at hi
  obtain ⟨h1,h2⟩:=hi
  simp only [brB,Bool.and_eq_true,Bool.not_eq_true',decide_eq_false_iff_not] at h2
  exact ⟨i,rfl,h1,h2.1.1.1,h2.1.1.2,h2.1.2,h2.2⟩
 ·rintro ⟨i,rfl,h1,h2,h3,h4,h5⟩
  refine ⟨i,?_,rfl⟩
  rw [List.mem_filter,List.mem_range]
  refine ⟨h1,?_⟩
  simp only [brB,Bool.and_eq_true,Bool.not_eq_true',decide_eq_false_iff_not]
  exact ⟨⟨⟨h2,h3⟩,h4⟩,h5⟩
section
variable {pw pl pa pz : Option Addr} {nw cw nl cl na ca nz cz' : Nat} {w lost away z : List Int}
theorem S_repair_branches (hw : w.length ≤ 1000000) : Ctr Tryz.prog 100 [.slice pw nw cw,.slice pl nl cl,.slice pa na ca,.slice pz nz cz'] [] [slF I64 pw nw cw w,slF I64 pl nl cl lost,slF I64 pa na ca away,slF I64 pz nz cz' z] (RwI (brL lost away z w w.length).length (brL lost away z w w.length)):=by
 refine Ctr_of_j' (F:=F_repair_branches) rfl fun C=>?_
 refine j_len 0 rfl fun hn _ _=>?_
 subst hn
 refine wk 9 cz ?_
 refine j_row0 I64 3 ?_
 refine j_loopG (X:=Nat × Row) [1,2,3,8,12,13] [0,1,2,3,4] (fun x=>[(14,.int .i64 (x.1 : Int)),(9,.slice (ad x.2.bo) (brL lost away z w x.1).length x.2.cap)]) (fun x=>[(x.2.bo,3,x.2.cs)]) (fun x=>[rowF I64 x.2 (brL lost away z w x.1).length (brL lost away z w x.1)]) (fun x=>x.1 ≤ w.length) (fun x=>w.length - x.1) (0,⟨none,0,[]⟩) [0] rfl rfl rfl (Nat.zero_le _) (by repeat (first | exact Fr.sub_nil _ | refine Fr.sub_cons rfl ?_)) rfl rfl ?_
 rintro ⟨i,r⟩ hi ih
 simp only [List.cons_append,List.nil_append] at hi ih ⊢
 have hle:=brL_le (lost:=lost) (away:=away) (z:=z) (w:=w) (n:=i)
 by_cases hil : i < w.length
 ·obtain ⟨y,at_y⟩ : ∃ y,w[i]? = some y:=⟨_,List.getElem?_eq_getElem hil⟩
  have ey : at0 w i = y:=by rw [at0,List.getD_eq_getElem?_getD,at_y];rfl
  have ih':=fun r=>ih (i + 1,r) (by dsimp only;omega) (by dsimp only;omega)
  dsimp only at ih'
  rw [brL_succ,brB,ey] at ih'
  by_cases h0 : y = 0
  ·rw [decide_eq_true h0] at ih'
   simp only [Bool.not_true,Bool.false_and,if_neg (show ¬ (false = true) by decide),List.append_nil] at ih'
   refine j_nf [_,_,_,_,_] rfl ?_
   refine j_run it 1 rfl (by simp) ?_
   refine j_nf [_,_,_,_,_] rfl ?_
   refine j_if rfl rfl (fun h1=>?_) (fun h1=>by exfalso;omega)
   refine j_nf [_,_,_,_,_,_,_] rfl ?_
   refine j_run it 1 rfl (by simp) ?_
   refine j_step rfl (x_idx 2 (i) rfl rfl rfl sl22 rfl (by omega) fun z1 hz1 b1 o1=>?_)
   obtain rfl : _ = z1:=Option.some.inj (at_y.symm.trans hz1)
   refine j_step rfl (x_ld_int 0 rfl rfl ld3 fun ⟨r1,r2⟩=>?_)
   refine j_run it 2 rfl (by simp) ?_
   refine j_nf [_,_,_,_,_,_,_] rfl ?_
   refine j_run it 3 rfl (by simp) ?_
   refine j_split_ndec (t:=21) rfl (fun h2=>by exfalso;omega) (fun h2=>?_)
   refine j_run it 17 rfl (by simp) ?_
   refine j_nf [_,_,_,_,_,_] rfl ?_
   refine j_false rfl rfl ?_
   refine j_nf [_,_,_,_] rfl ?_
   refine j_run it 2 rfl ⟨trivial,⟨by omega,by omega⟩,trivial⟩ ?_
   refine j_nfn 1 [.lp (pL 116),.blk 0,.c [1,1,1]] rfl ?_
   exact tw (ih' r)
  rw [decide_eq_false h0] at ih'
  cases hA : decide ((i : Int) ∈ lost) with
  | true =>
   rw [hA] at ih'
   simp only [Bool.not_true,Bool.not_false,Bool.and_false,Bool.false_and,if_neg (show ¬ (false = true) by decide),List.append_nil] at ih'
   refine wk 14 cz ?_
   intro h1 b1 o1 hz1 _ r1 r2
   refine j_split_ndec (t:=21) rfl (fun h2=>?_) (fun h2=>by exfalso;omega)
   refine wk 8 (ct @S_slices_Contains___int_int_ cz) ?_
   exact tw (ih' r)
  | false =>
   cases hB : decide ((i : Int) ∈ away) with
   | true =>
    rw [hA,hB] at ih'
    simp only [Bool.not_true,Bool.not_false,Bool.and_false,Bool.false_and,if_neg (show ¬ (false = true) by decide),List.append_nil] at ih'
    refine wk 14 cz ?_
    intro h1 b1 o1 hz1 _ r1 r2
    refine j_split_ndec (t:=21) rfl (fun h2=>?_) (fun h2=>by exfalso;omega)
    refine wk 10 (ct @S_slices_Contains___int_int_ (ct @S_slices_Contains___int_int_ cz)) ?_
    exact tw (ih' r)
   | false =>
    cases hC : decide ((i : Int) ∈ z) with
    | true =>
     rw [hA,hB,hC] at ih'
     simp only [Bool.not_true,Bool.not_false,Bool.and_false,if_neg (show ¬ (false = true) by decide),List.append_nil] at ih'
     refine wk 14 cz ?_
     intro h1 b1 o1 hz1 _ r1 r2
     refine j_split_ndec (t:=21) rfl (fun h2=>?_) (fun h2=>by exfalso;omega)
     refine wk 12 (ct @S_slices_Contains___int_int_ (ct @S_slices_Contains___int_int_ (ct @S_slices_Contains___int_int_ cz))) ?_
     exact tw (ih' r)
    | false =>
     rw [hA,hB,hC] at ih'
     simp only [Bool.not_false,Bool.and_true,if_pos,List.length_append,List.length_singleton] at ih'
     refine wk 14 cz ?_
     intro h1 b1 o1 hz1 _ r1 r2
     refine j_split_ndec (t:=21) rfl (fun h2=>?_) (fun h2=>by exfalso;omega)
     refine wk 12 (ct @S_slices_Contains___int_int_ (ct @S_slices_Contains___int_int_ (ct @S_slices_Contains___int_int_ cz))) ?_
     intro b2
     refine j_step rfl (x_appR (z:=(↑i : Int)) 1 0 1 rfl rfl rfl rfl rfl sl22 zo22e rfl (fun w A hG=>(rd_int (by first | (simp only [InR];omega) | (simp [InR];done)))) (by omega) _ by22e (by omega) fun r3=>?_)
     refine wk 4 cz ?_
     refine j_toM [true,false] [0,3,4,5,6,7] (by exact fra rfl) rfl rfl (ih' r3)
 ·obtain rfl : i = w.length:=by omega
  refine wk 7 cz ?_
  intro h1
  refine j_givK 1 [0] [0] rfl (.tmp rfl .nil) rfl rfl rfl ⟨r,rfl,rfl,rfl⟩
end
set_option maxRecDepth 100000
set_option linter.unusedVariables false
set_option linter.unusedSimpArgs false
inductive Cmb (q : Nat) (A M : Int → Int → Int) (n : Nat) (rows : List (List Int)) : List Int → Prop
 | zero : Cmb q A M n rows (zW n)
 | add {a : Int} {r u : List Int} : r ∈ rows → 0 ≤ a → a < q → Cmb q A M n rows u → Cmb q A M n rows (axp A M a r u)
section
variable {q : Nat} {A M : Int → Int → Int} {N V : Int → Int} (O : FO q A M N V)
include O
omit O in
theorem wd_at_ext {n : Nat} {u v : List Int} (hu : Wd q n u) (hv : Wd q n v) (h : ∀ j,j < n → at0 u j = at0 v j) : u = v:=by
 refine List.ext_getElem (by rw [hu.1,hv.1]) fun i h1 h2=>?_
 have:=h i (by rw [← hu.1];exact h1)
 rw [at0,at0,List.getD_eq_getElem?_getD,List.getD_eq_getElem?_getD,List.getElem?_eq_getElem h1,List.getElem?_eq_getElem h2] at this
 exact this
theorem FO.cmb_mat {n : Nat} {rows : List (List Int)} (hM : Mat q n rows) {u : List Int} (h : Cmb q A M n rows u) : Wd q n u:=by
 induction h with
 | zero=>exact O.wz n
 | add hr a0 a1 _ ih=>exact O.fi.axw a0 a1 (hM _ hr) ih
theorem FO.cmb_axp {n : Nat} {rows : List (List Int)} (hM : Mat q n rows) {a : Int} (a0 : 0 ≤ a) (a1 : a < q) {u v : List Int} (hu : Cmb q A M n rows u) (hv : Cmb q A M n rows v) : Cmb q A M n rows (axp A M a u v):=by
 have F:=O.fi
 have hq:=O.q2
 have wv:=O.cmb_mat hM hv
 induction hu with
 | zero =>
  have : axp A M a (zW n) v = v:=by
   refine wd_at_ext (F.axw a0 a1 (O.wz n) wv) wv fun j _=>?_
   obtain ⟨v0,v1⟩:=wd_at (by omega) wv j
   rw [O.axp_at a0 a1 (O.wz n) wv,at0_zW,F.m0 a0 a1,F.a0 _ v0 v1]
  rw [this];exact hv
 | @add b r u hr b0 b1 hu ih =>
  have wr:=hM _ hr
  have wu:=O.cmb_mat hM hu
  obtain ⟨m0,m1⟩:=F.ml a b a0 a1 b0 b1
  have w1:=F.axw b0 b1 wr wu
  have w2:=F.axw a0 a1 wu wv
  have e : axp A M a (axp A M b r u) v = axp A M (M a b) r (axp A M a u v):=by
   refine wd_at_ext (F.axw a0 a1 w1 wv) (F.axw m0 m1 wr w2) fun j _=>?_
   rw [O.axp_at a0 a1 w1 wv,O.axp_at b0 b1 wr wu,O.axp_at m0 m1 wr w2,O.axp_at a0 a1 wu wv]
   obtain ⟨v0,v1⟩:=wd_at (by omega) wv j
   obtain ⟨u0,u1⟩:=wd_at (by omega) wu j
   obtain ⟨r0,r1⟩:=wd_at (by omega) wr j
   obtain ⟨c0,c1⟩:=F.ml b _ b0 b1 r0 r1
   obtain ⟨d0,d1⟩:=F.ml a _ a0 a1 u0 u1
   obtain ⟨e0,e1⟩:=F.ml a _ a0 a1 c0 c1
   rw [F.md a _ _ a0 a1 u0 u1 c0 c1,← F.aa _ _ _ v0 v1 d0 d1 e0 e1,F.ma a b _ a0 a1 b0 b1 r0 r1]
  rw [e];exact .add hr m0 m1 ih
theorem FO.cmb_row {n : Nat} {rows : List (List Int)} (hM : Mat q n rows) {r : List Int} (hr : r ∈ rows) : Cmb q A M n rows r:=by
 have hq:=O.q2
 have F:=O.fi
 have : axp A M 1 r (zW n) = r:=by
  refine wd_at_ext (F.axw (by omega) (by omega) (hM _ hr) (O.wz n)) (hM _ hr) fun j _=>?_
  obtain ⟨v0,v1⟩:=wd_at (by omega) (hM _ hr) j
  rw [O.axp_at (by omega) (by omega) (hM _ hr) (O.wz n),at0_zW,F.mc 1 _ (by omega) (by omega) v0 v1,F.m1 _ v0 v1,F.zl v0 v1]
 rw [← this];exact .add hr (by omega) (by omega) .zero
theorem FO.cmb_scl {n : Nat} {rows : List (List Int)} (hM : Mat q n rows) {a : Int} (a0 : 0 ≤ a) (a1 : a < q) {u : List Int} (hu : Cmb q A M n rows u) : Cmb q A M n rows (sclL M a u):=by
 have hq:=O.q2
 have F:=O.fi
 have wu:=O.cmb_mat hM hu
 have : axp A M a u (zW n) = sclL M a u:=by
  refine wd_at_ext (F.axw a0 a1 wu (O.wz n)) (O.scl_wd a0 a1 wu) fun j _=>?_
  obtain ⟨v0,v1⟩:=wd_at (by omega) wu j
  obtain ⟨m0,m1⟩:=F.ml a _ a0 a1 v0 v1
  rw [O.axp_at a0 a1 wu (O.wz n),at0_zW,O.scl_at a0 a1,F.zl m0 m1]
 rw [← this];exact O.cmb_axp hM a0 a1 hu .zero
theorem FO.cmb_trans {n : Nat} {rows rows' : List (List Int)} (hM : Mat q n rows) (h : ∀ r ∈ rows',Cmb q A M n rows r) {u : List Int} (hu : Cmb q A M n rows' u) : Cmb q A M n rows u:=by
 induction hu with
 | zero=>exact .zero
 | add hr a0 a1 _ ih=>exact O.cmb_axp hM a0 a1 (h _ hr) ih
theorem FO.piv_cmb {n : Nat} {rows : List (List Int)} (h : Mat q n rows) {t k c : Nat} (ht : t < rows.length) (hk : k < rows.length) (h0 : en rows k c ≠ 0) : ∀ r ∈ pivL A M N V t k c rows,Cmb q A M n rows r:=fun r hr=>by
 have hq:=O.q2
 have wk:=h.row hk
 obtain ⟨c0,c1⟩:=wd_at (by omega) wk c
 obtain ⟨⟨v0,v1⟩,_⟩:=O.iv _ c0 c1 h0
 obtain ⟨i,hi,rfl⟩:=List.getElem_of_mem hr
 have hil : i < rows.length:=by rw [pivL_len] at hi;exact hi
 have e:=piv_row (A:=A) (M:=M) (N:=N) (V:=V) (t:=t) (k:=k) (c:=c) hil
 have e2 : row0 (pivL A M N V t k c rows) i = (pivL A M N V t k c rows)[i]:=by rw [row0,List.getD_eq_getElem?_getD,List.getElem?_eq_getElem hi];rfl
 rw [← e2,e]
 have cp : Cmb q A M n rows (sclL M (V (en rows k c)) (row0 rows k)):=O.cmb_scl h v0 v1 (O.cmb_row h (row0_mem hk))
 split
 ·exact cp
 ·have ws:=swp_wd h ht hk hil
  obtain ⟨s0,s1⟩:=wd_at (by omega) ws c
  obtain ⟨⟨n0,n1⟩,_⟩:=O.ng _ s0 s1
  refine O.cmb_axp h n0 n1 cp (O.cmb_row h ?_)
  rw [swp_row ht hk]
  repeat' split
  all_goals first | exact row0_mem ht | exact row0_mem hk | exact row0_mem hil
theorem FO.elim_cmb {n : Nat} : ∀ (m c t : Nat) {rows : List (List Int)},t ≤ rows.length → Mat q n rows → ∀ r ∈ (elimL A M N V m c t rows).1,Cmb q A M n rows r
 | 0,_,_,rows,_,hM,r,hr=>O.cmb_row hM hr
 | m + 1,c,t,rows,ht,hM,r,hr=>by
  rw [elimL] at hr
  cases hf : findP rows t c with
  | none=>rw [hf] at hr;exact FO.elim_cmb m (c + 1) t ht hM r hr
  | some k =>
   rw [hf] at hr
   obtain ⟨k1,k2,k3⟩:=findP_some hf
   have hM':=O.piv_wd hM (show t < rows.length by omega) k2 k3
   exact O.cmb_trans hM (O.piv_cmb hM (by omega) k2 k3) (FO.elim_cmb m (c + 1) (t + 1) (by rw [pivL_len];omega) hM' r hr)
theorem FO.cmb_coef {n : Nat} {rows : List (List Int)} (hM : Mat q n rows) {u : List Int} (h : Cmb q A M n rows u) : ∃ t,Wd q rows.length t ∧ ∀ e,at0 u e = dotL A M t (colL rows e):=by
 have hq:=O.q2
 have F:=O.fi
 induction h with
 | zero =>
  refine ⟨zW rows.length,O.wz _,fun e=>?_⟩
  have hc:=wd_col (by omega) hM e
  rw [at0_zW,O.dot_zero (O.wz _) hc fun i=>by
   obtain ⟨v0,v1⟩:=wd_at (by omega) hc i
   rw [at0_zW,F.mc 0 _ (Int.le_refl 0) F.z v0 v1,F.m0 v0 v1]]
 | @add a r u hr a0 a1 hu ih =>
  obtain ⟨t,ht,he⟩:=ih
  obtain ⟨i,hi,rfl⟩:=List.getElem_of_mem hr
  have hun:=(O.dot_unit hi (O.wz rows.length)).1
  refine ⟨axp A M a (unitW rows.length i) t,F.axw a0 a1 hun ht,fun e=>?_⟩
  have hc:=wd_col (by omega) hM e
  have wr:=hM _ hr
  have wu:=O.cmb_mat hM hu
  rw [O.axp_at a0 a1 wr wu,O.dot_axp_l a0 a1 hun ht hc,(O.dot_unit hi hc).2,he]
  congr 2
  rw [at0,at0,List.getD_eq_getElem?_getD,List.getD_eq_getElem?_getD,List.getElem?_map,List.getElem?_eq_getElem hi];rfl
theorem FO.dot_snoc : ∀ {n : Nat} {x y : List Int} {a b : Int},Wd q n x → Wd q n y → 0 ≤ a → a < q → 0 ≤ b → b < q → dotL A M (x++[a]) (y++[b]) = A (dotL A M x y) (M a b)
 | 0,x,y,a,b,hx,hy,a0,a1,b0,b1=>by
  rw [List.length_eq_zero_iff.1 hx.1,List.length_eq_zero_iff.1 hy.1]
  obtain ⟨m0,m1⟩:=O.fi.ml a b a0 a1 b0 b1
  show A (M a b) 0 = A 0 (M a b)
  rw [O.fi.ac _ _ m0 m1 (Int.le_refl 0) O.fi.z]
 | n + 1,[],_,_,_,hx,_,_,_,_,_=>by have:=hx.1;simp at this
 | n + 1,_::_,[],_,_,_,hy,_,_,_,_=>by have:=hy.1;simp at this
 | n + 1,x::u,y::v,a,b,hx,hy,a0,a1,b0,b1=>by
  obtain ⟨⟨x0,x1⟩,hu⟩:=wd_tail hx
  obtain ⟨⟨y0,y1⟩,hv⟩:=wd_tail hy
  obtain ⟨m0,m1⟩:=O.fi.ml a b a0 a1 b0 b1
  obtain ⟨p0,p1⟩:=O.fi.ml x y x0 x1 y0 y1
  obtain ⟨d0,d1⟩:=O.fi.dlt hu hv
  show A (M x y) (dotL A M (u++[a]) (v++[b])) = A (A (M x y) (dotL A M u v)) (M a b)
  rw [FO.dot_snoc hu hv a0 a1 b0 b1,O.fi.aa _ _ _ p0 p1 d0 d1 m0 m1]
def slX (n : Nat) (E : List (List Int) × List Nat) : List Int:=(List.range n).map fun e=>if e ∈ E.2 then en E.1 (E.2.idxOf e) n else 0
def slB (n : Nat) (E : List (List Int) × List Nat) : Bool:=(E.1.drop E.2.length).all fun r=>decide (at0 r n = 0)
omit O in
theorem slB_iff {n : Nat} {E : List (List Int) × List Nat} : slB n E = true ↔ ∀ i,E.2.length ≤ i → i < E.1.length → en E.1 i n = 0:=by
 rw [slB,List.all_eq_true]
 constructor
 ·intro h i h1 h2
  have h3:=h (row0 E.1 i) (List.mem_of_getElem? (i:=i - E.2.length) (by rw [List.getElem?_drop,show E.2.length + (i - E.2.length) = i by omega,row0,List.getD_eq_getElem?_getD,List.getElem?_eq_getElem h2];rfl))
  simpa using h3
 ·intro h r hr
  obtain ⟨j,hj⟩:=List.getElem?_of_mem hr
  rw [List.getElem?_drop] at hj
  obtain ⟨h1,h2⟩:=List.getElem?_eq_some_iff.1 hj
  have:=h (E.2.length + j) (by omega) h1
  rw [en,row0,List.getD_eq_getElem?_getD,hj] at this
  simpa using this
omit O in
theorem slX_at {n e : Nat} {E : List (List Int) × List Nat} (he : e < n) : at0 (slX n E) e = if e ∈ E.2 then en E.1 (E.2.idxOf e) n else 0:=by
 rw [at0,slX,List.getD_eq_getElem?_getD,List.getElem?_map,List.getElem?_range he];rfl
omit O in
theorem ech_idx {R : List (List Int)} {P : List Nat} {c : Nat} (h : Ech R c P) {i a : Nat} (hi : P[i]? = some a) : P.idxOf a = i:=by
 have hm:=List.mem_of_getElem? hi
 have hl : P.idxOf a < P.length:=List.idxOf_lt_length_iff.2 hm
 have h1 : P[P.idxOf a]? = some a:=by rw [List.getElem?_eq_getElem hl,List.getElem_idxOf hl]
 rcases Nat.lt_trichotomy (P.idxOf a) i with h2 | h2 | h2
 ·have:=h.inc _ _ a a h1 hi h2;omega
 ·exact h2
 ·have:=h.inc _ _ a a hi h1 h2;omega
theorem FO.slX_wd {n : Nat} {E : List (List Int) × List Nat} (hM : Mat q (n + 1) E.1) (h : Ech E.1 n E.2) : Wd q n (slX n E):=by
 have hq:=O.q2
 refine ⟨by simp [slX],fun x hx=>?_⟩
 obtain ⟨e,_,rfl⟩:=List.mem_map.1 hx
 split
 ·rename_i hm
  have hl : E.2.idxOf e < E.2.length:=List.idxOf_lt_length_iff.2 hm
  exact wd_at (by omega) (hM.row (Nat.lt_of_lt_of_le hl h.le)) n
 ·omega
theorem FO.slX_sol {n : Nat} {E : List (List Int) × List Nat} (hM : Mat q (n + 1) E.1) (h : Ech E.1 n E.2) (hb : slB n E = true) : Wd q (n + 1) (slX n E++[N 1]) ∧ Sol A M E.1 (slX n E++[N 1]):=by
 have F:=O.fi
 have hq:=O.q2
 have hX:=O.slX_wd hM h
 obtain ⟨⟨n0,n1⟩,en1⟩:=O.ng 1 (by omega) (by omega)
 have hw : Wd q (n + 1) (slX n E++[N 1]):=⟨by rw [List.length_append,hX.1];rfl,fun x hx=>by
  rcases List.mem_append.1 hx with hx | hx
  ·exact hX.2 x hx
  ·rw [List.mem_singleton.1 hx];exact ⟨n0,n1⟩⟩
 refine ⟨hw,sol_row.2 fun i hi=>?_⟩
 have hr:=hM.row hi
 -- the row,cut at its last entry
 have hcut : row0 E.1 i = (row0 E.1 i).take n++[at0 (row0 E.1 i) n]:=by
  have h1 : n < (row0 E.1 i).length:=by rw [hr.1];omega
  conv=>lhs;rw [← List.take_append_drop n (row0 E.1 i)]
  congr 1
  rw [List.drop_eq_getElem_cons h1,List.drop_of_length_le (by rw [hr.1];omega),at0,List.getD_eq_getElem?_getD,List.getElem?_eq_getElem h1];rfl
 have ht : Wd q n ((row0 E.1 i).take n):=⟨by rw [List.length_take,hr.1];omega,fun x hx=>hr.2 x (List.mem_of_mem_take hx)⟩
 have hat : ∀ e,e < n → at0 ((row0 E.1 i).take n) e = en E.1 i e:=fun e he=>by
  rw [at0,List.getD_eq_getElem?_getD,List.getElem?_take,if_pos he,en,at0,List.getD_eq_getElem?_getD]
 obtain ⟨b0,b1⟩:=wd_at (by omega) hr n
 rw [hcut,O.dot_snoc hX ht n0 n1 b0 b1]
 have hneg : A (at0 (row0 E.1 i) n) (M (N 1) (at0 (row0 E.1 i) n)) = 0:=by
  have : A (M (at0 (row0 E.1 i) n) 1) (M (at0 (row0 E.1 i) n) (N 1)) = 0:=by
   rw [← F.md _ 1 _ b0 b1 (by omega) (by omega) n0 n1,en1,F.m0 b0 b1]
  rwa [F.m1 _ b0 b1,F.mc _ (N 1) b0 b1 n0 n1] at this
 have hdot : dotL A M (slX n E) ((row0 E.1 i).take n) = at0 (row0 E.1 i) n:=by
  rcases Nat.lt_or_ge i E.2.length with h1 | h1
  ·have hp : E.2[i]? = some E.2[i]:=List.getElem?_eq_getElem h1
   generalize E.2[i] = p at hp
   have hpn : p < n:=h.lt p (List.mem_of_getElem? hp)
   rw [O.dot_one hX ht p fun e hne=>?_]
   ·rw [slX_at hpn,if_pos (List.mem_of_getElem? hp),ech_idx h hp,hat p hpn,h.one i p hp,F.m1 _ b0 b1]
   ·by_cases hen : e < n
    ·rw [slX_at hen,hat e hen]
     by_cases hm : e ∈ E.2
     ·obtain ⟨j,hj⟩:=List.getElem?_of_mem hm
      have hji : i ≠ j:=fun e9=>by
       subst e9
       exact hne (Option.some.inj (hj.symm.trans hp))
      rw [if_pos hm,ech_idx h hj,h.zer j e hj i hi hji]
      obtain ⟨c0,c1⟩:=wd_at (by omega) (hM.row (i:=j) (by have:=(List.getElem?_eq_some_iff.1 hj).1;have:=h.le;omega)) n
      exact F.m0 c0 c1
     ·rw [if_neg hm]
      obtain ⟨c0,c1⟩:=wd_at (by omega) hr e
      rw [F.mc 0 _ (Int.le_refl 0) F.z c0 c1,F.m0 c0 c1]
    ·rw [wd_out hX (by omega),wd_out ht (by omega),F.m0 (Int.le_refl 0) F.z]
  ·have hz:=(slB_iff.1 hb) i h1 hi
   rw [show at0 (row0 E.1 i) n = 0 from hz]
   refine O.dot_zero hX ht fun e=>?_
   obtain ⟨c0,c1⟩:=wd_at (by omega) hX e
   by_cases hen : e < n
   ·rw [hat e hen,h.bot i h1 hi e hen,F.m0 c0 c1]
   ·rw [wd_out ht (by omega),F.m0 c0 c1]
 rw [hdot];exact hneg
abbrev pkL (w : List Int) (hs : List Nat) : List Int:=hs.map fun j=>at0 w j
abbrev eqL (gen : List (List Int)) (hs : List Nat) (l : Nat) : List (List Int):=gen.map fun r=>pkL r hs++[at0 r l]
abbrev eqE (A M : Int → Int → Int) (N V : Int → Int) (gen : List (List Int)) (hs : List Nat) (l : Nat) : List (List Int) × List Nat:=elimL A M N V hs.length 0 0 (eqL gen hs l)
omit O in
theorem pk_wd {n : Nat} (hq : 0 < q) {w : List Int} (hw : Wd q n w) (hs : List Nat) : Wd q hs.length (pkL w hs) :=
 ⟨by rw [List.length_map],fun x hx=>by obtain ⟨j,_,rfl⟩:=List.mem_map.1 hx;exact wd_at hq hw j⟩
omit O in
theorem eq_mat {n : Nat} (hq : 0 < q) {gen : List (List Int)} (hG : Mat q n gen) (hs : List Nat) (l : Nat) : Mat q (hs.length + 1) (eqL gen hs l):=fun r hr=>by
 obtain ⟨u,hu,rfl⟩:=List.mem_map.1 hr
 refine ⟨by rw [List.length_append,List.length_map];rfl,fun x hx=>?_⟩
 rcases List.mem_append.1 hx with hx | hx
 ·exact (pk_wd hq (hG u hu) hs).2 x hx
 ·rw [List.mem_singleton.1 hx];exact wd_at hq (hG u hu) l
theorem FO.cmbF_ind {n : Nat} {gen : List (List Int)} (hG : Mat q n gen) {P : List Int → Prop} (hP : ∀ (a : Int) (r u : List Int),r ∈ gen → 0 ≤ a → a < q → Wd q n u → P u → P (axp A M a r u)) : ∀ {x : List Int} {rows : List (List Int)} {u : List Int},(∀ a ∈ x,0 ≤ a ∧ a < q) → (∀ r ∈ rows,r ∈ gen) → Wd q n u → P u → P (cmbF A M x rows u)
 | [],_,u,_,_,_,h=>by rw [cmbF];exact h;· intros;contradiction
 | _::_,[],u,_,_,_,h=>by rw [cmbF];exact h;· intros;contradiction
 | a::x,r::rows,u,hx,hr,hu,h=>by
  obtain ⟨a0,a1⟩:=hx a (.head _)
  have hg:=hr r (.head _)
  rw [cmbF,O.cmb_step (hG r hg) hu]
  exact FO.cmbF_ind hG hP (fun b hb=>hx b (.tail _ hb)) (fun s hs=>hr s (.tail _ hs)) (O.fi.axw a0 a1 (hG r hg) hu) (hP a r u hg a0 a1 hu h)
theorem FO.sl_word {n : Nat} {gen : List (List Int)} (hG : Mat q n gen) {hs : List Nat} {l : Nat} (hb : slB hs.length (eqE A M N V gen hs l) = true) {x : List Int} (hx : ∀ a ∈ x,0 ≤ a ∧ a < q) :
  dotL A M (slX hs.length (eqE A M N V gen hs l)) (pkL (cmbL A M n x gen) hs) = at0 (cmbL A M n x gen) l:=by
 have F:=O.fi
 have hq:=O.q2
 have hm:=eq_mat (by omega) hG hs l
 obtain ⟨h1,h2,h3⟩:=O.elim (m:=hs.length) hm
 obtain ⟨s1,s2⟩:=O.slX_sol h1 h2 hb
 have hX:=O.slX_wd h1 h2
 have hsol:=(h3 _ s1).1 s2
 obtain ⟨⟨n0,n1⟩,en1⟩:=O.ng 1 (by omega) (by omega)
 have hrow : ∀ r ∈ gen,dotL A M (slX hs.length (eqE A M N V gen hs l)) (pkL r hs) = at0 r l:=fun r hr=>by
  have hp:=pk_wd (by omega) (hG r hr) hs
  obtain ⟨b0,b1⟩:=wd_at (by omega) (hG r hr) l
  have h:=hsol _ (List.mem_map.2 ⟨r,hr,rfl⟩)
  rw [O.dot_snoc hX hp n0 n1 b0 b1] at h
  obtain ⟨d0,d1⟩:=F.dlt hX hp
  have hneg : A (at0 r l) (M (N 1) (at0 r l)) = 0:=by
   have : A (M (at0 r l) 1) (M (at0 r l) (N 1)) = 0:=by
    rw [← F.md _ 1 _ b0 b1 (by omega) (by omega) n0 n1,en1,F.m0 b0 b1]
   rwa [F.m1 _ b0 b1,F.mc _ (N 1) b0 b1 n0 n1] at this
  obtain ⟨k0,k1⟩:=F.ml (N 1) _ n0 n1 b0 b1
  rw [F.ac _ _ d0 d1 k0 k1] at h
  rw [F.ac _ _ b0 b1 k0 k1] at hneg
  exact F.cancel k0 k1 d0 d1 b0 b1 (h.trans hneg.symm)
 refine O.cmbF_ind (P:=fun u=>dotL A M (slX hs.length (eqE A M N V gen hs l)) (pkL u hs) = at0 u l) hG (fun a r u hr a0 a1 hu h=>?_) hx (fun r hr=>hr) (O.wz n) ?_
 ·have hp:=pk_wd (by omega) (hG r hr) hs
  have hpu:=pk_wd (by omega) hu hs
  have e : pkL (axp A M a r u) hs = axp A M a (pkL r hs) (pkL u hs):=by
   refine wd_at_ext (pk_wd (by omega) (F.axw a0 a1 (hG r hr) hu) hs) (F.axw a0 a1 hp hpu) fun j hj=>?_
   rw [O.axp_at a0 a1 hp hpu]
   simp only [at0,pkL,List.getD_eq_getElem?_getD,List.getElem?_map,List.getElem?_eq_getElem hj,Option.map_some,Option.getD_some]
   have:=O.axp_at a0 a1 (hG r hr) hu hs[j]
   simpa only [at0,List.getD_eq_getElem?_getD] using this
  show dotL A M _ (pkL (axp A M a r u) hs) = at0 (axp A M a r u) l
  rw [e,F.daxp a0 a1 hX hp hpu,h,hrow r hr,O.axp_at a0 a1 (hG r hr) hu]
 ·show dotL A M _ (pkL (zW n) hs) = at0 (zW n) l
  rw [at0_zW]
  refine O.dot_zero hX (pk_wd (by omega) (O.wz n) hs) fun e=>?_
  obtain ⟨c0,c1⟩:=wd_at (by omega) hX e
  have : at0 (pkL (zW n) hs) e = 0:=by
   rw [at0,List.getD_eq_getElem?_getD,List.getElem?_map]
   cases hs[e]? with
   | none=>rfl
   | some j=>exact at0_zW n j
  rw [this,F.m0 c0 c1]
theorem FO.sl_iff {n : Nat} {gen : List (List Int)} (hG : Mat q n gen) {hs : List Nat} {l : Nat} :
  slB hs.length (eqE A M N V gen hs l) = true ↔ ∀ x,Wd q gen.length x → Sol A M (hs.map (colL gen)) x → dotL A M x (colL gen l) = 0:=by
 have F:=O.fi
 have hq:=O.q2
 have hm:=eq_mat (by omega) hG hs l
 obtain ⟨h1,h2,h3⟩:=O.elim (m:=hs.length) hm
 constructor
 ·intro hb x hx hS
  have h:=O.sl_word hG hb hx.2
  rw [O.cmb_at hx.2 hG] at h
  rw [← h]
  have hX:=O.slX_wd h1 h2
  have hw:=O.cmb_wd (n:=n) hx.2 hG
  refine O.dot_zero hX (pk_wd (by omega) hw hs) fun e=>?_
  obtain ⟨c0,c1⟩:=wd_at (by omega) hX e
  have : at0 (pkL (cmbL A M n x gen) hs) e = 0:=by
   rw [at0,List.getD_eq_getElem?_getD,List.getElem?_map]
   cases hj : hs[e]? with
   | none=>rfl
   | some j =>
    show at0 (cmbL A M n x gen) j = 0
    rw [O.cmb_at hx.2 hG]
    exact hS _ (List.mem_map.2 ⟨j,List.mem_of_getElem? hj,rfl⟩)
  rw [this,F.m0 c0 c1]
 ·intro h
  rw [slB_iff]
  intro i hi1 hi2
  have hr:=row0_mem hi2
  obtain ⟨t,ht,he⟩:=O.cmb_coef hm (O.elim_cmb hs.length 0 0 (Nat.zero_le _) hm _ hr)
  have hgl : (eqL gen hs l).length = gen.length:=by rw [List.length_map]
  rw [hgl] at ht
  have hcol : ∀ e,e < hs.length → colL (eqL gen hs l) e = colL gen (hs.getD e 0):=fun e hel=>by
   simp only [colL,eqL,List.map_map]
   refine List.map_congr_left fun r _=>?_
   show at0 (pkL r hs++[at0 r l]) e = _
   rw [at0,List.getD_eq_getElem?_getD,List.getElem?_append_left (by rw [List.length_map];exact hel),List.getElem?_map,List.getElem?_eq_getElem hel]
   show at0 r hs[e] = _
   rw [List.getD_eq_getElem?_getD,List.getElem?_eq_getElem hel];rfl
  have hcol2 : colL (eqL gen hs l) hs.length = colL gen l:=by
   simp only [colL,eqL,List.map_map]
   refine List.map_congr_left fun r _=>?_
   show at0 (pkL r hs++[at0 r l]) hs.length = _
   rw [at0,List.getD_eq_getElem?_getD,List.getElem?_append_right (by rw [List.length_map];exact Nat.le_refl _),List.length_map,Nat.sub_self];rfl
  show at0 (row0 _ i) hs.length = 0
  rw [he,hcol2]
  refine h t ht fun r hr=>?_
  obtain ⟨j,hj,rfl⟩:=List.mem_map.1 hr
  obtain ⟨e,hel,rfl⟩:=List.getElem_of_mem hj
  have:=he e
  rw [hcol e hel,List.getD_eq_getElem?_getD,List.getElem?_eq_getElem hel] at this
  show dotL A M t (colL gen hs[e]) = 0
  rw [show dotL A M t (colL gen hs[e]) = at0 (row0 (elimL A M N V hs.length 0 0 (eqL gen hs l)).1 i) e from this.symm]
  exact h2.bot i hi1 hi2 e hel
end
set_option maxRecDepth 100000
set_option linter.unusedVariables false
set_option linter.unusedSimpArgs false
def rsF (A M : Int → Int → Int) (N : Int → Int) (v : List Int) : List Nat → List (List Int) → List Int → List Int
 | p::ps,r::rs,out=>rsF A M N v ps rs (axp A M (N (at0 v p)) r out)
 | _,_,out=>out
section
variable {q : Nat} {A M : Int → Int → Int} {N V : Int → Int} (O : FO q A M N V)
include O
theorem FO.rs_wd {n : Nat} {v : List Int} (hv : Wd q n v) : ∀ {P : List Nat} {R : List (List Int)} {out : List Int},Mat q n R → Wd q n out → Wd q n (rsF A M N v P R out)
 | [],_,_,_,ho=>ho
 | _::_,[],_,_,ho=>ho
 | p::ps,r::rs,out,hM,ho=>by
  have hq:=O.q2
  obtain ⟨v0,v1⟩:=wd_at (by omega) hv p
  obtain ⟨⟨n0,n1⟩,_⟩:=O.ng _ v0 v1
  exact FO.rs_wd hv (P:=ps) (R:=rs) (fun x hx=>hM x (.tail _ hx)) (O.fi.axw n0 n1 (hM r (.head _)) ho)
theorem FO.rs_cmb {n : Nat} {G : List (List Int)} (hG : Mat q n G) {v : List Int} (hv : Wd q n v) : ∀ {P : List Nat} {R : List (List Int)} {out : List Int},(∀ r ∈ R,r ∈ G) → Wd q n out → Cmb q A M n G (rsF A M N v P R out) → Cmb q A M n G out
 | [],_,_,_,_,h=>h
 | _::_,[],_,_,_,h=>h
 | p::ps,r::rs,out,hR,ho,h=>by
  have hq:=O.q2
  have F:=O.fi
  obtain ⟨v0,v1⟩:=wd_at (by omega) hv p
  obtain ⟨⟨n0,n1⟩,e⟩:=O.ng _ v0 v1
  have hr:=hG r (hR r (.head _))
  have h1:=FO.rs_cmb hG hv (P:=ps) (R:=rs) (fun x hx=>hR x (.tail _ hx)) (F.axw n0 n1 hr ho) h
  have h2:=O.cmb_axp hG v0 v1 (O.cmb_row hG (hR r (.head _))) h1
  have e2 : axp A M (at0 v p) r (axp A M (N (at0 v p)) r out) = out:=by
   refine wd_at_ext (F.axw v0 v1 hr (F.axw n0 n1 hr ho)) ho fun j _=>?_
   obtain ⟨r0,r1⟩:=wd_at (by omega) hr j
   obtain ⟨o0,o1⟩:=wd_at (by omega) ho j
   obtain ⟨m0,m1⟩:=F.ml _ _ n0 n1 r0 r1
   obtain ⟨k0,k1⟩:=F.ml _ _ v0 v1 r0 r1
   rw [O.axp_at v0 v1 hr (F.axw n0 n1 hr ho),O.axp_at n0 n1 hr ho,F.aa _ _ _ o0 o1 m0 m1 k0 k1,F.mc _ _ n0 n1 r0 r1,F.mc _ _ v0 v1 r0 r1,← F.md _ _ _ r0 r1 n0 n1 v0 v1,F.ac _ _ n0 n1 v0 v1,e,F.m0 r0 r1,F.a0 _ o0 o1]
  rwa [e2] at h2
theorem FO.rs_zero {n : Nat} {G : List (List Int)} (hG : Mat q n G) {v : List Int} {P : List Nat} (hv : Wd q n v) (h : ∀ x ∈ rsF A M N v P G v,x = 0) : Cmb q A M n G v:=by
 refine O.rs_cmb hG hv (P:=P) (fun r hr=>hr) hv ?_
 have hw:=O.rs_wd hv (P:=P) hG hv
 have : rsF A M N v P G v = zW n:=by
  refine wd_at_ext hw (O.wz n) fun j hj=>?_
  rw [at0_zW,at0,List.getD_eq_getElem?_getD,List.getElem?_eq_getElem (by rw [hw.1];exact hj)]
  exact h _ (List.getElem_mem _)
 rw [this];exact .zero
theorem FO.not_enough {n : Nat} {gen h : List (List Int)} {hs lost : List Nat} (hG : Mat q n gen) (hh : h = hs.map (colL gen)) {x : List Int} (hx : Cmb q A M n gen x) (h0 : ∀ j ∈ hs,at0 x j = 0) {l : Nat} (hl : l ∈ lost) (hln : l < n) (h1 : at0 x l ≠ 0) :
  ¬ ∀ j ∈ lost,∀ r ∈ wiL A M N V n gen h,at0 r j = 0:=by
 have hq:=O.q2
 intro hall
 have hm : Mat q gen.length h:=fun r hr=>by
  rw [hh] at hr
  obtain ⟨j,_,rfl⟩:=List.mem_map.1 hr
  exact wd_col (by omega) hG j
 obtain ⟨t,ht,e⟩:=O.cmb_coef hG hx
 have:=((O.wi hG hm).2 l hln).1 (hall l hl) t ht fun r hr=>by
  rw [hh] at hr
  obtain ⟨j,hj,rfl⟩:=List.mem_map.1 hr
  rw [← e];exact h0 j hj
 exact h1 (by rw [e];exact this)
end
open Go Go.Fw
set_option maxRecDepth 100000
set_option linter.unusedVariables false
set_option linter.unusedSimpArgs false
set_option maxHeartbeats 0
section
variable {p m : Nat} {md : List Int}
end
open Go Go.Fw
set_option maxRecDepth 100000
set_option linter.unusedVariables false
set_option linter.unusedSimpArgs false
set_option maxHeartbeats 0
def zrB (l : List Int) : Bool:=!l.any fun y=>!decide (y = 0)
theorem zrB_iff {l : List Int} : zrB l = true ↔ ∀ x ∈ l,x = 0:=by
 rw [zrB,Bool.not_eq_true',List.any_eq_false]
 exact ⟨fun h x hx=>by simpa using h x hx,fun h x hx=>by simpa using h x hx⟩
def mbB (p m : Nat) (md : List Int) (N : Nat) (rows : List (List Int)) (x : List Int) : Bool:=zrB (rsF (liftI (fA p m)) (liftI (fM p (fpo m md))) (negI p m) x (cnP p m md N rows).2 rows x)
section
variable {p m N b ng cg ce cl n c k cp nx cx : Nat} {pg pe pl ps pp px : Option Addr} {md x : List Int} {rows : List (List Int)}
end
open Go Go.Fw
set_option maxRecDepth 100000
set_option linter.unusedVariables false
set_option linter.unusedSimpArgs false
set_option maxHeartbeats 0
section
variable {p m N n c nm cm nx cx : Nat} {pm ps px : Option Addr} {md x : List Int} {rows : List (List Int)}
theorem liE_ok {q k : Nat} {l : List Int} (h : Wd q k l) : liE l k q = 0:=by
 rw [liE,if_neg (by have:=h.1;omega),entE,if_pos h.2]
theorem liE_of {q k : Nat} {l : List Int} (h : liE l k q = 0) : Wd q k l:=by
 rw [liE] at h
 by_cases h1 : l.length ≠ k
 ·rw [if_pos h1] at h;omega
 ·rw [if_neg h1,entE] at h
  by_cases h2 : ∀ x ∈ l,0 ≤ x ∧ x < (q : Int)
  ·exact ⟨by omega,h2⟩
  ·rw [if_neg h2] at h;omega
end
open Go Go.Fw
set_option maxRecDepth 100000
set_option linter.unusedVariables false
set_option linter.unusedSimpArgs false
set_option maxHeartbeats 0
def gdB (p m : Nat) (md : List Int) (N : Nat) (rows : List (List Int)) (lost x s : List Int) : Bool:=decide (liE x N (p ^ m) = 0) && mbB p m md N rows x && !nzL s x && nzL lost x
def htGo (f : List Int → List Int → List (List Int) → Option (List (List Int))) (s z : List Int) : List Int → List Int → List (List Int) → Option (List (List Int))
 | _,[],t=>some t
 | pre,i::r,t=>match f (s++[i]) (z++pre) t with
  | none=>none
  | some t'=>htGo f s z (pre++[i]) r t'
def htT (p m : Nat) (md : List Int) (N : Nat) (rows : List (List Int)) (lost away : List Int) : Nat → List Int → List Int → List (List Int) → Option (List (List Int))
 | _,_,_,[]=>none
 | 0,s,_,x::t=>if gdB p m md N rows lost x s = true then some t else none
 | d + 1,s,z,x::t=>if gdB p m md N rows lost x s = true then htGo (htT p m md N rows lost away d) s z [] (brL lost away z x N) t else none
theorem nodup_bk : ∀ {l l' : List Int},l.Nodup → (∀ x ∈ l,x ∈ l') → l'.length ≤ l.length → ∀ x ∈ l',x ∈ l
 | [],l',_,_,h=>fun x hx=>by
  have : l' = []:=List.eq_nil_of_length_eq_zero (by simpa using h)
  rw [this] at hx;cases hx
 | a::l,l',hn,hs,h=>fun x hx=>by
  obtain ⟨h1,h2⟩:=List.nodup_cons.1 hn
  have ha:=hs a (.head _)
  by_cases e : x = a
  ·rw [e];exact .head _
  ·have hl : (l'.erase a).length = l'.length - 1:=List.length_erase_of_mem ha
   have:=nodup_bk (l:=l) (l':=l'.erase a) h2 (fun y hy=>(List.mem_erase_of_ne (fun (e : y = a)=>h1 (e ▸ hy))).2 (hs y (.tail _ hy))) (by rw [hl];simp only [List.length_cons] at h;omega) x ((List.mem_erase_of_ne e).2 hx)
   exact .tail _ this
theorem nzL_false {l w : List Int} : nzL l w = false ↔ ∀ x ∈ l,at0 w x.toNat = 0:=by
 rw [nzL,List.any_eq_false]
 exact ⟨fun h x hx=>by simpa using h x hx,fun h x hx=>by simpa using h x hx⟩
section
variable {p m N : Nat} {md lost away : List Int} {rows : List (List Int)}
theorem not_en (CC : Cok p m md N rows) (hlo : stP N lost) {x H : List Int} (hx : Wd (p ^ m) N x) (hm : mbB p m md N rows x = true) (h0 : ∀ h ∈ H,at0 x h.toNat = 0) (h1 : nzL lost x = true) : enB p m md rows lost H = false:=by
 have O:=fok_fn CC.K
 have hc:=O.rs_zero CC.mat hx (P:=(cnP p m md N rows).2) (zrB_iff.1 hm)
 obtain ⟨l,hl,hl1⟩:=List.any_eq_true.1 h1
 have hl1:=of_decide_eq_true hl1
 have hln:=hlo.1 l hl
 have hn:=O.not_enough (hs:=H.map Int.toNat) (lost:=lost.map Int.toNat) CC.mat rfl hc (fun j hj=>by
  obtain ⟨y,hy,rfl⟩:=List.mem_map.1 hj
  exact h0 y hy) (l:=l.toNat) (List.mem_map.2 ⟨l,hl,rfl⟩) (by omega) hl1
 have e : (H.map Int.toNat).map (colL rows) = coL rows H:=by rw [List.map_map];rfl
 rw [e] at hn
 rw [en_wt CC hlo,Option.isNone_eq_false_iff,Option.isSome_iff_ne_none]
 intro hw
 refine hn fun j hj r hr=>?_
 obtain ⟨y,hy,rfl⟩:=List.mem_map.1 hj
 exact wt_none.1 hw y hy r hr
theorem go_hit {f : List Int → List Int → List (List Int) → Option (List (List Int))} {s z H : List Int} : ∀ {rem pre : List Int} {t t' : List (List Int)},htGo f s z pre rem t = some t' → (∀ i ∈ pre,i ∉ H) → (∃ i ∈ rem,i ∈ H) →
  ∃ i pre' t1 t2,i ∈ rem ∧ i ∈ H ∧ (∀ j ∈ pre',j ∉ H) ∧ f (s++[i]) (z++pre') t1 = some t2
 | [],_,_,_,_,_,⟨i,hi,_⟩=>by cases hi
 | a::r,pre,t,t',h,hp,he=>by
  rw [htGo] at h
  split at h
  ·cases h
  ·rename_i t1 h1
   by_cases ha : a ∈ H
   ·exact ⟨a,pre,t,t1,.head _,ha,hp,h1⟩
   ·obtain ⟨i,pre',t2,t3,g1,g2,g3,g4⟩:=go_hit (rem:=r) h (fun i hi=>by
     rcases List.mem_append.1 hi with hi | hi
     ·exact hp i hi
     ·rw [List.mem_singleton.1 hi];exact ha) (by
     obtain ⟨i,hi,hH⟩:=he
     rcases List.mem_cons.1 hi with rfl | hi
     ·exact absurd hH ha
     ·exact ⟨i,hi,hH⟩)
    exact ⟨i,pre',t2,t3,.tail _ g1,g2,g3,g4⟩
theorem ht_sound (CC : Cok p m md N rows) (hlo : stP N lost) {H : List Int} (hH : stP N H) (hd : ∀ x ∈ H,x ∉ lost ∧ x ∉ away) : ∀ (d : Nat) (s z : List Int) (t t' : List (List Int)),htT p m md N rows lost away d s z t = some t' →
  (∀ x ∈ s,x ∈ H) → (∀ x ∈ z,x ∉ H) → H.length ≤ s.length + d → s.Nodup → enB p m md rows lost H = false:=by
 intro d
 induction d with
 | zero =>
  intro s z t t' h hs hz hl hn
  cases t with
  | nil=>rw [htT] at h;cases h
  | cons x t =>
   rw [htT] at h
   split at h
   ·rename_i hg
    simp only [gdB,Bool.and_eq_true,decide_eq_true_eq,Bool.not_eq_true'] at hg
    obtain ⟨⟨⟨g1,g2⟩,g3⟩,g4⟩:=hg
    exact not_en CC hlo (liE_of g1) g2 (fun y hy=>nzL_false.1 g3 y (nodup_bk hn hs (by omega) y hy)) g4
   ·cases h
 | succ d ih =>
  intro s z t t' h hs hz hl hn
  cases t with
  | nil=>rw [htT] at h;cases h
  | cons x t =>
   rw [htT] at h
   split at h
   ·rename_i hg
    simp only [gdB,Bool.and_eq_true,decide_eq_true_eq,Bool.not_eq_true'] at hg
    obtain ⟨⟨⟨g1,g2⟩,g3⟩,g4⟩:=hg
    by_cases he : ∃ i ∈ brL lost away z x N,i ∈ H
    ·obtain ⟨i,pre',t1,t2,k1,k2,k3,k4⟩:=go_hit h (fun i hi=>by cases hi) he
     refine ih (s++[i]) (z++pre') t1 t2 k4 (fun y hy=>?_) (fun y hy=>?_) (by rw [List.length_append,List.length_singleton];omega) ?_
     ·rcases List.mem_append.1 hy with hy | hy
      ·exact hs y hy
      ·rw [List.mem_singleton.1 hy];exact k2
     ·rcases List.mem_append.1 hy with hy | hy
      ·exact hz y hy
      ·exact k3 y hy
     ·rw [List.nodup_append]
      refine ⟨hn,(by simp),fun a ha b hb e=>?_⟩
      rw [List.mem_singleton] at hb
      subst hb
      subst e
      obtain ⟨j,rfl,_,hj,_⟩:=brL_mem.1 k1
      have:=nzL_false.1 g3 _ ha
      rw [Int.toNat_natCast] at this
      exact hj this
    ·refine not_en CC hlo (liE_of g1) g2 (fun y hy=>Classical.byContradiction fun h0=>he ⟨y,?_,hy⟩) g4
     have hy2:=hH.1 y hy
     have e : ((y.toNat : Nat) : Int) = y:=by omega
     refine brL_mem.2 ⟨y.toNat,e.symm,by omega,h0,?_,?_,?_⟩
     ·rw [e];exact (hd y hy).1
     ·rw [e];exact (hd y hy).2
     ·rw [e];exact fun hz'=>hz y hz' hy
   ·cases h
end
open Go Go.Fw
set_option maxRecDepth 100000
set_option linter.unusedVariables false
set_option linter.unusedSimpArgs false
set_option maxHeartbeats 0
theorem S_slices_Grow___int_int_ {n : Nat} (hn : n ≤ 1000000) : Ctr Tryz.prog 147 [.slice none 0 0,.int .i64 n] [] [] (RwI 0 []):=by
 refine Ctr_of_j' (F:=F_slices_Grow___int_int_) rfl fun C=>?_
 refine wk 99 cz ?_
 intro h1
 refine j_step rfl (x_cap (tb.slT rfl) rfl ?_)
 rcases Nat.eq_zero_or_pos n with h0 | h0
 ·subst h0
  refine wk 99 cz ?_
  intro h2
  refine j_row0 I64 3 ?_
  refine j_givK 1 [0] [0] rfl (.tmp rfl .nil) rfl rfl rfl ⟨⟨none,0,[]⟩,rfl,rfl,rfl⟩
 ·refine wk 99 cz ?_
  intro h2
  refine j_step rfl (x_cap (tb.slT rfl) rfl ?_)
  refine j_step rfl (x_slice_nil rfl rfl (tb.slT rfl) ?_)
  refine j_run it 1 rfl (by simp) ?_
  refine j_recast (t:=21) ((n : Nat) : Int) rfl (by omega) ?_
  refine j_step rfl (x_mkroom rfl rfl (tb.slT rfl) (it _ _ rfl) (tb.zoT rfl) rfl (tb.byt rfl) h0 (by omega) (by omega) fun b cap cs hc1 hc2 hc3=>?_)
  refine wk 99 cz ?_
  refine j_step rfl (x_slice_h_own 0 rfl rfl (tb.slT rfl) rfl (by omega) (by omega) ?_)
  refine wk 99 cz ?_
  refine j_room (E:=I64) 0 rfl hc2 (by rw [hc3];exact (Nat.mul_one _).symm) ?_
  refine j_givK 1 [0] [0] rfl (.tmp rfl .nil) rfl rfl rfl ⟨⟨some b,cap,cs⟩,rfl,rfl,rfl⟩
theorem S_slices_Concat___int_int_ {ps : Option Addr} {n c : Nat} {ls : List (List Int)} (hn : ls.flatten.length ≤ 1000000) : Ctr Tryz.prog 104 [.slice ps n c] [] [slF (encSl I64) ps n c ls] (RwI ls.flatten.length ls.flatten):=by
 refine Ctr_of_j' (F:=F_slices_Concat___int_int_) rfl fun C=>?_
 refine j_len 0 rfl fun hn1 hb _=>?_
 subst hn1
 have hb' : ls.length * 24 ≤ 140737488355328:=hb
 have hle : ∀ k,(ls.take k).flatten.length ≤ ls.flatten.length:=fun k=>by
  rw [← List.take_append_drop k ls,List.flatten_append,List.length_append,List.take_append_drop];omega
 have hsn : ∀ k l,ls[k]? = some l → (ls.take (k + 1)).flatten = (ls.take k).flatten++l:=fun k l h=>by
  rw [List.take_add_one,h,List.flatten_append];simp
 refine wk 99 cz ?_
 refine j_loopG (X:=Nat) [0,2,9,10] [0] (fun i=>[(11,.int .i64 (i : Int)),(3,.int .i64 ((ls.take i).flatten.length : Int))]) (fun _=>[]) (fun _=>[]) (fun i=>i ≤ ls.length) (fun i=>ls.length - i) 0 [] rfl rfl rfl (Nat.zero_le _) (by repeat (first | exact Fr.sub_nil _ | refine Fr.sub_cons rfl ?_)) rfl rfl ?_
 rintro i hi ih
 simp only [List.cons_append,List.nil_append] at hi ih ⊢
 by_cases hil : i < ls.length
 ·obtain ⟨l,at_l⟩ : ∃ l,ls[i]? = some l:=⟨_,List.getElem?_eq_getElem hil⟩
  have h2:=hle (i + 1)
  have ih':=ih (i + 1) (by omega) (by omega)
  rw [hsn i l at_l,List.length_append] at h2 ih'
  refine wk 19 cz ?_
  intro h1 b1 o1 hz1 pa1 ca1 h3
  exact tw (ih')
 ·obtain rfl : i = ls.length:=by omega
  rw [List.take_length] at *
  refine wk 2 cz ?_
  have c_slices_Grow___int_int_:=S_slices_Grow___int_int_ hn
  refine wk 11 (ct @c_slices_Grow___int_int_ cz) ?_
  intro h1 r1
  simp only [List.cons_append,List.nil_append]
  refine j_loopG (X:=Nat × Row) [2,25,26] [0,1] (fun x=>[(27,.int .i64 (x.1 : Int)),(6,.slice (ad x.2.bo) (ls.take x.1).flatten.length x.2.cap)]) (fun x=>[(x.2.bo,3,x.2.cs)]) (fun x=>[rowF I64 x.2 (ls.take x.1).flatten.length (ls.take x.1).flatten]) (fun x=>x.1 ≤ ls.length) (fun x=>ls.length - x.1) (0,r1) [0] rfl rfl rfl (Nat.zero_le _) (by repeat (first | exact Fr.sub_nil _ | refine Fr.sub_cons rfl ?_)) rfl rfl ?_
  rintro ⟨i,r⟩ hi ih2
  simp only [List.cons_append,List.nil_append] at hi ih2 ⊢
  by_cases hil : i < ls.length
  ·obtain ⟨l,at_l⟩ : ∃ l,ls[i]? = some l:=⟨_,List.getElem?_eq_getElem hil⟩
   have h2:=hle (i + 1)
   have ih':=fun r=>ih2 (i + 1,r) (by dsimp only;omega) (by dsimp only;omega)
   dsimp only at ih'
   simp only [hsn i l at_l,List.length_append] at h2 ih'
   refine wk 10 cz ?_
   intro h3 b1 o1 hz1 pa1 ca1
   refine j_step rfl (x_appS 0 2 0 rfl rfl rfl rfl rfl sl22 zo22e rfl (by omega) _ by22e (by omega) fun r2=>?_)
   refine wk 4 cz ?_
   exact tw (ih' r2)
  ·obtain rfl : i = ls.length:=by omega
   simp only [List.take_length] at *
   refine wk 7 cz ?_
   intro h2
   refine j_givK 1 [0] [0] rfl (.tmp rfl .nil) rfl rfl rfl ⟨r,rfl,rfl,rfl⟩
theorem S_repair_with {ps px : Option Addr} {n c k d : Nat} {l x : List Int} (hl : (l++x).length ≤ 1000000) : Ctr Tryz.prog 101 [.slice ps n c,.slice px k d] [] [slF I64 ps n c l,slF I64 px k d x] (RwI (l++x).length (l++x)):=by
 refine Ctr_of_j' (F:=F_repair_with) rfl fun C=>?_
 have e : [l,x].flatten = l++x:=by simp
 have c_slices_Concat___int_int_:=fun {ps : Option Addr} {n c : Nat}=>S_slices_Concat___int_int_ (ps:=ps) (n:=n) (c:=c) (ls:=[l,x]) (by rw [e];exact hl)
 rw [e] at c_slices_Concat___int_int_
 refine wk 5 cz ?_
 intro b1
 refine j_pub_all (E:=(encSl (I64))) (n:=2) [[Value.slice ps n c],[Value.slice px k d]] [l,x] 0 (fun w A hG=>(allrd_cons (rd_of_slF (hG _ (fact_mem (n:=0) rfl))) (allrd_cons (rd_of_slF (hG _ (fact_mem (n:=1) rfl))) allrd_nil))) rfl rfl rfl rfl (by first | decide | exact Nat.le_of_ble_eq_true rfl) (by first | decide | exact Nat.le_of_ble_eq_true rfl) ?_
 refine wk 3 (ct @c_slices_Concat___int_int_ cz) ?_
 intro r1
 refine j_givK 1 [0] [0] rfl (.tmp rfl .nil) rfl rfl rfl ⟨r1,rfl,rfl,rfl⟩
section
variable {p m N : Nat} {md lost away : List Int} {rows : List (List Int)}
end
open Go Go.Fw
set_option maxRecDepth 100000
set_option linter.unusedVariables false
set_option linter.unusedSimpArgs false
set_option maxHeartbeats 0
def prB (p m : Nat) (md : List Int) (N : Nat) (rows : List (List Int)) (lost away : List Int) (w : Int) (t : List (List Int)) : Bool:=if w < 0 then decide ((t.length : Int) = 0) else (match htT p m md N rows lost away w.toNat [] [] t with
 | none=>false
 | some t'=>decide ((t'.length : Int) = 0))
section
variable {p m N nm cm n c nl cl na ca nt ct : Nat} {md lost away : List Int} {rows t : List (List Int)} {pm ps pl pa pt : Option Addr} {w : Int}
end
open Go Go.Fw
set_option maxRecDepth 100000
set_option linter.unusedVariables false
set_option linter.unusedSimpArgs false
set_option maxHeartbeats 0
section
variable {P M N w e : Int} {nm cm n c nl cl na ca nt ct : Nat} {md lost away : List Int} {rows t : List (List Int)} {pm ps pl pa pt : Option Addr}
end
open Go Go.Fw
set_option maxRecDepth 100000
set_option linter.unusedVariables false
set_option linter.unusedSimpArgs false
set_option maxHeartbeats 0
theorem pr_sound {p m N : Nat} {md lost away H : List Int} {rows t : List (List Int)} {w : Int} (CC : Cok p m md N rows) (hlo : stP N lost) (hH : stP N H) (h : prB p m md N rows lost away w t = true) (hl : ∀ x ∈ lost,x ∉ H) (ha : (H.any fun x=>decide (x ∈ away)) = false) (hw : ¬ w < (H.length : Int)) : enB p m md rows lost H = false:=by
 rw [prB,if_neg (by omega)] at h
 split at h
 ·cases h
 ·rename_i t' ht
  refine ht_sound CC hlo hH (fun x hx=>⟨fun h1=>hl x h1 hx,fun h1=>?_⟩) w.toNat [] [] t t' ht (fun x hx=>by cases hx) (fun x hx=>by cases hx) (by rw [List.length_nil];omega) List.nodup_nil
  rw [List.any_eq_false] at ha
  exact ha x hx (decide_eq_true h1)
section
variable {P M N w : Int} {n c nm cm nl cl na ca nh ch nt ct : Nat} {pm ps pl pa ph pt : Option Addr} {md lost away hs : List Int} {rows t : List (List Int)}
end
set_option maxRecDepth 100000
set_option linter.unusedVariables false
set_option linter.unusedSimpArgs false
section
variable {q : Nat} {A M : Int → Int → Int} {N V : Int → Int} (O : FO q A M N V)
include O
omit O in
theorem en_col {R : List (List Int)} {i a : Nat} : at0 (colL R a) i = en R i a:=by
 rw [colL,at0,en,row0,List.getD_eq_getElem?_getD,List.getElem?_map,List.getD_eq_getElem?_getD]
 cases R[i]? <;> rfl
theorem FO.rs_piv {n : Nat} {R : List (List Int)} {P : List Nat} (h : Red q n R P) (hl : R.length = P.length) {v : List Int} (hv : Wd q n v) : ∀ (k : Nat) (out : List Int),k ≤ P.length → Wd q n out → (∀ (j a : Nat),j < k → P[j]? = some a → at0 out a = 0) → (∀ (j a : Nat),k ≤ j → P[j]? = some a → at0 out a = at0 v a) →
  ∀ (j a : Nat),P[j]? = some a → at0 (rsF A M N v (P.drop (P.length - (P.length - k))) (R.drop (P.length - (P.length - k))) out) a = 0:=by
 have hq:=O.q2
 have F:=O.fi
 intro k
 generalize hd : P.length - k = d
 induction d generalizing k with
 | zero =>
  intro out hk _ h1 _ j a hj
  rw [Nat.sub_zero,List.drop_of_length_le (Nat.le_refl _),List.drop_of_length_le (by omega)]
  exact h1 j a (by have:=(List.getElem?_eq_some_iff.1 hj).1;omega) hj
 | succ d ih =>
  intro out hk ho h1 h2 j a hj
  have hkl : P.length - (d + 1) = k:=by omega
  rw [hkl,List.drop_eq_getElem_cons (show k < P.length by omega),List.drop_eq_getElem_cons (show k < R.length by omega),rsF]
  have hp : P[k]? = some P[k]:=List.getElem?_eq_getElem (by omega)
  obtain ⟨v0,v1⟩:=wd_at (by omega) hv P[k]
  obtain ⟨⟨n0,n1⟩,e⟩:=O.ng _ v0 v1
  have hr : Wd q n R[k]:=h.mat _ (List.getElem_mem _)
  have hen : ∀ a,en R k a = at0 R[k] a:=fun a=>by rw [en,row0,List.getD_eq_getElem?_getD,List.getElem?_eq_getElem (show k < R.length by omega)];rfl
  have ih':=ih (k + 1) (by omega) (axp A M (N (at0 v P[k])) R[k] out) (by omega) (F.axw n0 n1 hr ho) (fun i b hi hb=>by
   rw [O.axp_at n0 n1 hr ho]
   by_cases hik : i = k
   ·subst hik
    obtain rfl : P[i] = b:=Option.some.inj (hp.symm.trans hb)
    have:=h.ech.one i _ hp
    rw [hen] at this
    rw [this,h2 i _ (Nat.le_refl _) hp,F.m1 _ n0 n1]
    exact e
   ·have hz:=h.ech.zer i b hb k (by omega) (by omega)
    rw [hen] at hz
    obtain ⟨o0,o1⟩:=wd_at (by omega) ho b
    rw [hz,F.m0 n0 n1,F.a0 _ o0 o1]
    exact h1 i b (by omega) hb) (fun i b hi hb=>by
   rw [O.axp_at n0 n1 hr ho]
   have hz:=h.ech.zer i b hb k (by omega) (by omega)
   rw [hen] at hz
   obtain ⟨o0,o1⟩:=wd_at (by omega) ho b
   rw [hz,F.m0 n0 n1,F.a0 _ o0 o1]
   exact h2 i b (by omega) hb)
  rw [show P.length - d = k + 1 by omega] at ih'
  exact ih' j a hj
theorem FO.cmb_piv {n : Nat} {R : List (List Int)} {P : List Nat} (h : Red q n R P) (hl : R.length = P.length) {u : List Int} (hu : Cmb q A M n R u) (h0 : ∀ a ∈ P,at0 u a = 0) : u = zW n:=by
 have hq:=O.q2
 have F:=O.fi
 obtain ⟨t,ht,e⟩:=O.cmb_coef h.mat hu
 have ht0 : ∀ i,at0 t i = 0:=fun i=>by
  by_cases hi : i < P.length
  ·have hp : P[i]? = some P[i]:=List.getElem?_eq_getElem hi
   have h1:=e P[i]
   rw [h0 _ (List.getElem_mem _),O.dot_one ht (wd_col (by omega) h.mat _) i fun j hj=>?_,en_col,h.ech.one i _ hp] at h1
   ·obtain ⟨t0,t1⟩:=wd_at (by omega) ht i
    rw [F.m1 _ t0 t1] at h1
    exact h1.symm
   ·obtain ⟨t0,t1⟩:=wd_at (by omega) ht j
    rw [en_col]
    by_cases hjl : j < R.length
    ·rw [h.ech.zer i _ hp j hjl hj,F.m0 t0 t1]
    ·rw [en,row0,List.getD_eq_getElem?_getD,List.getElem?_eq_none (by omega),at0,List.getD_eq_getElem?_getD]
     exact F.m0 t0 t1
  ·rw [at0,List.getD_eq_getElem?_getD,List.getElem?_eq_none (by rw [ht.1];omega)];rfl
 refine wd_at_ext (O.cmb_mat h.mat hu) (O.wz n) fun j _=>?_
 obtain ⟨c0,c1⟩:=wd_col (by omega) h.mat j (rows:=R)
 rw [e,at0_zW]
 refine O.dot_zero ht (wd_col (by omega) h.mat j) fun i=>?_
 obtain ⟨r0,r1⟩:=wd_at (by omega) (wd_col (show 0 < q by omega) h.mat j) i
 rw [ht0,F.mc 0 _ (Int.le_refl 0) (by omega) r0 r1,F.m0 r0 r1]
theorem FO.rs_in {n : Nat} {G : List (List Int)} (hG : Mat q n G) {v : List Int} (hv : Wd q n v) : ∀ {P : List Nat} {R : List (List Int)} {out : List Int},(∀ r ∈ R,r ∈ G) → Cmb q A M n G out → Cmb q A M n G (rsF A M N v P R out)
 | [],_,_,_,h=>h
 | _::_,[],_,_,h=>h
 | p::ps,r::rs,out,hR,h=>by
  have hq:=O.q2
  obtain ⟨v0,v1⟩:=wd_at (by omega) hv p
  obtain ⟨⟨n0,n1⟩,e⟩:=O.ng _ v0 v1
  exact FO.rs_in hG hv (P:=ps) (R:=rs) (fun x hx=>hR x (.tail _ hx)) (O.cmb_axp hG n0 n1 (O.cmb_row hG (hR r (.head _))) h)
theorem FO.rs_nil {n : Nat} {R : List (List Int)} {P : List Nat} (h : Red q n R P) (hl : R.length = P.length) {v : List Int} (hv : Cmb q A M n R v) : ∀ x ∈ rsF A M N v P R v,x = 0:=by
 have hw:=O.cmb_mat h.mat hv
 have h1:=O.rs_piv h hl hw 0 v (Nat.zero_le _) hw (fun j a hj _=>by omega) (fun _ _ _ _=>rfl)
 rw [Nat.sub_zero,Nat.sub_self,List.drop_zero,List.drop_zero] at h1
 rw [O.cmb_piv h hl (O.rs_in h.mat hw (P:=P) (R:=R) (fun r hr=>hr) hv) fun a ha=>by
  obtain ⟨j,hj⟩:=List.getElem?_of_mem ha
  exact h1 j a hj]
 intro x hx
 exact List.eq_of_mem_replicate hx
end
open Go Go.Fw
set_option maxRecDepth 100000
set_option linter.unusedVariables false
set_option linter.unusedSimpArgs false
set_option maxHeartbeats 0
abbrev srL (N : Nat) (s : List Int) : List Int:=othL N [othL N [s]]
theorem srL_mem {N : Nat} {s : List Int} {x : Int} : x ∈ srL N s ↔ (0 ≤ x ∧ x < N) ∧ x ∈ s:=by
 rw [srL,othL_mem]
 refine and_congr_right fun hx=>⟨fun h=>?_,fun h l hl h2=>?_⟩
 ·have h1:=h _ (.head _)
  rw [othL_mem] at h1
  refine Classical.byContradiction fun h2=>h1 ⟨hx,fun l hl=>?_⟩
  rw [List.mem_singleton.1 hl];exact h2
 ·rw [List.mem_singleton.1 hl,othL_mem] at h2
  exact h2.2 s (.head _) h
theorem cmbF_in {q n : Nat} {A M : Int → Int → Int} {G : List (List Int)} : ∀ {x : List Int} {R : List (List Int)} {u : List Int},(∀ a ∈ x,0 ≤ a ∧ a < q) → (∀ r ∈ R,r ∈ G) → Cmb q A M n G u → Cmb q A M n G (cmbF A M x R u)
 | [],_,_,_,_,h=>h
 | _::_,[],_,_,_,h=>h
 | a::x,r::R,u,hx,hR,h=>by
  refine cmbF_in (x:=x) (R:=R) (fun b hb=>hx b (.tail _ hb)) (fun b hb=>hR b (.tail _ hb)) ?_
  split
  ·exact h
  ·exact .add (hR r (.head _)) (hx a (.head _)).1 (hx a (.head _)).2 h
section
variable {p m N : Nat} {md lost away : List Int} {rows : List (List Int)}
theorem mb_of (CC : Cok p m md N rows) {w : List Int} (h : Cmb (p ^ m) (liftI (fA p m)) (liftI (fM p (fpo m md))) N rows w) : mbB p m md N rows w = true:=by
 obtain ⟨hR,hl⟩:=CC.red
 exact zrB_iff.2 ((fok_fn CC.K).rs_nil hR hl h)
theorem cn_mem {A M : Int → Int → Int} {N V : Int → Int} {n : Nat} {rows : List (List Int)} {w : List Int} (h : w ∈ (cnE A M N V n rows).1) : w ∈ (elimL A M N V n 0 0 rows).1:=List.mem_of_mem_take h
theorem FO.cn_cmb {q n : Nat} {A M : Int → Int → Int} {N V : Int → Int} (O : FO q A M N V) {rows : List (List Int)} (hM : Mat q n rows) {w : List Int} (h : w ∈ (cnE A M N V n rows).1) : Cmb q A M n rows w:=O.elim_cmb n 0 0 (Nat.zero_le _) hM w (cn_mem h)
theorem FO.wi_cmb {q n : Nat} {A M : Int → Int → Int} {N V : Int → Int} (O : FO q A M N V) {gen h : List (List Int)} (hG : Mat q n gen) (hh : Mat q gen.length h) {w : List Int} (hw : w ∈ wiL A M N V n gen h) : Cmb q A M n gen w:=by
 refine O.cmb_trans hG (rows':=woL A M N V n gen h) (fun r hr=>?_) (O.cn_cmb (O.wo_mat hG hh) hw)
 obtain ⟨x,hx,rfl⟩:=List.mem_map.1 hr
 exact cmbF_in ((O.nu hh).1 x hx).2 (fun r hr=>hr) .zero
theorem wi_cmb (CC : Cok p m md N rows) {hs w : List Int} (h : w ∈ wiP p m md N rows hs) : Cmb (p ^ m) (liftI (fA p m)) (liftI (fM p (fpo m md))) N rows w:=(fok_fn CC.K).wi_cmb CC.mat (hs_mat CC hs) h
theorem wi_zero (CC : Cok p m md N rows) {hs w : List Int} (hh : ∀ x ∈ hs,0 ≤ x ∧ x < (N : Int)) (h : w ∈ wiP p m md N rows hs) : ∀ x ∈ hs,at0 w x.toNat = 0:=fun x hx=>by
 have O:=fok_fn CC.K
 refine ((O.wi CC.mat (hs_mat CC hs)).2 x.toNat (by have:=hh x hx;omega)).2 (fun y hy hs=>?_) w h
 exact hs _ (List.mem_map.2 ⟨x,hx,rfl⟩)
theorem wt_word (CC : Cok p m md N rows) {s w : List Int} (h : wtP p m md N rows lost (srL N s) = some w) (hs : ∀ x ∈ s,0 ≤ x ∧ x < (N : Int)) : Wd (p ^ m) N w ∧ gdB p m md N rows lost w s = true ∧ ∀ x ∈ s,at0 w x.toNat = 0:=by
 have h1:=List.find?_some h
 have h2:=List.mem_of_find?_eq_some h
 have hw:=wi_wd CC (srL N s) w h2
 have h0 : ∀ x ∈ s,at0 w x.toNat = 0:=fun x hx=>wi_zero CC (fun y hy=>(srL_mem.1 hy).1) h2 x (srL_mem.2 ⟨hs x hx,hx⟩)
 refine ⟨hw,?_,h0⟩
 rw [gdB,decide_eq_true (liE_ok hw),mb_of CC (wi_cmb CC h2),nzL_false.2 h0]
 exact h1
end
open Go Go.Fw
set_option maxRecDepth 100000
set_option linter.unusedVariables false
set_option linter.unusedSimpArgs false
set_option maxHeartbeats 0
theorem dot_snoc {q : Nat} {A M : Int → Int → Int} (F : FI q A M) : ∀ {n : Nat} {u v : List Int} {x y : Int},Wd q n u → Wd q n v → 0 ≤ x → x < q → 0 ≤ y → y < q → dotL A M (u++[x]) (v++[y]) = A (dotL A M u v) (M x y)
 | 0,u,v,x,y,hu,hv,x0,x1,y0,y1=>by
  rw [List.length_eq_zero_iff.1 hu.1,List.length_eq_zero_iff.1 hv.1]
  obtain ⟨m0,m1⟩:=F.ml x y x0 x1 y0 y1
  show A (M x y) 0 = A 0 (M x y)
  exact F.ac _ _ m0 m1 (Int.le_refl 0) F.z
 | n + 1,[],_,_,_,h,_,_,_,_,_=>by have:=h.1;simp at this
 | n + 1,_::_,[],_,_,_,h,_,_,_,_=>by have:=h.1;simp at this
 | n + 1,a::u,b::v,x,y,hu,hv,x0,x1,y0,y1=>by
  obtain ⟨a0,a1⟩:=hu.2 a (.head _)
  obtain ⟨b0,b1⟩:=hv.2 b (.head _)
  have hu' : Wd q n u:=⟨by simpa using hu.1,fun z hz=>hu.2 z (.tail _ hz)⟩
  have hv' : Wd q n v:=⟨by simpa using hv.1,fun z hz=>hv.2 z (.tail _ hz)⟩
  obtain ⟨m0,m1⟩:=F.ml a b a0 a1 b0 b1
  obtain ⟨k0,k1⟩:=F.ml x y x0 x1 y0 y1
  obtain ⟨d0,d1⟩:=F.dlt hu' hv'
  show A (M a b) (dotL A M (u++[x]) (v++[y])) = A (A (M a b) (dotL A M u v)) (M x y)
  rw [dot_snoc F hu' hv' x0 x1 y0 y1,F.aa _ _ _ m0 m1 d0 d1 k0 k1]
section
variable {p m N n c nm cm nx cx : Nat} {pm ps px : Option Addr} {md x : List Int} {rows : List (List Int)}
end
open Go Go.Fw
set_option maxRecDepth 100000
set_option linter.unusedVariables false
set_option linter.unusedSimpArgs false
set_option maxHeartbeats 0
section
variable {ps : Option Addr} {n c : Nat} {s : List Int} {y : Int}
end
section
variable {pw pl pa pz : Option Addr} {nw cw nl cl na ca nz cz' : Nat} {w lost away z : List Int}
end
open Go Go.Fw
set_option maxRecDepth 100000
set_option linter.unusedVariables false
set_option linter.unusedSimpArgs false
set_option maxHeartbeats 0
def apI (l : List Int) (i : Int) : List Int:=l++[i]
def huGo (add : List Int → Int → List Int) (f : List Int → List Int → Nat × List (List Int) → (Nat × List (List Int)) × Option (Option (List Int))) (s z : List Int) : List Int → List Int → Nat × List (List Int) → (Nat × List (List Int)) × Option (Option (List Int))
 | _,[],x=>(x,none)
 | pre,i::r,x=>match f (add s i) (z++pre) x with
  | (x',some o)=>(x',some o)
  | (x',none)=>huGo add f s z (pre++[i]) r x'
def huT (add : List Int → Int → List Int) (wt : List Int → Option (List Int)) (br : List Int → List Int → List Int) : Nat → List Int → List Int → Nat × List (List Int) → (Nat × List (List Int)) × Option (Option (List Int))
 | 0,s,z,x=>match x.1 with
  | 0=>(x,some none)
  | k + 1=>match wt s with
   | none=>((k,x.2),some (some s))
   | some w=>((k,x.2++[w]),none)
 | d + 1,s,z,x=>match x.1 with
  | 0=>(x,some none)
  | k + 1=>match wt s with
   | none=>((k,x.2),some (some s))
   | some w=>huGo add (huT add wt br d) s z [] (br z w) (k,x.2++[w])
section
variable {n : Int} {wt : List Int → Option (List Int)} {br : List Int → List Int → List Int}
theorem hu_le {add : List Int → Int → List Int} : ∀ (d : Nat) (s z : List Int) (x : Nat × List (List Int)),(huT add wt br d s z x).1.1 ≤ x.1 ∧ (huT add wt br d s z x).1.2.length + (huT add wt br d s z x).1.1 ≤ x.2.length + x.1:=by
 intro d
 induction d with
 | zero =>
  intro s z x
  rw [huT]
  cases hx : x.1 with
  | zero=>exact ⟨by dsimp only;omega,by dsimp only;omega⟩
  | succ k =>
   dsimp only
   cases wt s with
   | none=>exact ⟨by dsimp only;omega,by dsimp only;omega⟩
   | some w=>exact ⟨by dsimp only;omega,by dsimp only;rw [List.length_append,List.length_singleton];omega⟩
 | succ d ih =>
  intro s z x
  rw [huT]
  cases hx : x.1 with
  | zero=>exact ⟨by dsimp only;omega,by dsimp only;omega⟩
  | succ k =>
   dsimp only
   cases wt s with
   | none=>exact ⟨by dsimp only;omega,by dsimp only;omega⟩
   | some w =>
    dsimp only
    have e : (k,x.2++[w]).1 ≤ k + 1 ∧ (k,x.2++[w]).2.length + (k,x.2++[w]).1 ≤ x.2.length + (k + 1):=⟨by dsimp only;omega,by dsimp only;rw [List.length_append,List.length_singleton];omega⟩
    generalize br z w = L at *
    generalize ([] : List Int) = pre
    generalize (k,x.2++[w]) = y at *
    induction L generalizing pre y with
    | nil=>exact e
    | cons i L ihL =>
     rw [huGo]
     have h:=ih (add s i) (z++pre) y
     split
     ·rename_i x' o hx'
      rw [hx'] at h
      dsimp only at h ⊢
      exact ⟨by omega,by omega⟩
     ·rename_i x' hx'
      rw [hx'] at h
      dsimp only at h
      exact ihL _ _ ⟨by omega,by omega⟩
theorem hu_tree {p m N : Nat} {md lost away : List Int} {rows : List (List Int)} (hg : ∀ s w,(∀ x ∈ s,0 ≤ x ∧ x < (N : Int)) → wt s = some w → gdB p m md N rows lost w s = true) : ∀ (d : Nat) (s z : List Int) (x x' : Nat × List (List Int)),(∀ x ∈ s,0 ≤ x ∧ x < (N : Int)) → huT apI wt (fun z w=>brL lost away z w N) d s z x = (x',none) → ∃ U,x'.2 = x.2++U ∧ ∀ t,htT p m md N rows lost away d s z (U++t) = some t:=by
 intro d
 induction d with
 | zero =>
  intro s z x x' hr h
  rw [huT] at h
  cases hx : x.1 with
  | zero=>rw [hx] at h;cases h
  | succ k =>
   rw [hx] at h
   dsimp only at h
   cases hw : wt s with
   | none=>rw [hw] at h;cases h
   | some w =>
    rw [hw] at h
    cases h
    exact ⟨[w],rfl,fun t=>by rw [List.singleton_append,htT,if_pos (hg s w hr hw)]⟩
 | succ d ih =>
  intro s z x x' hr h
  rw [huT] at h
  cases hx : x.1 with
  | zero=>rw [hx] at h;cases h
  | succ k =>
   rw [hx] at h
   dsimp only at h
   cases hw : wt s with
   | none=>rw [hw] at h;cases h
   | some w =>
    rw [hw] at h
    dsimp only at h
    have key : ∀ (L pre : List Int) (y : Nat × List (List Int)),(∀ x ∈ L,0 ≤ x ∧ x < (N : Int)) → huGo apI (huT apI wt (fun z w=>brL lost away z w N) d) s z pre L y = (x',none) → ∃ U,x'.2 = y.2++U ∧ ∀ t,htGo (htT p m md N rows lost away d) s z pre L (U++t) = some t:=by
     intro L
     induction L with
     | nil=>intro pre y _ h;cases h;exact ⟨[],by simp,fun t=>rfl⟩
     | cons i L ihL =>
      intro pre y hL h
      rw [huGo] at h
      split at h
      ·cases h
      ·rename_i y' hy'
       obtain ⟨U,hU,hU2⟩:=ih _ _ _ _ (fun x hx=>by
        rcases List.mem_append.1 hx with hx | hx
        ·exact hr x hx
        ·rw [List.mem_singleton.1 hx];exact hL i (.head _)) hy'
       obtain ⟨V,hV,hV2⟩:=ihL _ _ (fun x hx=>hL x (.tail _ hx)) h
       refine ⟨U++V,by rw [hV,hU,List.append_assoc],fun t=>?_⟩
       rw [htGo,List.append_assoc,show htT p m md N rows lost away d (s++[i]) (z++pre) _ = _ from hU2 (V++t)]
       exact hV2 t
    obtain ⟨U,hU,hU2⟩:=key _ _ _ (fun x hx=>by
     obtain ⟨i,rfl,hi,_⟩:=brL_mem.1 hx
     exact ⟨by omega,by omega⟩) h
    refine ⟨w::U,by rw [hU];simp,fun t=>?_⟩
    rw [List.cons_append,htT,if_pos (hg s w hr hw)]
    exact hU2 t
theorem hu_found {Q : Int → Prop} (hb : ∀ s z w,wt s = some w → ∀ y ∈ br z w,y ∉ s ∧ Q y) : ∀ (d : Nat) (s z : List Int) (x x' : Nat × List (List Int)) (s' : List Int),huT apI wt br d s z x = (x',some (some s')) → s.Nodup → wt s' = none ∧ s'.length ≤ s.length + d ∧ s'.Nodup ∧ ∀ y ∈ s',y ∈ s ∨ Q y:=by
 intro d
 induction d with
 | zero =>
  intro s z x x' s' h hn
  rw [huT] at h
  cases hx : x.1 with
  | zero=>rw [hx] at h;cases h
  | succ k =>
   rw [hx] at h
   dsimp only at h
   cases hw : wt s with
   | none=>rw [hw] at h;cases h;exact ⟨hw,by omega,hn,fun y hy=>.inl hy⟩
   | some w=>rw [hw] at h;cases h
 | succ d ih =>
  intro s z x x' s' h hn
  rw [huT] at h
  cases hx : x.1 with
  | zero=>rw [hx] at h;cases h
  | succ k =>
   rw [hx] at h
   dsimp only at h
   cases hw : wt s with
   | none=>rw [hw] at h;cases h;exact ⟨hw,by omega,hn,fun y hy=>.inl hy⟩
   | some w =>
    rw [hw] at h
    dsimp only at h
    have hb':=hb s z w hw
    generalize br z w = L at *
    generalize ([] : List Int) = pre at h
    generalize (k,x.2++[w]) = y at h
    induction L generalizing pre y with
    | nil=>cases h
    | cons i L ihL =>
     rw [huGo] at h
     split at h
     ·rename_i y' o hy'
      cases h
      obtain ⟨hi,hq⟩:=hb' i (.head _)
      obtain ⟨h1,h2,h3,h4⟩:=ih _ _ _ _ _ hy' (by
       rw [apI,List.nodup_append]
       exact ⟨hn,(by simp),fun a ha b hb e=>by rw [List.mem_singleton] at hb;subst hb;subst e;exact hi ha⟩)
      refine ⟨h1,by rw [apI,List.length_append,List.length_singleton] at h2;omega,h3,fun y hy=>?_⟩
      rcases h4 y hy with h | h
      ·rcases List.mem_append.1 h with h | h
       ·exact .inl h
       ·rw [List.mem_singleton.1 h];exact .inr hq
      ·exact .inr h
     ·exact ihL (fun y hy=>hb' y (.tail _ hy)) _ _ h
end
open Go Go.Fw
set_option maxRecDepth 100000
set_option linter.unusedVariables false
set_option linter.unusedSimpArgs false
set_option maxHeartbeats 0
section
variable {add : List Int → Int → List Int} {wt : List Int → Option (List Int)} {br : List Int → List Int → List Int} {d k : Nat} {s z w : List Int} {T : List (List Int)}
theorem huT_out : huT add wt br d s z (0,T) = ((0,T),some none):=by cases d <;> rfl
theorem huT_none (h : wt s = none) : huT add wt br d s z (k + 1,T) = ((k,T),some (some s)):=by cases d <;> (rw [huT];dsimp only;rw [h])
theorem huT_leaf (h : wt s = some w) : huT add wt br 0 s z (k + 1,T) = ((k,T++[w]),none):=by rw [huT];dsimp only;rw [h]
theorem huT_go (h : wt s = some w) : huT add wt br (d + 1) s z (k + 1,T) = huGo add (huT add wt br d) s z [] (br z w) (k,T++[w]):=by rw [huT];dsimp only;rw [h]
end
theorem win_issueS {P : Program} {F : Fun P} {C : Cx} {S : List It} {R : Value → World → Prop} {β : List Blk} {Γ : List Fact} {it : List (TypeId × IntKind)} {p : List Nat} {σ : Fr} {i : Nat} (hit : IntTys P it) {A : List Nat} {m : Nat} {o : Oper} {dd : Tmp} {u : Value} {q : Prop} (ho : nth (opsOf (sub p F.B)) i = some o) (hg : o.guard = none) (hd : o.dst = some dd) (hlt : Nat.blt dd F.fn.ntmps = true) (hp : pev it σ o.op = some (u,q)) (hq : q)
  (hw : WIN F C p A m (i + 1) S (putF (some dd) u σ) β Γ R) (hL : LateAll it F.fn.ntmps (opsOf (sub p F.B)) A σ (A.filter fun j=>Nat.blt j i)) (hi : memB i A = true:=by rfl) : WIN F C p A (m + 1) i S σ β Γ R:=by
 have hiA:=memB_iff.1 hi
 intro pend sched hpA hnd hI w hO hG
 have hil : i < (opsOf (sub p F.B)).length:=by
  rw [nth_eq] at ho
  exact (List.getElem?_eq_some_iff.1 ho).1
 have hoarr : (opsOf (sub p F.B)).toArray[i]? = some o:=by
  rw [nth_eq] at ho
  simpa using ho
 have hdj : dstAt (opsOf (sub p F.B)) i = some dd:=by simp [dstAt,ho,hd]
 have ee : i + (m + 1) = i + 1 + m:=by omega
 -- issued
 have issued : ∀ (pend l : List Nat) (a : Act),(∀ j ∈ pend,j ∈ A ∧ j < i) → pend.Nodup → Inter (opsOf (sub p F.B)) A (i + 1 + m) (i::pend) (i + 1) l → a.tmps.size = F.fn.ntmps → a.defers = [] →
   (∀ t v,(∀ j ∈ pend,dstAt (opsOf (sub p F.B)) j ≠ some t) → Fr.get t σ = some v → a.tmps[t]? = some v) → At F (.inRegion (opsOf (sub p F.B)).toArray l::S.map (It.item F.B)) a w R:=by
  intro pend l a hpA hnd hI hsz hdf hfr
  refine hw (i::pend) l (fun j hj=>?_) (List.nodup_cons.2 ⟨fun h=>by have:=(hpA i h).2;omega,hnd⟩) hI w hO hG a hsz hdf fun t x hno hx=>?_
  ·rcases List.mem_cons.1 hj with rfl | hj
   ·exact ⟨hiA,by omega⟩
   ·exact ⟨(hpA j hj).1,by have:=(hpA j hj).2;omega⟩
  ·have hne : dd ≠ t:=fun e=>hno i (.head _) (by rw [hdj,e])
   simp only [putF,Fr.get] at hx
   have hb : Nat.beq dd t = false:=by
    cases hb : Nat.beq dd t with
    | true=>exact absurd (Nat.eq_of_beq_eq_true hb) hne
    | false=>rfl
   rw [hb] at hx
   exact hfr t x (fun j hj=>hno j (.tail _ hj)) hx
 have key : ∀ n (pend sched : List Nat),pend.length = n → (∀ j ∈ pend,j ∈ A ∧ j < i) → pend.Nodup → Inter (opsOf (sub p F.B)) A (i + (m + 1)) pend i sched → ∀ a : Act,a.tmps.size = F.fn.ntmps → a.defers = [] →
   (∀ t v,(∀ j ∈ pend,dstAt (opsOf (sub p F.B)) j ≠ some t) → Fr.get t σ = some v → a.tmps[t]? = some v) → At F (.inRegion (opsOf (sub p F.B)).toArray sched::S.map (It.item F.B)) a w R:=by
  intro n
  induction n with
  | zero =>
   intro pend sched hl hpA hnd hI a hsz hdf hfr
   have : pend = []:=List.eq_nil_of_length_eq_zero hl
   subst this
   cases hI with
   | done =>
    have er : List.range' i ((opsOf (sub p F.B)).length - i) = i::List.range' (i + 1) ((opsOf (sub p F.B)).length - (i + 1)):=by
     have e : (opsOf (sub p F.B)).length - i = ((opsOf (sub p F.B)).length - (i + 1)) + 1:=by omega
     rw [e,List.range'_succ]
    rw [er]
    have hfit : Fits F.fn.ntmps σ a:=⟨hsz,hdf,fun t v hv=>hfr t v (fun j hj=>by cases hj) hv⟩
    have hpe:=pev_sound (P:=P) hit (ty:=o.type) hp hq w a.eval fun x v hv=>hfit.eval hv
    have hdlt : dd < a.tmps.size:=by rw [hsz];exact Nat.le_of_ble_eq_true hlt
    refine At_op hoarr (by simp [Region.wanted,hg]) (post:=fun v w'=>v = u ∧ w' = w) (by rw [execOp_bare,hpe];exact ⟨rfl,rfl⟩) ?_
    rintro v w' ⟨rfl,rfl⟩
    rw [hd]
    refine hw [] _ (fun j hj=>by cases hj) List.nodup_nil .done w' hO hG _ (by simp [Act.put,hsz]) (by simp [Act.put,hdf]) fun t x _ hx=>?_
    simp only [putF,Fr.get] at hx
    by_cases e : dd = t
    ·subst e
     rw [Nat.beq_refl] at hx
     rw [← Option.some.inj hx]
     simp [Act.put,hdlt]
    ·have hb : Nat.beq dd t = false:=by
      cases hb : Nat.beq dd t with
      | true=>exact absurd (Nat.eq_of_beq_eq_true hb) e
      | false=>rfl
     rw [hb] at hx
     simp only [Act.put]
     rw [Array.getElem?_setIfInBounds_ne e]
     exact hfr t x (fun j hj=>by cases hj) hx
   | pend hj _ _=>cases hj
   | tail _ _ h _=>exact absurd hiA h
   | issue _ _ _ hI'=>rw [ee] at hI';exact issued [] _ a hpA hnd hI' hsz hdf hfr
  | succ n ih =>
   intro pend sched hl hpA hnd hI a hsz hdf hfr
   cases hI with
   | done=>simp at hl
   | pend hj hdp hI' =>
    exact win_late hit hL hpA hj hdp hsz hdf hfr fun a' h1 h2 h3=>ih _ _ (by rw [List.length_erase_of_mem hj];omega) (fun j' hj'=>hpA j' (List.mem_of_mem_erase hj')) (hnd.erase _) hI' a' h1 h2 h3
   | tail _ _ h _=>exact absurd hiA h
   | issue _ _ _ hI'=>rw [ee] at hI';exact issued pend _ a hpA hnd hI' hsz hdf hfr
 exact fun a=>key _ pend sched rfl hpA hnd hI a
theorem x_app0 {P : Program} {C : Cx} {σ : Fr} {β : List Blk} {Γ : List Fact} {ty : TypeId} {K : Value → List Blk → List Fact → Prop} {t e : TypeId} {x y : Operand} {pa py : Option Addr} {n ca cy sz : Nat} (hx : ev σ x = some (.slice pa n ca)) (hy : ev σ y = some (.slice py 0 cy)) (hT : slTy P t = some (e,sz)) (hle : n ≤ ca) (h : K (.slice pa n ca) β Γ) :
  Jop P C (.call { callee:=.builtin .append,args:=#[x,y],argTypes:=#[t,t] }) ty σ β Γ K:=fun w hO hG=>by
 obtain ⟨hu,i,hi,_⟩:=slTy_some hT
 exact Ex_append hx hy (run_append_zero hu hi hle) ⟨_,_,h,hO,hG⟩
section
variable {p m N nm cm n c nl cl nh ch : Nat} {pm ps pl ph : Option Addr} {md lost hs w : List Int} {rows : List (List Int)}
theorem S_wt_none (CC : Cok p m md N rows) (hlo : stP N lost) (h : wtP p m md N rows lost (srL N hs) = none) : Ctr Tryz.prog 49 [.agg #[.int .i64 p,.int .i64 m,.slice pm nm cm,.int .i64 N,.slice ps n c],.slice pl nl cl,.slice ph nh ch] [] [slF I64 pm nm cm md,slF (encSl I64) ps n c rows,slF I64 pl nl cl lost,slF I64 ph nh ch hs] (Rv (.slice none 0 0) []) :=
 (S_repair_witnessS CC hlo).mono fun C w v Φ β' ⟨pa,k,ca,hv,hΦ,hβ,h1,h2⟩ hO _=>by
  obtain rfl:=h1.2 h
  obtain ⟨rfl,rfl⟩:=h2 h
  exact ⟨_,_,⟨hv,rfl,rfl⟩,hβ ▸ hO,fun g hg=>by cases hg⟩
theorem S_wt_some (CC : Cok p m md N rows) (hlo : stP N lost) (h : wtP p m md N rows lost (srL N hs) = some w) : Ctr Tryz.prog 49 [.agg #[.int .i64 p,.int .i64 m,.slice pm nm cm,.int .i64 N,.slice ps n c],.slice pl nl cl,.slice ph nh ch] [] [slF I64 pm nm cm md,slF (encSl I64) ps n c rows,slF I64 pl nl cl lost,slF I64 ph nh ch hs] (fun v Φ β=>∃ pa k ca,v = .slice pa k ca ∧ Φ = [slF I64 pa k ca w] ∧ β = []) :=
 (S_repair_witnessS CC hlo).mono fun C w' v Φ β' ⟨pa,k,ca,hv,hΦ,hβ,h1,h2⟩ hO hF=>by
  refine ⟨_,_,⟨pa,k,ca,hv,rfl,rfl⟩,hβ ▸ hO,fun g hg=>?_⟩
  obtain rfl:=List.mem_singleton.1 hg
  have h3:=hF _ (hΦ ▸ List.mem_singleton.2 rfl)
  rw [h] at h3
  exact hβ ▸ h3
end
abbrev NoA (Hb : Nat → Row → Nat → Blk) (k : Nat) (T : List (List Int)) (g : Bool) : Value → List Fact → List Blk → Prop:=fun v Φ β=>∃ r : Row,v = .tuple #[.slice none 0 0,.bool g] ∧ Φ = [rowF (encSl I64) r T.length T] ∧ β = [Hb k r T.length,(r.bo,22,r.cs)]
abbrev NoS (Hb : Nat → Row → Nat → Blk) (k : Nat) (T : List (List Int)) (l : List Int) : Value → List Fact → List Blk → Prop:=fun v Φ β=>∃ (r : Row) (b2 c2 : Nat) (cs2 : List Value),v = .tuple #[.slice (some ⟨b2,0,none⟩) l.length c2,.bool true] ∧ Φ = [rowF (encSl I64) r T.length T,rowF I64 ⟨some b2,c2,cs2⟩ l.length l] ∧ β = [Hb k r T.length,(r.bo,22,r.cs),(some b2,3,cs2)]
def NoQ (Hb : Nat → Row → Nat → Blk) (x : (Nat × List (List Int)) × Option (Option (List Int))) : Value → List Fact → List Blk → Prop :=
 match x.2 with
 | none=>NoA Hb x.1.1 x.1.2 false
 | some none=>NoA Hb x.1.1 x.1.2 true
 | some (some l)=>NoS Hb x.1.1 x.1.2 l
section
variable {p m N : Nat} {md lost away : List Int} {rows : List (List Int)}
abbrev huP (p m N : Nat) (md lost away : List Int) (rows : List (List Int)) : Nat → List Int → List Int → Nat × List (List Int) → (Nat × List (List Int)) × Option (Option (List Int)):=huT apI (fun s=>wtP p m md N rows lost (srL N s)) (fun z w=>brL lost away z w N)
theorem S_repair_hunt__node (CC : Cok p m md N rows) (hlo : stP N lost) : ∀ (d : Nat) {s z : List Int} {k : Nat} {T : List (List Int)} {b nm cm n c nl cl na ca ns cs nz cz' W : Nat} {pm ps pl pa pS pz : Option Addr} {r : Row},
  W = s.length + d → W ≤ 1000 → z.length + 100 * d ≤ 200000 → s.length ≤ 1000 → (∀ x ∈ s,0 ≤ x ∧ x < (N : Int)) → T.length + k ≤ 100000 →
  Ctr Tryz.prog 51 [.pointer (some ⟨b,0,none⟩),.slice pS ns cs,.slice pz nz cz'] [(some b,83,[.int .i64 p,.int .i64 m,.slice pm nm cm,.int .i64 N,.slice ps n c,.slice pl nl cl,.slice pa na ca,.int .i64 W,.int .i64 (k : Nat),.slice (ad r.bo) T.length r.cap]),(r.bo,22,r.cs)]
   [slF I64 pm nm cm md,slF (encSl I64) ps n c rows,slF I64 pl nl cl lost,slF I64 pa na ca away,slF I64 pS ns cs s,slF I64 pz nz cz' z,rowF (encSl I64) r T.length T]
   (NoQ (fun k r t=>(some b,83,[.int .i64 p,.int .i64 m,.slice pm nm cm,.int .i64 N,.slice ps n c,.slice pl nl cl,.slice pa na ca,.int .i64 W,.int .i64 (k : Nat),.slice (ad r.bo) t r.cap])) (huP p m N md lost away rows d s z (k,T))):=by
 intro d
 induction d using Nat.strongRecOn with
 | ind d ihd =>
 intro s z k T b nm cm n c nl cl na ca ns cs nz cz' W pm ps pl pa pS pz r hW hW2 hz hsl hs hT
 refine Ctr_of_j' (F:=F_repair_hunt__node) rfl fun C=>?_
 refine j_len 4 rfl fun hn _ _=>?_
 subst hn
 refine j_len 5 rfl fun hn _ _=>?_
 subst hn
 have h64:=CC.n64
 cases k with
 | zero =>
  rw [show huP p m N md lost away rows d s z (0,T) = ((0,T),some none) from huT_out]
  refine wk 12 cz ?_
  intro h1
  refine j_givK 2 [0,1] [6] rfl (.tmp rfl (.tmp rfl .nil)) rfl rfl rfl ⟨r,rfl,rfl,rfl⟩
 | succ k =>
  have hk : ((k + 1 : Nat) : Int) - 1 = (k : Int):=by omega
  cases hw : wtP p m md N rows lost (srL N s) with
  | none =>
   rw [show huP p m N md lost away rows d s z (k + 1,T) = ((k,T),some (some s)) from huT_none hw]
   have c_repair_witness:=fun {nm cm n c nl cl nh ch : Nat} {pm ps pl ph : Option Addr}=>S_wt_none (nm:=nm) (cm:=cm) (n:=n) (c:=c) (nl:=nl) (cl:=cl) (nh:=nh) (ch:=ch) (pm:=pm) (ps:=ps) (pl:=pl) (ph:=ph) CC hlo hw
   by_cases hs0 : s.length = 0
   ·obtain rfl:=List.length_eq_zero_iff.1 hs0
    refine wk 21 (ct @c_repair_witness cz) ?_
    intro h1
    refine j_step rfl (x_eqnilN sl22 rfl rfl ?_)
    refine wk 5 cz ?_
    intro b1
    refine j_step rfl (x_app0 rfl rfl sl22 (Nat.zero_le _) ?_)
    refine wk 2 cz ?_ --ok
    (apply j_rowlit (E:=encInt IntKind.i64 8) (n:=0) (cs:=[]) [] [] 0 (fun w A hG=>allrd_nil);(· rfl);(· rfl);(· rfl);(· rfl);(· decide))
    refine j_givK 3 [1,2,0] [7,0] rfl (.tmp rfl (.tmp rfl .nil)) rfl rfl rfl ⟨r,b1,0,[],rfl,rfl,?_⟩
    rw [hk]
    rfl
   ·have hs1 : 0 < s.length:=by omega
    refine wk 21 (ct @c_repair_witness cz) ?_
    intro h1
    refine j_step rfl (x_eqnilN sl22 rfl rfl ?_)
    refine wk 5 cz ?_
    intro b1
    (apply j_rowlit (E:=encInt IntKind.i64 8) (n:=0) (cs:=[]) [] [] 0 (fun w A hG=>allrd_nil);(· rfl);(· rfl);(· rfl);(· rfl);(· decide))
    refine j_step rfl (x_appS 0 0 5 rfl rfl rfl rfl rfl sl22 zo22e rfl (by omega) _ by22e (by omega) fun r1=>?_)
    refine wk 2 cz ?_ --ok
    refine j_rowB 0 rfl (by omega) fun b2 c2 cs2 hr1=>?_
    subst hr1
    refine j_givK 3 [1,2,0] [8,0] rfl (.tmp rfl (.tmp rfl .nil)) rfl rfl rfl ⟨r,b2,c2,cs2,?_,?_,?_⟩
    ·show Value.tuple #[.slice (some ⟨b2,0,none⟩) (0 + s.length) c2,.bool true] = _
     rw [Nat.zero_add]
    ·show [rowF (encSl I64) r T.length T,rowF I64 ⟨some b2,c2,cs2⟩ (0 + s.length) ([]++s)] = _
     rw [Nat.zero_add,List.nil_append]
    ·rw [hk]
     rfl
  | some w =>
   have c_repair_witness:=fun {nm cm n c nl cl nh ch : Nat} {pm ps pl ph : Option Addr}=>S_wt_some (nm:=nm) (cm:=cm) (n:=n) (c:=c) (nl:=nl) (cl:=cl) (nh:=nh) (ch:=ch) (pm:=pm) (ps:=ps) (pl:=pl) (ph:=ph) CC hlo hw
   obtain ⟨hww,_,hw0⟩:=wt_word CC hw hs
   have hwl:=hww.1
   have hn1:=CC.n1
   refine j_nf [_,_] rfl ?_
   refine j_run it 2 rfl (by simp) ?_
   refine j_nf [_,_,_] rfl ?_
   refine j_run it 2 rfl (by simp) ?_
   refine j_step rfl (x_field rfl fd83_4 ?_)
   refine j_step rfl (x_bld 0 rfl rfl ld3 rfl ?_)
   refine j_run it 1 rfl (by simp) ?_
   refine j_nf [_,_] rfl ?_
   refine j_if rfl rfl (fun h1=>by exfalso;omega) (fun h1=>?_)
   refine j_nf [_,_] rfl ?_
   refine j_run it 2 rfl (by simp) ?_
   refine j_step rfl (x_field rfl fd83_4 ?_)
   refine j_step rfl (x_bld 0 rfl rfl ld3 rfl ?_)
   refine j_run it 2 rfl ⟨trivial,⟨by omega,by omega⟩,trivial⟩ ?_
   refine j_step rfl (x_field rfl fd83_4 ?_)
   refine j_step rfl (x_bst1 0 rfl rfl rfl rfl ld3 rfl (Nat.le_of_ble_eq_true rfl) ?_)
   refine j_nf [_,_] rfl ?_
   (apply j_drawK it mx 10;(· rfl);(· rfl))
   (apply lxk_run 2;(· rfl);(· simp))
   (apply lxk_eq;(· rfl);(· exact d_x fun _=>x_field rfl fd83_0 dk_eq))
   (apply lxk_eq;(· rfl);(· exact d_bld_agg 0 rfl rfl ld27 rfl rfl))
   (apply lxk_run 2;(· rfl);(· simp))
   (apply lxk_eq;(· rfl);(· exact d_x fun _=>x_field rfl fd83_1 dk_eq))
   (apply lxk_eq;(· rfl);(· exact d_bld 0 rfl rfl ld22 rfl))
   (apply lxk_run 1;(· rfl);(· simp))
   (apply lxk_fa (val:=(fun g=>Value.slice (g 0).fst (g 1).snd.fst (g 2).snd.fst)) (f:=(fun g=>[slF I64 (g 0).fst (g 1).snd.fst (g 2).snd.fst w]));(· rfl);(· exact d_x fun _=>x_call [0,1,2,4] rfl (c_repair_witness) rfl (by rintro _ _ _ ⟨pag0,kg1,cag2,rfl,rfl,rfl⟩;exact fun _ _ _ hG=>⟨(fun | 0=>(pag0,0,0,[]) | 1=>(none,kg1,0,[]) | 2=>(none,cag2,0,[]) | _=>default),rfl,fun g hg=>drop_own (hG _ (List.mem_append_left _ hg))⟩));intro g1;dsimp only [List.map_cons,List.map_nil])
   refine lxk_end rfl ?_
   simp only [List.map_cons,List.map_nil,List.cons_append,List.nil_append]
   refine j_run it 1 rfl (by simp) ?_
   refine j_nf [_,_,_] rfl ?_
   refine j_run it 1 rfl (by simp) ?_ --ok
   generalize (g1 0).1 = pw at *
   generalize (g1 1).2.1 = nw at *
   generalize (g1 2).2.1 = cw at *
   refine j_len 0 rfl fun hn _ _=>?_
   subst hn
   refine j_slsome 0 rfl (by omega) fun b1 o1 hpa=>?_
   subst hpa
   have hTl : (T++[w]).length = T.length + 1:=by rw [List.length_append];rfl
   cases d with
   | zero =>
    rw [show huP p m N md lost away rows 0 s z (k + 1,T) = ((k,T++[w]),none) from huT_leaf hw]
    have hWs : s.length = W:=by omega
    refine j_step rfl (x_eqnilS sl22 rfl rfl ?_)
    refine wk 8 cz ?_
    intro b2
    refine j_step rfl (x_appR (z:=w) 2 0 7 rfl rfl rfl rfl rfl sl25 zo25e rfl (fun w A hG=>(rd_of_slF (hG _ (fact_mem (n:=0) rfl)))) (by omega) _ by25e (by omega) fun r1=>?_)
    refine wk 15 cz ?_
    intro h2 --ok
    refine j_givK 3 [2,0] [0] rfl (.tmp rfl (.tmp rfl .nil)) rfl rfl rfl ⟨r1,rfl,?_,?_⟩
    ·show [rowF (encSl I64) r1 (T.length + 1) (T++[w])] = _
     rw [hTl]
    ·rw [hk,← hTl]
     rfl
   | succ d =>
    have hWs : s.length ≠ W:=by omega
    have c_repair_branches:=fun {pw pl pa pz : Option Addr} {nw cw nl cl na ca nz cz' : Nat}=>(S_repair_branches (pw:=pw) (pl:=pl) (pa:=pa) (pz:=pz) (nw:=nw) (cw:=cw) (nl:=nl) (cl:=cl) (na:=na) (ca:=ca) (nz:=nz) (cz':=cz') (w:=w) (lost:=lost) (away:=away) (z:=z) (by omega)).pubR (by have:=brL_le (lost:=lost) (away:=away) (z:=z) (w:=w) (n:=w.length);show _ * 8 ≤ 140737488355328;omega)
    refine j_step rfl (x_eqnilS sl22 rfl rfl ?_)
    refine wk 8 cz ?_
    intro b2
    refine j_step rfl (x_appR (z:=w) 2 0 7 rfl rfl rfl rfl rfl sl25 zo25e rfl (fun w A hG=>(rd_of_slF (hG _ (fact_mem (n:=0) rfl)))) (by omega) _ by25e (by omega) fun r1=>?_)
    refine wk 20 (ct @c_repair_branches cz) ?_
    intro h2 pa1 ca1 --ok
    rw [show huP p m N md lost away rows (d + 1) s z (k + 1,T) = huGo apI (huP p m N md lost away rows d) s z [] (brL lost away z w N) (k,T++[w]) from huT_go hw]
    rw [hwl]
    have hLl:=brL_le (lost:=lost) (away:=away) (z:=z) (w:=w) (n:=N)
    have hLm:=fun x=>brL_mem (lost:=lost) (away:=away) (z:=z) (w:=w) (n:=N) (x:=x)
    generalize brL lost away z w N = L at *
    simp only [List.cons_append,List.nil_append]
    refine j_loopG (X:=Nat × Row × Nat × List (List Int)) [0,1,2,9,69,70] [0,1,2,3,4,5,6,7,8,9] (fun x=>[(71,.int .i64 (x.1 : Int))]) (fun x=>[(x.2.1.bo,22,x.2.1.cs),(some b2,22,[.slice (some ⟨b1,o1,none⟩) N cw]),(some b,83,[.int .i64 p,.int .i64 m,.slice pm nm cm,.int .i64 N,.slice ps n c,.slice pl nl cl,.slice pa na ca,.int .i64 W,.int .i64 (x.2.2.1 : Nat),.slice (ad x.2.1.bo) x.2.2.2.length x.2.1.cap])]) (fun x=>[rowF (encSl I64) x.2.1 x.2.2.2.length x.2.2.2]) (fun v=>v.1 ≤ L.length ∧ v.2.2.2.length + v.2.2.1 ≤ 100000 ∧ huGo apI (huP p m N md lost away rows d) s z [] L (k,T++[w]) = huGo apI (huP p m N md lost away rows d) s z (L.take v.1) (L.drop v.1) (v.2.2.1,v.2.2.2)) (fun v=>L.length - v.1) (0,r1,k,T++[w]) [1] rfl rfl rfl ⟨Nat.zero_le _,by show (T++[w]).length + k ≤ 100000;omega,rfl⟩ (by repeat (first | exact Fr.sub_nil _ | refine Fr.sub_cons rfl ?_)) ?_ ?_ ?_
    ·rw [hk,← hTl]
     rfl
    ·rw [← hTl]
     rfl
    rintro ⟨i,r2,k2,T2⟩ ⟨hi,hTk,hg⟩ ih
    simp only [List.cons_append,List.nil_append] at hi hTk hg ih ⊢
    by_cases hil : i < L.length
    ·obtain ⟨y,at_y⟩ : ∃ y,L[i]? = some y:=⟨_,List.getElem?_eq_getElem hil⟩
     have hy:=List.mem_of_getElem? at_y
     have hLr : ∀ y ∈ L,0 ≤ y ∧ y < (N : Int):=fun y hy=>by
      obtain ⟨i,rfl,hi,_⟩:=(hLm y).1 hy
      exact ⟨by omega,by omega⟩
     have e1 : (s++[y]).length = s.length + 1:=by simp
     have e2 : (z++L.take i).length = z.length + i:=by rw [List.length_append,List.length_take];omega
     have hz3 : z.length ≤ 200000:=by omega
     have hs3 : s.length ≤ 1000:=by omega
     have c_repair_with:=fun {ps px : Option Addr} {n c k d : Nat} {l x : List Int} (hl : (l++x).length ≤ 1000000)=>(S_repair_with (ps:=ps) (px:=px) (n:=n) (c:=c) (k:=k) (d:=d) hl).pubR (by show _ * 8 ≤ 140737488355328;omega)
     have e3 : L.drop i = y::L.drop (i + 1):=by
      rw [List.drop_eq_getElem_cons hil];rw [List.getElem?_eq_getElem hil] at at_y;rw [Option.some.inj at_y]
     have e4 : L.take (i + 1) = L.take i++[y]:=by rw [List.take_add_one,at_y];rfl
     rw [e3,huGo] at hg
     refine wk 7 cz ?_
     intro h3 b3 o2 hz1
     refine j_step rfl (x_ld_int 0 rfl rfl ld3 fun ⟨r3,r4⟩=>?_)
     refine wk 2 cz ?_
     refine j_selT 3 [2,0,1] rfl rfl ?_
     simp only [List.cons_append,List.nil_append,List.drop_succ_cons,List.drop_zero]
     (apply j_drawKW (x0:=none) it mx 0 10 [12,13,14] 5;(· rfl);(· rfl);(· rfl);(· decide))
     simp only [List.drop_zero]
     (apply lxk_run 3;(· rfl);(· simp))
     (apply lxk_sl;(· rfl);(· exact d_x fun _=>x_lit sl22 zo22e rfl rfl rfl rfl (by decide) (by decide) rfl fun b4=>dk_all (E:=I64) [[Value.int IntKind.i64 y]] [y] (fun w A hG=>(allrd_cons ⟨rfl,by first | assumption | (simp only [InR];omega)⟩ allrd_nil)) rfl rfl rfl (by first | decide | exact Nat.le_of_ble_eq_true rfl));intro pa2 ca2)
     (apply lxk_sl;(· rfl);(· exact d_x fun _=>x_call [10,0] rfl (c_repair_with (by omega)) rfl (by rintro _ _ _ ⟨pa3,ca3,rfl,rfl,rfl⟩;exact (dk_sl 0 rfl)));intro pa3 ca3)
     (apply lxk_run 3;(· rfl);(· simp))
     (apply lxk_sl;(· rfl);(· exact d_x fun _=>x_slice_h 2 (i) rfl rfl rfl sl22 (by omega) (by omega) (dk_sl 0 rfl));intro pa4 ca4)
     (apply lxk_sl;(· rfl);(· exact d_x fun _=>x_call [13,0] rfl (c_repair_with (by omega)) rfl (by rintro _ _ _ ⟨pa5,ca5,rfl,rfl,rfl⟩;exact (dk_sl 0 rfl)));intro pa5 ca5) --ok
     refine lxk_endW rfl ?_
     rotate_left
     rfl
     simp only [List.map_nil,List.map_cons,List.cons_append,List.nil_append]
     have hle : (huP p m N md lost away rows d (apI s y) (z++L.take i) (k2,T2)).1.1 ≤ k2 ∧ (huP p m N md lost away rows d (apI s y) (z++L.take i) (k2,T2)).1.2.length + (huP p m N md lost away rows d (apI s y) (z++L.take i) (k2,T2)).1.1 ≤ T2.length + k2:=hu_le d _ _ _
     refine win_step it rfl rfl True.intro (x_callN 2 [9,10,11,12,2,0,5] rfl rfl (ihd d (Nat.lt_succ_self d) (s:=s++[y]) (z:=z++L.take i) (k:=k2) (T:=T2) (W:=W) (by omega) hW2 (by omega) (by omega) (fun v hv=>by
      rcases List.mem_append.1 hv with hv | hv
      ·exact hs v hv
      ·rw [List.mem_singleton.1 hv];exact hLr y hy) (by omega)) rfl ?_)
     intro v Φ β' hQ
     rw [show s++[y] = apI s y from rfl] at hQ
     generalize huP p m N md lost away rows d (apI s y) (z++L.take i) (k2,T2) = x at hQ hg hle
     obtain ⟨⟨k3,T3⟩,o⟩:=x
     dsimp only at hg hle
     cases o with
     | none =>
      obtain ⟨r3,rfl,rfl,rfl⟩:=hQ
      simp only [List.drop_succ_cons,List.drop_zero,List.cons_append,List.nil_append]
      refine win_step it rfl rfl True.intro (x_pv it rfl True.intro ?_)
      refine win_issueS it rfl rfl rfl rfl rfl True.intro ?_ True.intro
      refine win_issueS it rfl rfl rfl rfl rfl True.intro ?_ ⟨⟨_,_,_,_,rfl,rfl,rfl,rfl,rfl,rfl,True.intro⟩,True.intro⟩
      refine win_issueS it rfl rfl rfl rfl rfl True.intro ?_ ⟨⟨_,_,_,_,rfl,rfl,rfl,rfl,rfl,rfl,True.intro⟩,⟨_,_,_,_,rfl,rfl,rfl,rfl,rfl,rfl,True.intro⟩,True.intro⟩
      refine win_end it ⟨⟨_,_,_,_,rfl,rfl,rfl,rfl,rfl,rfl,True.intro⟩,⟨_,_,_,_,rfl,rfl,rfl,rfl,rfl,rfl,True.intro⟩,⟨_,_,_,_,rfl,rfl,rfl,rfl,rfl,rfl,True.intro⟩,True.intro⟩ ?_
      simp only [putF]
      refine wk 8 cz ?_
      refine j_toX [1,2,0] [0,7,8,9,10,11,12,13,14,15,16] (by exact fra rfl) rfl rfl rfl (ih (i + 1,r3,k3,T3) (by dsimp only;omega) ⟨by dsimp only;omega,by dsimp only;omega,hg.trans (by rw [e4])⟩)
     | some o =>
     cases o with
     | none =>
      obtain ⟨r3,rfl,rfl,rfl⟩:=hQ
      simp only [List.drop_succ_cons,List.drop_zero,List.cons_append,List.nil_append]
      refine win_step it rfl rfl True.intro (x_pv it rfl True.intro ?_)
      refine win_issueS it rfl rfl rfl rfl rfl True.intro ?_ True.intro
      refine win_issueS it rfl rfl rfl rfl rfl True.intro ?_ ⟨⟨_,_,_,_,rfl,rfl,rfl,rfl,rfl,rfl,True.intro⟩,True.intro⟩
      refine win_issueS it rfl rfl rfl rfl rfl True.intro ?_ ⟨⟨_,_,_,_,rfl,rfl,rfl,rfl,rfl,rfl,True.intro⟩,⟨_,_,_,_,rfl,rfl,rfl,rfl,rfl,rfl,True.intro⟩,True.intro⟩
      refine win_end it ⟨⟨_,_,_,_,rfl,rfl,rfl,rfl,rfl,rfl,True.intro⟩,⟨_,_,_,_,rfl,rfl,rfl,rfl,rfl,rfl,True.intro⟩,⟨_,_,_,_,rfl,rfl,rfl,rfl,rfl,rfl,True.intro⟩,True.intro⟩ ?_
      simp only [putF]
      simp only [hg]
      refine wk 8 cz ?_
      refine j_givK 3 [0,1] [0] rfl (.tmp rfl (.tmp rfl .nil)) rfl rfl rfl ⟨r3,rfl,rfl,rfl⟩
     | some l =>
      obtain ⟨r3,b4,c4,cs4,rfl,rfl,rfl⟩:=hQ
      simp only [List.drop_succ_cons,List.drop_zero,List.cons_append,List.nil_append]
      refine win_step it rfl rfl True.intro (x_pv it rfl True.intro ?_)
      refine win_issueS it rfl rfl rfl rfl rfl True.intro ?_ True.intro
      refine win_issueS it rfl rfl rfl rfl rfl True.intro ?_ ⟨⟨_,_,_,_,rfl,rfl,rfl,rfl,rfl,rfl,True.intro⟩,True.intro⟩
      refine win_issueS it rfl rfl rfl rfl rfl True.intro ?_ ⟨⟨_,_,_,_,rfl,rfl,rfl,rfl,rfl,rfl,True.intro⟩,⟨_,_,_,_,rfl,rfl,rfl,rfl,rfl,rfl,True.intro⟩,True.intro⟩
      refine win_end it ⟨⟨_,_,_,_,rfl,rfl,rfl,rfl,rfl,rfl,True.intro⟩,⟨_,_,_,_,rfl,rfl,rfl,rfl,rfl,rfl,True.intro⟩,⟨_,_,_,_,rfl,rfl,rfl,rfl,rfl,rfl,True.intro⟩,True.intro⟩ ?_
      simp only [putF]
      simp only [hg]
      refine wk 8 cz ?_
      refine j_givK 4 [0,1,2] [0,1] rfl (.tmp rfl (.tmp rfl .nil)) rfl rfl rfl ⟨r3,b4,c4,cs4,rfl,rfl,rfl⟩
    ·obtain rfl : i = L.length:=by omega
     rw [List.take_length,List.drop_length,huGo] at hg
     simp only [hg]
     refine wk 7 cz ?_
     intro h3
     refine j_givK 3 [2,0] [0] rfl (.tmp rfl (.tmp rfl .nil)) rfl rfl rfl ⟨r2,rfl,rfl,rfl⟩
end
open Go Go.Fw
set_option maxRecDepth 100000
set_option linter.unusedVariables false
set_option linter.unusedSimpArgs false
set_option maxHeartbeats 0
def fewGo (en : List Int → Bool) : Nat → List Int → List Int
 | 0,l=>l
 | i + 1,l=>if en (l.take i++l.drop (i + 1)) = true then fewGo en i (l.take i++l.drop (i + 1)) else fewGo en i l
theorem st_less {n : Nat} {l : List Int} (h : stP n l) (i : Nat) : stP n (l.take i++l.drop (i + 1)):=by
 have hs : (l.take i++l.drop (i + 1)).Sublist l:=by
  conv=>rhs;rw [← List.take_append_drop i l]
  refine List.Sublist.append (List.Sublist.refl _) ?_
  rw [show l.drop (i + 1) = (l.drop i).drop 1 by rw [List.drop_drop]]
  exact List.drop_sublist _ _
 exact ⟨fun x hx=>h.1 x (hs.subset hx),h.2.sublist hs⟩
theorem fewGo_st {n : Nat} {en : List Int → Bool} : ∀ {i : Nat} {l : List Int},stP n l → stP n (fewGo en i l)
 | 0,_,h=>h
 | i + 1,l,h=>by
  rw [fewGo]
  split
  ·exact fewGo_st (st_less h i)
  ·exact fewGo_st h
theorem fewGo_sub {en : List Int → Bool} : ∀ {i : Nat} {l : List Int} {x : Int},x ∈ fewGo en i l → x ∈ l
 | 0,_,_,h=>h
 | i + 1,l,x,h=>by
  rw [fewGo] at h
  split at h
  ·rcases List.mem_append.1 (fewGo_sub h) with h | h
   ·exact List.mem_of_mem_take h
   ·exact List.mem_of_mem_drop h
  ·exact fewGo_sub h
theorem fewGo_en {en : List Int → Bool} : ∀ {i : Nat} {l : List Int},en l = true → en (fewGo en i l) = true
 | 0,_,h=>h
 | i + 1,l,h=>by
  rw [fewGo]
  split
  ·rename_i h2
   exact fewGo_en h2
  ·exact fewGo_en h
abbrev enP (p m : Nat) (md : List Int) (N : Nat) (rows : List (List Int)) (lost : List Int) (s : List Int) : Bool:=(wtP p m md N rows lost s).isNone
section
variable {p m N nm cm n c nl cl nh ch na ca : Nat} {pm ps pl ph pa : Option Addr} {md lost hs away : List Int} {rows : List (List Int)}
abbrev SzI (l : List Int) : Value → List Fact → List Blk → Prop:=fun v Φ β=>∃ (pa : Option Addr) (k ca : Nat),v = .slice pa k ca ∧ Φ = [slF I64 pa k ca l] ∧ β = []
theorem S_repair_spare (CC : Cok p m md N rows) (hlo : stP N lost) (hst : stP N hs) : Ctr Tryz.prog 53 [.agg #[.int .i64 p,.int .i64 m,.slice pm nm cm,.int .i64 N,.slice ps n c],.slice pl nl cl,.slice ph nh ch] [] [slF I64 pm nm cm md,slF (encSl I64) ps n c rows,slF I64 pl nl cl lost,slF I64 ph nh ch hs] (SzI (fewGo (enP p m md N rows lost) hs.length hs)):=by
 refine Ctr_of_j' (F:=F_repair_spare) rfl fun C=>?_
 refine j_len 3 rfl fun hn _ _=>?_
 subst hn
 have h64:=CC.n64
 have hn1:=CC.n1
 have hl2:=st_len hst
 refine wk 8 cz ?_
 intro b1
 simp only [List.cons_append,List.nil_append]
 refine j_loopG (X:=Nat × Option Addr × Nat × Nat × List Int) [1,3,6] [0,1,2,3] (fun x=>[(7,.int .i64 ((x.1 : Int) - 1)),(2,.slice x.2.1 x.2.2.1 x.2.2.2.1)]) (fun _=>_) (fun x=>[slF I64 x.2.1 x.2.2.1 x.2.2.2.1 x.2.2.2.2]) (fun x=>x.1 ≤ x.2.2.2.2.length ∧ stP N x.2.2.2.2 ∧ fewGo (enP p m md N rows lost) hs.length hs = fewGo (enP p m md N rows lost) x.1 x.2.2.2.2) (fun x=>x.1) (hs.length,ph,hs.length,ch,hs) [3] rfl rfl rfl ⟨Nat.le_refl _,hst,rfl⟩ (by repeat (first | exact Fr.sub_nil _ | refine Fr.sub_cons rfl ?_)) rfl rfl ?_
 rintro ⟨i,px,kx,cx,l⟩ ⟨hi,hls,hg⟩ ih
 simp only [List.cons_append,List.nil_append] at hi hls hg ih ⊢
 refine j_len 0 rfl fun hn _ _=>?_
 subst hn
 have hll:=st_len hls
 cases i with
 | zero =>
  rw [hg,fewGo]
  clear ih
  refine wk 7 cz ?_
  intro h1
  refine j_giv [0] rfl rfl rfl ⟨_,_,_,rfl,rfl,rfl⟩
 | succ i =>
  have ei : ((i + 1 : Nat) : Int) - 1 = (i : Int):=by omega
  rw [ei]
  have hls2:=st_less hls i
  have ef : [l.take i,l.drop (i + 1)].flatten = l.take i++l.drop (i + 1):=by simp
  have el : (l.take i++l.drop (i + 1)).length = l.length - 1:=by rw [List.length_append,List.length_take,List.length_drop];omega
  have c_slices_Concat___int_int_:=fun {ps : Option Addr} {n c : Nat}=>(S_slices_Concat___int_int_ (ps:=ps) (n:=n) (c:=c) (ls:=[l.take i,l.drop (i + 1)]) (by rw [ef,el];omega)).pubR (by rw [ef,el];show _ * 8 ≤ 140737488355328;omega)
  rw [ef] at c_slices_Concat___int_int_
  have e0 : srL N (l.take i++l.drop (i + 1)) = l.take i++l.drop (i + 1):=oth_oth hls2
  cases hw : wtP p m md N rows lost (l.take i++l.drop (i + 1)) with
  | none =>
   rw [fewGo,if_pos (by show (wtP p m md N rows lost _).isNone = true;rw [hw];rfl)] at hg
   have c_repair_witness:=fun {nm cm n c nl cl nh ch : Nat} {pm ps pl ph : Option Addr}=>S_wt_none (nm:=nm) (cm:=cm) (n:=n) (c:=c) (nl:=nl) (cl:=cl) (nh:=nh) (ch:=ch) (pm:=pm) (ps:=ps) (pl:=pl) (ph:=ph) (hs:=l.take i++l.drop (i + 1)) CC hlo (by rw [e0];exact hw)
   refine wk 5 cz ?_
   intro h1
   (apply j_drawK it mx 9;(· rfl);(· rfl))
   (apply lxk_run 2;(· rfl);(· simp))
   (apply lxk_sl;(· rfl);(· exact d_x fun _=>x_slice_h 0 (i) rfl rfl rfl sl22 (by omega) (by omega) (dk_sl 0 rfl));intro pa1 ca1)
   (apply lxk_run 3;(· rfl);(· exact ⟨⟨by omega,by omega⟩,trivial,trivial,trivial⟩))
   (apply lxk_sl;(· rfl);(· exact d_x fun _=>x_slice_l 0 ((i) + 1) rfl rfl rfl sl22 (by omega) (by omega) fun pa2=>(dk_sl 0 rfl));intro pa2 ca2)
   (apply lxk_sl;(· rfl);(· exact d_x fun _=>x_lit sl25 zo25e rfl rfl rfl rfl (by decide) (by decide) rfl fun b2=>dk_all (E:=(encSl (I64))) [[Value.slice pa1 i ca1],[Value.slice pa2 (l.length - (i + 1)) ca2]] [List.take i l,List.drop (i + 1) l] (fun w A hG=>(allrd_cons (rd_of_slF (hG _ (fact_mem (n:=1) rfl))) (allrd_cons (rd_of_slF (hG _ (fact_mem (n:=0) rfl))) allrd_nil))) rfl rfl rfl (by first | decide | exact Nat.le_of_ble_eq_true rfl));intro pa3 ca3)
   (apply lxk_sl;(· rfl);(· exact d_x fun _=>x_call [0] rfl (c_slices_Concat___int_int_) rfl (by rintro _ _ _ ⟨pa4,ca4,rfl,rfl,rfl⟩;exact (dk_sl 0 rfl)));intro pa4 ca4)
   refine lxk_end rfl ?_
   simp only [List.map_cons,List.map_nil,List.cons_append,List.nil_append]
   refine wk 5 (ct @c_repair_witness cz) ?_
   refine j_step rfl (x_eqnilN sl22 rfl rfl ?_)
   refine wk 7 cz ?_
   exact tw (ih (i,pa4,(l.take i++l.drop (i + 1)).length,ca4,l.take i++l.drop (i + 1)) (by dsimp only;omega) ⟨by dsimp only;omega,hls2,hg⟩)
  | some w =>
   rw [fewGo,if_neg (by show ¬ (wtP p m md N rows lost _).isNone = true;rw [hw];simp)] at hg
   have c_repair_witness:=fun {nm cm n c nl cl nh ch : Nat} {pm ps pl ph : Option Addr}=>S_wt_some (nm:=nm) (cm:=cm) (n:=n) (c:=c) (nl:=nl) (cl:=cl) (nh:=nh) (ch:=ch) (pm:=pm) (ps:=ps) (pl:=pl) (ph:=ph) (w:=w) (hs:=l.take i++l.drop (i + 1)) CC hlo (by rw [e0];exact hw)
   have hwl:=(wi_wd CC _ w (List.mem_of_find?_eq_some hw)).1
   refine j_nf [_,_,_,_,_,_] rfl ?_
   refine j_run it 2 rfl (by simp) ?_
   refine j_nf [_,_,_,_,_] rfl ?_
   refine j_if rfl rfl (fun h1=>?_) (fun h1=>by exfalso;omega)
   refine j_nf [_,_,_,_,_,_,_] rfl ?_
   (apply j_drawK it mx 9;(· rfl);(· rfl))
   (apply lxk_run 2;(· rfl);(· simp))
   (apply lxk_sl;(· rfl);(· exact d_x fun _=>x_slice_h 0 (i) rfl rfl rfl sl22 (by omega) (by omega) (dk_sl 0 rfl));intro pa1 ca1)
   (apply lxk_run 3;(· rfl);(· exact ⟨⟨by omega,by omega⟩,trivial,trivial,trivial⟩))
   (apply lxk_sl;(· rfl);(· exact d_x fun _=>x_slice_l 0 ((i) + 1) rfl rfl rfl sl22 (by omega) (by omega) fun pa2=>(dk_sl 0 rfl));intro pa2 ca2)
   (apply lxk_sl;(· rfl);(· exact d_x fun _=>x_lit sl25 zo25e rfl rfl rfl rfl (by decide) (by decide) rfl fun b2=>dk_all (E:=(encSl (I64))) [[Value.slice pa1 i ca1],[Value.slice pa2 (l.length - (i + 1)) ca2]] [List.take i l,List.drop (i + 1) l] (fun w A hG=>(allrd_cons (rd_of_slF (hG _ (fact_mem (n:=1) rfl))) (allrd_cons (rd_of_slF (hG _ (fact_mem (n:=0) rfl))) allrd_nil))) rfl rfl rfl (by first | decide | exact Nat.le_of_ble_eq_true rfl));intro pa3 ca3)
   (apply lxk_sl;(· rfl);(· exact d_x fun _=>x_call [0] rfl (c_slices_Concat___int_int_) rfl (by rintro _ _ _ ⟨pa4,ca4,rfl,rfl,rfl⟩;exact (dk_sl 0 rfl)));intro pa4 ca4)
   refine lxk_end rfl ?_
   simp only [List.map_cons,List.map_nil,List.cons_append,List.nil_append]
   refine j_run it 1 rfl (by simp) ?_
   refine j_nf [_,_,_,_,_,_,_] rfl ?_
   refine j_step rfl (x_bld_all 0 rfl rfl ld27 rfl ?_)
   refine j_run it 2 rfl (by simp) ?_
   refine j_step rfl (x_call [5,6,7,0] rfl (c_repair_witness) rfl ?_)
   rintro _ _ _ ⟨pa5,k1,ca5,rfl,rfl,rfl⟩
   simp only [List.cons_append,List.nil_append] --ok
   refine j_len 0 rfl fun hn _ _=>?_
   subst hn
   refine j_slsome 0 rfl (by omega) fun b1 o1 hpa=>?_
   subst hpa
   refine j_step rfl (x_eqnilS sl22 rfl rfl ?_)
   refine wk 5 cz ?_
   exact tw (ih (i,px,l.length,cx,l) (by dsimp only;omega) ⟨by dsimp only;omega,hls,hg⟩)
end
open Go Go.Fw
set_option maxRecDepth 100000
set_option linter.unusedVariables false
set_option linter.unusedSimpArgs false
set_option maxHeartbeats 0
def plR (H : Nat → (Nat × List (List Int)) × Option (Option (List Int))) (sr : List Int → List Int) (few : List Int) : Nat → Nat → List (List Int) → List Int × Bool × List (List Int)
 | 0,_,_=>(few,false,[])
 | f + 1,w,pf=>match (H w).2 with
  | none=>plR H sr few f (w + 1) (H w).1.2
  | some none=>(few,false,[])
  | some (some s)=>(sr s,true,pf)
theorem srL_len {N : Nat} {s : List Int} (hs : ∀ x ∈ s,0 ≤ x ∧ x < (N : Int)) (hn : s.Nodup) : (srL N s).length = s.length:=by
 have h : (srL N s).Nodup:=(othL_st N _).2.imp fun h=>by omega
 refine List.Perm.length_eq ((List.perm_ext_iff_of_nodup h hn).2 fun x=>?_)
 rw [srL_mem]
 exact ⟨fun h=>h.2,fun h=>⟨hs x h,h⟩⟩
theorem srL_pm {N : Nat} {s : List Int} (hs : ∀ x ∈ s,0 ≤ x ∧ x < (N : Int)) (hn : s.Nodup) : (srL N s).Perm s:=by
 have h : (srL N s).Nodup:=(othL_st N _).2.imp fun h=>by omega
 refine (List.perm_ext_iff_of_nodup h hn).2 fun x=>?_
 rw [srL_mem]
 exact ⟨fun h=>h.2,fun h=>⟨hs x h,h⟩⟩
section
variable {p m N : Nat} {md lost away : List Int} {rows : List (List Int)}
abbrev huW (p m N : Nat) (md lost away : List Int) (rows : List (List Int)) (w : Nat) : (Nat × List (List Int)) × Option (Option (List Int)):=huP p m N md lost away rows w [] [] (4096,[])
theorem br_new (CC : Cok p m md N rows) {s z w : List Int} (h : wtP p m md N rows lost (srL N s) = some w) : ∀ y ∈ brL lost away z w N,y ∉ s ∧ ((0 ≤ y ∧ y < (N : Int)) ∧ y ∉ lost ∧ y ∉ away):=fun y hy=>by
 obtain ⟨i,rfl,hi,h0,h1,h2,_⟩:=brL_mem.1 hy
 refine ⟨fun hs=>h0 ?_,⟨by omega,by omega⟩,h1,h2⟩
 have:=wi_zero CC (fun y hy=>(srL_mem.1 hy).1) (List.mem_of_find?_eq_some h) (i : Int) (srL_mem.2 ⟨⟨by omega,by omega⟩,hs⟩)
 rwa [Int.toNat_natCast] at this
theorem hunt_tree (CC : Cok p m md N rows) {w : Nat} (h : (huW p m N md lost away rows w).2 = none) : htT p m md N rows lost away w [] [] (huW p m N md lost away rows w).1.2 = some []:=by
 obtain ⟨U,hU,hU2⟩:=hu_tree (p:=p) (m:=m) (N:=N) (md:=md) (lost:=lost) (away:=away) (rows:=rows) (wt:=fun s=>wtP p m md N rows lost (srL N s)) (fun s x hs hx=>(wt_word CC hx hs).2.1) w [] [] (4096,[]) (huW p m N md lost away rows w).1 (fun x hx=>by cases hx) (by rw [← h])
 have h2:=hU2 []
 rw [List.append_nil] at h2
 rw [hU]
 exact h2
theorem tree_bars (CC : Cok p m md N rows) (hlo : stP N lost) {w : Nat} {t t' : List (List Int)} (h : htT p m md N rows lost away w [] [] t = some t') {H : List Int} (hH : stP N H) (hd : ∀ x ∈ H,x ∉ lost ∧ x ∉ away) (hl : H.length ≤ w) : enP p m md N rows lost H = false:=by
 have:=ht_sound CC hlo hH hd w [] [] t t' h (fun x hx=>by cases hx) (fun x hx=>by cases hx) (by rw [List.length_nil];omega) List.nodup_nil
 rwa [en_wt CC hlo] at this
theorem hunt_ends (CC : Cok p m md N rows) (hlo : stP N lost) (hall : enP p m md N rows lost (othL N [lost,away]) = true) {w : Nat} (hw : (othL N [lost,away]).length ≤ w) : (huW p m N md lost away rows w).2 ≠ none:=fun h=>by
 have:=tree_bars CC hlo (hunt_tree CC h) (othL_st N [lost,away]) (fun x hx=>by
  have:=(othL_mem.1 hx).2
  exact ⟨this lost (.head _),this away (.tail _ (.head _))⟩) hw
 rw [hall] at this;cases this
theorem hunt_set (CC : Cok p m md N rows) {w : Nat} {s : List Int} (h : (huW p m N md lost away rows w).2 = some (some s)) : wtP p m md N rows lost (srL N s) = none ∧ s.length ≤ w ∧ s.Nodup ∧ ∀ y ∈ s,(0 ≤ y ∧ y < (N : Int)) ∧ y ∉ lost ∧ y ∉ away:=by
 obtain ⟨h1,h2,h3,h4⟩:=hu_found (wt:=fun s=>wtP p m md N rows lost (srL N s)) (br:=fun z w=>brL lost away z w N) (Q:=fun y=>(0 ≤ y ∧ y < (N : Int)) ∧ y ∉ lost ∧ y ∉ away) (fun s z x hx=>br_new CC hx) w [] [] (4096,[]) (huW p m N md lost away rows w).1 s (by rw [← h]) List.nodup_nil
 exact ⟨h1,by simpa using h2,h3,fun y hy=>(h4 y hy).resolve_left (fun h=>by cases h)⟩
abbrev plP (p m N : Nat) (md lost away : List Int) (rows : List (List Int)) : Nat → Nat → List (List Int) → List Int × Bool × List (List Int):=plR (huW p m N md lost away rows) (srL N) (fewGo (enP p m md N rows lost) (othL N [lost,away]).length (othL N [lost,away]))
structure PlOk (p m N : Nat) (md lost away : List Int) (rows : List (List Int)) (x : List Int × Bool × List (List Int)) : Prop where
 st : stP N x.1
 sub : ∀ y ∈ x.1,y ∉ lost ∧ y ∉ away
 en : enP p m md N rows lost x.1 = true
 pr : x.2.1 = true → prB p m md N rows lost away ((x.1.length : Int) - 1) x.2.2 = true
theorem few_ok (hall : enP p m md N rows lost (othL N [lost,away]) = true) {k : Nat} : PlOk p m N md lost away rows (fewGo (enP p m md N rows lost) k (othL N [lost,away]),false,[]) :=
 ⟨fewGo_st (othL_st N _),fun y hy=>by
  have:=(othL_mem.1 (fewGo_sub hy)).2
  exact ⟨this lost (.head _),this away (.tail _ (.head _))⟩,fewGo_en hall,fun h=>by cases h⟩
theorem pl_ok (CC : Cok p m md N rows) (hlo : stP N lost) (hall : enP p m md N rows lost (othL N [lost,away]) = true) : ∀ (f w : Nat) (pf : List (List Int)),((w = 0 ∧ pf = []) ∨ ∃ v,w = v + 1 ∧ htT p m md N rows lost away v [] [] pf = some []) → PlOk p m N md lost away rows (plP p m N md lost away rows f w pf)
 | 0,_,_,_=>few_ok hall
 | f + 1,w,pf,h=>by
  rw [plP,plR]
  split
  ·rename_i hn
   exact pl_ok CC hlo hall f (w + 1) _ (.inr ⟨w,rfl,hunt_tree CC hn⟩)
  ·exact few_ok hall
  ·rename_i s hs
   obtain ⟨h1,h2,h3,h4⟩:=hunt_set CC hs
   have hl:=srL_len (fun y hy=>(h4 y hy).1) h3
   have hsub : ∀ y ∈ srL N s,y ∉ lost ∧ y ∉ away:=fun y hy=>(h4 y (srL_mem.1 hy).2).2
   have hen : enP p m md N rows lost (srL N s) = true:=by show (wtP p m md N rows lost (srL N s)).isNone = true;rw [h1];rfl
   refine ⟨othL_st N _,hsub,hen,fun _=>?_⟩
   show prB p m md N rows lost away (((srL N s).length : Int) - 1) pf = true
   rw [hl,prB]
   rcases h with ⟨rfl,rfl⟩ | ⟨v,rfl,hv⟩
   ·rw [if_pos (by omega)];rfl
   ·have hw : s.length = v + 1:=by
     refine Classical.byContradiction fun hne=>?_
     have:=tree_bars CC hlo hv (othL_st N _) hsub (by rw [hl];omega)
     rw [hen] at this;cases this
    rw [if_neg (by omega),show ((s.length : Int) - 1).toNat = v by omega,hv];rfl
end
set_option maxRecDepth 100000
set_option linter.unusedVariables false
set_option linter.unusedSimpArgs false
def auL (rows : List (List Int)) (b : List Int) : List (List Int):=List.zipWith (fun r x=>r++[x]) rows b
theorem auL_len {rows : List (List Int)} {b : List Int} (h : b.length = rows.length) : (auL rows b).length = rows.length:=by rw [auL,List.length_zipWith];omega
theorem auL_at {rows : List (List Int)} {b : List Int} {i : Nat} {r : List Int} {x : Int} (hr : rows[i]? = some r) (hx : b[i]? = some x) : (auL rows b)[i]? = some (r++[x]):=by
 rw [auL,List.getElem?_zipWith,hr,hx]
theorem auL_mat {q n : Nat} {rows : List (List Int)} {b : List Int} (hM : Mat q n rows) (hb : ∀ x ∈ b,0 ≤ x ∧ x < (q : Int)) : Mat q (n + 1) (auL rows b):=fun s hs=>by
 obtain ⟨i,h1,rfl⟩:=List.getElem_of_mem hs
 rw [auL,List.length_zipWith] at h1
 have h2 : i < rows.length:=by omega
 have h3 : i < b.length:=by omega
 obtain ⟨l1,l2⟩:=hM _ (List.getElem_mem h2)
 simp only [auL,List.getElem_zipWith]
 refine ⟨by rw [List.length_append,l1];rfl,fun x hx=>?_⟩
 rcases List.mem_append.1 hx with hx | hx
 ·exact l2 x hx
 ·rw [List.mem_singleton.1 hx];exact hb _ (List.getElem_mem h3)
theorem auL_eq {gen : List (List Int)} {hs : List Nat} {l : Nat} : auL (gen.map fun r=>pkL r hs) (gen.map fun r=>at0 r l) = eqL gen hs l:=by
 rw [auL,List.zipWith_map,List.zipWith_self]
def slK (n : Nat) (E : List (List Int) × List Nat) (k : Nat) : List Int:=(List.range n).map fun e=>if e ∈ E.2.take k then en E.1 (E.2.idxOf e) n else 0
theorem slK_len {n k : Nat} {E : List (List Int) × List Nat} : (slK n E k).length = n:=by simp [slK]
theorem slK_zero {n : Nat} {E : List (List Int) × List Nat} : slK n E 0 = zW n:=by
 refine List.ext_getElem (by simp [slK,zW]) fun j h1 h2=>?_
 simp only [slK,zW,List.getElem_map,List.getElem_range,List.take_zero,List.getElem_replicate]
 exact if_neg (by simp)
theorem slK_end {n : Nat} {E : List (List Int) × List Nat} : slK n E E.2.length = slX n E:=by rw [slK,List.take_length];rfl
theorem slK_set {n k a : Nat} {E : List (List Int) × List Nat} (h : Ech E.1 n E.2) (hk : E.2[k]? = some a) : (slK n E k).set a (en E.1 k n) = slK n E (k + 1):=by
 refine List.ext_getElem (by simp [slK]) fun j h1 h2=>?_
 rw [List.getElem_set]
 simp only [slK,List.getElem_map,List.getElem_range]
 by_cases e : a = j
 ·subst e
  rw [if_pos rfl,if_pos (List.mem_of_getElem? (i:=k) (by rw [List.getElem?_take,if_pos (by omega),hk])),ech_idx h hk]
 ·rw [if_neg e,List.take_add_one,hk]
  by_cases hm : j ∈ E.2.take k
  ·rw [if_pos hm,if_pos (List.mem_append_left _ hm)]
  ·rw [if_neg hm,if_neg]
   intro hm2
   rcases List.mem_append.1 hm2 with h3 | h3
   ·exact hm h3
   ·rw [Option.toList_some,List.mem_singleton] at h3;exact e h3.symm
end Go.Proofs.YtkcmkomhnjppaaaGreat
