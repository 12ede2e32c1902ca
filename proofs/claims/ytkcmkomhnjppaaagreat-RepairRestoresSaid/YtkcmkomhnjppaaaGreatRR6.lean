/-
The kernel of a matrix. Products and transposes of matrices. The words of a space that vanish outside some positions; the least witness. The least witness, and the program's answer whether helpers suffice. The document's tests of entries, shapes and sets; its copies. Multiples and sums of rows in the document. Elimination in the document. Canonical rows, null spaces, combinations and columns in the document. Columns and ranks in the document, what is enough, and the least witness. Whether helpers suffice: what the program answers. What is enough by ranks and by witnesses; the walk of RepairSuffices. The document's tests of spaces and codes, of sets and pairs. Words of messages in the document; the walk of RepairDetermines. Entries of a word at some places, in the document. Shapes and elements of plans in the program; lists compared in the document. Repair plans applied, in the document. Repair plans applied, in the program. Equations with their right hand sides, and their solution by places. Equations solved, in the program. Coefficients of repairs, in the program. Coefficients and what is enough; words rebuilt. Lists put behind one another, in the library. What is left of a word when the rows of a reduced matrix are taken off; words of a code that vanish at the helpers. A word of the span of a reduced matrix leaves nothing. Differences in a field; the program's test of a word. The rows of a space are taken off a word, in the program. The program's test whether a word is in a space, or in a code. The program's test whether a word is in a code. The branches of a node of a hitting tree, in the program and in the document.
-/
import Derived.Test.YtkcmkomhnjppaaaGreatRR5
set_option linter.unusedVariables false
set_option linter.unusedSimpArgs false
namespace Go.Proofs.YtkcmkomhnjppaaaGreat
open Go Go.Fw
set_option maxRecDepth 100000
set_option linter.unusedVariables false
set_option linter.unusedSimpArgs false
set_option maxHeartbeats 0
def nvI (N : Int → Int) (n : Nat) (R : List (List Int)) (P : List Nat) (c i : Nat) : List Int:=(List.range n).map fun e=>if e = c then 1 else if e ∈ P.take i then N (en R (P.idxOf e) c) else 0
theorem nvI_len {N : Int → Int} {n c i : Nat} {R : List (List Int)} {P : List Nat} : (nvI N n R P c i).length = n:=by simp [nvI]
theorem nvI_zero {N : Int → Int} {n c : Nat} {R : List (List Int)} {P : List Nat} : nvI N n R P c 0 = (zW n).set c 1:=by
 refine List.ext_getElem (by simp [nvI,zW]) fun j h1 h2=>?_
 rw [List.getElem_set]
 simp only [nvI,List.getElem_map,List.getElem_range]
 by_cases h : j = c
 ·rw [if_pos h,if_pos h.symm]
 ·rw [if_neg h,if_neg fun (e : c = j)=>h e.symm];simp [zW]
theorem nvI_all {N : Int → Int} {n c : Nat} {R : List (List Int)} {P : List Nat} : nvI N n R P c P.length = nullV N n R P c:=by rw [nvI,nullV,List.take_length]
theorem nvI_set {q : Nat} {N : Int → Int} {n c i a : Nat} {R : List (List Int)} {P : List Nat} (h : Red q n R P) (hc : c ∉ P) (hi : P[i]? = some a) : (nvI N n R P c i).set a (N (en R i c)) = nvI N n R P c (i + 1):=by
 have ha:=List.mem_of_getElem? hi
 refine List.ext_getElem (by simp [nvI]) fun j h1 h2=>?_
 rw [List.getElem_set]
 simp only [nvI,List.getElem_map,List.getElem_range]
 by_cases e : a = j
 ·subst e
  rw [if_pos rfl,if_neg fun (e : a = c)=>hc (e ▸ ha),if_pos (List.mem_of_getElem? (i:=i) (by rw [List.getElem?_take,if_pos (by omega),hi])),h.idx hi]
 ·rw [if_neg e]
  by_cases hjc : j = c
  ·rw [if_pos hjc,if_pos hjc]
  ·rw [if_neg hjc,if_neg hjc,List.take_add_one,hi]
   by_cases hm : j ∈ P.take i
   ·rw [if_pos hm,if_pos (List.mem_append_left _ hm)]
   ·rw [if_neg hm,if_neg]
    intro hm2
    rcases List.mem_append.1 hm2 with h3 | h3
    ·exact hm h3
    ·rw [Option.toList_some,List.mem_singleton] at h3;exact e h3.symm
def nvK (N : Int → Int) (n : Nat) (E : List (List Int) × List Nat) (k : Nat) : List (List Int):=((List.range k).filter fun c=>decide (c ∉ E.2)).map (nullV N n E.1 E.2)
theorem nvK_succ {N : Int → Int} {n k : Nat} {E : List (List Int) × List Nat} : nvK N n E (k + 1) = nvK N n E k++if k ∈ E.2 then [] else [nullV N n E.1 E.2 k]:=by
 rw [nvK,nvK,List.range_succ,List.filter_append,List.map_append]
 congr 1
 by_cases h : k ∈ E.2 <;> simp [h]
theorem nvK_len {N : Int → Int} {n k : Nat} {E : List (List Int) × List Nat} : (nvK N n E k).length ≤ k:=by
 rw [nvK,List.length_map];have:=List.length_filter_le (fun c=>decide (c ∉ E.2)) (List.range k);rwa [List.length_range] at this
abbrev nuP (p m : Nat) (md : List Int) (n : Nat) (rows : List (List Int)) : List (List Int):=nuL (liftI (fA p m)) (liftI (fM p (fpo m md))) (negI p m) (invI p m md) n rows
abbrev CnR (E : List (List Int) × List Nat) : Value → List Fact → List Blk → Prop:=fun v Φ β=>∃ (pb pp : Option Addr) (cb cp : Nat),v = .tuple #[.slice pb E.2.length cb,.slice pp E.2.length cp]
 ∧ Φ = [slF (encSl I64) pb E.2.length cb E.1,slF I64 pp E.2.length cp (toI E.2)] ∧ β = []
theorem S_matrix_canonR {b p m n N c ng cg ce cl : Nat} {pg pe pl ps : Option Addr} {rows : List (List Int)} {md : List Int} (K : Fok p m md) (hn : n ≤ 1000000) (hN : N ≤ 1000000) (hl : rows.length = n) (hM : Mat (p ^ m) N rows) :
  Ctr Tryz.prog 166 [.pointer (some ⟨b,0,none⟩),.slice ps n c,.int .i64 N] []
   [gfC b p m (p ^ m) pg ng cg pe (p ^ m - 1) ce pl (p ^ m) cl,slF I64 pe (p ^ m - 1) ce (exL p m md),slF I64 pl (p ^ m) cl (lgL p m md),slF (encSl I64) ps n c rows]
   (CnR (cnP p m md N rows)):=S_matrix_canon K hn hN hl hM
theorem S_matrix_Kernel_ok {p m n c nm cm N : Nat} {pm ps : Option Addr} {md : List Int} {rows : List (List Int)} (K : Fok p m md) (hN : N ≤ 256) (hl : rows.length ≤ 256) (hM : Mat (p ^ m) N rows) :
  Ctr Tryz.prog 132 [.agg #[.int .i64 p,.int .i64 m,.slice pm nm cm],.agg #[.int .i64 N,.slice ps n c]] [] [slF I64 pm nm cm md,slF (encSl I64) ps n c rows]
   (fun v Φ β=>∃ (pb : Option Addr) (cb : Nat),v = .tuple #[.agg #[.int .i64 N,.slice pb (nuP p m md N rows).length cb],.int .i64 0] ∧ Φ = [slF (encSl I64) pb (nuP p m md N rows).length cb (nuP p m md N rows)] ∧ β = []):=by
 refine Ctr_of_j' (F:=F_matrix_Kernel) rfl fun C=>?_
 have O:=fok_fo K
 have hq:=K.q
 refine j_len 1 rfl fun hn hb _=>?_
 subst hn
 have hb' : rows.length * 24 ≤ 140737488355328:=hb
 have c_matrix_open:=fun {pm ps : Option Addr} {nm cm n c : Nat}=>S_matrix_open_ok (pm:=pm) (nm:=nm) (cm:=cm) (ps:=ps) (n:=n) (c:=c) (Ms:=[((N : Int),rows)]) K (fun z hz=>by rw [List.mem_singleton.1 hz];simp only [InR];omega) (op_one (mtE_ok hN hl hM))
 have hN6 : N ≤ 1000000:=by omega
 have c_matrix_canon:=fun {b ng cg ce cl c n : Nat} {pg pe pl ps : Option Addr} {rows : List (List Int)} (hn : n ≤ 1000000) (hl : rows.length = n) (hM : Mat (p ^ m) N rows)=>S_matrix_canonR (b:=b) (ng:=ng) (cg:=cg) (ce:=ce) (cl:=cl) (pg:=pg) (pe:=pe) (pl:=pl) (ps:=ps) (c:=c) (n:=n) (rows:=rows) K hn hN6 hl hM
 have c_field_GF__Neg:=fun {b ng cg ne ce nl cl : Nat} {pg pe pl : Option Addr} {x : Int}=>S_field_GF__Neg (b:=b) (ng:=ng) (cg:=cg) (ne:=ne) (ce:=ce) (nl:=nl) (cl:=cl) (pg:=pg) (pe:=pe) (pl:=pl) (x:=x) K.p2 K.m1 hq
 have hred : Red (p ^ m) N (cnP p m md N rows).1 (cnP p m md N rows).2:=(O.cn hM).1
 have hEl : (cnP p m md N rows).1.length = (cnP p m md N rows).2.length:=O.cn_len hM
 have hnm : Mat (p ^ m) N (nvK (negI p m) N (cnP p m md N rows) N):=O.nv_mat hred
 have hnl : (cnP p m md N (nvK (negI p m) N (cnP p m md N rows) N)).1.length = (cnP p m md N (nvK (negI p m) N (cnP p m md N rows) N)).2.length:=O.cn_len hnm
 have hnk:=fun k=>nvK_len (N:=negI p m) (n:=N) (k:=k) (E:=cnP p m md N rows)
 have hng:=fun x (h0 : 0 ≤ x) (h1 : x < ((p ^ m : Nat) : Int))=>(O.ng x h0 h1).1
 rw [show nuP p m md N rows = (cnP p m md N (nvK (negI p m) N (cnP p m md N rows) N)).1 from rfl,hnl]
 clear hnl
 refine wk 9 cz ?_
 intro b1 b2 b3 b4
 refine j_pub_all (E:=MatE) (n:=1) [[Value.int IntKind.i64 ↑N,Value.slice ps rows.length c]] [((↑N : Int),rows)] 0 (fun w A hG=>(allrd_cons (rd_pair (v1:=[Value.int IntKind.i64 ↑N]) (rd_int (by first | (simp only [InR];omega) | (simp [InR];done) | assumption)) (rd_of_slF (hG _ (fact_mem (n:=1) rfl)))) allrd_nil)) rfl rfl rfl rfl (by first | decide | exact Nat.le_of_ble_eq_true rfl) (by first | decide | exact Nat.le_of_ble_eq_true rfl) ?_
 refine wk 21 (ct @c_matrix_open (ct @c_matrix_canon cz)) ?_
 intro b5 pg1 cg1 pe1 ce1 pl1 cl1 h1 pb1 pp1 cb1 cp1
 generalize hE : cnP p m md N rows = E at *
 refine j_row0 (encSl I64) 22 ?_
 refine j_loopG (X:=Nat × Row) [3,4,5,6,8,9,36] [0,1,2,3,4,5,6,7,8,9] (fun x=>[(37,.int .i64 (x.1 : Int)),(10,.slice (ad x.2.bo) (nvK (negI p m) N E x.1).length x.2.cap)]) (fun x=>[(x.2.bo,22,x.2.cs),(some b3,67,[.int .i64 0,.slice none 0 0]),(some b2,67,[.int .i64 N,.slice ps rows.length c]),(some b1,24,[.int .i64 p,.int .i64 m,.slice pm nm cm])]) (fun x=>[rowF (encSl I64) x.2 (nvK (negI p m) N E x.1).length (nvK (negI p m) N E x.1)]) (fun x=>x.1 ≤ N) (fun x=>N - x.1) (0,⟨none,0,[]⟩) [0] rfl rfl rfl (Nat.zero_le _) (by repeat (first | exact Fr.sub_nil _ | refine Fr.sub_cons rfl ?_)) rfl rfl ?_
 rintro ⟨k,r⟩ hk ih
 simp only [List.cons_append,List.nil_append] at hk ih ⊢
 by_cases h8 : k < N
 ·have ih':=fun r=>ih (k + 1,r) (by dsimp only;omega) (by dsimp only;omega)
  simp only [nvK_succ] at ih'
  have hnk1:=hnk k
  clear ih
  by_cases hm : k ∈ E.2
  ·have hd : decide ((k : Int) ∈ toI E.2) = true:=decide_eq_true (List.mem_map.2 ⟨k,hm,rfl⟩)
   simp only [if_pos hm,List.append_nil] at ih'
   refine wk 14 (ct @S_slices_Contains___int_int_ cz) ?_
   intro h2
   exact tw (ih' r)
  ·have hd : decide ((k : Int) ∈ toI E.2) = false:=decide_eq_false fun h=>by
    obtain ⟨j,hj,e⟩:=List.mem_map.1 h
    exact hm ((Int.ofNat.inj e) ▸ hj)
   simp only [if_neg hm,List.length_append,List.length_singleton] at ih'
   refine wk 19 (ct @S_slices_Contains___int_int_ cz) ?_
   intro h2 b6
   refine j_step rfl (x_bst_nat 0 1 rfl rfl rfl ld3 (by first | rfl | omega) (by first | omega | (simp;omega)) ?_)
   refine wk 5 cz ?_
   have hx0 : natCells .i64 ((List.replicate N 0).set k 1) = intCells .i64 (nvI (negI p m) N E.1 E.2 k 0):=by
    rw [nvI_zero]
    simp [natCells,intCells,zW,List.map_set]
   simp only [setB]
   rw [hx0]
   refine j_loopG (X:=Nat) [3,4,5,6,8,9,10,11,12,36,37,38,39,40,41,42,43,44,45,46,47,48,49,50] [0,1,2,3,4,5,6,7,8,9,10] (fun i=>[(51,.int .i64 (i : Int))]) (fun i=>[(some b6,3,intCells .i64 (nvI (negI p m) N E.1 E.2 k i)),(r.bo,22,r.cs),(some b3,67,[.int .i64 0,.slice none 0 0]),(some b2,67,[.int .i64 N,.slice ps rows.length c]),(some b1,24,[.int .i64 p,.int .i64 m,.slice pm nm cm])]) (fun _=>[]) (fun i=>i ≤ E.2.length) (fun i=>E.2.length - i) 0 [] rfl rfl rfl (Nat.zero_le _) (by repeat (first | exact Fr.sub_nil _ | refine Fr.sub_cons rfl ?_)) rfl rfl ?_
   rintro i hi ih
   simp only [List.cons_append,List.nil_append] at hi ih ⊢
   have hple:=hred.piv_le
   by_cases h9 : i < E.2.length
   ·obtain ⟨a,ha⟩ : ∃ a,E.2[i]? = some a:=⟨_,List.getElem?_eq_getElem h9⟩
    have at_a : (toI E.2)[i]? = some (a : Int):=by rw [toI,List.getElem?_map,ha];rfl
    obtain ⟨u,at_u⟩ : ∃ u,E.1[i]? = some u:=⟨_,List.getElem?_eq_getElem (by omega)⟩
    have hu:=hred.mat u (List.mem_of_getElem? at_u)
    have hul:=hu.1
    have hen : at0 u k = en E.1 i k:=by rw [en,row0,List.getD_eq_getElem?_getD,at_u];rfl
    have at_y : u[k]? = some (en E.1 i k):=by
     rw [← hen,at0,List.getD_eq_getElem?_getD,List.getElem?_eq_getElem (by omega)];rfl
    obtain ⟨y0,y1⟩:=hu.2 _ (List.mem_of_getElem? at_y)
    have haN:=hred.ech.lt a (List.mem_of_getElem? ha)
    have ih':=ih (i + 1) (by omega) (by omega)
    rw [← nvI_set hred hm ha] at ih'
    have hln:=nvI_len (N:=negI p m) (n:=N) (c:=k) (i:=i) (R:=E.1) (P:=E.2)
    generalize nvI (negI p m) N E.1 E.2 k i = L at *
    refine wk 7 cz ?_
    intro h3 b7 o1 hz1
    refine j_step rfl (x_ld_int 0 rfl rfl ld3 fun ⟨r1,r2⟩=>?_)
    refine wk 7 cz ?_
    intro b8 o2 hz2 pa1 ca1 b9 o3 hz3
    refine j_step rfl (x_ld_int 0 rfl rfl ld3 fun ⟨r3,r4⟩=>?_)
    refine wk 6 (ct @c_field_GF__Neg cz) ?_
    exact tw (ih')
   ·obtain rfl : i = E.2.length:=by omega
    rw [nvI_all]
    clear ih
    have hnw:=O.null_wd hred k
    have hnr : ∀ z ∈ nullV (negI p m) N E.1 E.2 k,InR .i64 z:=fun z hz=>by
     have:=hnw.2 z hz
     simp only [InR];omega
    have hnl : (nullV (negI p m) N E.1 E.2 k).length = N:=hnw.1
    generalize nullV (negI p m) N E.1 E.2 k = T at *
    refine wk 3 cz ?_
    refine j_rowInt 0 rfl hnl.symm hnr (by omega) ?_
    refine wk 4 cz ?_
    intro h3 b7
    refine j_pubRb 1 0 rfl rfl (by show (N) * 8 ≤ 140737488355328;omega) ?_
    refine j_step rfl (x_appR (z:=T) 1 0 2 rfl rfl rfl rfl rfl sl25 zo25e rfl (fun w A hG=>(rd_of_slF (hG _ (fact_mem (n:=0) rfl)))) (by omega) _ by25e (by omega) fun r1=>?_)
    refine wk 4 cz ?_
    refine j_toM [true,false,true,true,true] [0,4,5,6,7,8,9,10,11,12,13] (by exact fra rfl) rfl rfl (ih' r1)
 ·obtain rfl : k = N:=by omega
  have:=hnk k
  refine j_pubR 0 0 rfl rfl (by show (nvK (negI p m) k E k).length * 24 ≤ 140737488355328;omega) ?_
  refine j_nf [_,_,_,_,_] rfl ?_
  refine j_run it 1 rfl (by simp) ?_
  refine j_nf [_,_,_,_,_] rfl ?_
  refine j_if rfl rfl (fun h2=>by exfalso;omega) (fun h2=>?_)
  refine j_nf [_,_] rfl ?_
  refine j_run it 2 rfl (by simp) ?_
  refine j_step rfl (x_field rfl fd67_0 ?_)
  refine j_step rfl (x_bld 1 rfl rfl ld3 rfl ?_)
  refine j_step rfl (x_call [5,7,8,0] rfl (c_matrix_canon (by omega) (by omega) (by omega)) rfl ?_)
  rintro _ _ _ ⟨pb2,pp2,cb2,cp2,rfl,rfl,rfl⟩
  simp only [List.cons_append,List.nil_append]
  refine j_run it 4 rfl (by simp) ?_
  refine j_nf [_,_] rfl ?_
  refine j_step rfl (x_field rfl fd67_0 ?_)
  refine j_step rfl (x_bld 1 rfl rfl ld3 rfl ?_)
  refine j_run it 1 rfl (by simp) ?_
  refine j_step rfl (x_build (cs:=[Value.int IntKind.i64 ↑k,Value.slice pb2 (cnP p m md k (nvK (negI p m) k E k)).snd.length cb2]) st67 zo67 rfl rfl ?_)
  refine j_step rfl (x_bst_all 0 rfl rfl rfl ld67 rfl rfl (by simp [Value.oneCell']) ?_)
  refine j_run it 1 rfl (by simp) ?_
  refine j_nf [_] rfl ?_
  refine j_givC [0] rfl (.agg 0 rfl rfl ld67 rfl (.tmp rfl .nil)) rfl ⟨_,_,rfl,rfl,rfl⟩
theorem op_two {q : Nat} {z y : Int × List (List Int)} (h : mtE z.1 z.2 q = 0) (h2 : mtE y.1 y.2 q = 0) : opE q [z,y] = 0:=by
 rw [opE,if_pos h];exact op_one h2
theorem S_matrix_Mul_ok {p m n c n2 c2 nm cm k N : Nat} {pm ps p2 : Option Addr} {md : List Int} {a rows : List (List Int)} (K : Fok p m md) (hN : N ≤ 256) (hl : rows.length ≤ 256) (hM : Mat (p ^ m) N rows) (hal : a.length ≤ 256) (hk : rows.length = k) (ha : Mat (p ^ m) k a) :
  Ctr Tryz.prog 133 [.agg #[.int .i64 p,.int .i64 m,.slice pm nm cm],.agg #[.int .i64 k,.slice p2 n2 c2],.agg #[.int .i64 N,.slice ps n c]] [] [slF I64 pm nm cm md,slF (encSl I64) p2 n2 c2 a,slF (encSl I64) ps n c rows]
   (fun v Φ β=>∃ (pb : Option Addr) (cb : Nat),v = .tuple #[.agg #[.int .i64 N,.slice pb a.length cb],.int .i64 0] ∧ Φ = [slF (encSl I64) pb a.length cb (a.map fun x=>cbP p m md N x rows)] ∧ β = []):=by
 refine Ctr_of_j' (F:=F_matrix_Mul) rfl fun C=>?_
 have O:=fok_fo K
 have hq:=K.q
 subst hk
 refine j_len 1 rfl fun hn hb _=>?_
 subst hn
 refine j_len 2 rfl fun hn hb2 _=>?_
 subst hn
 have hb' : a.length * 24 ≤ 140737488355328:=hb
 have hb2' : rows.length * 24 ≤ 140737488355328:=hb2
 have c_matrix_open:=fun {pm ps : Option Addr} {nm cm n c : Nat}=>S_matrix_open_ok (pm:=pm) (nm:=nm) (cm:=cm) (ps:=ps) (n:=n) (c:=c) (Ms:=[((rows.length : Int),a),((N : Int),rows)]) K (fun z hz=>by
  rcases List.mem_cons.1 hz with rfl | hz
  ·simp only [InR];omega
  ·rw [List.mem_singleton.1 hz];simp only [InR];omega) (op_two (mtE_ok hl hal ha) (mtE_ok hN hl hM))
 refine j_nf [_,_] rfl ?_
 refine j_step rfl (x_box_agg rfl fun b1=>?_)
 refine j_step rfl (x_box_agg rfl fun b2=>?_)
 refine j_step rfl (x_box_agg rfl fun b3=>?_)
 refine j_step rfl (x_alloc zo67 fun b4=>?_)
 refine j_run it 1 rfl (by simp) ?_
 refine j_nf [_,_] rfl ?_
 refine j_step rfl (x_bld_all 3 rfl rfl ld24 rfl ?_)
 refine j_step rfl (x_bld_all 2 rfl rfl ld67 rfl ?_)
 refine j_step rfl (x_bld_all 1 rfl rfl ld67 rfl ?_)
 refine j_step rfl (x_lit sl184 zo184e rfl rfl rfl rfl (by decide) (by decide) rfl fun b5=>?_)
 refine j_pub_all (E:=MatE) (n:=2) [[Value.int IntKind.i64 ↑rows.length,Value.slice p2 a.length c2],[Value.int IntKind.i64 ↑N,Value.slice ps rows.length c]] [((↑rows.length : Int),a),((↑N : Int),rows)] 0 (fun w A hG=>(allrd_cons (rd_pair (v1:=[Value.int IntKind.i64 ↑rows.length]) (rd_int (by first | (simp only [InR];omega) | (simp [InR];done) | assumption)) (rd_of_slF (hG _ (fact_mem (n:=1) rfl)))) (allrd_cons (rd_pair (v1:=[Value.int IntKind.i64 ↑N]) (rd_int (by first | (simp only [InR];omega) | (simp [InR];done) | assumption)) (rd_of_slF (hG _ (fact_mem (n:=2) rfl)))) allrd_nil))) rfl rfl rfl rfl (by first | decide | exact Nat.le_of_ble_eq_true rfl) (by first | decide | exact Nat.le_of_ble_eq_true rfl) ?_
 refine j_step rfl (x_call [1,0] rfl (c_matrix_open) rfl ?_)
 rintro _ _ _ ⟨b6,pg1,cg1,pe1,ce1,pl1,cl1,rfl,rfl,rfl⟩
 simp only [List.cons_append,List.nil_append]
 refine j_run it 5 rfl (by simp) ?_
 refine j_nf [_,_,_] rfl ?_
 refine j_run it 2 rfl (by simp) ?_
 refine j_nf [_,_] rfl ?_
 refine j_ifn rfl rfl (fun h1=>by exfalso;omega) (fun h1=>?_)
 refine j_nf [_,_,_] rfl ?_
 refine j_step rfl (x_field rfl fd67_0 ?_)
 refine j_step rfl (x_bld 2 rfl rfl ld3 rfl ?_)
 refine j_step rfl (x_field rfl fd67_1 ?_)
 refine j_step rfl (x_bld 1 rfl rfl ld25 rfl ?_)
 refine j_step rfl (x_len sl25 rfl ?_)
 refine j_run it 1 rfl (by simp) ?_
 refine j_nf [_,_] rfl ?_
 refine j_ifn rfl rfl (fun h2=>by exfalso;omega) (fun h2=>?_)
 refine j_nf [_,_] rfl ?_
 refine j_step rfl (x_field rfl fd67_0 ?_)
 refine j_step rfl (x_bld 1 rfl rfl ld3 rfl ?_)
 refine j_step rfl (x_build (cs:=[Value.int IntKind.i64 ↑N,Value.slice none 0 0]) st67 zo67 rfl rfl ?_)
 refine j_step rfl (x_alloc zo67 fun b7=>?_)
 refine j_step rfl (x_bst_all 0 rfl rfl rfl ld67 rfl rfl (by simp [Value.oneCell']) ?_)
 refine j_nf [_,_,_] rfl ?_
 refine j_step rfl (x_field rfl fd67_1 ?_)
 refine j_step rfl (x_bld 3 rfl rfl ld25 rfl ?_)
 refine j_step rfl (x_len sl25 rfl ?_)
 refine j_run it 1 rfl (by simp) ?_
 refine j_nf [_,_,_] rfl ?_
 refine j_row0 (encSl I64) 22 ?_
 refine j_loopG (X:=Nat × Row) [5,6,7,8,10,36,37] [0,1,2,3,4,5,6,7,8] (fun x=>[(38,.int .i64 (x.1 : Int))]) (fun x=>[(x.2.bo,22,x.2.cs),(some b7,67,[.int .i64 N,.slice (ad x.2.bo) x.1 x.2.cap]),(some b4,67,[.int .i64 0,.slice none 0 0]),(some b3,67,[.int .i64 N,.slice ps rows.length c]),(some b2,67,[.int .i64 (rows.length : Nat),.slice p2 a.length c2]),(some b1,24,[.int .i64 p,.int .i64 m,.slice pm nm cm])]) (fun x=>[rowF (encSl I64) x.2 x.1 ((a.take x.1).map fun x=>cbP p m md N x rows)]) (fun x=>x.1 ≤ a.length) (fun x=>a.length - x.1) (0,⟨none,0,[]⟩) [0] rfl rfl rfl (Nat.zero_le _) (by repeat (first | exact Fr.sub_nil _ | refine Fr.sub_cons rfl ?_)) rfl rfl ?_
 rintro ⟨k,r⟩ hk ih
 simp only [List.cons_append,List.nil_append] at hk ih ⊢
 by_cases h8 : k < a.length
 ·obtain ⟨u,at_u⟩ : ∃ u,a[k]? = some u:=⟨_,List.getElem?_eq_getElem h8⟩
  have hu:=ha u (List.mem_of_getElem? at_u)
  have ih':=fun r=>ih (k + 1,r) (by dsimp only;omega) (by dsimp only;omega)
  simp only [List.take_add_one,at_u,Option.toList_some,List.map_append,List.map_cons,List.map_nil] at ih'
  clear ih
  have hN6 : N ≤ 1000000:=by omega
  have c_matrix_vec:=fun {b ng cg ce cl nx cx c : Nat} {pg pe pl px ps : Option Addr}=>S_matrix_vec (b:=b) (ng:=ng) (cg:=cg) (ce:=ce) (cl:=cl) (pg:=pg) (pe:=pe) (pl:=pl) (nx:=nx) (cx:=cx) (px:=px) (ps:=ps) (n:=rows.length) (c:=c) (x:=u) (rows:=rows) K hN6 hM hu |>.pubR (by show N * 8 ≤ 140737488355328;omega)
  refine wk 9 cz ?_
  intro h3 b8 o1 hz1 pa1 ca1
  (apply j_drawK it mx 10;(· rfl);(· rfl))
  (apply lxk_eq;(· rfl);(· exact d_x fun _=>x_field rfl fd67_1 dk_eq))
  (apply lxk_eq;(· rfl);(· exact d_bld 1 rfl rfl ld25 rfl))
  (apply lxk_run 2;(· rfl);(· simp))
  (apply lxk_eq;(· rfl);(· exact d_x fun _=>x_field rfl fd67_1 dk_eq))
  (apply lxk_eq;(· rfl);(· exact d_bld 3 rfl rfl ld25 rfl))
  (apply lxk_eq;(· rfl);(· exact d_x fun _=>x_field rfl fd67_0 dk_eq))
  (apply lxk_eq;(· rfl);(· exact d_bld 3 rfl rfl ld3 rfl))
  (apply lxk_sl;(· rfl);(· exact d_x fun _=>x_call [4,6,7,0,11] rfl (c_matrix_vec) rfl (by rintro _ _ _ ⟨pa2,ca2,rfl,rfl,rfl⟩;exact (dk_sl 0 rfl)));intro pa2 ca2)
  (apply lxk_sl;(· rfl);(· exact d_x fun _=>x_lit sl25 zo25e rfl rfl rfl rfl (by decide) (by decide) rfl fun b9=>dk_all (E:=(encSl (I64))) [[Value.slice pa2 N ca2]] [cbP p m md N u rows] (fun w A hG=>(allrd_cons (rd_of_slF (hG _ (fact_mem (n:=0) rfl))) allrd_nil)) rfl rfl rfl (by first | decide | exact Nat.le_of_ble_eq_true rfl));intro pa3 ca3)
  refine lxk_end rfl ?_
  simp only [List.map_cons,List.map_nil,List.cons_append,List.nil_append]
  refine j_step rfl (x_appS 0 4 0 rfl rfl rfl rfl rfl sl25 zo25e rfl (by omega) _ by25e (by omega) fun r1=>?_)
  refine wk 5 cz ?_
  exact tw (ih' r1)
 ·obtain rfl : k = a.length:=by omega
  rw [List.take_length]
  refine j_pubR 0 0 rfl rfl (by show a.length * 24 ≤ 140737488355328;omega) ?_
  refine wk 9 cz ?_
  intro h3
  refine j_givC [0] rfl (.agg 1 rfl rfl ld67 rfl (.tmp rfl .nil)) rfl ⟨_,_,rfl,rfl,rfl⟩
def trL (N : Nat) (rows : List (List Int)) : List (List Int):=(List.range N).map (colL rows)
theorem S_matrix_Transpose_ok {p m n c nm cm N : Nat} {pm ps : Option Addr} {md : List Int} {rows : List (List Int)} (K : Fok p m md) (hN : N ≤ 256) (hl : rows.length ≤ 256) (hM : Mat (p ^ m) N rows) :
  Ctr Tryz.prog 131 [.agg #[.int .i64 p,.int .i64 m,.slice pm nm cm],.agg #[.int .i64 N,.slice ps n c]] [] [slF I64 pm nm cm md,slF (encSl I64) ps n c rows]
   (fun v Φ β=>∃ (pb : Option Addr) (cb : Nat),v = .tuple #[.agg #[.int .i64 (rows.length : Nat),.slice pb N cb],.int .i64 0] ∧ Φ = [slF (encSl I64) pb N cb (trL N rows)] ∧ β = []):=by
 refine Ctr_of_j' (F:=F_matrix_Transpose) rfl fun C=>?_
 have O:=fok_fo K
 have hq:=K.q
 refine j_len 1 rfl fun hn hb _=>?_
 subst hn
 have hb' : rows.length * 24 ≤ 140737488355328:=hb
 have c_matrix_open:=fun {pm ps : Option Addr} {nm cm n c : Nat}=>S_matrix_open_ok (pm:=pm) (nm:=nm) (cm:=cm) (ps:=ps) (n:=n) (c:=c) (Ms:=[((N : Int),rows)]) K (fun z hz=>by rw [List.mem_singleton.1 hz];simp only [InR];omega) (op_one (mtE_ok hN hl hM))
 refine wk 9 cz ?_
 intro b1 b2 b3 b4
 refine j_pub_all (E:=MatE) (n:=1) [[Value.int IntKind.i64 ↑N,Value.slice ps rows.length c]] [((↑N : Int),rows)] 0 (fun w A hG=>(allrd_cons (rd_pair (v1:=[Value.int IntKind.i64 ↑N]) (rd_int (by first | (simp only [InR];omega) | (simp [InR];done) | assumption)) (rd_of_slF (hG _ (fact_mem (n:=1) rfl)))) allrd_nil)) rfl rfl rfl rfl (by first | decide | exact Nat.le_of_ble_eq_true rfl) (by first | decide | exact Nat.le_of_ble_eq_true rfl) ?_
 refine wk 7 (ct @c_matrix_open cz) ?_
 intro b5 pg1 cg1 pe1 ce1 pl1 cl1 h1
 (apply j_drawK it mx 8;(· rfl);(· rfl))
 (apply lxk_eq;(· rfl);(· exact d_x fun _=>x_field rfl fd67_1 dk_eq))
 (apply lxk_eq;(· rfl);(· exact d_bld 1 rfl rfl ld25 rfl))
 (apply lxk_eq;(· rfl);(· exact d_x fun _=>x_len sl25 rfl dk_eq))
 (apply lxk_eq;(· rfl);(· exact d_x fun _=>x_field rfl fd67_0 dk_eq))
 (apply lxk_eq;(· rfl);(· exact d_bld 1 rfl rfl ld3 rfl))
 (apply lxk_make (N) _;(· rfl);(· rfl);(· rfl);(· exact sl25);(· exact zo25e);(· rfl);(· rfl);(· exact by25e);(· rfl);(· omega);(· omega);intro b6)
 (apply lxk_pv [25,28] (fun vs=>Value.agg ((fillL ([(0,1),(1,1)]) ([Value.int IntKind.i64 0,Value.slice none 0 0]) [(0,cellsL (vs.getD 0 undef)),(1,cellsL (vs.getD 1 undef))]).getD []).toArray) (v:=Value.agg #[Value.int IntKind.i64 ↑rows.length,Value.slice (some { block:=b6,off:=0 }) N N]);(· rfl);(· rfl);(· rfl);(· rfl);(· exact d_x fun _=>x_build (cs:=[Value.int IntKind.i64 ↑rows.length,Value.slice (some { block:=b6,off:=0 }) N N]) st67 zo67 rfl rfl dk_eq))
 (apply lxk_alloc;(· rfl);(· exact zo67);intro b7)
 refine lxk_end rfl ?_
 simp only [List.map_cons,List.map_nil,List.cons_append,List.nil_append]
 refine wk 7 cz ?_
 simp only [setB]
 refine j_hd0 1 rfl (by omega) fun csA=>?_
 refine j_famNil I64 3 0 ?_
 simp only [setB,List.cons_append,List.nil_append]
 refine j_matCongr (row0 (trL N rows)) 0 rfl (fun g hg=>absurd hg (Nat.not_lt_zero g)) ?_
 simp only [List.eraseIdx_cons_zero,List.cons_append,List.nil_append]
 have htl : (trL N rows).length = N:=by simp [trL]
 have hta : ∀ j,j < N → row0 (trL N rows) j = colL rows j:=fun j hj=>by
  rw [row0,trL,List.getD_eq_getElem?_getD,List.getElem?_map,List.getElem?_range hj];rfl
 refine j_loopG (X:=Nat × List Value × (Nat → Hd) × (Nat → List Value)) [3,4,5,8,32] [0,1,2,3,4,5,6,7,8,9] (fun x=>[(33,.int .i64 (x.1 : Int))])
  (fun x=>(some b7,67,[.int .i64 (rows.length : Nat),.slice (some ⟨b6,0,none⟩) N N])::(some b6,22,x.2.1)::(some b3,67,[.int .i64 0,.slice none 0 0])::(some b2,67,[.int .i64 N,.slice ps rows.length c])::(some b1,24,[.int .i64 p,.int .i64 m,.slice pm nm cm])::famB 3 x.2.2.1 x.2.2.2 x.1 [])
  (fun x=>[rowF hdE ⟨some b6,N,x.2.1⟩ N (hdl x.2.2.1 N),matF I64 x.2.2.1 x.2.2.2 (row0 (trL N rows)) x.1 []])
  (fun x=>x.1 ≤ N) (fun x=>N - x.1) (0,csA,fun _=>(none,0,0),fun _=>[]) [2,0] rfl rfl rfl (Nat.zero_le _) (by repeat (first | exact Fr.sub_nil _ | refine Fr.sub_cons rfl ?_)) rfl rfl ?_
 rintro ⟨k,hc,hd,cs⟩ hk ih
 simp only [List.cons_append,List.nil_append] at hk ih ⊢
 by_cases hkl : k < N
 ·refine wk 7 cz ?_
  intro h2
  (apply j_drawK it mx 7;(· rfl);(· rfl))
  (apply lxk_eq;(· rfl);(· exact d_x fun _=>x_field rfl fd67_1 dk_eq))
  (apply lxk_eq;(· rfl);(· exact d_bld 0 rfl rfl ld25 rfl))
  (apply lxk_run 1;(· rfl);(· simp))
  (apply lxk_eq;(· rfl);(· exact d_x fun _=>x_field rfl fd67_1 dk_eq))
  (apply lxk_eq;(· rfl);(· exact d_bld 3 rfl rfl ld25 rfl))
  (apply lxk_eq;(· rfl);(· exact d_x fun _=>x_len sl25 rfl dk_eq))
  (apply lxk_make (rows.length) _;(· rfl);(· rfl);(· rfl);(· exact sl22);(· exact zo22e);(· rfl);(· rfl);(· exact by22e);(· rfl);(· omega);(· omega);intro b8)
  refine lxk_end rfl ?_
  simp only [List.map_cons,List.map_nil,List.cons_append,List.nil_append]
  refine wk 1 cz ?_
  refine j_step rfl (x_stR (vs:=[Value.slice (some { block:=b8,off:=0 }) rows.length rows.length]) (z:=(some b8,rows.length,rows.length)) 2 0 (k) rfl rfl rfl rfl rfl ld22 (Nat.mul_one _).symm (by omega) (fun w A hG=>(rd_hd (some _) _ _)) fun cs1=>?_)
  refine wk 6 cz ?_
  simp only [setB]
  rw [hdl_set]
  have hz : (hdl (upd hd k (some b8,rows.length,rows.length)) N)[k]? = some (some b8,rows.length,rows.length):=by
   rw [hdl,List.getElem?_map,List.getElem?_range hkl,Option.map_some,upd_self]
  have hTl : (colL rows k).length = rows.length:=List.length_map _
  have hTa : ∀ (i : Nat) (x : List Int),rows[i]? = some x → (colL rows k)[i]? = some (at0 x k):=fun i x h=>by rw [colL,List.getElem?_map,h];rfl
  have hTr : ∀ z ∈ colL rows k,InR .i64 z:=fun z hz=>by
   have:=(wd_col (by have:=O.q2;omega) hM k).2 z hz
   simp only [InR];omega
  rw [make_int,show List.replicate rows.length (0 : Int) = (colL rows k).take 0++List.replicate (rows.length - 0) 0 by simp]
  refine j_loopG (X:=Nat) [3,4,5,8,9,32,33,34,35,36,37,38,39,40,41,42,43,44,45,46] [0,1,2,3,4,5,6,7,8,9,10,11,12] (fun i=>[(47,.int .i64 (i : Int))]) (fun i=>(some b8,3,intCells .i64 ((colL rows k).take i++List.replicate (rows.length - i) 0))::(some b7,67,[.int .i64 (rows.length : Nat),.slice (some ⟨b6,0,none⟩) N N])::(some b6,22,cs1)::(some b3,67,[.int .i64 0,.slice none 0 0])::(some b2,67,[.int .i64 N,.slice ps rows.length c])::(some b1,24,[.int .i64 p,.int .i64 m,.slice pm nm cm])::famB 3 hd cs k []) (fun _=>[]) (fun i=>i ≤ rows.length) (fun i=>rows.length - i) 0 [] rfl rfl rfl (Nat.zero_le _) (by repeat (first | exact Fr.sub_nil _ | refine Fr.sub_cons rfl ?_)) rfl rfl ?_
  rintro i hi ihi
  simp only [List.cons_append,List.nil_append] at hi ihi ⊢
  by_cases h9 : i < rows.length
  ·obtain ⟨x,at_x⟩ : ∃ x,rows[i]? = some x:=⟨_,List.getElem?_eq_getElem h9⟩
   have hx:=hM x (List.mem_of_getElem? at_x)
   have hT:=hTa i x at_x
   have hxl:=hx.1
   have at_y : x[k]? = some (at0 x k):=by
    rw [at0,List.getD_eq_getElem?_getD,List.getElem?_eq_getElem (by omega)];rfl
   have ih':=ihi (i + 1) (by omega) (by omega)
   rw [← take_set hT h9] at ih'
   have hln : ((colL rows k).take i++List.replicate (rows.length - i) 0).length = rows.length:=by rw [List.length_append,List.length_take,List.length_replicate];omega
   generalize (colL rows k).take i++List.replicate (rows.length - i) 0 = L at *
   refine wk 16 cz ?_
   intro h3 b9 o1 hz1 pa1 ca1 b10 o2
   exact tw (ih')
  ·obtain rfl : i = rows.length:=by omega
   rw [Nat.sub_self,List.replicate_zero,List.append_nil,List.take_of_length_le (by omega)]
   clear ihi
   refine wk 3 cz ?_
   refine j_rowInt 0 rfl hTl.symm hTr (by omega) ?_
   refine j_push 5 0 0 3 rfl rfl rfl rfl ?_
   simp only [List.eraseIdx_cons_zero,List.eraseIdx_cons_succ,List.take_succ_cons,List.take_zero,List.cons_append,List.nil_append]
   refine j_matCongr (row0 (trL N rows)) 0 rfl (fun g hg=>by
    by_cases e : g = k
    ·subst e
     rw [upd_self,hta g hkl]
    ·rw [upd_ne e]) ?_
   refine wk 4 cz ?_
   intro h3
   exact tw (ih (k + 1,cs1,upd hd k (some b8,rows.length,rows.length),upd cs k (intCells .i64 (colL rows k))) (by dsimp only;omega) (by dsimp only;omega))
 ·obtain rfl : N = k:=by omega
  refine wk 3 cz ?_
  refine j_hdlen 1 rfl fun hlen=>?_
  refine j_pubFamL 5 1 0 1 rfl rfl rfl rfl (fun i hi=>by rw [hlen i hi rfl,hta i hi,List.length_map];show rows.length * 8 ≤ _;omega) ?_
  simp only [List.take_succ_cons,List.take_zero]
  rw [show (List.range N).map (row0 (trL N rows)) = trL N rows from by
   refine List.ext_getElem (by rw [List.length_map,List.length_range,htl]) fun i h1 h2=>?_
   rw [List.getElem_map,List.getElem_range,row0,List.getD_eq_getElem?_getD,List.getElem?_eq_getElem h2];rfl]
  refine j_pubR 1 0 rfl rfl (by show N * 24 ≤ 140737488355328;omega) ?_
  simp only [List.eraseIdx_cons_zero,List.eraseIdx_cons_succ]
  refine wk 6 cz ?_
  intro h2
  refine j_givC [0] rfl (.agg 1 rfl rfl ld67 rfl (.tmp rfl .nil)) rfl ⟨_,_,rfl,rfl,rfl⟩
theorem othL_mem {n : Nat} {ls : List (List Int)} {x : Int} : x ∈ othL n ls ↔ (0 ≤ x ∧ x < n) ∧ ∀ l ∈ ls,x ∉ l:=by
 rw [othL,List.mem_map]
 constructor
 ·rintro ⟨i,hi,rfl⟩
  obtain ⟨h1,h2⟩:=List.mem_filter.1 hi
  refine ⟨⟨by omega,by have:=List.mem_range.1 h1;omega⟩,fun l hl hx=>?_⟩
  rw [othB,List.any_eq_true.2 ⟨l,hl,decide_eq_true hx⟩] at h2
  cases h2
 ·rintro ⟨⟨h0,h1⟩,h2⟩
  refine ⟨x.toNat,List.mem_filter.2 ⟨List.mem_range.2 (by omega),?_⟩,by omega⟩
  rw [othB]
  cases h : ls.any fun l=>decide (((x.toNat : Nat) : Int) ∈ l) with
  | false=>rfl
  | true =>
   obtain ⟨l,hl,hx⟩:=List.any_eq_true.1 h
   rw [Int.toNat_of_nonneg h0] at hx
   exact absurd (of_decide_eq_true hx) (h2 l hl)
theorem othL_len (n : Nat) (ls : List (List Int)) : (othL n ls).length ≤ n:=by
 rw [othL,List.length_map];have:=List.length_filter_le (othB ls) (List.range n);rwa [List.length_range] at this
theorem othL_st (n : Nat) (ls : List (List Int)) : stP n (othL n ls):=by
 refine ⟨fun x hx=>(othL_mem.1 hx).1,?_⟩
 rw [othL,List.pairwise_map]
 refine List.Pairwise.sublist List.filter_sublist ?_
 refine List.pairwise_lt_range.imp fun h=>?_
 omega
theorem trL_col {rows : List (List Int)} {O : List Int} : trL O.length (rows.map fun r=>O.map fun j=>at0 r j.toNat) = O.map fun j=>colL rows j.toNat:=by
 refine List.ext_getElem (by simp [trL]) fun i h1 h2=>?_
 have hi : i < O.length:=by simpa using h2
 simp only [trL,List.getElem_map,List.getElem_range,colL,List.map_map]
 refine List.map_congr_left fun r _=>?_
 show at0 (O.map fun j=>at0 r j.toNat) i = at0 r O[i].toNat
 rw [at0,List.getD_eq_getElem?_getD,List.getElem?_map,List.getElem?_eq_getElem hi];rfl
abbrev wiP (p m : Nat) (md : List Int) (n : Nat) (gen : List (List Int)) (hs : List Int) : List (List Int):=wiL (liftI (fA p m)) (liftI (fM p (fpo m md))) (negI p m) (invI p m md) n gen (hs.map fun j=>colL gen j.toNat)
theorem cnP_len {p m n : Nat} {md : List Int} {rows : List (List Int)} (K : Fok p m md) (hM : Mat (p ^ m) n rows) : (cnP p m md n rows).1.length = (cnP p m md n rows).2.length ∧ (cnP p m md n rows).2.length ≤ n:=by
 have O:=fok_fo K
 have h1 : Red (p ^ m) n (cnP p m md n rows).1 (cnP p m md n rows).2:=(O.cn hM).1
 exact ⟨O.cn_len hM,h1.piv_le⟩
theorem nuP_len {p m n : Nat} {md : List Int} {rows : List (List Int)} (K : Fok p m md) (hM : Mat (p ^ m) n rows) : (nuP p m md n rows).length ≤ n:=by
 have O:=fok_fo K
 have h1 : Mat (p ^ m) n (nvL (negI p m) n (cnP p m md n rows)):=O.nv_mat (O.cn hM).1
 obtain ⟨h2,h3⟩:=cnP_len K h1
 show (cnP p m md n (nvL (negI p m) n (cnP p m md n rows))).1.length ≤ n
 omega
theorem S_space_Supported_ok {p m n c nm cm N ns cs' : Nat} {pm ps pt : Option Addr} {md set : List Int} {rows : List (List Int)} (CC : Cok p m md N rows) (hst : stP N set) :
  Ctr Tryz.prog 98 [.agg #[.int .i64 p,.int .i64 m,.slice pm nm cm],.agg #[.int .i64 N,.slice ps n c],.slice pt ns cs'] [] [slF I64 pm nm cm md,slF (encSl I64) ps n c rows,slF I64 pt ns cs' set]
   (fun v Φ β=>∃ (pb : Option Addr) (cb : Nat),v = .tuple #[.agg #[.int .i64 N,.slice pb (wiP p m md N rows (othL N [set])).length cb],.int .i64 0] ∧ Φ = [slF (encSl I64) pb (wiP p m md N rows (othL N [set])).length cb (wiP p m md N rows (othL N [set]))] ∧ β = []):=by
 refine Ctr_of_j' (F:=F_space_Supported) rfl fun C=>?_
 have K:=CC.K
 have O:=fok_fo K
 have hq:=K.q
 have hN : N ≤ 256:=by have:=CC.n64;omega
 have hl : rows.length ≤ 256:=by have:=CC.len;omega
 have hM:=CC.mat
 refine j_len 1 rfl fun hn hb _=>?_
 subst hn
 refine j_len 2 rfl fun hn hb2 _=>?_
 subst hn
 have hb' : rows.length * 24 ≤ 140737488355328:=hb
 have hb2' : set.length * 8 ≤ 140737488355328:=hb2
 have c_space_open:=fun {pm ps : Option Addr} {nm cm n c : Nat}=>S_space_open_ok (pm:=pm) (nm:=nm) (cm:=cm) (ps:=ps) (n:=n) (c:=c) (rows:=rows) K hN hl hM CC.can
 refine wk 22 (ct @c_space_open cz) ?_
 intro b1 b2 b3 b4 pg1 cg1 pe1 ce1 pl1 cl1 pp1 cp1 b5 h1
 refine j_loopG (X:=Nat) [2,3,4,6,30,31] [0,1,2,3,4,5,6,7] (fun i=>[(32,.int .i64 (i : Int))]) (fun _=>_) (fun _=>[]) (fun i=>i ≤ set.length) (fun i=>set.length - i) 0 [] rfl rfl rfl (Nat.zero_le _) (by repeat (first | exact Fr.sub_nil _ | refine Fr.sub_cons rfl ?_)) rfl rfl ?_
 rintro i hi ih
 simp only [List.cons_append,List.nil_append] at hi ih ⊢
 by_cases h9 : i < set.length
 ·obtain ⟨x,at_x⟩ : ∃ x,set[i]? = some x:=⟨_,List.getElem?_eq_getElem h9⟩
  obtain ⟨⟨x0,x1⟩,x2⟩:=stP_iff.1 hst i h9 x at_x
  rcases Nat.eq_zero_or_pos i with hi0 | hi0
  ·subst hi0
   refine wk 21 cz ?_
   intro h2 b6 o1 hz1 _ r1 r2 h3
   refine j_split_dec (t:=45) rfl (fun h4=>by exfalso;omega) (fun h4=>?_)
   refine wk 6 cz ?_
   exact tw (ih 1 (by omega) (by omega))
  ·obtain ⟨k,rfl⟩ : ∃ k,i = k + 1:=⟨i - 1,by omega⟩
   obtain ⟨y,at_y⟩ : ∃ y,set[k]? = some y:=⟨_,List.getElem?_eq_getElem (by omega)⟩
   have hxy:=x2 y (by omega) at_y
   refine j_nf [_,_,_,_,_] rfl ?_
   refine j_run it 1 rfl (by simp) ?_
   refine j_nf [_,_,_,_,_] rfl ?_
   refine j_if rfl rfl (fun h2=>?_) (fun h2=>by exfalso;omega)
   refine j_nf [_,_,_,_,_,_,_] rfl ?_
   refine j_run it 1 rfl (by simp) ?_
   refine j_step rfl (x_idx 7 (k + 1) rfl rfl rfl sl22 rfl (by omega) fun z1 hz1 b6 o1=>?_)
   obtain rfl : _ = z1:=Option.some.inj (at_x.symm.trans hz1)
   refine j_step rfl (x_ld_int 0 rfl rfl ld3 fun ⟨r1,r2⟩=>?_)
   refine j_run it 2 rfl (by simp) ?_
   refine j_nf [_,_,_,_,_,_,_] rfl ?_
   refine j_run it 3 rfl (by simp) ?_
   refine j_split_dec (t:=39) rfl (fun h3=>by exfalso;omega) (fun h3=>?_)
   refine j_run it 1 rfl (by simp) ?_
   refine j_gstep rfl rfl (x_field rfl fd67_0 ?_)
   refine j_gstep rfl rfl (x_bld 2 rfl rfl ld3 rfl ?_)
   refine j_run it 3 rfl (by simp) ?_
   refine j_split_dec (t:=45) rfl (fun h4=>by exfalso;omega) (fun h4=>?_)
   refine j_run it 3 rfl (by simp) ?_
   refine j_split_dec (t:=48) rfl (fun h5=>?_) (fun h5=>by exfalso;omega)
   refine j_run it 4 rfl ⟨⟨by omega,by omega⟩,trivial,trivial,trivial,trivial⟩ ?_
   refine j_gstep rfl rfl (x_idx 8 ((k + 1) - 1) rfl rfl rfl sl22 (by omega) (by omega) fun z1 hz2 b7 o2=>?_)
   obtain rfl : _ = z1:=Option.some.inj (at_y.symm.trans hz2)
   refine j_gstep rfl rfl (x_ld_int 0 rfl rfl ld3 fun ⟨r3,r4⟩=>?_)
   refine j_run it 3 rfl (by simp) ?_
   refine j_nf [_,_,_,_,_,_] rfl ?_
   refine j_if rfl rfl (fun h6=>by exfalso;omega) (fun h6=>?_)
   refine j_nf [_,_,_,_] rfl ?_
   refine j_run it 2 rfl ⟨trivial,⟨by omega,by omega⟩,trivial⟩ ?_
   refine j_nfn 1 [.lp (pL 116),.blk 0,.c [1,1,1]] rfl ?_
   exact tw (ih (k + 2) (by omega) (by omega))
 ·clear ih
  have hle:=fun k=>othL_len k [set]
  have hos:=othL_succ
  refine wk 11 cz ?_
  intro h2
  refine j_row0 I64 3 ?_
  refine j_loopG (X:=Nat × Row) [2,3,4,6,61] [0,1,2,3,4,5,6,7,8] (fun x=>[(62,.int .i64 (x.1 : Int)),(12,.slice (ad x.2.bo) (othL x.1 [set]).length x.2.cap)]) (fun x=>(x.2.bo,3,x.2.cs)::_) (fun x=>[rowF I64 x.2 (othL x.1 [set]).length (othL x.1 [set])]) (fun x=>x.1 ≤ N) (fun x=>N - x.1) (0,⟨none,0,[]⟩) [0] rfl rfl rfl (Nat.zero_le _) (by repeat (first | exact Fr.sub_nil _ | refine Fr.sub_cons rfl ?_)) rfl rfl ?_
  rintro ⟨k,r⟩ hk ih
  simp only [List.cons_append,List.nil_append] at hk ih ⊢
  by_cases h9 : k < N
  ·have hk1:=hle k
   have ih':=fun r=>ih (k + 1,r)
   simp only [hos] at ih'
   have hB : othB [set] k = !decide ((k : Int) ∈ set):=by simp [othB]
   by_cases hm : (k : Int) ∈ set
   ·have hd : decide ((k : Int) ∈ set) = true:=decide_eq_true hm
    rw [hB,hd,Bool.not_true,if_neg (by simp),List.append_nil] at ih'
    refine wk 15 (ct @S_slices_Contains___int_int_ cz) ?_
    intro h3
    exact tw (ih' r (by omega) (by omega))
   ·have hd : decide ((k : Int) ∈ set) = false:=decide_eq_false hm
    rw [hB,hd,Bool.not_false,if_pos rfl] at ih'
    simp only [List.length_append,List.length_singleton] at ih'
    refine wk 15 (ct @S_slices_Contains___int_int_ cz) ?_
    intro h3 b6
    refine j_step rfl (x_appR (z:=(↑k : Int)) 1 0 0 rfl rfl rfl rfl rfl sl22 zo22e rfl (fun w A hG=>(rd_int (by first | (simp only [InR];omega) | (simp [InR];done)))) (by omega) _ by22e (by omega) fun r1=>?_)
    refine wk 4 cz ?_
    refine j_toM [true,false,true,true,true,true] [0,2,3,4,5,6,7,8,9,10] (by exact fra rfl) rfl rfl (ih' r1 (by omega) (by omega))
  ·obtain rfl : k = N:=by omega
   clear ih
   have hk1:=hle k
   have hot : ∀ x ∈ othL k [set],0 ≤ x ∧ x < (k : Int):=fun x hx=>(othL_mem.1 hx).1
   generalize othL k [set] = T at *
   refine j_pubR 0 0 rfl rfl (by show T.length * 8 ≤ 140737488355328;omega) ?_
   have c_matrix_Columns:=fun {pm ps pt : Option Addr} {nm cm n c ns cs' : Nat}=>S_matrix_Columns_ok (pm:=pm) (nm:=nm) (cm:=cm) (ps:=ps) (n:=n) (c:=c) (pt:=pt) (ns:=ns) (cs':=cs') (rows:=rows) (set:=T) K hN hl hM (by omega) hot
   have hq0 : 0 < p ^ m:=by have:=O.q2;omega
   have hM1 : Mat (p ^ m) T.length (rows.map fun r=>T.map fun j=>at0 r j.toNat):=fun r hr=>by
    obtain ⟨u,hu,rfl⟩:=List.mem_map.1 hr
    refine ⟨List.length_map _,fun x hx=>?_⟩
    obtain ⟨j,_,rfl⟩:=List.mem_map.1 hx
    exact wd_at hq0 (hM u hu) _
   have c_matrix_Transpose:=fun {pm ps : Option Addr} {nm cm n c : Nat}=>S_matrix_Transpose_ok (pm:=pm) (nm:=nm) (cm:=cm) (ps:=ps) (n:=n) (c:=c) (rows:=rows.map fun r=>T.map fun j=>at0 r j.toNat) (N:=T.length) K (by omega) (by rw [List.length_map];exact hl) hM1
   simp only [trL_col,List.length_map] at c_matrix_Transpose
   have hM2 : Mat (p ^ m) rows.length (T.map fun j=>colL rows j.toNat):=fun r hr=>by
    obtain ⟨j,_,rfl⟩:=List.mem_map.1 hr
    exact wd_col hq0 hM _
   have c_matrix_Kernel:=fun {pm ps : Option Addr} {nm cm n c : Nat}=>S_matrix_Kernel_ok (pm:=pm) (nm:=nm) (cm:=cm) (ps:=ps) (n:=n) (c:=c) (rows:=T.map fun j=>colL rows j.toNat) (N:=rows.length) K hl (by rw [List.length_map];omega) hM2
   have hM3 : Mat (p ^ m) rows.length (nuP p m md rows.length (T.map fun j=>colL rows j.toNat)):=(O.nu hM2).1
   have hl3 : (nuP p m md rows.length (T.map fun j=>colL rows j.toNat)).length ≤ 256:=by
    have:=nuP_len K hM2
    omega
   have hW : woL (liftI (fA p m)) (liftI (fM p (fpo m md))) (negI p m) (invI p m md) k rows (T.map fun j=>colL rows j.toNat) = (nuP p m md rows.length (T.map fun j=>colL rows j.toNat)).map fun x=>cbP p m md k x rows:=rfl
   have hM4:=O.wo_mat (n:=k) hM hM2
   have hlen4:=(cnP_len K hM4).1
   rw [show wiP p m md k rows T = (cnP p m md k (woL (liftI (fA p m)) (liftI (fM p (fpo m md))) (negI p m) (invI p m md) k rows (T.map fun j=>colL rows j.toNat))).1 from rfl,hlen4]
   have hM4' : Mat (p ^ m) k (woL (liftI (fA p m)) (liftI (fM p (fpo m md))) (negI p m) (invI p m md) k rows (T.map fun j=>colL rows j.toNat)):=hM4
   have hl4 : (woL (liftI (fA p m)) (liftI (fM p (fpo m md))) (negI p m) (invI p m md) k rows (T.map fun j=>colL rows j.toNat)).length ≤ 256:=by rw [hW,List.length_map];exact hl3
   have c_matrix_Canonical:=fun {pm ps : Option Addr} {nm cm n c : Nat}=>S_matrix_Canonical_ok (pm:=pm) (nm:=nm) (cm:=cm) (ps:=ps) (n:=n) (c:=c) K hN hl4 hM4'
   have c_matrix_Mul:=fun {pm ps p2 : Option Addr} {nm cm n c n2 c2 : Nat}=>S_matrix_Mul_ok (pm:=pm) (nm:=nm) (cm:=cm) (ps:=ps) (n:=n) (c:=c) (p2:=p2) (n2:=n2) (c2:=c2) (N:=k) K hN hl hM hl3 rfl hM3
   rw [hW] at *
   have hMl : ((nuP p m md rows.length (T.map fun j=>colL rows j.toNat)).map fun x=>cbP p m md k x rows).length = (nuP p m md rows.length (T.map fun j=>colL rows j.toNat)).length:=List.length_map _
   clear hW hlen4 hM4 hM4' hl4 hMl
   generalize nuP p m md rows.length (T.map fun j=>colL rows j.toNat) = U at *
   generalize (T.map fun j=>colL rows j.toNat) = H at *
   refine wk 68 (ct @c_matrix_Columns (ct @c_matrix_Transpose (ct @c_matrix_Kernel (ct @c_matrix_Mul (ct @c_matrix_Canonical cz))))) ?_
   intro h3 pb1 cb1 b6 h4 pb2 cb2 pb3 cb3 b7 h5 pb4 cb4 b8 h6 pb5 pp2 cb5 cp2 b9
   refine j_givC [0] rfl (.agg 5 rfl rfl ld67 rfl (.tmp rfl .nil)) rfl ⟨_,_,rfl,rfl,rfl⟩
theorem st_ext : ∀ {l k : List Int},l.Pairwise (· < ·) → k.Pairwise (· < ·) → (∀ x,x ∈ l ↔ x ∈ k) → l = k
 | [],[],_,_,_=>rfl
 | [],y::k,_,_,h=>by have:=(h y).2 (.head _);cases this
 | x::l,[],_,_,h=>by have:=(h x).1 (.head _);cases this
 | x::l,y::k,h1,h2,h=>by
  obtain ⟨a1,a2⟩:=List.pairwise_cons.1 h1
  obtain ⟨b1,b2⟩:=List.pairwise_cons.1 h2
  have e : x = y:=by
   rcases List.mem_cons.1 ((h x).1 (.head _)) with e | hx
   ·exact e
   ·rcases List.mem_cons.1 ((h y).2 (.head _)) with e | hy
    ·exact e.symm
    ·have:=b1 x hx;have:=a1 y hy;omega
  subst e
  rw [st_ext a2 b2 fun z=>?_]
  constructor
  ·intro hz
   rcases List.mem_cons.1 ((h z).1 (.tail _ hz)) with e | hk
   ·have:=a1 z hz;omega
   ·exact hk
  ·intro hz
   rcases List.mem_cons.1 ((h z).2 (.tail _ hz)) with e | hk
   ·have:=b1 z hz;omega
   ·exact hk
theorem oth_oth {n : Nat} {hs : List Int} (h : stP n hs) : othL n [othL n [hs]] = hs:=by
 refine st_ext (othL_st n _).2 h.2 fun x=>?_
 rw [othL_mem]
 constructor
 ·rintro ⟨h0,h1⟩
  have h2:=h1 _ (.head _)
  rw [othL_mem] at h2
  refine Classical.byContradiction fun hx=>h2 ⟨h0,fun l hl=>?_⟩
  rw [List.mem_singleton.1 hl];exact hx
 ·intro hx
  refine ⟨h.1 x hx,fun l hl=>?_⟩
  rw [List.mem_singleton.1 hl,othL_mem]
  exact fun hh=>hh.2 hs (.head _) hx
def nzL (lost : List Int) (w : List Int) : Bool:=lost.any fun x=>decide (w.getD x.toNat 0 ≠ 0)
abbrev wtP (p m : Nat) (md : List Int) (n : Nat) (gen : List (List Int)) (lost hs : List Int) : Option (List Int):=(wiP p m md n gen hs).find? (nzL lost)
abbrev WtQ (n : Nat) (o : Option (List Int)) : Value → List Fact → List Blk → Prop:=fun v Φ β=>∃ (pa : Option Addr) (k ca : Nat),v = .slice pa k ca ∧ Φ = [slF I64 pa k ca (o.getD [])] ∧ β = [] ∧ (pa = none ↔ o = none) ∧ (o = none → k = 0 ∧ ca = 0)
theorem fok_fn {p m : Nat} {md : List Int} (K : Fok p m md) : FO (p ^ m) (liftI (fA p m)) (liftI (fM p (fpo m md))) (negI p m) (invI p m md):=fok_fo K
theorem hs_mat {p m n : Nat} {md : List Int} {gen : List (List Int)} (CC : Cok p m md n gen) (hs : List Int) : Mat (p ^ m) gen.length (hs.map fun j=>colL gen j.toNat):=fun r hr=>by
 have hq:=(fok_fo CC.K).q2
 obtain ⟨j,_,rfl⟩:=List.mem_map.1 hr
 exact wd_col (by omega) CC.mat _
theorem wi_len {p m n : Nat} {md : List Int} {gen : List (List Int)} (CC : Cok p m md n gen) (hs : List Int) : (wiP p m md n gen hs).length ≤ n:=by
 have h1:=(fok_fn CC.K).wo_mat (n:=n) CC.mat (hs_mat CC hs)
 obtain ⟨h2,h3⟩:=cnP_len CC.K h1
 show (cnP p m md n (woL (liftI (fA p m)) (liftI (fM p (fpo m md))) (negI p m) (invI p m md) n gen (hs.map fun j=>colL gen j.toNat))).1.length ≤ n
 omega
theorem wi_wd {p m n : Nat} {md : List Int} {gen : List (List Int)} (CC : Cok p m md n gen) (hs : List Int) : Mat (p ^ m) n (wiP p m md n gen hs):=by
 exact ((fok_fn CC.K).wi CC.mat (hs_mat CC hs)).1
theorem S_repair_witnessS {p m n c nm cm N nl cl nh ch : Nat} {pm ps pl ph : Option Addr} {md lost hs : List Int} {rows : List (List Int)} (CC : Cok p m md N rows) (hlo : stP N lost) :
  Ctr Tryz.prog 49 [.agg #[.int .i64 p,.int .i64 m,.slice pm nm cm,.int .i64 N,.slice ps n c],.slice pl nl cl,.slice ph nh ch] [] [slF I64 pm nm cm md,slF (encSl I64) ps n c rows,slF I64 pl nl cl lost,slF I64 ph nh ch hs] (WtQ N (wtP p m md N rows lost (othL N [othL N [hs]]))):=by
 refine Ctr_of_j' (F:=F_repair_witness) rfl fun C=>?_
 have hN:=CC.n64
 have hn1:=CC.n1
 have hle:=othL_len N [hs]
 have c_repair_others:=fun {ps : Option Addr} {nn c : Nat}=>(S_repair_others (ps:=ps) (nn:=nn) (c:=c) (n:=N) (ls:=[hs]) (by omega)).pubR (by show (othL N [hs]).length * 8 ≤ 140737488355328;omega)
 have c_space_Supported:=fun {pm ps pt : Option Addr} {nm cm n c ns cs' : Nat}=>S_space_Supported_ok (pm:=pm) (nm:=nm) (cm:=cm) (ps:=ps) (n:=n) (c:=c) (pt:=pt) (ns:=ns) (cs':=cs') CC (othL_st N [hs])
 have hW:=wi_wd CC (othL N [othL N [hs]])
 have hWl:=wi_len CC (othL N [othL N [hs]])
 unfold wtP
 generalize wiP p m md N rows (othL N [othL N [hs]]) = W at *
 refine wk 4 cz ?_
 intro b1
 (apply j_drawKW (x0:=none) it mx 0 17 [15] 1;(· rfl);(· rfl);(· rfl);(· decide))
 simp only [List.drop_zero]
 (apply lxk_eq;(· rfl);(· exact d_x fun _=>x_field rfl fd27_0 dk_eq))
 (apply lxk_eq;(· rfl);(· exact d_bld_agg 0 rfl rfl ld24 rfl rfl))
 (apply lxk_eq;(· rfl);(· exact d_x fun _=>x_field rfl fd27_1 dk_eq))
 (apply lxk_eq;(· rfl);(· exact d_bld 0 rfl rfl ld3 rfl))
 (apply lxk_eq;(· rfl);(· exact d_x fun _=>x_field rfl fd27_2 dk_eq))
 (apply lxk_eq;(· rfl);(· exact d_bld 0 rfl rfl ld25 rfl))
 (apply lxk_fa (val:=fun g=>Value.agg #[Value.int IntKind.i64 ↑N,Value.slice (g 1).1 (n) (g 1).2.1]) (f:=fun g=>[slF (encSl I64) (g 1).1 (n) (g 1).2.1 (rows)]);(· rfl);(· exact d_x fun _=>x_build (cs:=[Value.int IntKind.i64 ↑N,Value.slice ps n c]) st67 zo67 rfl rfl (fun _ _ _ hG=>⟨(fun | 1=>(ps,c,0,[]) | _=>default),rfl,fun g hg=>by (simp only [List.mem_cons,List.not_mem_nil,or_false] at hg;rcases hg with rfl;(· exact drop_own (hG _ (fact_mem (n:=1) rfl))))⟩));intro g1;dsimp only [List.map_cons,List.map_nil])
 (apply lxk_eq;(· rfl);(· exact d_x fun _=>x_field rfl fd27_1 dk_eq))
 (apply lxk_eq;(· rfl);(· exact d_bld 0 rfl rfl ld3 rfl))
 (apply lxk_run 1;(· rfl);(· simp))
 (apply lxk_sl;(· rfl);(· exact d_x fun _=>x_lit sl25 zo25e rfl rfl rfl rfl (by decide) (by decide) rfl fun b2=>dk_all (E:=(encSl (I64))) [[Value.slice ph nh ch]] [hs] (fun w A hG=>(allrd_cons (rd_of_slF (hG _ (fact_mem (n:=3) rfl))) allrd_nil)) rfl rfl rfl (by first | decide | exact Nat.le_of_ble_eq_true rfl));intro pa1 ca1)
 (apply lxk_sl;(· rfl);(· exact d_x fun _=>x_call [0] rfl (c_repair_others) rfl (by rintro _ _ _ ⟨pa2,ca2,rfl,rfl,rfl⟩;exact (dk_sl 0 rfl)));intro pa2 ca2)
 (apply lxk_fa (val:=(fun g=>Value.tuple #[Value.agg #[Value.int IntKind.i64 ↑N,Value.slice (g 0).fst W.length (g 1).snd.fst],Value.int IntKind.i64 0])) (f:=(fun g=>[slF (encSl I64) (g 0).fst W.length (g 1).snd.fst W]));(· rfl);(· exact d_x fun _=>x_call [3,2,0] rfl (c_space_Supported) rfl (by rintro _ _ _ ⟨pbg0,cbg1,rfl,rfl,rfl⟩;exact fun _ _ _ hG=>⟨(fun | 0=>(pbg0,0,0,[]) | 1=>(none,cbg1,0,[]) | _=>default),rfl,fun g hg=>drop_own (hG _ (List.mem_append_left _ hg))⟩));intro g2;dsimp only [List.map_cons,List.map_nil])
 (apply lxk_pv [24] (fun vs=>vs.getD 0 undef) (v:=Value.tuple #[Value.agg #[Value.int IntKind.i64 ↑N,Value.slice (g2 0).fst W.length (g2 1).snd.fst],Value.int IntKind.i64 0]);(· rfl);(· rfl);(· rfl);(· rfl);(· exact d_x fun _=>x_pv it rfl (by trivial) dk_eq))
 (apply lxk_pv [11] (fun vs=>match vs.getD 0 undef with | .tuple a=>a.getD 0 undef | _=>undef) (v:=Value.agg #[Value.int IntKind.i64 ↑N,Value.slice (g2 0).fst W.length (g2 1).snd.fst]);(· rfl);(· rfl);(· rfl);(· rfl);(· exact d_x fun _=>x_pv it rfl (by trivial) dk_eq))
 (apply lxk_eq;(· rfl);(· exact d_x fun _=>x_pv it rfl (by trivial) dk_eq))
 (apply lxk_alloc;(· rfl);(· exact zo67);intro b2)
 refine lxk_endW rfl ?_
 (rotate_left;rfl;rotate_right)
 simp only [List.map_cons,List.map_nil,List.cons_append,List.nil_append]
 refine win_step it rfl rfl ⟨⟨_,_,_,_,rfl,rfl,rfl,rfl,rfl,rfl,(by first | trivial | (repeat' first | exact trivial | apply And.intro | omega))⟩,trivial⟩ (x_bst_all 0 rfl rfl rfl ld67 rfl rfl (by simp [Value.oneCell']) ?_)
 refine win_end it ⟨⟨_,_,_,_,rfl,rfl,rfl,rfl,rfl,rfl,(by first | trivial | (repeat' first | exact trivial | apply And.intro | omega))⟩,trivial⟩ ?_
 refine wk 7 cz ?_
 refine j_loopG (X:=Nat) [1,28,29] [0,1,2,3,4,5,6,7] (fun i=>[(30,.int .i64 (i : Int))]) (fun _=>_) (fun _=>[]) (fun i=>i ≤ W.length ∧ W.find? (nzL lost) = (W.drop i).find? (nzL lost)) (fun i=>W.length - i) 0 [] rfl rfl rfl ⟨Nat.zero_le _,rfl⟩ (by repeat (first | exact Fr.sub_nil _ | refine Fr.sub_cons rfl ?_)) rfl rfl ?_
 rintro i ⟨hi,he⟩ ih
 simp only [List.cons_append,List.nil_append] at hi he ih ⊢
 by_cases h9 : i < W.length
 ·obtain ⟨w,at_w,ed⟩ : ∃ w,W[i]? = some w ∧ W.drop i = w::W.drop (i + 1):=⟨W[i],List.getElem?_eq_getElem h9,List.drop_eq_getElem_cons h9⟩
  have hw:=(hW w (List.mem_of_getElem? at_w)).1
  have hlw : ∀ x ∈ lost,0 ≤ x ∧ x < (w.length : Int):=fun x hx=>by rw [hw];exact hlo.1 x hx
  have c_repair_nonzero:=fun {pa pb : Option Addr} {na ca nb cb : Nat}=>S_repair_nonzero (pa:=pa) (pb:=pb) (na:=na) (ca:=ca) (nb:=nb) (cb:=cb) hlw
  rw [ed,List.find?_cons] at he
  cases hz : nzL lost w with
  | true =>
   rw [hz] at he
   rw [show (lost.any fun x=>decide (w.getD x.toNat 0 ≠ 0)) = true from hz] at c_repair_nonzero
   rw [he]
   refine wk 16 (ct @c_repair_nonzero cz) ?_
   intro h1 b3 o1 hz1 pa3 ca3
   refine j_slsome 0 rfl (by omega) fun b o hpa=>?_
   refine j_giv [0] rfl rfl rfl ⟨pa3,_,ca3,rfl,rfl,rfl,⟨fun h=>(by rw [hpa] at h;cases h),fun h=>(by cases h)⟩,fun h=>(by cases h)⟩
  | false =>
   rw [hz] at he
   rw [show (lost.any fun x=>decide (w.getD x.toNat 0 ≠ 0)) = false from hz] at c_repair_nonzero
   refine wk 16 (ct @c_repair_nonzero cz) ?_
   intro h1 b3 o1 hz1 pa3 ca3
   exact tw (ih (i + 1) (by omega) ⟨by omega,he⟩)
 ·rw [List.drop_of_length_le (by omega)] at he
  rw [he]
  clear ih
  refine wk 7 cz ?_
  intro h1
  refine j_add (slF I64 none 0 0 []) (fun w A _=>slF_nil I64 w A none 0) ?_
  refine j_giv [0] rfl rfl rfl ⟨none,0,0,rfl,rfl,rfl,⟨fun _=>rfl,fun _=>rfl⟩,fun _=>⟨rfl,rfl⟩⟩
noncomputable def pairE (P M : Int) (md : List Int) (N : Int) (rows : List (List Int)) (lost hs : List Int) : Int :=
 if ckE P M md N rows ≠ 0 then ckE P M md N rows else if ¬ (stP N lost ∧ stP N hs) then 5 else if (lost.any fun x=>decide (x ∈ hs)) = true then 10 else 0
theorem S_repair_witness {p m n c nm cm N nl cl nh ch : Nat} {pm ps pl ph : Option Addr} {md lost hs : List Int} {rows : List (List Int)} (CC : Cok p m md N rows) (hlo : stP N lost) (hst : stP N hs) :
  Ctr Tryz.prog 49 [.agg #[.int .i64 p,.int .i64 m,.slice pm nm cm,.int .i64 N,.slice ps n c],.slice pl nl cl,.slice ph nh ch] [] [slF I64 pm nm cm md,slF (encSl I64) ps n c rows,slF I64 pl nl cl lost,slF I64 ph nh ch hs] (WtQ N (wtP p m md N rows lost hs)):=by
 have h:=S_repair_witnessS (n:=n) (c:=c) (nm:=nm) (cm:=cm) (nl:=nl) (cl:=cl) (nh:=nh) (ch:=ch) (pm:=pm) (ps:=ps) (pl:=pl) (ph:=ph) (hs:=hs) CC hlo
 rwa [oth_oth hst] at h
theorem S_repair_sides {P M N e : Int} {n c nm cm nl cl nh ch : Nat} {pm ps pl ph : Option Addr} {md lost hs : List Int} {rows : List (List Int)} (hN : InR .i64 N) (h : pairE P M md N rows lost hs = e) :
  Ctr Tryz.prog 69 [.agg #[.int .i64 P,.int .i64 M,.slice pm nm cm,.int .i64 N,.slice ps n c],.slice pl nl cl,.slice ph nh ch] [] [slF I64 pm nm cm md,slF (encSl I64) ps n c rows,slF I64 pl nl cl lost,slF I64 ph nh ch hs] (Rv (.int .i64 e) []):=by
 refine Ctr_of_j' (F:=F_repair_sides) rfl fun C=>?_
 have hr:=ckE_rng P M md N rows
 have c_code_Check:=fun {pm ps : Option Addr} {nm cm n c : Nat}=>S_code_Check (P:=P) (M:=M) (N:=N) (md:=md) (rows:=rows) (pm:=pm) (nm:=nm) (cm:=cm) (ps:=ps) (n:=n) (c:=c) hN rfl
 rw [pairE] at h
 by_cases h0 : ckE P M md N rows = 0
 ·rw [if_neg (fun e=>e h0)] at h
  rw [h0] at c_code_Check
  by_cases h1 : stP N lost
  ·have d1 : decide (stP N lost) = true:=decide_eq_true h1
   have c_repair_set:=fun {ps : Option Addr} {nn c : Nat} {n : Int} {l : List Int} {res : Bool} (hr : decide (stP n l) = res)=>S_repair_set (ps:=ps) (nn:=nn) (c:=c) hr
   by_cases h2 : stP N hs
   ·have d2 : decide (stP N hs) = true:=decide_eq_true h2
    rw [if_neg (fun e=>e ⟨h1,h2⟩)] at h
    cases hm : (lost.any fun x=>decide (x ∈ hs)) with
    | true =>
     rw [hm,if_pos rfl] at h
     subst h
     have c_repair_meet:=fun {pa pb : Option Addr} {na ca nb cb : Nat}=>S_repair_meet (pa:=pa) (pb:=pb) (na:=na) (ca:=ca) (nb:=nb) (cb:=cb) (k:=lost) (l:=hs)
     rw [hm] at c_repair_meet
     refine wk 31 (ct @c_code_Check (ct @c_repair_set (ct @c_repair_set (ct @c_repair_meet cz)))) ?_
     intro b1 h3
     exact ge
    | false =>
     rw [hm,if_neg (by simp)] at h
     subst h
     have c_repair_meet:=fun {pa pb : Option Addr} {na ca nb cb : Nat}=>S_repair_meet (pa:=pa) (pb:=pb) (na:=na) (ca:=ca) (nb:=nb) (cb:=cb) (k:=lost) (l:=hs)
     rw [hm] at c_repair_meet
     refine wk 31 (ct @c_code_Check (ct @c_repair_set (ct @c_repair_set (ct @c_repair_meet cz)))) ?_
     intro b1 h3
     exact ge
   ·have d2 : decide (stP N hs) = false:=decide_eq_false h2
    rw [if_pos (fun e=>h2 e.2)] at h
    subst h
    refine wk 26 (ct @c_code_Check (ct @c_repair_set (ct @c_repair_set cz))) ?_
    intro b1 h3
    exact ge
  ·have d1 : decide (stP N lost) = false:=decide_eq_false h1
   rw [if_pos (fun e=>h1 e.1)] at h
   subst h
   refine wk 22 (ct @c_code_Check (ct @S_repair_set cz)) ?_
   intro b1 h2
   exact ge
 ·rw [if_pos h0] at h
  subst h
  refine wk 14 (ct @c_code_Check cz) ?_
  intro b1 h1
  exact ge
theorem gd_at {α : Type} [Inhabited α] {l : List α} {i : Nat} {x : α} (h : l[i]? = some x) : l.getD i default = x:=by rw [List.getD_eq_getElem?_getD,h];rfl
theorem S_codewrightref09_Entries {p m nm cm n c : Nat} {pm ps : Option Addr} {md l : List Int} (K : Fok p m md) : Ctr Tryz.prog 44 [.agg #[.int .i64 p,.int .i64 m,.slice pm nm cm],.slice ps n c] [] [slF I64 ps n c l] (Rv (.int .i64 (entE l (p ^ m))) []):=by
 refine Ctr_of_j' (F:=F_codewrightref09_Entries) rfl fun C=>?_
 refine j_len 0 rfl fun hn hb _=>?_
 subst hn
 have hb' : l.length * 8 ≤ 140737488355328:=hb
 have ho:=K.ord
 refine wk 6 cz ?_
 intro b1
 refine j_loopG (X:=Nat) [1,2] [0] (fun i=>[(5,.int .i64 (i : Int))]) (fun _=>_) (fun _=>[]) (fun i=>i ≤ l.length ∧ ∀ x ∈ l.take i,0 ≤ x ∧ x < ((p ^ m : Nat) : Int)) (fun i=>l.length - i) 0 [] rfl rfl rfl ⟨Nat.zero_le _,fun x h=>by simp at h⟩ (by repeat (first | exact Fr.sub_nil _ | refine Fr.sub_cons rfl ?_)) rfl rfl ?_
 rintro i ⟨hi,hno⟩ ih
 simp only [List.cons_append,List.nil_append] at hi ih ⊢
 by_cases h9 : i < l.length
 ·obtain ⟨y,hy⟩ : ∃ y,l[i]? = some y:=⟨_,List.getElem?_eq_getElem h9⟩
  have ey:=gd_at hy
  by_cases h8 : 0 ≤ y ∧ y < ((p ^ m : Nat) : Int)
  ·have hd : decide (0 ≤ l.getD i default ∧ l.getD i default < ordI (p : Int) (m : Int)) = true:=by rw [ey,ho];exact decide_eq_true h8
   refine wk 13 (ct @S_codewrightref04_Is cz) ?_
   intro h1 b2 o1
   exact tw (ih (i + 1) (by omega) ⟨by omega,fun x hx=>by
    rw [List.take_add_one,hy] at hx
    rcases List.mem_append.1 hx with hx | hx
    ·exact hno x hx
    ·rw [Option.toList_some,List.mem_singleton] at hx
     rw [hx];exact h8⟩)
  ·have hd : decide (0 ≤ l.getD i default ∧ l.getD i default < ordI (p : Int) (m : Int)) = false:=by rw [ey,ho];exact decide_eq_false h8
   rw [entE,if_neg fun h=>h8 (h y (List.mem_of_getElem? hy))]
   refine wk 13 (ct @S_codewrightref04_Is cz) ?_
   intro h1 b2 o1
   exact ge
 ·rw [entE,if_pos fun x hx=>hno x (by rwa [List.take_of_length_le (by omega)])]
  refine wk 9 cz ?_
  intro h1
  exact ge
theorem tk_all {α : Type} {P : α → Prop} {l : List α} {i : Nat} {r : α} (hr : l[i]? = some r) (h : ∀ x ∈ l.take i,P x) (hp : P r) : ∀ x ∈ l.take (i + 1),P x:=fun x hx=>by
 rw [List.take_add_one,hr] at hx
 rcases List.mem_append.1 hx with hx | hx
 ·exact h x hx
 ·rw [Option.toList_some,List.mem_singleton] at hx
  rw [hx];exact hp
open Classical in
noncomputable def mkE (P M : Int) (md : List Int) (N : Int) (rows : List (List Int)) : Int:=if ¬ chkF P M md then 1 else mtE N rows (P.toNat ^ M.toNat)
theorem S_codewrightref09_Check {P M N e : Int} {nm cm n c : Nat} {pm ps : Option Addr} {md : List Int} {rows : List (List Int)} (hN : InR .i64 N) (he : mkE P M md N rows = e) :
  Ctr Tryz.prog 78 [.agg #[.int .i64 P,.int .i64 M,.slice pm nm cm],.agg #[.int .i64 N,.slice ps n c]] [] [slF I64 pm nm cm md,slF (encSl I64) ps n c rows] (Rv (.int .i64 e) []):=by
 refine Ctr_of_j' (F:=F_codewrightref09_Check) rfl fun C=>?_
 refine j_len 1 rfl fun hn hb _=>?_
 subst hn
 have hb' : rows.length * 24 ≤ 140737488355328:=hb
 obtain ⟨N0,N1⟩:=hN
 rw [mkE] at he
 by_cases hc : chkF P M md
 ·rw [if_neg (fun h=>h hc)] at he
  have c_codewrightref04_Check:=fun {pm : Option Addr} {nm cm : Nat}=>S_codewrightref04_Check (P:=P) (M:=M) (md:=md) (pm:=pm) (nm:=nm) (cm:=cm) (if_pos hc).symm
  obtain ⟨p,m,rfl,rfl,K⟩:=chk_ok hc
  rw [Int.toNat_natCast,Int.toNat_natCast] at he
  have hq:=K.q
  have c_codewrightref09_Entries:=fun {nm cm n c : Nat} {pm ps : Option Addr} {l : List Int}=>S_codewrightref09_Entries (nm:=nm) (cm:=cm) (pm:=pm) (ps:=ps) (n:=n) (c:=c) (l:=l) K
  subst he
  by_cases h1 : N < 0 ∨ 256 < N ∨ 256 < rows.length
  ·rw [mtE,if_pos h1]
   by_cases a1 : N < 0
   ·refine wk 24 (ct @c_codewrightref04_Check cz) ?_
    intro b1 b2 h2 h3
    exact ge
   ·by_cases a2 : 256 < N
    ·refine wk 30 (ct @c_codewrightref04_Check cz) ?_
     intro b1 b2 h2 h3 h4
     exact ge
    ·have a3 : 256 < rows.length:=by omega
     refine wk 33 (ct @c_codewrightref04_Check cz) ?_
     intro b1 b2 h2 h3 h4 h5
     exact ge
  ·rw [mtE,if_neg h1]
   have a1 : ¬ N < 0:=by omega
   have a2 : ¬ 256 < N:=by omega
   have a3 : ¬ 256 < rows.length:=by omega
   refine wk 33 (ct @c_codewrightref04_Check cz) ?_
   intro b1 b2 h2 h3 h4 h5
   refine j_loopG (X:=Nat) [2,3,5] [0,1] (fun i=>[(6,.int .i64 (i : Int))]) (fun _=>_) (fun _=>[]) (fun i=>i ≤ rows.length ∧ ∀ r ∈ rows.take i,(r.length : Int) = N) (fun i=>rows.length - i) 0 [] rfl rfl rfl ⟨Nat.zero_le _,fun x h=>by simp at h⟩ (by repeat (first | exact Fr.sub_nil _ | refine Fr.sub_cons rfl ?_)) rfl rfl ?_
   rintro i ⟨hi,hno⟩ ih
   simp only [List.cons_append,List.nil_append] at hi ih ⊢
   by_cases h9 : i < rows.length
   ·obtain ⟨r,hr⟩ : ∃ r,rows[i]? = some r:=⟨_,List.getElem?_eq_getElem h9⟩
    have er:=gd_at hr
    by_cases h8 : (r.length : Int) = N
    ·have h7 : ((rows.getD i default).length : Int) = N:=by rw [er];exact h8
     refine wk 15 cz ?_
     intro h6 b3 o1 pa1 ca1 h10
     exact tw (ih (i + 1) (by omega) ⟨by omega,tk_all hr hno h8⟩)
    ·have h7 : ((rows.getD i default).length : Int) ≠ N:=by rw [er];exact h8
     rw [if_pos ⟨r,List.mem_of_getElem? hr,h8⟩]
     refine wk 15 cz ?_
     intro h6 b3 o1 pa1 ca1 h10
     exact ge
   ·have hlen : ∀ r ∈ rows,(r.length : Int) = N:=fun r hr=>hno r (by rwa [List.take_of_length_le (by omega)])
    rw [if_neg fun ⟨r,hr,h⟩=>h (hlen r hr)]
    clear ih hno hi
    refine wk 11 cz ?_
    intro h6
    refine j_loopG (X:=Nat) [2,3] [0,1] (fun i=>[(7,.int .i64 (i : Int)),(5,.int .i64 0)]) (fun _=>_) (fun _=>[]) (fun i=>i ≤ rows.length ∧ ∀ r ∈ rows.take i,∀ x ∈ r,0 ≤ x ∧ x < ((p ^ m : Nat) : Int)) (fun i=>rows.length - i) 0 [] rfl rfl rfl ⟨Nat.zero_le _,fun x h=>by simp at h⟩ (by repeat (first | exact Fr.sub_nil _ | refine Fr.sub_cons rfl ?_)) rfl rfl ?_
    rintro i ⟨hi,hno⟩ ih
    simp only [List.cons_append,List.nil_append] at hi ih ⊢
    by_cases h9 : i < rows.length
    ·obtain ⟨r,hr⟩ : ∃ r,rows[i]? = some r:=⟨_,List.getElem?_eq_getElem h9⟩
     have er:=gd_at hr
     by_cases h8 : ∀ x ∈ r,0 ≤ x ∧ x < ((p ^ m : Nat) : Int)
     ·have he : entE (rows.getD i default) (p ^ m) = 0:=by rw [er,entE,if_pos h8]
      refine wk 18 (ct @c_codewrightref09_Entries cz) ?_
      intro h7 b3 o1 pa1 ca1 h10
      exact tw (ih (i + 1) (by omega) ⟨by omega,tk_all hr hno h8⟩)
     ·have he : entE (rows.getD i default) (p ^ m) = 2:=by rw [er,entE,if_neg h8]
      rw [if_neg fun h=>h8 (h r (List.mem_of_getElem? hr)),← he]
      refine wk 18 (ct @c_codewrightref09_Entries cz) ?_
      intro h7 b3 o1 pa1 ca1 h10
      exact ge
    ·rw [if_pos fun r hr=>hno r (by rwa [List.take_of_length_le (by omega)])]
     refine wk 11 cz ?_
     intro h7
     exact ge
 ·rw [if_pos hc] at he
  subst he
  have c_codewrightref04_Check:=fun {pm : Option Addr} {nm cm : Nat}=>S_codewrightref04_Check (P:=P) (M:=M) (md:=md) (pm:=pm) (nm:=nm) (cm:=cm) (if_neg hc).symm
  refine wk 15 (ct @c_codewrightref04_Check cz) ?_
  intro b1 b2 h1
  exact ge
theorem S_codewrightref09_SameInts {pl pk : Option Addr} {nl cl nk ck : Nat} {l k : List Int} {res : Bool} (hr : decide (l = k) = res) : Ctr Tryz.prog 122 [.slice pl nl cl,.slice pk nk ck] [] [slF I64 pl nl cl l,slF I64 pk nk ck k] (Rv (.bool res) []):=by
 refine Ctr_of_j' (F:=F_codewrightref09_SameInts) rfl fun C=>?_
 subst hr
 refine j_len 0 rfl fun hn hb _=>?_
 refine j_len 1 rfl fun hn2 hb2 _=>?_
 subst hn
 subst hn2
 have hb' : l.length * 8 ≤ 140737488355328:=hb
 have hb2' : k.length * 8 ≤ 140737488355328:=hb2
 by_cases hl : l.length = k.length
 ·refine wk 13 cz ?_
  intro h1
  refine j_loopG (X:=Nat) [0,1] [0,1] (fun i=>[(5,.int .i64 (i : Int))]) (fun _=>[]) (fun _=>[]) (fun i=>i ≤ l.length ∧ ∀ j,j < i → l[j]? = k[j]?) (fun i=>l.length - i) 0 [] rfl rfl rfl ⟨Nat.zero_le _,fun j h=>by omega⟩ (by repeat (first | exact Fr.sub_nil _ | refine Fr.sub_cons rfl ?_)) rfl rfl ?_
  rintro i ⟨hi,hno⟩ ih
  simp only [List.cons_append,List.nil_append] at hi ih ⊢
  by_cases h9 : i < l.length
  ·obtain ⟨y,hy⟩ : ∃ y,l[i]? = some y:=⟨_,List.getElem?_eq_getElem h9⟩
   obtain ⟨z,hz⟩ : ∃ z,k[i]? = some z:=⟨_,List.getElem?_eq_getElem (by omega)⟩
   have ey:=gd_at hy
   have ez:=gd_at hz
   by_cases h8 : y = z
   ·subst h8
    refine wk 13 cz ?_
    intro h2 b1 o1 b2 o2 h3
    exact tw (ih (i + 1) (by omega) ⟨by omega,fun j hj=>by
     rcases Nat.lt_succ_iff_lt_or_eq.1 hj with h | rfl
     ·exact hno j h
     ·rw [hy,hz]⟩)
   ·rw [decide_eq_false (show l ≠ k from fun e=>by rw [e,hz] at hy;exact h8 (Option.some.inj hy).symm)]
    refine wk 13 cz ?_
    intro h2 b1 o1 b2 o2 h3
    exact ge
  ·rw [decide_eq_true (show l = k from List.ext_getElem? fun j=>by
    by_cases h : j < i
    ·exact hno j h
    ·rw [List.getElem?_eq_none (by omega),List.getElem?_eq_none (by omega)])]
   refine wk 9 cz ?_
   intro h2
   exact ge
 ·rw [decide_eq_false (show l ≠ k from fun e=>hl (by rw [e]))]
  refine wk 13 cz ?_
  intro h1
  exact ge
theorem S_codewrightref09_SameRows {pl pk : Option Addr} {nl cl nk ck : Nat} {l k : List (List Int)} {res : Bool} (hr : decide (l = k) = res) : Ctr Tryz.prog 80 [.slice pl nl cl,.slice pk nk ck] [] [slF (encSl I64) pl nl cl l,slF (encSl I64) pk nk ck k] (Rv (.bool res) []):=by
 refine Ctr_of_j' (F:=F_codewrightref09_SameRows) rfl fun C=>?_
 subst hr
 refine j_len 0 rfl fun hn hb _=>?_
 refine j_len 1 rfl fun hn2 hb2 _=>?_
 subst hn
 subst hn2
 have hb' : l.length * 24 ≤ 140737488355328:=hb
 have hb2' : k.length * 24 ≤ 140737488355328:=hb2
 by_cases hl : l.length = k.length
 ·refine wk 13 cz ?_
  intro h1
  refine j_loopG (X:=Nat) [0,1] [0,1] (fun i=>[(5,.int .i64 (i : Int))]) (fun _=>[]) (fun _=>[]) (fun i=>i ≤ l.length ∧ ∀ j,j < i → l[j]? = k[j]?) (fun i=>l.length - i) 0 [] rfl rfl rfl ⟨Nat.zero_le _,fun j h=>by omega⟩ (by repeat (first | exact Fr.sub_nil _ | refine Fr.sub_cons rfl ?_)) rfl rfl ?_
  rintro i ⟨hi,hno⟩ ih
  simp only [List.cons_append,List.nil_append] at hi ih ⊢
  by_cases h9 : i < l.length
  ·obtain ⟨y,hy⟩ : ∃ y,l[i]? = some y:=⟨_,List.getElem?_eq_getElem h9⟩
   obtain ⟨z,hz⟩ : ∃ z,k[i]? = some z:=⟨_,List.getElem?_eq_getElem (by omega)⟩
   have ey:=gd_at hy
   have ez:=gd_at hz
   by_cases h8 : y = z
   ·have hd : decide (l.getD i default = k.getD i default) = true:=by rw [ey,ez];exact decide_eq_true h8
    refine wk 13 (ct @S_codewrightref09_SameInts cz) ?_
    intro h2 b1 o1 pa1 ca1 b2 o2 pa2 ca2
    exact tw (ih (i + 1) (by omega) ⟨by omega,fun j hj=>by
     rcases Nat.lt_succ_iff_lt_or_eq.1 hj with h | rfl
     ·exact hno j h
     ·rw [hy,hz,h8]⟩)
   ·have hd : decide (l.getD i default = k.getD i default) = false:=by rw [ey,ez];exact decide_eq_false h8
    rw [decide_eq_false (show l ≠ k from fun e=>by rw [e,hz] at hy;exact h8 (Option.some.inj hy).symm)]
    refine wk 13 (ct @S_codewrightref09_SameInts cz) ?_
    intro h2 b1 o1 pa1 ca1 b2 o2 pa2 ca2
    exact ge
  ·rw [decide_eq_true (show l = k from List.ext_getElem? fun j=>by
    by_cases h : j < i
    ·exact hno j h
    ·rw [List.getElem?_eq_none (by omega),List.getElem?_eq_none (by omega)])]
   refine wk 9 cz ?_
   intro h2
   exact ge
 ·rw [decide_eq_false (show l ≠ k from fun e=>hl (by rw [e]))]
  refine wk 13 cz ?_
  intro h1
  exact ge
theorem S_codewrightref11_IsSubset {ps : Option Addr} {nn c : Nat} {n : Int} {l : List Int} {res : Bool} (hr : decide (stP n l) = res) : Ctr Tryz.prog 55 [.int .i64 n,.slice ps nn c] [] [slF I64 ps nn c l] (Rv (.bool res) []):=by
 refine Ctr_of_j' (F:=F_codewrightref11_IsSubset) rfl fun C=>?_
 subst hr
 refine j_len 0 rfl fun hn hb _=>?_
 subst hn
 have hb' : l.length * 8 ≤ 140737488355328:=hb
 refine wk 5 cz ?_
 refine j_loopG (X:=Nat) [0,1] [0] (fun i=>[(5,.int .i64 (i : Int))]) (fun _=>[]) (fun _=>[]) (fun i=>i ≤ l.length ∧ ∀ j,j < i → stA n l j) (fun i=>l.length - i) 0 [] rfl rfl rfl ⟨Nat.zero_le _,fun j h=>by omega⟩ (by repeat (first | exact Fr.sub_nil _ | refine Fr.sub_cons rfl ?_)) rfl rfl ?_
 rintro i ⟨hi,hno⟩ ih
 simp only [List.cons_append,List.nil_append] at hi ih ⊢
 by_cases h9 : i < l.length
 ·obtain ⟨x,at_x⟩ : ∃ x,l[i]? = some x:=⟨_,List.getElem?_eq_getElem h9⟩
  have ex:=gd_at at_x
  have bad : ∀ P : Prop,¬ stA n l i → decide (stP n l) = false:=fun _ h=>decide_eq_false (stP_no h9 h)
  have good : stA n l i → ∀ j,j < i + 1 → stA n l j:=fun h j hj=>by
   rcases Nat.lt_succ_iff_lt_or_eq.1 hj with h1 | rfl
   ·exact hno j h1
   ·exact h
  by_cases a0 : x < 0
  ·rw [bad True fun h=>by have:=(h x at_x).1;omega]
   refine j_nf [_,_,_,_,_,_] rfl ?_
   refine j_run it 2 rfl (by simp) ?_
   refine j_step rfl (x_len sl22 rfl ?_)
   refine j_run it 1 rfl (by simp) ?_
   refine j_nf [_,_,_,_,_] rfl ?_
   refine j_if rfl rfl (fun h1=>?_) (fun h1=>by exfalso;omega)
   refine j_nf [_,_,_,_,_,_,_,_] rfl ?_
   refine j_run it 2 rfl (by simp) ?_
   refine j_step rfl (x_idx 0 (i) rfl rfl rfl sl22 rfl (by omega) fun z1 hz1 b1 o1=>?_)
   obtain rfl : _ = z1:=Option.some.inj (at_x.symm.trans hz1)
   refine j_step rfl (x_ld_int 0 rfl rfl ld3 fun ⟨r1,r2⟩=>?_)
   refine j_run it 2 rfl (by simp) ?_
   refine j_split_dec (t:=17) rfl (fun h2=>?_) (fun h2=>by exfalso;omega)
   refine j_run it 7 rfl (by simp) ?_
   refine j_nf [_,_,_,_,_,_,_] rfl ?_
   refine j_true rfl rfl ?_
   refine j_nf [_,_,_,_,_,_,_,_] rfl ?_
   refine j_run it 1 rfl (by simp) ?_
   refine j_nf [_,_,_,_,_,_,_] rfl ?_
   exact ge
  ·by_cases a1 : n ≤ x
   ·rw [bad True fun h=>by have:=(h x at_x).1;omega]
    refine wk 13 cz ?_
    intro h1 b1 o1 hz1 _ r1 r2
    refine j_split_dec (t:=17) rfl (fun h2=>by exfalso;omega) (fun h2=>?_)
    refine wk 2 cz ?_
    intro b2 o2 hz2
    refine j_gstep rfl rfl (x_ld_int 0 rfl rfl ld3 fun ⟨r3,r4⟩=>?_)
    refine wk 6 cz ?_
    intro h3
    exact ge
   ·rcases Nat.eq_zero_or_pos i with hi0 | hi0
    ·subst hi0
     refine wk 13 cz ?_
     intro h1 b1 o1 hz1 _ r1 r2
     refine j_split_dec (t:=17) rfl (fun h2=>by exfalso;omega) (fun h2=>?_)
     refine wk 2 cz ?_
     intro b2 o2 hz2
     refine j_gstep rfl rfl (x_ld_int 0 rfl rfl ld3 fun ⟨r3,r4⟩=>?_)
     refine wk 10 cz ?_
     intro h3
     exact tw (ih 1 (by omega) ⟨by omega,good fun z hz=>by
      rw [at_x] at hz;obtain rfl:=Option.some.inj hz
      exact ⟨by omega,fun y h=>by omega⟩⟩)
    ·obtain ⟨k,rfl⟩ : ∃ k,i = k + 1:=⟨i - 1,by omega⟩
     obtain ⟨y,at_y⟩ : ∃ y,l[k]? = some y:=⟨_,List.getElem?_eq_getElem (by omega)⟩
     have ey:=gd_at at_y
     have ey' : l.getD (k + 1 - 1) default = y:=ey
     by_cases a2 : x ≤ y
     ·rw [bad True fun h=>by have:=(h x at_x).2 y (by omega) at_y;omega]
      refine wk 13 cz ?_
      intro h1 b1 o1 hz1 _ r1 r2
      refine j_split_dec (t:=17) rfl (fun h2=>by exfalso;omega) (fun h2=>?_)
      refine wk 2 cz ?_
      intro b2 o2 hz2
      refine j_gstep rfl rfl (x_ld_int 0 rfl rfl ld3 fun ⟨r3,r4⟩=>?_)
      refine wk 10 cz ?_
      intro h3 b3 o3 b4 o4
      exact ge
     ·refine wk 13 cz ?_
      intro h1 b1 o1 hz1 _ r1 r2
      refine j_split_dec (t:=17) rfl (fun h2=>by exfalso;omega) (fun h2=>?_)
      refine wk 2 cz ?_
      intro b2 o2 hz2
      refine j_gstep rfl rfl (x_ld_int 0 rfl rfl ld3 fun ⟨r3,r4⟩=>?_)
      refine wk 10 cz ?_
      intro h3 b3 o3 b4 o4
      exact tw (ih (k + 2) (by omega) ⟨by omega,good fun z hz=>by
       rw [at_x] at hz;obtain rfl:=Option.some.inj hz
       exact ⟨by omega,fun z h hz=>by
        rw [show k + 1 - 1 = k by omega,at_y] at hz;obtain rfl:=Option.some.inj hz;omega⟩⟩)
 ·rw [decide_eq_true (stP_iff.2 fun j hj=>hno j (by omega))]
  refine wk 9 cz ?_
  intro h1
  exact ge
theorem S_codewrightref09_Copy {ps : Option Addr} {n c : Nat} {rows : List (List Int)} (hL : ∀ r ∈ rows,r.length ≤ 1000000) : Ctr Tryz.prog 158 [.slice ps n c] [] [slF (encSl I64) ps n c rows]
  (fun v Φ β=>∃ r : Row,v = .slice (ad r.bo) rows.length r.cap ∧ Φ = [rowF (encSl I64) r rows.length rows] ∧ β = [(r.bo,22,r.cs)]):=by
 refine Ctr_of_j' (F:=F_codewrightref09_Copy) rfl fun C=>?_
 refine j_len 0 rfl fun hn hb _=>?_
 subst hn
 have hb' : rows.length * 24 ≤ 140737488355328:=hb
 refine wk 7 cz ?_
 refine j_row0 (encSl I64) 22 ?_
 refine j_loopG (X:=Nat × Row) [0,2] [0,1] (fun x=>[(4,.int .i64 (x.1 : Int)),(3,.slice (ad x.2.bo) x.1 x.2.cap)]) (fun x=>[(x.2.bo,22,x.2.cs)]) (fun x=>[rowF (encSl I64) x.2 x.1 (rows.take x.1)]) (fun x=>x.1 ≤ rows.length) (fun x=>rows.length - x.1) (0,⟨none,0,[]⟩) [0] rfl rfl rfl (Nat.zero_le _) (by repeat (first | exact Fr.sub_nil _ | refine Fr.sub_cons rfl ?_)) rfl rfl ?_
 rintro ⟨k,r⟩ hk ih
 simp only [List.cons_append,List.nil_append] at hk ih ⊢
 by_cases h9 : k < rows.length
 ·obtain ⟨u,at_u⟩ : ∃ u,rows[k]? = some u:=⟨_,List.getElem?_eq_getElem h9⟩
  have hul:=hL u (List.mem_of_getElem? at_u)
  have ih':=fun r=>ih (k + 1,r) (by dsimp only;omega) (by dsimp only;omega)
  simp only [List.take_add_one,at_u,Option.toList_some] at ih'
  clear ih
  refine wk 12 cz ?_
  intro h1 b1 b2 o1 hz1 pa1 ca1
  (apply j_rowlit (E:=encInt IntKind.i64 8) (n:=0) (cs:=[]) [] [] 0 (fun w A hG=>allrd_nil);(· rfl);(· rfl);(· rfl);(· rfl);(· decide))
  refine j_step rfl (x_appS 0 0 1 rfl rfl rfl rfl rfl sl22 zo22e rfl (by omega) _ by22e (by omega) fun r1=>?_)
  refine wk 1 cz ?_
  intro b3
  refine j_pubR 1 0 rfl rfl (by show (0 + u.length) * 8 ≤ 140737488355328;omega) ?_
  refine j_step rfl (x_appR (z:=[]++u) 1 0 5 rfl rfl rfl rfl rfl sl25 zo25e rfl (fun w A hG=>(rd_of_slF (hG _ (fact_mem (n:=0) rfl)))) (by omega) _ by25e (by omega) fun r2=>?_)
  refine wk 4 cz ?_
  simp only [List.nil_append]
  refine j_toM [true,false] [0,7,8] (by exact fra rfl) rfl rfl (ih' r2)
 ·obtain rfl : k = rows.length:=by omega
  rw [List.take_length]
  refine wk 9 cz ?_
  intro h1
  refine j_givK 1 [0] [0] rfl (.tmp rfl .nil) rfl rfl rfl ⟨r,rfl,rfl,rfl⟩
theorem S_codewrightref09_scale {p m nm cm : Nat} {a : Int} {pm pu : Option Addr} {nu cu : Nat} {u md : List Int} (K : Fok p m md) (a0 : 0 ≤ a) (a1 : a < ((p ^ m : Nat) : Int)) (hu : ∀ x ∈ u,0 ≤ x ∧ x < ((p ^ m : Nat) : Int)) :
  Ctr Tryz.prog 159 [.agg #[.int .i64 p,.int .i64 m,.slice pm nm cm],.int .i64 a,.slice pu nu cu] [] [slF I64 pm nm cm md,slF I64 pu nu cu u] (RwI nu (sclL (liftI (fM p (fpo m md))) a u)):=by
 refine Ctr_of_j' (F:=F_codewrightref09_scale) rfl fun C=>?_
 refine j_len 1 rfl fun hn hb _=>?_
 subst hn
 have hb' : u.length * 8 ≤ 140737488355328:=hb
 have c_codewrightref04_Mul:=fun {nm cm : Nat} {pm : Option Addr} {x y : Int}=>S_codewrightref04_Mul (nm:=nm) (cm:=cm) (pm:=pm) (x:=x) (y:=y) K
 have hml:=fun x (h : x ∈ u)=>K.fi.ml a x a0 a1 (hu x h).1 (hu x h).2
 have hq:=K.q
 generalize liftI (fM p (fpo m md)) = M at *
 generalize p ^ m = q at *
 refine wk 11 cz ?_
 intro b1 b2
 rw [show natCells .i64 (List.replicate u.length 0) = intCells .i64 ((sclL M a u).take 0++List.replicate (u.length - 0) 0) by simp [natCells,intCells]]
 refine j_loopG (X:=Nat) [1,2,3,6,7] [0,1] (fun i=>[(8,.int .i64 (i : Int))]) (fun i=>(some b2,3,intCells .i64 ((sclL M a u).take i++List.replicate (u.length - i) 0))::_) (fun _=>[]) (fun i=>i ≤ u.length) (fun i=>u.length - i) 0 [] rfl rfl rfl (Nat.zero_le _) (by repeat (first | exact Fr.sub_nil _ | refine Fr.sub_cons rfl ?_)) rfl rfl ?_
 rintro i hi ih
 simp only [List.cons_append,List.nil_append] at hi ih ⊢
 by_cases h9 : i < u.length
 ·obtain ⟨x,at_x⟩ : ∃ x,u[i]? = some x:=⟨_,List.getElem?_eq_getElem h9⟩
  have ex : u.getD i default = x:=by rw [List.getD_eq_getElem?_getD,at_x];rfl
  have hx:=hu x (List.mem_of_getElem? at_x)
  have hm:=hml x (List.mem_of_getElem? at_x)
  obtain ⟨hx0,hx1⟩:=hx
  have ih':=ih (i + 1) (by omega) (by omega)
  have eT : (sclL M a u)[i]? = some (M a (u.getD i default)):=by rw [sclL,List.getElem?_map,at_x,ex];rfl
  rw [← take_set eT h9] at ih'
  have hln : ((sclL M a u).take i++List.replicate (u.length - i) 0).length = u.length:=by simp [sclL];omega
  generalize (sclL M a u).take i++List.replicate (u.length - i) 0 = L at *
  rw [← ex] at hm
  refine wk 13 (ct @c_codewrightref04_Mul cz) ?_
  intro h1 b3 o1
  exact tw (ih')
 ·obtain rfl : i = u.length:=by omega
  rw [Nat.sub_self,List.replicate_zero,List.append_nil,List.take_of_length_le (by simp [sclL])]
  refine wk 9 cz ?_
  intro h1
  have hall : ∀ z ∈ sclL M a u,InR .i64 z:=fun z hz=>by
   obtain ⟨y,hy,rfl⟩:=List.mem_map.1 hz
   have:=hml y hy
   simp only [InR];omega
  have hln : (sclL M a u).length = u.length:=by simp [sclL]
  generalize sclL M a u = L at *
  refine j_rowInt 0 rfl hln.symm hall (by omega) ?_
  refine j_givK 2 [0] [0] rfl (.tmp rfl .nil) rfl rfl rfl ⟨⟨some b2,u.length,intCells .i64 L⟩,rfl,rfl,rfl⟩
theorem S_codewrightref09_AddTo {p m nm cm n : Nat} {a : Int} {pm pu pv : Option Addr} {nu cu nv cv : Nat} {u v md : List Int} (K : Fok p m md) (a0 : 0 ≤ a) (a1 : a < ((p ^ m : Nat) : Int)) (hu : Wd (p ^ m) n u) (hv : Wd (p ^ m) n v) :
  Ctr Tryz.prog 109 [.agg #[.int .i64 p,.int .i64 m,.slice pm nm cm],.slice pv nv cv,.int .i64 a,.slice pu nu cu] [] [slF I64 pm nm cm md,slF I64 pv nv cv v,slF I64 pu nu cu u] (RwI n (axp (liftI (fA p m)) (liftI (fM p (fpo m md))) a u v)):=by
 refine Ctr_of_j' (F:=F_codewrightref09_AddTo) rfl fun C=>?_
 refine j_len 1 rfl fun hn hb _=>?_
 refine j_len 2 rfl fun hn2 hb2 _=>?_
 have hul:=hu.1
 have hvl:=hv.1
 have hb' : v.length * 8 ≤ 140737488355328:=hn ▸ hb
 rw [hvl] at hn hb'
 rw [hul] at hn2
 subst hn
 subst hn2
 have FF:=K.fi
 have c_codewrightref04_Mul:=fun {nm cm : Nat} {pm : Option Addr} {x y : Int}=>S_codewrightref04_Mul (nm:=nm) (cm:=cm) (pm:=pm) (x:=x) (y:=y) K
 have c_codewrightref04_Add:=fun {nm cm : Nat} {pm : Option Addr} {x y : Int}=>S_codewrightref04_Add (nm:=nm) (cm:=cm) (pm:=pm) (x:=x) (y:=y) K
 have hT:=FF.axw a0 a1 hu hv
 have hq:=K.q
 generalize liftI (fM p (fpo m md)) = M at *
 generalize liftI (fA p m) = A0 at *
 generalize p ^ m = q at *
 have hTa : ∀ (i : Nat) (x y : Int),u[i]? = some x → v[i]? = some y → (axp A0 M a u v)[i]? = some (A0 y (M a x)):=fun i x y h1 h2=>by rw [axp,List.getElem?_zipWith,h1,h2]
 generalize axp A0 M a u v = T at *
 have hTl:=hT.1
 refine wk 11 cz ?_
 intro b1 b2
 rw [show natCells .i64 (List.replicate nu 0) = intCells .i64 (T.take 0++List.replicate (nu - 0) 0) by simp [natCells,intCells]]
 refine j_loopG (X:=Nat) [1,2,3,4,8,9] [0,1,2] (fun i=>[(10,.int .i64 (i : Int))]) (fun i=>(some b2,3,intCells .i64 (T.take i++List.replicate (nu - i) 0))::_) (fun _=>[]) (fun i=>i ≤ nu) (fun i=>nu - i) 0 [] rfl rfl rfl (Nat.zero_le _) (by repeat (first | exact Fr.sub_nil _ | refine Fr.sub_cons rfl ?_)) rfl rfl ?_
 rintro i hi ih
 simp only [List.cons_append,List.nil_append] at hi ih ⊢
 by_cases h9 : i < nu
 ·obtain ⟨x,at_x⟩ : ∃ x,u[i]? = some x:=⟨_,List.getElem?_eq_getElem (by omega)⟩
  obtain ⟨y,at_y⟩ : ∃ y,v[i]? = some y:=⟨_,List.getElem?_eq_getElem (by omega)⟩
  have ex : u.getD i default = x:=by rw [List.getD_eq_getElem?_getD,at_x];rfl
  have ey : v.getD i default = y:=by rw [List.getD_eq_getElem?_getD,at_y];rfl
  obtain ⟨x0,x1⟩:=hu.2 x (List.mem_of_getElem? at_x)
  obtain ⟨y0,y1⟩:=hv.2 y (List.mem_of_getElem? at_y)
  obtain ⟨m0,m1⟩:=FF.ml a x a0 a1 x0 x1
  have eT:=hTa i x y at_x at_y
  obtain ⟨t0,t1⟩:=hT.2 _ (List.mem_of_getElem? eT)
  have ih':=ih (i + 1) (by omega) (by omega)
  have hln : (T.take i++List.replicate (nu - i) 0).length = nu:=by rw [List.length_append,List.length_take,List.length_replicate];omega
  by_cases h0 : x = 0
  ·rw [h0,FF.m0 a0 a1,FF.a0 y y0 y1] at eT
   rw [← take_set eT h9] at ih'
   generalize T.take i++List.replicate (nu - i) 0 = L at *
   refine wk 9 cz ?_
   intro h1 b3 o1 hz1
   refine j_step rfl (x_ld_int 0 rfl rfl ld3 fun ⟨r1,r2⟩=>?_)
   refine wk 5 cz ?_
   intro b4 o2 hz2
   refine j_step rfl (x_ld_int 0 rfl rfl ld3 fun ⟨r3,r4⟩=>?_)
   refine wk 6 cz ?_
   intro h2
   exact tw (ih')
  ·rw [← ex,← ey] at eT t0 t1
   rw [← ex] at m0 m1
   rw [← take_set eT h9,← List.set_set (i:=i) (a:=y)] at ih'
   generalize T.take i++List.replicate (nu - i) 0 = L at *
   refine wk 9 cz ?_
   intro h1 b3 o1 hz1
   refine j_step rfl (x_ld_int 0 rfl rfl ld3 fun ⟨r1,r2⟩=>?_)
   refine wk 5 cz ?_
   intro b4 o2 hz2
   refine j_step rfl (x_ld_int 0 rfl rfl ld3 fun ⟨r3,r4⟩=>?_)
   refine wk 5 (ct @c_codewrightref04_Mul (ct @c_codewrightref04_Add cz)) ?_
   intro h2 b5 o3 b6 o4
   refine j_step rfl (x_bst_int 0 rfl rfl rfl ld3 (by first | omega | (simp;omega)) ?_)
   refine wk 3 cz ?_
   exact tw (ih')
 ·obtain rfl : i = nu:=by omega
  rw [Nat.sub_self,List.replicate_zero,List.append_nil,List.take_of_length_le (by omega)]
  refine wk 9 cz ?_
  intro h1
  refine j_rowInt 0 rfl hTl.symm (fun z hz=>by have:=hT.2 z hz;simp only [InR];omega) (by omega) ?_
  refine j_givK 2 [0] [0] rfl (.tmp rfl .nil) rfl rfl rfl ⟨⟨some b2,_,intCells .i64 T⟩,rfl,rfl,rfl⟩
abbrev ElR (n : Nat) (E : List (List Int) × List Nat) : Value → List Fact → List Blk → Prop:=fun v Φ β=>∃ (pb pp : Option Addr) (cb cp : Nat),v = .tuple #[.slice pb n cb,.slice pp E.2.length cp]
 ∧ Φ = [slF (encSl I64) pb n cb E.1,slF I64 pp E.2.length cp (toI E.2)] ∧ β = []
theorem S_codewrightref09_Eliminate {p m n N W nm cm c : Nat} {pm ps : Option Addr} {rows : List (List Int)} {md : List Int} (K : Fok p m md) (hn : n ≤ 1000000) (hNW : N ≤ W) (hW : W ≤ 1000000) (hl : rows.length = n) (hM : Mat (p ^ m) W rows) :
  Ctr Tryz.prog 121 [.agg #[.int .i64 p,.int .i64 m,.slice pm nm cm],.slice ps n c,.int .i64 N] [] [slF I64 pm nm cm md,slF (encSl I64) ps n c rows] (ElR n (elP p m md N 0 0 rows)):=by
 refine Ctr_of_j' (F:=F_codewrightref09_Eliminate) rfl fun C=>?_
 have O:=fok_fo K
 have hq:=K.q
 have q2:=O.q2
 subst hl
 generalize hEE : elP p m md N 0 0 rows = EE
 have c_codewrightref09_Copy:=fun {ps : Option Addr} {n c : Nat}=>S_codewrightref09_Copy (ps:=ps) (n:=n) (c:=c) (rows:=rows) fun r hr=>by rw [(hM r hr).1];exact hW
 have hb0 : rows.length * 24 ≤ 140737488355328:=by omega
 rcases Nat.eq_zero_or_pos rows.length with hn0 | hn0
 ·have hr0:=List.length_eq_zero_iff.1 hn0
  subst hr0
  rw [elP,elim_full _ _ _ _ (Nat.zero_le _)] at hEE
  subst hEE
  refine wk 14 (ct @c_codewrightref09_Copy cz) ?_
  intro b1 r1
  refine j_row0 I64 3 ?_
  refine j_loopG (X:=Unit) [2,3,6,7,8] [0,1,2,3] (fun _=>[(11,.int .i64 0),(10,.int .i64 0),(9,.slice none 0 0)]) (fun _=>_) (fun _=>[]) (fun _=>True) (fun _=>0) () [] rfl rfl rfl trivial (by repeat (first | exact Fr.sub_nil _ | refine Fr.sub_cons rfl ?_)) rfl rfl ?_
  rintro ⟨⟩ - ih
  simp only [List.cons_append,List.nil_append] at ih ⊢
  refine j_pubR 0 0 rfl rfl (by show 0 * 8 ≤ 140737488355328;omega) ?_
  refine j_pubR 0 2 rfl rfl (by show 0 * 24 ≤ 140737488355328;omega) ?_
  rcases Nat.eq_zero_or_pos N with hN0 | hN0
  ·subst hN0
   refine wk 7 cz ?_
   refine j_giv [0,1] rfl rfl rfl ⟨_,_,_,_,rfl,rfl,rfl⟩
  ·refine wk 14 cz ?_
   intro h1 h2
   refine j_giv [0,1] rfl rfl rfl ⟨_,_,_,_,rfl,rfl,rfl⟩
 refine wk 14 (ct @c_codewrightref09_Copy cz) ?_
 intro b1 r1
 refine j_rowB 0 rfl hn0 fun bh caph csh hr=>?_
 subst hr
 dsimp only
 refine j_row0 I64 3 ?_
 refine j_loopG (X:=Nat × List Value × Row × List (List Int) × List Nat) [2,3,6,7,8] [2] (fun x=>[(11,.int .i64 (x.1 : Int)),(10,.int .i64 (x.2.2.2.2.length : Int)),(9,.slice (ad x.2.2.1.bo) x.2.2.2.2.length x.2.2.1.cap)])
  (fun x=>(x.2.2.1.bo,3,x.2.2.1.cs)::(some bh,22,x.2.1)::_)
  (fun x=>[rowF I64 x.2.2.1 x.2.2.2.2.length (toI x.2.2.2.2),rowF (encSl I64) ⟨some bh,caph,x.2.1⟩ rows.length x.2.2.2.1])
  (fun x=>x.1 ≤ N ∧ x.2.2.2.1.length = rows.length ∧ Mat (p ^ m) W x.2.2.2.1 ∧ x.2.2.2.2.length ≤ rows.length ∧ (elP p m md (N - x.1) x.1 x.2.2.2.2.length x.2.2.2.1).1 = EE.1 ∧ x.2.2.2.2++(elP p m md (N - x.1) x.1 x.2.2.2.2.length x.2.2.2.1).2 = EE.2) (fun x=>N - x.1)
  (0,csh,⟨none,0,[]⟩,rows,[]) [0,1] rfl rfl rfl ⟨Nat.zero_le _,rfl,hM,Nat.zero_le _,congrArg Prod.fst hEE,congrArg Prod.snd hEE⟩ (by repeat (first | exact Fr.sub_nil _ | refine Fr.sub_cons rfl ?_)) rfl rfl ?_
 clear hEE
 generalize hnn : rows.length = n at *
 rintro ⟨c,ch,rp,L,pv⟩ ⟨hcN,hL,hLM,hpv,hE1,hE2⟩ ih
 simp only [List.cons_append,List.nil_append] at hcN hL hLM hpv hE1 hE2 ih ⊢
 by_cases hcl : c < N
 ·by_cases hpl : pv.length < n
  ·have hrl : ∀ k,k < n → (row0 L k).length = W:=fun k hk=>(hLM.row (by omega)).1
   have hra : ∀ k,k < n → L[k]? = some (row0 L k):=fun k hk=>by rw [row0,List.getD_eq_getElem?_getD,List.getElem?_eq_getElem (by omega)];rfl
   have hre : ∀ k,k < n → (row0 L k)[c]? = some (en L k c):=fun k hk=>by
    rw [en,at0,List.getD_eq_getElem?_getD,List.getElem?_eq_getElem (by rw [hrl k hk];omega)];rfl
   have hen : ∀ k,k < n → 0 ≤ en L k c ∧ en L k c < ((p ^ m : Nat) : Int):=fun k hk=>wd_at (by omega) (hLM.row (by omega)) c
   refine wk 14 cz ?_
   intro h1 h2
   refine j_loopG (X:=Nat) [2,3,6,7,8,9,10,11,16,17,18,19,20,21,22,23,24,27] [0,1,2] (fun k=>[(12,.int .i64 (k : Int))]) (fun _=>_) (fun _=>[]) (fun k=>pv.length ≤ k ∧ k ≤ n ∧ ∀ j,pv.length ≤ j → j < k → en L j c = 0) (fun k=>n - k) pv.length [] rfl rfl rfl ⟨Nat.le_refl _,hpv,fun j h1 h2=>by omega⟩ (by repeat (first | exact Fr.sub_nil _ | refine Fr.sub_cons rfl ?_)) rfl rfl ?_
   rintro k ⟨hk1,hk2,hk3⟩ ihk
   simp only [List.cons_append,List.nil_append] at hk1 hk2 hk3 ihk ⊢
   by_cases hkn : k < n
   ·have at_u:=hra k hkn
    have at_z:=hre k hkn
    have hru:=hrl k hkn
    by_cases hz0 : en L k c = 0
    ·rw [hz0] at at_z
     refine wk 8 cz ?_
     intro h3
     refine j_gstep rfl rfl (x_ldR_sl 1 1 (k) rfl rfl rfl ld22 rfl (by omega) fun z1 hz1 pa1 ca1=>?_)
     obtain rfl : _ = z1:=Option.some.inj (at_u.symm.trans hz1)
     refine wk 2 cz ?_
     intro b2 o1 hz2
     refine j_gstep rfl rfl (x_ld_int 0 rfl rfl ld3 fun ⟨r1,r2⟩=>?_)
     refine wk 6 cz ?_
     intro h4
     exact tw (ihk (k + 1) (by omega) ⟨by omega,by omega,fun j h1 h2=>by
      rcases Nat.lt_succ_iff_lt_or_eq.1 h2 with h | rfl
      ·exact hk3 j h1 h
      ·exact hz0⟩)
    ·clear ihk
     have hrt:=hra pv.length hpl
     obtain ⟨e0,e1⟩:=hen k hkn
     obtain ⟨⟨v0,v1⟩,hiv⟩:=O.iv _ e0 e1 hz0
     have hSl : (swpL L pv.length k).length = n:=by rw [swpL,List.length_set,List.length_set,hL]
     have hSW : ∀ i,i < n → Wd (p ^ m) W (row0 (swpL L pv.length k) i):=fun i hi=>swp_wd hLM (by omega) (by omega) (by omega)
     have hSra : ∀ i,i < n → (swpL L pv.length k)[i]? = some (row0 (swpL L pv.length k) i):=fun i hi=>by rw [row0,List.getD_eq_getElem?_getD,List.getElem?_eq_getElem (by omega)];rfl
     have hSt : row0 (swpL L pv.length k) pv.length = row0 L k:=by
      rw [swp_row (by omega) (by omega)]
      split
      ·rename_i e;rw [← e]
      ·rw [if_pos rfl]
     have at_v:=hSra pv.length hpl
     rw [hSt,swpL] at at_v
     have hrk:=hrl k hkn
     have ek : (row0 L k).getD c default = en L k c:=gd_at at_z
     have key : ∀ ch' : List Value,J F_codewrightref09_Eliminate C [It.c (pL 128159),It.blk 1,It.c (pL 2003),It.lp (pL 500),It.blk 0,It.c [1,1,1,1,1]]
       [(2,.int .i64 N),(3,.pointer (some ⟨b1,0,none⟩)),(6,.slice none 0 0),(7,.slice none 0 0),(8,.slice (ad (some bh)) n caph),(9,.slice (ad rp.bo) pv.length rp.cap),(10,.int .i64 (pv.length : Int)),(11,.int .i64 (c : Int))]
       [(rp.bo,3,rp.cs),(some bh,22,ch'),(some b1,24,[.int .i64 p,.int .i64 m,.slice pm nm cm])]
       [rowF I64 rp pv.length (toI pv),rowF (encSl I64) ⟨some bh,caph,ch'⟩ n ((swpL L pv.length k).set pv.length (sclL (liftI (fM p (fpo m md))) (invI p m md (en L k c)) (row0 L k))),slF I64 pm nm cm md] (Gives C (ElR n EE)):=by
      intro ch'
      clear at_v at_u at_z hrt hrk ek
      have hprW : Wd (p ^ m) W (sclL (liftI (fM p (fpo m md))) (invI p m md (en L k c)) (row0 L k)):=O.scl_wd v0 v1 (hLM.row (by omega))
      have hpiv : pivL (liftI (fA p m)) (liftI (fM p (fpo m md))) (negI p m) (invI p m md) pv.length k c L = (List.range n).map fun i=>if i = pv.length then sclL (liftI (fM p (fpo m md))) (invI p m md (en L k c)) (row0 L k) else axp (liftI (fA p m)) (liftI (fM p (fpo m md))) (negI p m (en (swpL L pv.length k) i c)) (sclL (liftI (fM p (fpo m md))) (invI p m md (en L k c)) (row0 L k)) (row0 (swpL L pv.length k) i):=by rw [pivL,hL]
      have hpM:=O.piv_wd hLM (show pv.length < L.length by omega) (show k < L.length by omega) hz0
      have hf : findP L pv.length c = some k:=findP_of hk1 (by omega) hz0 fun j h1 h2=>hk3 j h1 h2
      rw [elP,show N - c = (N - (c + 1)) + 1 by omega,elimL,hf] at hE1 hE2
      have hE1' : (elP p m md (N - (c + 1)) (c + 1) (pv.length + 1) (pivL (liftI (fA p m)) (liftI (fM p (fpo m md))) (negI p m) (invI p m md) pv.length k c L)).1 = EE.1:=hE1
      have hE2' : pv++c::(elP p m md (N - (c + 1)) (c + 1) (pv.length + 1) (pivL (liftI (fA p m)) (liftI (fM p (fpo m md))) (negI p m) (invI p m md) pv.length k c L)).2 = EE.2:=hE2
      have hpM' : Mat (p ^ m) W (pivL (liftI (fA p m)) (liftI (fM p (fpo m md))) (negI p m) (invI p m md) pv.length k c L):=hpM
      have hplen : (pivL (liftI (fA p m)) (liftI (fM p (fpo m md))) (negI p m) (invI p m md) pv.length k c L).length = n:=by rw [pivL_len,hL]
      clear hE1 hE2 hpM
      generalize pivL (liftI (fA p m)) (liftI (fM p (fpo m md))) (negI p m) (invI p m md) pv.length k c L = PV at *
      generalize sclL (liftI (fM p (fpo m md))) (invI p m md (en L k c)) (row0 L k) = pr at *
      have hSen : ∀ i,i < n → 0 ≤ en (swpL L pv.length k) i c ∧ en (swpL L pv.length k) i c < ((p ^ m : Nat) : Int):=fun i hi=>wd_at (by omega) (hSW i hi) c
      have hSre : ∀ i,i < n → (row0 (swpL L pv.length k) i)[c]? = some (en (swpL L pv.length k) i c):=fun i hi=>by
       rw [en,at0,List.getD_eq_getElem?_getD,List.getElem?_eq_getElem (by rw [(hSW i hi).1];omega)];rfl
      clear hSt hre hen hra hrl hf hz0 e0 e1 hiv v0 v1 hk3 hLM
      generalize swpL L pv.length k = S at *
      let CL : Nat → List (List Int):=fun i=>(List.range n).map fun j=>if j = pv.length then pr else if j < i then axp (liftI (fA p m)) (liftI (fM p (fpo m md))) (negI p m (en S j c)) pr (row0 S j) else row0 S j
      have hCl : ∀ i,(CL i).length = n:=fun i=>by simp [CL]
      have hCa : ∀ i j,j < n → (CL i)[j]? = some (if j = pv.length then pr else if j < i then axp (liftI (fA p m)) (liftI (fM p (fpo m md))) (negI p m (en S j c)) pr (row0 S j) else row0 S j):=fun i j hj=>by
       show ((List.range n).map _)[j]? = _
       rw [List.getElem?_map,List.getElem?_range hj];rfl
      have hC0 : S.set pv.length pr = CL 0:=by
       refine List.ext_getElem? fun j=>?_
       by_cases hj : j < n
       ·rw [hCa 0 j hj,List.getElem?_set]
        by_cases e : pv.length = j
        ·rw [if_pos e,if_pos (by omega),if_pos e.symm]
        ·rw [if_neg e,if_neg (fun h=>e h.symm),if_neg (by omega),hSra j hj]
       ·rw [List.getElem?_eq_none (by rw [List.length_set];omega),List.getElem?_eq_none (by rw [hCl];omega)]
      have hCn : CL n = PV:=by
       rw [hpiv]
       refine List.map_congr_left fun j hj=>?_
       have:=List.mem_range.1 hj
       by_cases e : j = pv.length
       ·rw [if_pos e,if_pos e]
       ·rw [if_neg e,if_neg e,if_pos this]
      have hCt : ∀ i,(CL i)[pv.length]? = some pr:=fun i=>by rw [hCa i _ hpl,if_pos rfl]
      have hCi : ∀ i,i < n → i ≠ pv.length → (CL i)[i]? = some (row0 S i):=fun i hi e=>by rw [hCa i i hi,if_neg e,if_neg (Nat.lt_irrefl i)]
      have hCsame : ∀ i,i < n → (i = pv.length ∨ en S i c = 0) → CL (i + 1) = CL i:=fun i hi h=>by
       refine List.map_congr_left fun j hj=>?_
       have hjn:=List.mem_range.1 hj
       by_cases e : j = pv.length
       ·rw [if_pos e,if_pos e]
       ·rw [if_neg e,if_neg e]
        by_cases e2 : j < i
        ·rw [if_pos e2,if_pos (by omega)]
        ·rw [if_neg e2]
         by_cases e3 : j = i
         ·subst e3
          rcases h with h | h
          ·exact absurd h e
          ·have n0 : negI p m 0 = 0:=O.n0
           rw [if_pos (by omega),h,n0,axp_id O.fi hprW (hSW j hjn)]
         ·rw [if_neg (by omega)]
      have hCset : ∀ i,i < n → i ≠ pv.length → CL (i + 1) = (CL i).set i (axp (liftI (fA p m)) (liftI (fM p (fpo m md))) (negI p m (en S i c)) pr (row0 S i)):=fun i hi e=>by
       refine List.ext_getElem? fun j=>?_
       by_cases hj : j < n
       ·rw [hCa _ j hj,List.getElem?_set]
        by_cases e2 : i = j
        ·subst e2
         rw [if_neg e,if_pos (Nat.lt_succ_self i),if_pos rfl,if_pos (by rw [hCl];exact hi)]
        ·rw [if_neg e2,hCa i j hj]
         by_cases e3 : j = pv.length
         ·rw [if_pos e3,if_pos e3]
         ·rw [if_neg e3,if_neg e3]
          by_cases e4 : j < i
          ·rw [if_pos e4,if_pos (by omega)]
          ·rw [if_neg e4,if_neg (by omega)]
       ·rw [List.getElem?_eq_none (by rw [hCl];omega),List.getElem?_eq_none (by rw [List.length_set,hCl];omega)]
      clear_value CL
      rw [hC0]
      refine wk 3 cz ?_
      refine j_loopG (X:=Nat × List Value) [2,3,6,7,8,9,10,11] [0,1,2] (fun x=>[(13,.int .i64 (x.1 : Int))]) (fun x=>(rp.bo,3,rp.cs)::(some bh,22,x.2)::_) (fun x=>[rowF (encSl I64) ⟨some bh,caph,x.2⟩ n (CL x.1)]) (fun x=>x.1 ≤ n) (fun x=>n - x.1) (0,ch') [1] rfl rfl rfl (Nat.zero_le _) (by repeat (first | exact Fr.sub_nil _ | refine Fr.sub_cons rfl ?_)) rfl rfl ?_
      rintro ⟨i,ch2⟩ hi ihi
      simp only [List.cons_append,List.nil_append] at hi ihi ⊢
      by_cases hin : i < n
      ·by_cases hit : i = pv.length
       ·have ih':=fun ch=>ihi (i + 1,ch) (by dsimp only;omega) (by dsimp only;omega)
        simp only [hCsame i hin (.inl hit)] at ih'
        refine wk 18 cz ?_
        intro h3 h4
        exact tw (ih' ch2)
       ·have at_w:=hCi i hin hit
        have at_x:=hSre i hin
        have hwl:=(hSW i hin).1
        by_cases hx0 : en S i c = 0
        ·have ih':=fun ch=>ihi (i + 1,ch) (by dsimp only;omega) (by dsimp only;omega)
         simp only [hCsame i hin (.inr hx0)] at ih'
         refine wk 14 cz ?_
         intro h3 h4
         refine j_gstep rfl rfl (x_ldR_sl 1 0 (i) rfl rfl rfl ld22 rfl (by omega) fun z1 hz1 pa1 ca1=>?_)
         obtain rfl : _ = z1:=Option.some.inj (at_w.symm.trans hz1)
         refine wk 2 cz ?_
         intro b2 o1 hz2
         refine j_gstep rfl rfl (x_ld_int 0 rfl rfl ld3 fun ⟨r1,r2⟩=>?_)
         refine wk 6 cz ?_
         intro h5
         exact tw (ih' ch2)
        ·have ih':=fun ch=>ihi (i + 1,ch) (by dsimp only;omega) (by dsimp only;omega)
         simp only [hCset i hin hit] at ih'
         have at_p:=hCt i
         have ex : (row0 S i).getD c default = en S i c:=gd_at at_x
         obtain ⟨x0,x1⟩:=hSen i hin
         obtain ⟨⟨g0,g1⟩,-⟩:=O.ng _ x0 x1
         have hneg : 0 ≤ ((nP p m ((row0 S i).getD c default).toNat : Nat) : Int) ∧ ((nP p m ((row0 S i).getD c default).toNat : Nat) : Int) < ((p ^ m : Nat) : Int):=by rw [ex];exact ⟨g0,g1⟩
         have c_codewrightref04_Neg:=fun {nm cm : Nat} {pm : Option Addr} {x : Int}=>S_codewrightref04_Neg (nm:=nm) (cm:=cm) (pm:=pm) (x:=x) K
         have c_codewrightref09_AddTo:=fun {nm cm nu cu nv cv : Nat} {pm pu pv : Option Addr} {a : Int} (a0 : 0 ≤ a) (a1 : a < ((p ^ m : Nat) : Int))=>(S_codewrightref09_AddTo (nm:=nm) (cm:=cm) (pm:=pm) (pu:=pu) (nu:=nu) (cu:=cu) (pv:=pv) (nv:=nv) (cv:=cv) (a:=a) K a0 a1 hprW (hSW i hin)).pubR (by show W * 8 ≤ 140737488355328;omega)
         refine wk 14 cz ?_
         intro h3 h4
         refine j_gstep rfl rfl (x_ldR_sl 1 0 (i) rfl rfl rfl ld22 rfl (by omega) fun z1 hz1 pa1 ca1=>?_)
         obtain rfl : _ = z1:=Option.some.inj (at_w.symm.trans hz1)
         refine wk 2 cz ?_
         intro b2 o1 hz2
         refine j_gstep rfl rfl (x_ld_int 0 rfl rfl ld3 fun ⟨r1,r2⟩=>?_)
         refine wk 5 (ct @c_codewrightref04_Neg (ct @c_codewrightref09_AddTo cz)) ?_
         intro h5 pa2 ca2 pa3 ca3 b3 o2 pa4 ca4 pa5 ca5
         refine j_step rfl (x_stR (vs:=[Value.slice pa5 W ca5]) (z:=axp (liftI (fA p m)) (liftI (fM p (fpo m md))) (↑(nP p m ((row0 S i).getD c default).toNat)) pr (row0 S i)) 1 7 (i) rfl rfl rfl rfl rfl ld22 (Nat.mul_one _).symm (by omega) (fun w A hG=>(rd_of_slF (hG _ (fact_mem (n:=0) rfl)))) fun cs1=>?_)
         refine wk 3 cz ?_
         rw [ex]
         exact tw (ih' cs1)
      ·obtain rfl : i = n:=by omega
       rw [hCn]
       clear ihi hC0 hCn hCt hCi hCsame hCset hCa hCl
       refine wk 9 cz ?_
       intro h3 b2
       refine j_step rfl (x_appR (z:=(↑c : Int)) 1 0 1 rfl rfl rfl rfl rfl sl22 zo22e rfl (fun w A hG=>(rd_int (by first | (simp only [InR];omega) | (simp [InR];done)))) (by omega) _ by22e (by omega) fun r1=>?_)
       refine wk 6 cz ?_
       have ih':=fun ch rp=>ih (c + 1,ch,rp,PV,pv++[c]) (by dsimp only;omega) ⟨by dsimp only;omega,hplen,hpM',by rw [List.length_append,List.length_singleton];omega,by rw [List.length_append,List.length_singleton];exact hE1',by rw [List.length_append,List.length_singleton,List.append_assoc];exact hE2'⟩
       have et : toI (pv++[c]) = toI pv++[(c : Int)]:=by simp [toI]
       simp only [et,List.length_append,List.length_singleton] at ih'
       refine j_toM [true,false,true,true] [0,1,4] (by exact fra rfl) rfl rfl (ih' ch2 r1)
     by_cases h1 : en L k c = 1
     ·have hV : invI p m md (en L k c) = 1:=by
       rw [h1] at hiv v0 v1 ⊢
       have v0' : 0 ≤ invI p m md 1:=v0
       have v1' : invI p m md 1 < ((p ^ m : Nat) : Int):=v1
       have h2 : liftI (fM p (fpo m md)) 1 (invI p m md 1) = 1:=hiv
       rw [O.fi.mc 1 _ (by omega) (by omega) v0' v1',O.fi.m1 _ v0' v1'] at h2
       exact h2
      have hs1 : (swpL L pv.length k).set pv.length (sclL (liftI (fM p (fpo m md))) (invI p m md (en L k c)) (row0 L k)) = (L.set pv.length (row0 L k)).set k (row0 L pv.length):=by
       rw [hV,scl_one O.fi (hLM.row (by omega))]
       obtain ⟨h2,h3⟩:=List.getElem?_eq_some_iff.1 at_v
       refine List.ext_getElem? fun j=>?_
       rw [List.getElem?_set]
       by_cases e : pv.length = j
       ·subst e
        rw [if_pos rfl,if_pos (by rw [hSl];exact hpl),at_v]
       ·rw [if_neg e];rfl
      rw [hs1] at key
      refine wk 8 cz ?_
      intro h3
      refine j_gstep rfl rfl (x_ldR_sl 1 1 (k) rfl rfl rfl ld22 rfl (by omega) fun z1 hz1 pa1 ca1=>?_)
      obtain rfl : _ = z1:=Option.some.inj (at_u.symm.trans hz1)
      refine wk 2 cz ?_
      intro b2 o1 hz2
      refine j_gstep rfl rfl (x_ld_int 0 rfl rfl ld3 fun ⟨r1,r2⟩=>?_)
      refine wk 10 cz ?_
      intro h4 h5
      (apply j_drawKW (x0:=none) it mx 0 13 [2,3] 1;(· rfl);(· rfl);(· rfl);(· decide))
      simp only [List.drop_zero]
      (apply lxk_run 6;(· rfl);(· simp))
      (apply lxk_eq;(· rfl);(· exact d_x fun _=>x_idx_own (k) (k) rfl rfl sl25 rfl (by omega) (Nat.mul_one _) dk_eq))
      (apply lxk_sl;(· rfl);(· exact d_ldR_sl 1 3 (k) rfl rfl rfl ld22 rfl (by assumption));intro pa2 ca2)
      (apply lxk_run 2;(· rfl);(· simp))
      (apply lxk_eq;(· rfl);(· exact d_x fun _=>x_idx_own (pv.length) (pv.length) rfl rfl sl25 rfl (by omega) (Nat.mul_one _) dk_eq))
      (apply lxk_sl;(· rfl);(· exact d_ldR_sl 1 3 (pv.length) rfl rfl rfl ld22 rfl (by assumption));intro pa3 ca3)
      (apply lxk_eq;(· rfl);(· exact d_x fun _=>x_idx_own (pv.length) (pv.length) rfl rfl sl25 rfl (by omega) (Nat.mul_one _) dk_eq))
      refine lxk_endW rfl ?_
      (rotate_left;rfl;rotate_right)
      simp only [List.map_cons,List.map_nil,List.cons_append,List.nil_append]
      refine win_step it rfl rfl ⟨⟨_,_,_,_,rfl,rfl,rfl,rfl,rfl,rfl,(by first | trivial | (repeat' first | exact trivial | apply And.intro | omega))⟩,⟨⟨_,_,_,_,rfl,rfl,rfl,rfl,rfl,rfl,(by first | trivial | (repeat' first | exact trivial | apply And.intro | omega))⟩,trivial⟩⟩ (x_stR (vs:=[Value.slice pa2 (row0 L k).length ca2]) (z:=row0 L k) 1 5 (pv.length) rfl rfl rfl rfl rfl ld22 (Nat.mul_one _).symm (by omega) (fun w A hG=>(rd_of_slF (hG _ (fact_mem (n:=1) rfl)))) fun cs1=>?_)
      refine win_end it ⟨⟨_,_,_,_,rfl,rfl,rfl,rfl,rfl,rfl,(by first | trivial | (repeat' first | exact trivial | apply And.intro | omega))⟩,⟨⟨_,_,_,_,rfl,rfl,rfl,rfl,rfl,rfl,(by first | trivial | (repeat' first | exact trivial | apply And.intro | omega))⟩,trivial⟩⟩ ?_
      refine wk 1 cz ?_
      refine j_step rfl (x_stR (vs:=[Value.slice pa3 (row0 L pv.length).length ca3]) (z:=row0 L pv.length) 1 0 (k) rfl rfl rfl rfl rfl ld22 (Nat.mul_one _).symm (by omega) (fun w A hG=>(rd_of_slF (hG _ (fact_mem (n:=1) rfl)))) fun cs2=>?_)
      refine wk 3 cz ?_
      refine j_step rfl (x_ldR_sl 1 0 (pv.length) rfl rfl rfl ld22 rfl (by omega) fun z1 hz3 pa4 ca4=>?_)
      obtain rfl : _ = z1:=Option.some.inj (at_v.symm.trans hz3)
      refine wk 2 cz ?_
      intro b3 o2 hz4
      refine j_step rfl (x_ld_int 0 rfl rfl ld3 fun ⟨r3,r4⟩=>?_)
      refine wk 3 cz ?_
      intro h6
      refine j_nfn 1 [.c (pL 128159),.blk 1,.c (pL 2003),.lp (pL 500),.blk 0,.c [1,1,1,1,1]] rfl ?_
      exact tw (key cs2)
     ·have c_codewrightref04_Inv:=fun {nm cm : Nat} {pm : Option Addr} {x : Int}=>S_codewrightref04_Inv (nm:=nm) (cm:=cm) (pm:=pm) (x:=x) K
      have c_codewrightref09_scale:=fun {nm cm cu : Nat} {pm pu : Option Addr} {a : Int} (a0 : 0 ≤ a) (a1 : a < ((p ^ m : Nat) : Int))=>(S_codewrightref09_scale (nm:=nm) (cm:=cm) (pm:=pm) (pu:=pu) (nu:=(row0 L k).length) (cu:=cu) (a:=a) (u:=row0 L k) K a0 a1 (hLM.row (by omega)).2).pubR (by show (row0 L k).length * 8 ≤ 140737488355328;omega)
      have hiv2 : 0 ≤ ((iF (p ^ m) (fM p (fpo m md)) ((row0 L k).getD c default).toNat : Nat) : Int) ∧ ((iF (p ^ m) (fM p (fpo m md)) ((row0 L k).getD c default).toNat : Nat) : Int) < ((p ^ m : Nat) : Int):=by rw [ek];exact ⟨v0,v1⟩
      rw [show (swpL L pv.length k).set pv.length (sclL (liftI (fM p (fpo m md))) (invI p m md (en L k c)) (row0 L k)) = ((L.set pv.length (row0 L k)).set k (row0 L pv.length)).set pv.length (sclL (liftI (fM p (fpo m md))) ((iF (p ^ m) (fM p (fpo m md)) (en L k c).toNat : Nat) : Int) (row0 L k)) from rfl] at key
      refine wk 8 cz ?_
      intro h3
      refine j_gstep rfl rfl (x_ldR_sl 1 1 (k) rfl rfl rfl ld22 rfl (by omega) fun z1 hz1 pa1 ca1=>?_)
      obtain rfl : _ = z1:=Option.some.inj (at_u.symm.trans hz1)
      refine wk 2 cz ?_
      intro b2 o1 hz2
      refine j_gstep rfl rfl (x_ld_int 0 rfl rfl ld3 fun ⟨r1,r2⟩=>?_)
      refine wk 10 cz ?_
      intro h4 h5
      (apply j_drawKW (x0:=none) it mx 0 13 [2,3] 1;(· rfl);(· rfl);(· rfl);(· decide))
      simp only [List.drop_zero]
      (apply lxk_run 6;(· rfl);(· simp))
      (apply lxk_eq;(· rfl);(· exact d_x fun _=>x_idx_own (k) (k) rfl rfl sl25 rfl (by omega) (Nat.mul_one _) dk_eq))
      (apply lxk_sl;(· rfl);(· exact d_ldR_sl 1 3 (k) rfl rfl rfl ld22 rfl (by assumption));intro pa2 ca2)
      (apply lxk_run 2;(· rfl);(· simp))
      (apply lxk_eq;(· rfl);(· exact d_x fun _=>x_idx_own (pv.length) (pv.length) rfl rfl sl25 rfl (by omega) (Nat.mul_one _) dk_eq))
      (apply lxk_sl;(· rfl);(· exact d_ldR_sl 1 3 (pv.length) rfl rfl rfl ld22 rfl (by assumption));intro pa3 ca3)
      (apply lxk_eq;(· rfl);(· exact d_x fun _=>x_idx_own (pv.length) (pv.length) rfl rfl sl25 rfl (by omega) (Nat.mul_one _) dk_eq))
      refine lxk_endW rfl ?_
      (rotate_left;rfl;rotate_right)
      simp only [List.map_cons,List.map_nil,List.cons_append,List.nil_append]
      refine win_step it rfl rfl ⟨⟨_,_,_,_,rfl,rfl,rfl,rfl,rfl,rfl,(by first | trivial | (repeat' first | exact trivial | apply And.intro | omega))⟩,⟨⟨_,_,_,_,rfl,rfl,rfl,rfl,rfl,rfl,(by first | trivial | (repeat' first | exact trivial | apply And.intro | omega))⟩,trivial⟩⟩ (x_stR (vs:=[Value.slice pa2 (row0 L k).length ca2]) (z:=row0 L k) 1 5 (pv.length) rfl rfl rfl rfl rfl ld22 (Nat.mul_one _).symm (by omega) (fun w A hG=>(rd_of_slF (hG _ (fact_mem (n:=1) rfl)))) fun cs1=>?_)
      refine win_end it ⟨⟨_,_,_,_,rfl,rfl,rfl,rfl,rfl,rfl,(by first | trivial | (repeat' first | exact trivial | apply And.intro | omega))⟩,⟨⟨_,_,_,_,rfl,rfl,rfl,rfl,rfl,rfl,(by first | trivial | (repeat' first | exact trivial | apply And.intro | omega))⟩,trivial⟩⟩ ?_
      refine wk 1 cz ?_
      refine j_step rfl (x_stR (vs:=[Value.slice pa3 (row0 L pv.length).length ca3]) (z:=row0 L pv.length) 1 0 (k) rfl rfl rfl rfl rfl ld22 (Nat.mul_one _).symm (by omega) (fun w A hG=>(rd_of_slF (hG _ (fact_mem (n:=1) rfl)))) fun cs2=>?_)
      refine wk 3 cz ?_
      refine j_step rfl (x_ldR_sl 1 0 (pv.length) rfl rfl rfl ld22 rfl (by omega) fun z1 hz3 pa4 ca4=>?_)
      obtain rfl : _ = z1:=Option.some.inj (at_v.symm.trans hz3)
      refine wk 2 cz ?_
      intro b3 o2 hz4
      refine j_step rfl (x_ld_int 0 rfl rfl ld3 fun ⟨r3,r4⟩=>?_)
      refine wk 5 (ct @c_codewrightref04_Inv (ct @c_codewrightref09_scale cz)) ?_
      intro h6 pa5 ca5 b4 o3 pa6 ca6 pa7 ca7
      refine j_step rfl (x_stR (vs:=[Value.slice pa7 (row0 L k).length ca7]) (z:=sclL (liftI (fM p (fpo m md))) (↑(iF (p ^ m) (fM p (fpo m md)) ((row0 L k).getD c default).toNat)) (row0 L k)) 1 6 (pv.length) rfl rfl rfl rfl rfl ld22 (Nat.mul_one _).symm (by omega) (fun w A hG=>(rd_of_slF (hG _ (fact_mem (n:=0) rfl)))) fun cs3=>?_)
      refine j_nfn 1 [.c (pL 128159),.blk 1,.c (pL 2003),.lp (pL 500),.blk 0,.c [1,1,1,1,1]] rfl ?_
      rw [ek]
      exact tw (key cs3)
   ·clear ihk
    obtain rfl : n = k:=by omega
    have hf : findP L pv.length c = none:=findP_no fun j h1 h2=>hk3 j h1 (by omega)
    rw [elP,show N - c = (N - (c + 1)) + 1 by omega,elimL,hf] at hE1 hE2
    refine wk 18 cz ?_
    intro h3 h4
    exact tw (ih (c + 1,ch,rp,L,pv) (by dsimp only;omega) ⟨by dsimp only;omega,hL,hLM,hpv,hE1,hE2⟩)
  ·rw [elP,elim_full _ _ _ _ (by omega)] at hE1 hE2
   rw [List.append_nil] at hE2
   obtain ⟨E1,E2⟩:=EE
   obtain rfl : L = E1:=hE1
   obtain rfl : pv = E2:=hE2
   clear ih
   refine j_pubR 0 0 rfl rfl (by show pv.length * 8 ≤ 140737488355328;omega) ?_
   refine j_pubR 0 2 rfl rfl (by show n * 24 ≤ 140737488355328;omega) ?_
   refine wk 14 cz ?_
   intro h1 h2
   refine j_giv [0,1] rfl rfl rfl ⟨_,_,_,_,rfl,rfl,rfl⟩
 ·obtain rfl : c = N:=by omega
  rw [Nat.sub_self,elP,elimL] at hE1 hE2
  rw [List.append_nil] at hE2
  obtain ⟨E1,E2⟩:=EE
  obtain rfl : L = E1:=hE1
  obtain rfl : pv = E2:=hE2
  clear ih
  refine j_pubR 0 0 rfl rfl (by show pv.length * 8 ≤ 140737488355328;omega) ?_
  refine j_pubR 0 2 rfl rfl (by show n * 24 ≤ 140737488355328;omega) ?_
  refine wk 12 cz ?_
  intro h1
  refine j_giv [0,1] rfl rfl rfl ⟨_,_,_,_,rfl,rfl,rfl⟩
theorem S_codewrightref09_Canon {p m n N nm cm c : Nat} {pm ps : Option Addr} {rows : List (List Int)} {md : List Int} (K : Fok p m md) (hn : n ≤ 1000000) (hN : N ≤ 1000000) (hl : rows.length = n) (hM : Mat (p ^ m) N rows) :
  Ctr Tryz.prog 79 [.agg #[.int .i64 p,.int .i64 m,.slice pm nm cm],.slice ps n c,.int .i64 N] [] [slF I64 pm nm cm md,slF (encSl I64) ps n c rows] (CnR (cnP p m md N rows)):=by
 refine Ctr_of_j' (F:=F_codewrightref09_Canon) rfl fun C=>?_
 have c_codewrightref09_Eliminate:=fun {nm cm c : Nat} {pm ps : Option Addr}=>S_codewrightref09_Eliminate (nm:=nm) (cm:=cm) (pm:=pm) (ps:=ps) (c:=c) K hn (Nat.le_refl N) hN hl hM
 have hEk : (elP p m md N 0 0 rows).2.length ≤ n:=by
  have:=elim_le (A:=liftI (fA p m)) (M:=liftI (fM p (fpo m md))) (N:=negI p m) (V:=invI p m md) N 0 0 rows (Nat.zero_le _)
  rw [Nat.zero_add,hl] at this;exact this
 show J _ _ _ _ _ _ (Gives C (CnR ((elP p m md N 0 0 rows).1.take (elP p m md N 0 0 rows).2.length,(elP p m md N 0 0 rows).2)))
 generalize elP p m md N 0 0 rows = E at *
 refine wk 11 (ct @c_codewrightref09_Eliminate cz) ?_
 intro b1 pb1 pp1 cb1 cp1
 refine j_step rfl (x_slice_h 0 (E.snd.length) rfl rfl rfl sl25 (by omega) (by omega) ?_)
 refine wk 2 cz ?_
 refine j_giv [0,2] rfl rfl rfl ⟨_,_,_,_,rfl,rfl,rfl⟩
theorem S_codewrightref09_Turn {n c N W : Nat} {ps : Option Addr} {rows : List (List Int)} (hN : N ≤ 1000000) (hNW : N ≤ W) (hM : ∀ r ∈ rows,r.length = W) :
  Ctr Tryz.prog 81 [.slice ps n c,.int .i64 N] [] [slF (encSl I64) ps n c rows]
   (fun v Φ β=>∃ (pb : Option Addr) (cb : Nat),v = .slice pb N cb ∧ Φ = [slF (encSl I64) pb N cb (trL N rows)] ∧ β = []):=by
 refine Ctr_of_j' (F:=F_codewrightref09_Turn) rfl fun C=>?_
 refine j_len 0 rfl fun hn hb _=>?_
 subst hn
 have hb' : rows.length * 24 ≤ 140737488355328:=hb
 have htl : ∀ k,(trL k rows).length = k:=fun k=>by simp [trL]
 have hts : ∀ k,trL (k + 1) rows = trL k rows++[colL rows k]:=fun k=>by rw [trL,trL,List.range_succ,List.map_append];rfl
 refine wk 7 cz ?_
 refine j_row0 (encSl I64) 22 ?_
 refine j_loopG (X:=Nat × Row) [0,1,4] [0,1] (fun x=>[(6,.int .i64 (x.1 : Int)),(5,.slice (ad x.2.bo) x.1 x.2.cap)]) (fun x=>[(x.2.bo,22,x.2.cs)]) (fun x=>[rowF (encSl I64) x.2 x.1 (trL x.1 rows)]) (fun x=>x.1 ≤ N) (fun x=>N - x.1) (0,⟨none,0,[]⟩) [0] rfl rfl rfl (Nat.zero_le _) (by repeat (first | exact Fr.sub_nil _ | refine Fr.sub_cons rfl ?_)) rfl rfl ?_
 rintro ⟨k,r⟩ hk ih
 simp only [List.cons_append,List.nil_append] at hk ih ⊢
 by_cases hkn : k < N
 ·have ih':=fun r=>ih (k + 1,r) (by dsimp only;omega) (by dsimp only;omega)
  simp only [hts] at ih'
  clear ih
  refine wk 9 cz ?_
  intro h1
  refine j_row0 I64 3 ?_
  refine j_loopG (X:=Nat × Row) [0,1,4,5,6,9,10,11] [0,1,2,3] (fun x=>[(8,.int .i64 (x.1 : Int)),(7,.slice (ad x.2.bo) x.1 x.2.cap)]) (fun x=>(x.2.bo,3,x.2.cs)::_) (fun x=>[rowF I64 x.2 x.1 ((rows.take x.1).map fun r=>at0 r k)]) (fun x=>x.1 ≤ rows.length) (fun x=>rows.length - x.1) (0,⟨none,0,[]⟩) [0] rfl rfl rfl (Nat.zero_le _) (by repeat (first | exact Fr.sub_nil _ | refine Fr.sub_cons rfl ?_)) rfl rfl ?_
  rintro ⟨i,r2⟩ hi ihi
  simp only [List.cons_append,List.nil_append] at hi ihi ⊢
  by_cases hin : i < rows.length
  ·obtain ⟨u,at_u⟩ : ∃ u,rows[i]? = some u:=⟨_,List.getElem?_eq_getElem hin⟩
   have hul:=hM u (List.mem_of_getElem? at_u)
   have at_y : u[k]? = some (at0 u k):=by
    rw [at0,List.getD_eq_getElem?_getD,List.getElem?_eq_getElem (by omega)];rfl
   have ih2:=fun r=>ihi (i + 1,r) (by dsimp only;omega) (by dsimp only;omega)
   simp only [List.take_add_one,at_u,Option.toList_some,List.map_append,List.map_cons,List.map_nil] at ih2
   refine wk 12 cz ?_
   intro h2 b1 o1 hz1 pa1 ca1 b2 o2 hz2
   refine j_step rfl (x_ld_int 0 rfl rfl ld3 fun ⟨r1,r3⟩=>?_)
   refine wk 1 cz ?_
   intro b3
   refine j_step rfl (x_appR (z:=(at0 u k : Int)) 1 0 3 rfl rfl rfl rfl rfl sl22 zo22e rfl (fun w A hG=>(rd_int (by first | (simp only [InR];omega) | (simp [InR];done)))) (by omega) _ by22e (by omega) fun r4=>?_)
   refine wk 4 cz ?_
   refine j_toM [true,false,true] [0,5,6,7,8] (by exact fra rfl) rfl rfl (ih2 r4)
  ·obtain rfl : i = rows.length:=by omega
   rw [List.take_length]
   clear ihi
   refine wk 9 cz ?_
   intro h2 b1
   refine j_pubR 1 0 rfl rfl (by show (rows.length) * 8 ≤ 140737488355328;omega) ?_
   refine j_step rfl (x_appR (z:=List.map (fun r=>at0 r k) rows) 1 0 3 rfl rfl rfl rfl rfl sl25 zo25e rfl (fun w A hG=>(rd_of_slF (hG _ (fact_mem (n:=0) rfl)))) (by omega) _ by25e (by omega) fun r1=>?_)
   refine wk 4 cz ?_
   refine j_toM [true,false] [0,5,6] (by exact fra rfl) rfl rfl (ih' r1)
 ·obtain rfl : k = N:=by omega
  refine j_pubR 0 0 rfl rfl (by show k * 24 ≤ 140737488355328;omega) ?_
  refine wk 7 cz ?_
  intro h1
  refine j_giv [0] rfl rfl rfl ⟨_,_,rfl,rfl,rfl⟩
theorem S_codewrightref09_Combine {p m nm cm nx cx n c N : Nat} {pm px ps : Option Addr} {x md : List Int} {rows : List (List Int)} (K : Fok p m md) (hN : N ≤ 1000000) (hM : Mat (p ^ m) N rows) (hx : Wd (p ^ m) rows.length x) :
  Ctr Tryz.prog 59 [.agg #[.int .i64 p,.int .i64 m,.slice pm nm cm],.slice px nx cx,.slice ps n c,.int .i64 N] [] [slF I64 pm nm cm md,slF I64 px nx cx x,slF (encSl I64) ps n c rows]
   (fun v Φ β=>∃ (pb : Option Addr) (cb : Nat),v = .slice pb N cb ∧ Φ = [slF I64 pb N cb (cbP p m md N x rows)] ∧ β = []):=by
 refine Ctr_of_j' (F:=F_codewrightref09_Combine) rfl fun C=>?_
 have O:=fok_fo K
 have hq:=K.q
 refine j_len 1 rfl fun hn hb _=>?_
 subst hn
 refine j_len 2 rfl fun hn hb2 _=>?_
 subst hn
 have hb' : x.length * 8 ≤ 140737488355328:=hb
 have hb2' : rows.length * 24 ≤ 140737488355328:=hb2
 have hxl:=hx.1
 have c_codewrightref09_AddTo:=fun {nm cm nu cu nv cv : Nat} {pm pu pv : Option Addr} {a : Int} {u v : List Int} (a0 : 0 ≤ a) (a1 : a < ((p ^ m : Nat) : Int)) (hu : Wd (p ^ m) N u) (hv : Wd (p ^ m) N v)=>(S_codewrightref09_AddTo (nm:=nm) (cm:=cm) (pm:=pm) (pu:=pu) (nu:=nu) (cu:=cu) (pv:=pv) (nv:=nv) (cv:=cv) (a:=a) (u:=u) (v:=v) K a0 a1 hu hv).pubR (by show N * 8 ≤ 140737488355328;omega)
 refine wk 10 cz ?_
 intro b1 b2
 have hz:=O.wz N
 rw [show natCells .i64 (List.replicate N 0) = intCells .i64 (zW N) by simp [natCells,intCells,zW]]
 refine j_pub_madei (kd:=.i64) (n:=N) 8 (zW N) 0 rfl hz.1.symm (fun y hy=>by have:=hz.2 y hy;simp only [InR];omega) (by omega) (by omega) ?_
 refine j_loopG (X:=Nat × Option Addr × Nat × List Int) [1,2,4,8] [0,1,2,3] (fun i=>[(10,.int .i64 (i.1 : Int)),(9,.slice i.2.1 N i.2.2.1)]) (fun _=>_) (fun i=>[slF I64 i.2.1 N i.2.2.1 i.2.2.2]) (fun i=>i.1 ≤ x.length ∧ Wd (p ^ m) N i.2.2.2 ∧ cmbF (liftI (fA p m)) (liftI (fM p (fpo m md))) (x.drop i.1) (rows.drop i.1) i.2.2.2 = cbP p m md N x rows) (fun i=>x.length - i.1) (0,some ⟨b2,0,none⟩,N,zW N) [0] rfl rfl rfl ⟨Nat.zero_le _,hz,rfl⟩ (by repeat (first | exact Fr.sub_nil _ | refine Fr.sub_cons rfl ?_)) rfl rfl ?_
 rintro ⟨i,pa,ca,u⟩ ⟨hi,hu,he⟩ ih
 simp only [List.cons_append,List.nil_append] at hi hu he ih ⊢
 by_cases h9 : i < x.length
 ·obtain ⟨a,at_a⟩ : ∃ a,x[i]? = some a:=⟨_,List.getElem?_eq_getElem h9⟩
  obtain ⟨v,at_v⟩ : ∃ v,rows[i]? = some v:=⟨_,List.getElem?_eq_getElem (by omega)⟩
  obtain ⟨a0,a1⟩:=hx.2 a (List.mem_of_getElem? at_a)
  have hv:=hM v (List.mem_of_getElem? at_v)
  have ea:=gd_at at_a
  have ev:=gd_at at_v
  rw [cmbF_drop at_a at_v] at he
  by_cases ha : a = 0
  ·rw [if_pos ha] at he
   refine wk 14 cz ?_
   intro h1 h2 b3 o1 hz1
   refine j_step rfl (x_ld_int 0 rfl rfl ld3 fun ⟨r1,r2⟩=>?_)
   refine wk 6 cz ?_
   intro h3
   exact tw (ih (i + 1,pa,ca,u) (by dsimp only;omega) ⟨by dsimp only;omega,hu,he⟩)
  ·rw [if_neg ha] at he
   rw [← ea,← ev] at he
   rw [← ev] at hv
   have hw:=O.fi.axw a0 a1 hv hu
   rw [← ea] at hw
   refine wk 14 cz ?_
   intro h1 h2 b3 o1 hz1
   refine j_step rfl (x_ld_int 0 rfl rfl ld3 fun ⟨r1,r2⟩=>?_)
   refine wk 8 (ct @c_codewrightref09_AddTo cz) ?_
   intro h3 b4 o2 b5 o3 pa1 ca1 pa2 ca2
   exact tw (ih (i + 1,pa2,ca2,axp (liftI (fA p m)) (liftI (fM p (fpo m md))) (x.getD i default) (rows.getD i default) u) (by dsimp only;omega) ⟨by dsimp only;omega,hw,he⟩)
 ·rw [cmbF_end (by omega)] at he
  subst he
  refine wk 12 cz ?_
  intro h1
  refine j_giv [0] rfl rfl rfl ⟨_,_,rfl,rfl,rfl⟩
abbrev coL (gen : List (List Int)) (hs : List Int) : List (List Int):=hs.map fun j=>colL gen j.toNat
theorem st_len {n : Nat} {l : List Int} (h : stP n l) : l.length ≤ n:=by
 have h1 : (l.map Int.toNat).Nodup:=by
  rw [List.Nodup,List.pairwise_map]
  refine h.2.imp_of_mem fun {a b} ha hb hab e=>?_
  have:=(h.1 a ha).1;have:=(h.1 b hb).1
  omega
 have h2:=nodup_len h1 (l':=List.range n) fun x hx=>by
  obtain ⟨y,hy,rfl⟩:=List.mem_map.1 hx
  have:=h.1 y hy
  exact List.mem_range.2 (by omega)
 rwa [List.length_map,List.length_range] at h2
theorem S_codewrightref53_columns {p m N nm cm n c nh ch : Nat} {pm ps ph : Option Addr} {md hs : List Int} {rows : List (List Int)} (CC : Cok p m md N rows) (hhl : hs.length ≤ 1000000) (hhs : ∀ x ∈ hs,0 ≤ x ∧ x < (N : Int)) :
  Ctr Tryz.prog 35 [.agg #[.int .i64 p,.int .i64 m,.slice pm nm cm,.int .i64 N,.slice ps n c],.slice ph nh ch] [] [slF (encSl I64) ps n c rows,slF I64 ph nh ch hs]
   (fun v Φ β=>∃ (b cap : Nat) (cs : List Value),v = .slice (some ⟨b,0,none⟩) hs.length cap ∧ Φ = [rowF (encSl I64) ⟨some b,cap,cs⟩ hs.length (coL rows hs)] ∧ β = [(some b,22,cs)]):=by
 refine Ctr_of_j' (F:=F_codewrightref53_columns) rfl fun C=>?_
 have hN:=CC.n64
 refine j_len 1 rfl fun hn hb _=>?_
 subst hn
 have hb' : hs.length * 8 ≤ 140737488355328:=hb
 have c_codewrightref09_Turn:=fun {n c : Nat} {ps : Option Addr}=>S_codewrightref09_Turn (n:=n) (c:=c) (ps:=ps) (N:=N) (W:=N) (rows:=rows) (by omega) (Nat.le_refl N) fun r hr=>(CC.mat r hr).1
 refine wk 16 (ct @c_codewrightref09_Turn cz) ?_
 intro b1 pb1 cb1 b2
 (apply j_rowlit (E:=encSl I64) (n:=0) (cs:=[]) [] [] 0 (fun w A hG=>allrd_nil);(· rfl);(· rfl);(· rfl);(· rfl);(· decide))
 refine j_loopG (X:=Nat × Nat × Nat × List Value) [1,4,5] [0,1,2,3] (fun x=>[(7,.int .i64 (x.1 : Int)),(6,.slice (some ⟨x.2.1,0,none⟩) x.1 x.2.2.1)]) (fun x=>(some x.2.1,22,x.2.2.2)::_) (fun x=>[rowF (encSl I64) ⟨some x.2.1,x.2.2.1,x.2.2.2⟩ x.1 (coL rows (hs.take x.1))]) (fun x=>x.1 ≤ hs.length) (fun x=>hs.length - x.1) (0,b2,0,[]) [0] rfl rfl rfl (Nat.zero_le _) (by repeat (first | exact Fr.sub_nil _ | refine Fr.sub_cons rfl ?_)) rfl rfl ?_
 rintro ⟨k,b,cap,cs⟩ hk ih
 simp only [List.cons_append,List.nil_append] at hk ih ⊢
 by_cases hkn : k < hs.length
 ·obtain ⟨x,at_x⟩ : ∃ x,hs[k]? = some x:=⟨_,List.getElem?_eq_getElem hkn⟩
  obtain ⟨x0,x1⟩:=hhs x (List.mem_of_getElem? at_x)
  have ih':=fun b cap cs=>ih (k + 1,b,cap,cs) (by dsimp only;omega) (by dsimp only;omega)
  simp only [List.take_add_one,at_x,Option.toList_some,List.map_append,List.map_cons,List.map_nil] at ih'
  obtain ⟨x,rfl⟩:=Int.eq_ofNat_of_zero_le x0
  simp only [Int.toNat_natCast] at ih'
  have at_u : (trL N rows)[x]? = some (colL rows x):=by rw [trL,List.getElem?_map,List.getElem?_range (by omega)];rfl
  refine wk 9 cz ?_
  intro h1 b3 o1 hz1
  refine j_step rfl (x_ld_int 0 rfl rfl ld3 fun ⟨r1,r2⟩=>?_)
  refine wk 3 cz ?_
  intro b4 o2 hz2 pa1 ca1 b5
  refine j_step rfl (x_appR (z:=colL rows x) 1 0 3 rfl rfl rfl rfl rfl sl25 zo25e rfl (fun w A hG=>(rd_of_slF (hG _ (fact_mem (n:=0) rfl)))) (by omega) _ by25e (by omega) fun r3=>?_)
  refine wk 4 cz ?_
  refine j_rowB 0 rfl (by omega) fun b9 cap9 cs9 hr=>?_
  subst hr
  dsimp only
  refine j_toM [true,false,true] [0,5,6,7,8] (by exact fra rfl) rfl rfl (ih' b9 cap9 cs9)
 ·obtain rfl : k = hs.length:=by omega
  rw [List.take_length]
  clear ih
  refine wk 9 cz ?_
  intro h1
  refine j_givK 2 [0] [0] rfl (.tmp rfl .nil) rfl rfl rfl ⟨b,cap,cs,rfl,rfl,rfl⟩
theorem S_codewrightref53_rank {p m N nm cm n c nh ch : Nat} {pm ps ph : Option Addr} {md : List Int} {rows hh : List (List Int)} (CC : Cok p m md N rows) (hl : hh.length ≤ 1000000) (hM : Mat (p ^ m) rows.length hh) :
  Ctr Tryz.prog 36 [.agg #[.int .i64 p,.int .i64 m,.slice pm nm cm,.int .i64 N,.slice ps n c],.slice ph nh ch] [] [slF (encSl I64) ph nh ch hh,slF I64 pm nm cm md,slF (encSl I64) ps n c rows]
   (Rv (.int .i64 ((cnP p m md rows.length hh).2.length : Nat)) []):=by
 refine Ctr_of_j' (F:=F_codewrightref53_rank) rfl fun C=>?_
 have hlr:=CC.len
 refine j_len 0 rfl fun hn hb _=>?_
 subst hn
 refine j_len 2 rfl fun hn hb _=>?_
 subst hn
 have c_codewrightref09_Canon:=fun {nm cm c : Nat} {pm ps : Option Addr}=>S_codewrightref09_Canon (nm:=nm) (cm:=cm) (pm:=pm) (ps:=ps) (c:=c) (n:=hh.length) CC.K hl (show rows.length ≤ 1000000 by omega) rfl hM
 refine wk 17 (ct @c_codewrightref09_Canon cz) ?_
 intro b1 pb1 pp1 cb1 cp1
 exact ge
theorem S_codewrightref53_columnsP {p m N nm cm n c nh ch : Nat} {pm ps ph : Option Addr} {md hs : List Int} {rows : List (List Int)} (CC : Cok p m md N rows) (hhl : hs.length ≤ 1000000) (hhs : ∀ x ∈ hs,0 ≤ x ∧ x < (N : Int)) :
  Ctr Tryz.prog 35 [.agg #[.int .i64 p,.int .i64 m,.slice pm nm cm,.int .i64 N,.slice ps n c],.slice ph nh ch] [] [slF (encSl I64) ps n c rows,slF I64 ph nh ch hs]
   (fun v Φ β=>∃ (pa : Option Addr) (ca : Nat),v = .slice pa hs.length ca ∧ Φ = [slF (encSl I64) pa hs.length ca (coL rows hs)] ∧ β = []) :=
 Ctr.pubR (e:=22) (by show hs.length * 24 ≤ 140737488355328;omega) ((S_codewrightref53_columns (pm:=pm) (nm:=nm) (cm:=cm) CC hhl hhs).mono fun C w v Φ β ⟨b,cap,cs,h1,h2,h3⟩ hO hf=>⟨Φ,β,⟨⟨some b,cap,cs⟩,h1,h2,h3⟩,hO,hf⟩)
abbrev enB (p m : Nat) (md : List Int) (rows : List (List Int)) (lost hs : List Int) : Bool:=decide ((((cnP p m md rows.length (coL rows hs)).2.length : Nat) : Int) = (((cnP p m md rows.length (coL rows hs++coL rows lost)).2.length : Nat) : Int))
theorem S_codewrightref53_Enough {p m N n c nm cm nl cl nh ch : Nat} {pm ps pl ph : Option Addr} {md lost hs : List Int} {rows : List (List Int)} (CC : Cok p m md N rows) (hlo : stP N lost) (hst : stP N hs) :
  Ctr Tryz.prog 15 [.agg #[.int .i64 p,.int .i64 m,.slice pm nm cm,.int .i64 N,.slice ps n c],.slice pl nl cl,.slice ph nh ch] [] [slF I64 pm nm cm md,slF (encSl I64) ps n c rows,slF I64 pl nl cl lost,slF I64 ph nh ch hs] (Rv (.bool (enB p m md rows lost hs)) []):=by
 refine Ctr_of_j' (F:=F_codewrightref53_Enough) rfl fun C=>?_
 have hN:=CC.n64
 have hl1:=st_len hlo
 have hl2:=st_len hst
 have hm1:=hs_mat CC hs
 have hm2:=hs_mat CC lost
 have hm3 : Mat (p ^ m) rows.length (coL rows hs++coL rows lost):=fun r hr=>(List.mem_append.1 hr).elim (hm1 r) (hm2 r)
 have hc1 : (coL rows hs).length = hs.length:=List.length_map _
 have hc2 : (coL rows lost).length = lost.length:=List.length_map _
 refine wk 6 cz ?_
 intro b1
 refine j_step rfl (x_call [1,3] rfl (S_codewrightref53_columns (pm:=pm) (nm:=nm) (cm:=cm) CC (by omega) hst.1) rfl ?_)
 rintro _ _ _ ⟨b,cap,cs,rfl,rfl,rfl⟩
 simp only [List.cons_append,List.nil_append]
 have c_codewrightref53_columns:=fun {n c nm cm nh ch : Nat} {pm ps ph : Option Addr}=>S_codewrightref53_columnsP (n:=n) (c:=c) (nm:=nm) (cm:=cm) (nh:=nh) (ch:=ch) (pm:=pm) (ps:=ps) (ph:=ph) CC (show lost.length ≤ 1000000 by omega) hlo.1
 have rk1:=fun {n c nm cm : Nat} {pm ps : Option Addr}=>(S_codewrightref53_rank (n:=n) (c:=c) (nm:=nm) (cm:=cm) (nh:=hs.length) (ch:=cap) (pm:=pm) (ps:=ps) (ph:=some ⟨b,0,none⟩) CC (by rw [hc1];omega) hm1).lend (e:=22) (r:=⟨some b,cap,cs⟩) (by show hs.length * 24 ≤ 140737488355328;omega)
 have rk2:=fun {n c nm cm nh ch : Nat} {pm ps ph : Option Addr}=>S_codewrightref53_rank (n:=n) (c:=c) (nm:=nm) (cm:=cm) (nh:=nh) (ch:=ch) (pm:=pm) (ps:=ps) (ph:=ph) CC (hh:=coL rows hs++coL rows lost) (by rw [List.length_append,hc1,hc2];omega) hm3
 refine wk 2 cz ?_
 (apply j_drawKB it mx 1 9;(· rfl);(· rfl);(· rfl))
 (apply lxk_eq;(· rfl);(· exact d_bld_all 0 rfl rfl ld27 rfl))
 (apply lxk_run 1;(· rfl);(· simp))
 (apply lxk_sh (bl:=fun _=>[(some b,22,cs)]) (val:=fun _=>.int .i64 ((cnP p m md rows.length (coL rows hs)).2.length : Nat)) (f:=fun _=>[]);(· rfl);(· exact jg_call [0,1,2] rfl rk1 rfl (by rintro _ _ _ ⟨rfl,rfl,rfl⟩;exact ⟨default,rfl,rfl,rfl,fun g hg=>by cases hg⟩));intro x9)
 simp only [List.map_nil,List.nil_append]
 (apply lxk_eq;(· rfl);(· exact d_bld_all 0 rfl rfl ld27 rfl))
 (apply lxk_run 1;(· rfl);(· simp))
 (apply lxk_eq;(· rfl);(· exact d_bld_all 0 rfl rfl ld27 rfl))
 (apply lxk_run 1;(· rfl);(· simp))
 (apply lxk_sl;(· rfl);(· exact d_x fun _=>x_call [2,3] rfl (c_codewrightref53_columns) rfl (by rintro _ _ _ ⟨pa1,ca1,rfl,rfl,rfl⟩;exact (dk_sl 0 rfl)));intro pa1 ca1)
 (apply lxk_sg;(· rfl);(· exact jg_appN (b:=b + 1) (cs:=cs) (l:=coL rows hs) (l2:=coL rows lost) 0 (fun w A hG=>⟨rfl,hG _ (fact_mem (n:=1) rfl)⟩) rfl rfl rfl sl25 zo25e rfl (by omega) _ by25e (by omega));intro x8)
 refine lxk_end rfl ?_
 dsimp only
 generalize (x8 0).1 = pa9
 generalize (x8 0).2.1 = b9
 generalize (x8 0).2.2.1 = cap9
 generalize (x8 0).2.2.2 = cs9
 simp only [List.map_cons,List.map_nil,List.cons_append,List.nil_append,List.drop_succ_cons,List.drop_zero,List.append_nil]
 refine j_pubZ 0 0 rfl rfl (by show (hs.length + lost.length) * 24 ≤ 140737488355328;omega) ?_
 simp only [List.take_zero,List.nil_append]
 refine j_step rfl (x_call [0,4,5] rfl rk2 rfl ?_)
 rintro _ _ _ ⟨rfl,rfl,rfl⟩
 simp only [List.nil_append]
 refine wk 2 cz ?_
 exact ge
 rfl
theorem pair_of {P M N : Int} {md lost hs : List Int} {rows : List (List Int)} (h : pairE P M md N rows lost hs = 0) : ∃ p m n : Nat,P = p ∧ M = m ∧ N = n ∧ Cok p m md n rows ∧ stP n lost ∧ stP n hs ∧ ∀ x ∈ lost,x ∉ hs:=by
 rw [pairE] at h
 by_cases h0 : ckE P M md N rows = 0
 ·obtain ⟨p,m,n,rfl,rfl,rfl,CC⟩:=ck_of h0
  rw [if_neg (fun e=>e h0)] at h
  by_cases h1 : stP n lost ∧ stP n hs
  ·rw [if_neg (fun e=>e h1)] at h
   refine ⟨p,m,n,rfl,rfl,rfl,CC,h1.1,h1.2,fun x hx hy=>?_⟩
   rw [if_pos (List.any_eq_true.2 ⟨x,hx,decide_eq_true hy⟩)] at h
   omega
  ·rw [if_pos h1] at h;omega
 ·rw [if_pos h0] at h;exact absurd h h0
theorem pairE_rng (P M : Int) (md : List Int) (N : Int) (rows : List (List Int)) (lost hs : List Int) : 0 ≤ pairE P M md N rows lost hs ∧ pairE P M md N rows lost hs ≤ 10:=by
 have:=ckE_rng P M md N rows
 rw [pairE]
 repeat' split
 all_goals omega
noncomputable def sufB (P M : Int) (md : List Int) (N : Int) (rows : List (List Int)) (lost hs : List Int) : Bool:=decide (pairE P M md N rows lost hs = 0) && (wtP P.toNat M.toNat md N.toNat rows lost hs).isNone
theorem S_repair_Suffices {P M N : Int} {n c nm cm nl cl nh ch : Nat} {pm ps pl ph : Option Addr} {md lost hs : List Int} {rows : List (List Int)} (hN : InR .i64 N) :
  Ctr Tryz.prog 28 [.agg #[.int .i64 P,.int .i64 M,.slice pm nm cm,.int .i64 N,.slice ps n c],.slice pl nl cl,.slice ph nh ch] [] [slF I64 pm nm cm md,slF (encSl I64) ps n c rows,slF I64 pl nl cl lost,slF I64 ph nh ch hs] (Rv (.tuple #[.bool (sufB P M md N rows lost hs),.int .i64 (pairE P M md N rows lost hs)]) []):=by
 refine Ctr_of_j' (F:=F_repair_Suffices) rfl fun C=>?_
 have hr:=pairE_rng P M md N rows lost hs
 have c_repair_sides:=fun {n c nm cm nl cl nh ch : Nat} {pm ps pl ph : Option Addr}=>S_repair_sides (P:=P) (M:=M) (N:=N) (md:=md) (rows:=rows) (lost:=lost) (hs:=hs) (pm:=pm) (nm:=nm) (cm:=cm) (ps:=ps) (n:=n) (c:=c) (pl:=pl) (nl:=nl) (cl:=cl) (ph:=ph) (nh:=nh) (ch:=ch) hN rfl
 rw [sufB]
 by_cases h0 : pairE P M md N rows lost hs = 0
 ·obtain ⟨p,m,N,rfl,rfl,rfl,CC,hlo,hhs,-⟩:=pair_of h0
  rw [h0] at c_repair_sides ⊢
  rw [decide_eq_true rfl,Bool.true_and,Int.toNat_natCast,Int.toNat_natCast,Int.toNat_natCast]
  have c_repair_witness:=fun {n c nm cm nl cl nh ch : Nat} {pm ps pl ph : Option Addr}=>S_repair_witness (pm:=pm) (nm:=nm) (cm:=cm) (ps:=ps) (n:=n) (c:=c) (pl:=pl) (nl:=nl) (cl:=cl) (ph:=ph) (nh:=nh) (ch:=ch) CC hlo hhs
  refine wk 15 (ct @c_repair_sides cz) ?_
  intro b1 h1
  refine j_step rfl (x_call [0,1,2,3] rfl c_repair_witness rfl ?_)
  rintro _ _ _ ⟨pa,k,ca,rfl,rfl,rfl,hn,hz⟩
  simp only [List.cons_append,List.nil_append]
  cases hw : wtP p m md N rows lost hs with
  | none =>
   obtain rfl:=hn.2 hw
   obtain ⟨rfl,rfl⟩:=hz hw
   refine j_step rfl (x_eqnilN sl22 rfl rfl ?_)
   refine wk 2 cz ?_
   exact ge
  | some w =>
   cases pa with
   | none=>exact absurd (hn.1 rfl) (by rw [hw];simp)
   | some a =>
    refine j_step rfl (x_eqnilS sl22 rfl rfl ?_)
    refine wk 2 cz ?_
    exact ge
 ·rw [decide_eq_false h0,Bool.false_and]
  refine wk 15 (ct @c_repair_sides cz) ?_
  intro b1 h1
  exact ge
theorem wt_none {p m n : Nat} {md : List Int} {gen : List (List Int)} {lost hs : List Int} : wtP p m md n gen lost hs = none ↔ ∀ j ∈ lost,∀ r ∈ wiP p m md n gen hs,at0 r j.toNat = 0:=by
 rw [wtP,List.find?_eq_none]
 constructor
 ·intro h j hj r hr
  have h1:=h r hr
  refine Classical.byContradiction fun h2=>h1 ?_
  exact List.any_eq_true.2 ⟨j,hj,decide_eq_true h2⟩
 ·intro h r hr h1
  obtain ⟨j,hj,h2⟩:=List.any_eq_true.1 h1
  exact of_decide_eq_true h2 (h j hj r hr)
theorem en_wt {p m n : Nat} {md : List Int} {gen : List (List Int)} {lost hs : List Int} (CC : Cok p m md n gen) (hlo : stP n lost) : enB p m md gen lost hs = (wtP p m md n gen lost hs).isNone:=by
 have O:=fok_fn CC.K
 have h:=O.enough_iff (n:=n) (lost:=lost.map Int.toNat) CC.mat (hs_mat CC hs) fun j hj=>by
  obtain ⟨x,hx,rfl⟩:=List.mem_map.1 hj
  have:=hlo.1 x hx
  omega
 have e : (lost.map Int.toNat).map (colL gen) = coL gen lost:=by rw [List.map_map];rfl
 rw [e] at h
 rw [Bool.eq_iff_iff,Option.isNone_iff_eq_none,wt_none,decide_eq_true_iff]
 refine Iff.trans ⟨fun h=>Int.ofNat.inj h,fun h=>congrArg _ h⟩ (h.trans ⟨fun h j hj=>h _ (List.mem_map.2 ⟨j,hj,rfl⟩),fun h j hj=>?_⟩)
 obtain ⟨x,hx,rfl⟩:=List.mem_map.1 hj
 exact h x hx
theorem fok2 : Fok 2 1 []:=by
 have h : chkF ((2 : Nat) : Int) ((1 : Nat) : Int) []:=⟨⟨by decide,by decide,by decide,by decide⟩,⟨by decide,fun d h1 h2=>by
  have : d < 2:=h2
  omega⟩,fun _=>rfl,fun h=>absurd rfl h⟩
 obtain ⟨p,m,h1,h2,K⟩:=chk_ok h
 obtain rfl : 2 = p:=Int.ofNat.inj h1
 obtain rfl : 1 = m:=Int.ofNat.inj h2
 exact K
theorem mat2 : Mat (2 ^ 1) 2 [[1,1]]:=fun r hr=>by
 rw [List.mem_singleton.1 hr]
 refine ⟨rfl,fun x hx=>?_⟩
 have : x = 1:=by simpa using hx
 subst this;decide
theorem cok2 : Cok 2 1 [] 2 [[1,1]]:=by
 have O:=fok_fn fok2
 refine ⟨fok2,by decide,by decide,mat2,?_⟩
 obtain ⟨⟨v0,v1⟩,hiv⟩:=O.iv 1 (by decide) (by decide) (by decide)
 have hV : invI 2 1 [] 1 = 1:=by
  rw [O.fi.mc 1 _ (by decide) (by decide) v0 v1,O.fi.m1 _ v0 v1] at hiv
  exact hiv
 have hf : findP [[1,1]] 0 0 = some 0:=by decide
 have hp : pivL (liftI (fA 2 1)) (liftI (fM 2 (fpo 1 []))) (negI 2 1) (invI 2 1 []) 0 0 0 [[1,1]] = [sclL (liftI (fM 2 (fpo 1 []))) (invI 2 1 [] 1) [1,1]]:=rfl
 rw [hV,scl_one O.fi (mat2 _ (.head _))] at hp
 have he : elimL (liftI (fA 2 1)) (liftI (fM 2 (fpo 1 []))) (negI 2 1) (invI 2 1 []) 2 0 0 [[1,1]] = ([[1,1]],[0]):=by
  rw [elimL,hf]
  show ((elimL _ _ _ _ 1 1 1 (pivL (liftI (fA 2 1)) (liftI (fM 2 (fpo 1 []))) (negI 2 1) (invI 2 1 []) 0 0 0 [[1,1]])).1,0::(elimL _ _ _ _ 1 1 1 (pivL (liftI (fA 2 1)) (liftI (fM 2 (fpo 1 []))) (negI 2 1) (invI 2 1 []) 0 0 0 [[1,1]])).2) = _
  rw [hp,elim_full _ _ _ _ (Nat.le_refl 1)]
 rw [cnP,cnE,he];rfl
theorem st2 (x : Int) (h : 0 ≤ x ∧ x < 2) : stP ((2 : Nat) : Int) [x]:=⟨fun y hy=>by rw [List.mem_singleton.1 hy];exact h,List.pairwise_singleton _ _⟩
theorem pair2 : pairE 2 1 [] 2 [[1,1]] [0] [1] = 0:=by
 have h : ckE 2 1 [] 2 [[1,1]] = 0:=cok2.ck
 rw [pairE,h,if_neg (by decide),if_neg (fun h=>h ⟨st2 0 (by decide),st2 1 (by decide)⟩)]
 rfl
theorem suf2 : sufB 2 1 [] 2 [[1,1]] [0] [1] = true:=by
 rw [sufB,pair2]
 have hw : wtP 2 1 [] 2 [[1,1]] [0] [1] = none:=wt_none.2 fun j hj=>by
  rw [List.mem_singleton.1 hj]
  exact (((fok_fn fok2).wi cok2.mat (hs_mat cok2 [1])).2 0 (by decide)).2 fun x _ hs=>hs _ (.head _)
 show (decide (0 = 0) && (wtP 2 1 [] 2 [[1,1]] [0] [1]).isNone) = true
 rw [hw];rfl
theorem S_codewrightlaw53_alive : Ctr Tryz.prog 9 [] [] [] (Rv (.bool true) []):=by
 refine Ctr_of_j' (F:=F_codewrightlaw53_alive) rfl fun C=>?_
 have c_repair_Suffices:=fun {n c nm cm nl cl nh ch : Nat} {pm ps pl ph : Option Addr}=>S_repair_Suffices (P:=2) (M:=1) (N:=2) (md:=[]) (rows:=[[1,1]]) (lost:=[0]) (hs:=[1]) (n:=n) (c:=c) (nm:=nm) (cm:=cm) (nl:=nl) (cl:=cl) (nh:=nh) (ch:=ch) (pm:=pm) (ps:=ps) (pl:=pl) (ph:=ph) (by simp only [InR];omega)
 rw [suf2,pair2] at c_repair_Suffices
 refine wk 9 cz ?_
 intro b1 b2 b3 b4
 refine j_pub_madei (kd:=.i64) (n:=2) 8 [1,1] 3 rfl rfl (by simp [InR]) (by decide) (by decide) ?_
 simp only [List.eraseIdx_cons_zero,List.eraseIdx_cons_succ]
 refine j_pub_madei (kd:=.i64) (n:=1) 8 [1] 0 rfl rfl (by simp [InR]) (by decide) (by decide) ?_
 simp only [List.eraseIdx_cons_zero]
 refine j_pub_madei (kd:=.i64) (n:=1) 8 [0] 0 rfl rfl (by simp [InR]) (by decide) (by decide) ?_
 simp only [List.eraseIdx_cons_zero]
 refine j_add (slF I64 none 0 0 []) (fun w A _=>slF_nil I64 w A none 0) ?_
 refine j_pub_all (E:=(encSl (encInt IntKind.i64 8))) (n:=1) [[Value.slice (some { block:=b1,off:=0 }) 2 2]] [[1,1]] 0 (fun w A hG=>(allrd_cons (rd_of_slF (hG _ (fact_mem (n:=3) rfl))) allrd_nil)) rfl rfl rfl rfl (by first | decide | exact Nat.le_of_ble_eq_true rfl) (by first | decide | exact Nat.le_of_ble_eq_true rfl) ?_
 refine wk 5 (ct @c_repair_Suffices cz) ?_
 exact ge
open Classical in
noncomputable def sfE (P M : Int) (md : List Int) (N : Int) (rows : List (List Int)) : Int:=if ¬ chkF P M md then 1 else spE P.toNat M.toNat md N rows
theorem S_codewrightref10_Check {P M N e : Int} {nm cm n c : Nat} {pm ps : Option Addr} {md : List Int} {rows : List (List Int)} (hN : InR .i64 N) (he : sfE P M md N rows = e) :
  Ctr Tryz.prog 34 [.agg #[.int .i64 P,.int .i64 M,.slice pm nm cm],.agg #[.int .i64 N,.slice ps n c]] [] [slF I64 pm nm cm md,slF (encSl I64) ps n c rows] (Rv (.int .i64 e) []):=by
 refine Ctr_of_j' (F:=F_codewrightref10_Check) rfl fun C=>?_
 refine j_len 1 rfl fun hn hb _=>?_
 subst hn
 have hb' : rows.length * 24 ≤ 140737488355328:=hb
 have c_codewrightref09_Check:=fun {nm cm n c : Nat} {pm ps : Option Addr}=>S_codewrightref09_Check (P:=P) (M:=M) (N:=N) (md:=md) (rows:=rows) (nm:=nm) (cm:=cm) (n:=n) (c:=c) (pm:=pm) (ps:=ps) hN rfl
 rw [sfE] at he
 by_cases hc : chkF P M md
 ·rw [if_neg (fun h=>h hc)] at he
  have hk : mkE P M md N rows = mtE N rows (P.toNat ^ M.toNat):=by rw [mkE,if_neg (fun h=>h hc)]
  rw [hk] at c_codewrightref09_Check
  obtain ⟨p,m,rfl,rfl,K⟩:=chk_ok hc
  rw [Int.toNat_natCast,Int.toNat_natCast] at he c_codewrightref09_Check
  have hr:=mtE_rng N rows (p ^ m)
  rw [spE] at he
  by_cases h0 : mtE N rows (p ^ m) = 0
  ·rw [if_neg (by omega)] at he
   rw [h0] at c_codewrightref09_Check
   obtain ⟨k,rfl,hk,hl,hM⟩:=mtE_of h0
   rw [Int.toNat_natCast] at he
   have c_codewrightref09_Canon:=fun {nm cm c : Nat} {pm ps : Option Addr}=>S_codewrightref09_Canon (nm:=nm) (cm:=cm) (pm:=pm) (ps:=ps) (c:=c) (n:=rows.length) K (by omega) (show k ≤ 1000000 by omega) rfl hM
   by_cases hcn : (cnP p m md k rows).1 = rows
   ·rw [if_pos hcn] at he
    subst he
    have hd : decide ((cnP p m md k rows).1 = rows) = true:=decide_eq_true hcn
    refine wk 32 (ct @c_codewrightref09_Check (ct @c_codewrightref09_Canon (ct @S_codewrightref09_SameRows cz))) ?_
    intro b1 b2 h1 pb1 pp1 cb1 cp1
    exact ge
   ·rw [if_neg hcn] at he
    subst he
    have hd : decide ((cnP p m md k rows).1 = rows) = false:=decide_eq_false hcn
    refine wk 32 (ct @c_codewrightref09_Check (ct @c_codewrightref09_Canon (ct @S_codewrightref09_SameRows cz))) ?_
    intro b1 b2 h1 pb1 pp1 cb1 cp1
    exact ge
  ·rw [if_pos h0] at he
   subst he
   refine wk 16 (ct @c_codewrightref09_Check cz) ?_
   intro b1 b2 h1
   exact ge
 ·rw [if_pos hc] at he
  subst he
  have hk : mkE P M md N rows = 1:=by rw [mkE,if_pos hc]
  rw [hk] at c_codewrightref09_Check
  refine wk 16 (ct @c_codewrightref09_Check cz) ?_
  intro b1 b2 h1
  exact ge
theorem S_codewrightref12_Check {P M N e : Int} {pm ps : Option Addr} {nm cm n c : Nat} {md : List Int} {rows : List (List Int)} (hN : InR .i64 N) (h : ckE P M md N rows = e) :
  Ctr Tryz.prog 14 [.agg #[.int .i64 P,.int .i64 M,.slice pm nm cm,.int .i64 N,.slice ps n c]] [] [slF I64 pm nm cm md,slF (encSl I64) ps n c rows] (Rv (.int .i64 e) []):=by
 refine Ctr_of_j' (F:=F_codewrightref12_Check) rfl fun C=>?_
 rw [ckE] at h
 by_cases hc : chkF P M md
 ·rw [if_neg (fun h=>h hc)] at h
  have c_codewrightref04_Check:=fun {pm : Option Addr} {nm cm : Nat}=>S_codewrightref04_Check (P:=P) (M:=M) (md:=md) (pm:=pm) (nm:=nm) (cm:=cm) (if_pos hc).symm
  have hs : sfE P M md N rows = spE P.toNat M.toNat md N rows:=by rw [sfE,if_neg (fun h=>h hc)]
  by_cases h1 : N < 1
  ·rw [if_pos (.inl h1)] at h
   subst h
   refine wk 24 (ct @c_codewrightref04_Check cz) ?_
   intro b1 h2 h3
   exact ge
  ·by_cases h2 : 64 < N
   ·rw [if_pos (.inr h2)] at h
    subst h
    refine wk 26 (ct @c_codewrightref04_Check cz) ?_
    intro b1 h3 h4 h5
    exact ge
   ·rw [if_neg (by omega),← hs] at h
    have c_codewrightref10_Check:=fun {nm cm n c : Nat} {pm ps : Option Addr}=>S_codewrightref10_Check (nm:=nm) (cm:=cm) (n:=n) (c:=c) (pm:=pm) (ps:=ps) hN h
    refine wk 34 (ct @c_codewrightref04_Check (ct @c_codewrightref10_Check cz)) ?_
    intro b1 h3 h4 h5
    exact ge
 ·rw [if_pos hc] at h
  subst h
  have c_codewrightref04_Check:=fun {pm : Option Addr} {nm cm : Nat}=>S_codewrightref04_Check (P:=P) (M:=M) (md:=md) (pm:=pm) (nm:=nm) (cm:=cm) (if_neg hc).symm
  refine wk 15 (ct @c_codewrightref04_Check cz) ?_
  intro b1 h1
  exact ge
theorem S_codewrightref53_In {ps : Option Addr} {n c : Nat} {x : Int} {l : List Int} {res : Bool} (hr : decide (x ∈ l) = res) : Ctr Tryz.prog 32 [.slice ps n c,.int .i64 x] [] [slF I64 ps n c l] (Rv (.bool res) []):=by
 refine Ctr_of_j' (F:=F_codewrightref53_In) rfl fun C=>?_
 subst hr
 refine j_len 0 rfl fun hn hb _=>?_
 subst hn
 have hb' : l.length * 8 ≤ 140737488355328:=hb
 refine wk 5 cz ?_
 refine j_loopG (X:=Nat) [0,1] [0] (fun i=>[(5,.int .i64 (i : Int))]) (fun _=>[]) (fun _=>[]) (fun i=>i ≤ l.length ∧ ∀ y ∈ l.take i,x ≠ y) (fun i=>l.length - i) 0 [] rfl rfl rfl ⟨Nat.zero_le _,fun j h=>by simp at h⟩ (by repeat (first | exact Fr.sub_nil _ | refine Fr.sub_cons rfl ?_)) rfl rfl ?_
 rintro i ⟨hi,hno⟩ ih
 simp only [List.cons_append,List.nil_append] at hi ih ⊢
 by_cases h9 : i < l.length
 ·obtain ⟨y,at_y⟩ : ∃ y,l[i]? = some y:=⟨_,List.getElem?_eq_getElem h9⟩
  by_cases h8 : y = x
  ·subst h8
   rw [decide_eq_true (List.mem_of_getElem? at_y)]
   refine wk 9 cz ?_
   intro h1 b1 o1 hz1
   refine j_step rfl (x_ld_int 0 rfl rfl ld3 fun ⟨r1,r2⟩=>?_)
   refine wk 6 cz ?_
   intro h2
   exact ge
  ·refine wk 9 cz ?_
   intro h1 b1 o1 hz1
   refine j_step rfl (x_ld_int 0 rfl rfl ld3 fun ⟨r1,r2⟩=>?_)
   refine wk 6 cz ?_
   intro h2
   exact tw (ih (i + 1) (by omega) ⟨by omega,tk_all at_y hno fun e=>h8 e.symm⟩)
 ·rw [decide_eq_false fun hm=>hno x (by rwa [List.take_of_length_le (by omega)]) rfl]
  refine wk 9 cz ?_
  intro h1
  exact ge
noncomputable def setsE (P M : Int) (md : List Int) (N : Int) (rows : List (List Int)) (ls : List (List Int)) : Int:=if ckE P M md N rows ≠ 0 then ckE P M md N rows else if ∀ l ∈ ls,stP N l then 0 else 5
theorem S_codewrightref53_Sets {P M N e : Int} {pm ps pl : Option Addr} {nm cm n c nl cl : Nat} {md : List Int} {rows ls : List (List Int)} (hN : InR .i64 N) (h : setsE P M md N rows ls = e) :
  Ctr Tryz.prog 20 [.agg #[.int .i64 P,.int .i64 M,.slice pm nm cm,.int .i64 N,.slice ps n c],.slice pl nl cl] [] [slF I64 pm nm cm md,slF (encSl I64) ps n c rows,slF (encSl I64) pl nl cl ls] (Rv (.int .i64 e) []):=by
 refine Ctr_of_j' (F:=F_codewrightref53_Sets) rfl fun C=>?_
 refine j_len 2 rfl fun hn hb _=>?_
 subst hn
 have hb' : ls.length * 24 ≤ 140737488355328:=hb
 have hr:=ckE_rng P M md N rows
 have c_codewrightref12_Check:=fun {pm ps : Option Addr} {nm cm n c : Nat}=>S_codewrightref12_Check (pm:=pm) (ps:=ps) (nm:=nm) (cm:=cm) (n:=n) (c:=c) (P:=P) (M:=M) (N:=N) (md:=md) (rows:=rows) hN rfl
 rw [setsE] at h
 by_cases h0 : ckE P M md N rows = 0
 ·rw [if_neg (fun e=>e h0)] at h
  rw [h0] at c_codewrightref12_Check
  refine wk 10 (ct @c_codewrightref12_Check cz) ?_
  intro b1
  refine j_loopG (X:=Nat × Int) [1,2,4] [0,1,2] (fun i=>[(6,.int .i64 (i.1 : Int)),(5,.int .i64 i.2)]) (fun _=>_) (fun _=>[]) (fun i=>i.1 ≤ ls.length ∧ (i.2 = 0 ∧ (∀ l ∈ ls.take i.1,stP N l) ∨ i.2 = 5 ∧ e = 5)) (fun i=>ls.length - i.1) (0,0) [] rfl rfl rfl ⟨Nat.zero_le _,.inl ⟨rfl,fun x h=>by simp at h⟩⟩ (by repeat (first | exact Fr.sub_nil _ | refine Fr.sub_cons rfl ?_)) rfl rfl ?_
  rintro ⟨i,e2⟩ ⟨hi,hno⟩ ih
  simp only [List.cons_append,List.nil_append] at hi hno ih ⊢
  rcases hno with ⟨rfl,hno⟩ | ⟨rfl,rfl⟩
  ·by_cases h9 : i < ls.length
   ·obtain ⟨l,hl⟩ : ∃ l,ls[i]? = some l:=⟨_,List.getElem?_eq_getElem h9⟩
    have el:=gd_at hl
    by_cases h8 : stP N l
    ·have hd : decide (stP N (ls.getD i default)) = true:=by rw [el];exact decide_eq_true h8
     refine wk 16 (ct @S_codewrightref11_IsSubset cz) ?_
     intro h1 h2 b2 o1 pa1 ca1
     exact tw (ih (i + 1,0) (by dsimp only;omega) ⟨by dsimp only;omega,.inl ⟨rfl,tk_all hl hno h8⟩⟩)
    ·have hd : decide (stP N (ls.getD i default)) = false:=by rw [el];exact decide_eq_false h8
     rw [if_neg fun hh=>h8 (hh l (List.mem_of_getElem? hl))] at h
     refine wk 18 (ct @S_codewrightref11_IsSubset cz) ?_
     intro h1 h2 b2 o1 pa1 ca1
     exact tw (ih (i + 1,5) (by dsimp only;omega) ⟨by dsimp only;omega,.inr ⟨rfl,h.symm⟩⟩)
   ·rw [if_pos fun l hl=>hno l (by rwa [List.take_of_length_le (by omega)])] at h
    subst h
    refine wk 12 cz ?_
    intro h1
    exact ge
  ·by_cases h9 : i < ls.length
   ·refine wk 12 cz ?_
    intro h1 h2
    exact ge
   ·refine wk 12 cz ?_
    intro h1
    exact ge
 ·rw [if_pos h0] at h
  subst h
  refine wk 10 (ct @c_codewrightref12_Check cz) ?_
  intro b1
  refine j_loopG (X:=Unit) [1,2,4] [0,1,2] (fun i=>[(6,.int .i64 0),(5,.int .i64 (ckE P M md N rows))]) (fun _=>_) (fun _=>[]) (fun _=>True) (fun _=>0) () [] rfl rfl rfl trivial (by repeat (first | exact Fr.sub_nil _ | refine Fr.sub_cons rfl ?_)) rfl rfl ?_
  rintro ⟨⟩ - ih
  simp only [List.cons_append,List.nil_append] at ih ⊢
  by_cases h9 : 0 < ls.length
  ·refine wk 12 cz ?_
   intro h1 h2
   exact ge
  ·refine wk 12 cz ?_
   intro h1
   exact ge
def liE (l : List Int) (n q : Nat) : Int:=if l.length ≠ n then 4 else entE l q
theorem liE_iff {l : List Int} {n q : Nat} : liE l n q = 0 ↔ Wd q n l:=by
 rw [liE]
 by_cases h : l.length = n
 ·rw [if_neg (fun e=>e h),entE]
  by_cases h2 : ∀ x ∈ l,0 ≤ x ∧ x < (q : Int)
  ·rw [if_pos h2];exact ⟨fun _=>⟨h,h2⟩,fun _=>rfl⟩
  ·rw [if_neg h2];exact ⟨fun e=>by omega,fun e=>absurd e.2 h2⟩
 ·rw [if_pos h];exact ⟨fun e=>by omega,fun e=>absurd e.1 h⟩
theorem S_codewrightref12_List {p m nm cm n c k : Nat} {pm ps : Option Addr} {md l : List Int} {e : Int} (K : Fok p m md) (he : liE l k (p ^ m) = e) : Ctr Tryz.prog 58 [.agg #[.int .i64 p,.int .i64 m,.slice pm nm cm],.slice ps n c,.int .i64 k] [] [slF I64 pm nm cm md,slF I64 ps n c l] (Rv (.int .i64 e) []):=by
 refine Ctr_of_j' (F:=F_codewrightref12_List) rfl fun C=>?_
 refine j_len 1 rfl fun hn hb _=>?_
 subst hn
 have c_codewrightref09_Entries:=fun {nm cm n c : Nat} {pm ps : Option Addr} {l : List Int}=>S_codewrightref09_Entries (nm:=nm) (cm:=cm) (pm:=pm) (ps:=ps) (n:=n) (c:=c) (l:=l) K
 subst he
 rw [liE]
 by_cases h : l.length = k
 ·rw [if_neg (fun e=>e h)]
  refine wk 15 (ct @c_codewrightref09_Entries cz) ?_
  intro b1 h1
  exact ge
 ·rw [if_pos h]
  refine wk 12 cz ?_
  intro b1 h1
  exact ge
theorem S_codewrightref12_Encode_ok {p m N nm cm n c nx cx : Nat} {pm ps px : Option Addr} {md msg : List Int} {rows : List (List Int)} (CC : Cok p m md N rows) (hx : Wd (p ^ m) rows.length msg) :
  Ctr Tryz.prog 22 [.agg #[.int .i64 p,.int .i64 m,.slice pm nm cm,.int .i64 N,.slice ps n c],.slice px nx cx] [] [slF I64 pm nm cm md,slF (encSl I64) ps n c rows,slF I64 px nx cx msg]
   (fun v Φ β=>∃ (pb : Option Addr) (cb : Nat),v = .tuple #[.slice pb N cb,.int .i64 0] ∧ Φ = [slF I64 pb N cb (cbP p m md N msg rows)] ∧ β = []):=by
 refine Ctr_of_j' (F:=F_codewrightref12_Encode) rfl fun C=>?_
 have hN:=CC.n64
 have hlr:=CC.len
 refine j_len 1 rfl fun hn hb _=>?_
 subst hn
 have c_codewrightref12_Check:=fun {pm ps : Option Addr} {nm cm n c : Nat}=>S_codewrightref12_Check (pm:=pm) (ps:=ps) (nm:=nm) (cm:=cm) (n:=n) (c:=c) (show InR .i64 (N : Int) by simp only [InR];omega) CC.ck
 have c_codewrightref12_List:=fun {nm cm n c : Nat} {pm ps : Option Addr}=>S_codewrightref12_List (nm:=nm) (cm:=cm) (pm:=pm) (ps:=ps) (n:=n) (c:=c) CC.K (liE_iff.2 hx)
 have c_codewrightref09_Combine:=fun {nm cm nx cx n c : Nat} {pm px ps : Option Addr}=>S_codewrightref09_Combine (nm:=nm) (cm:=cm) (nx:=nx) (cx:=cx) (n:=n) (c:=c) (pm:=pm) (px:=px) (ps:=ps) CC.K (show N ≤ 1000000 by omega) CC.mat hx
 refine wk 35 (ct @c_codewrightref12_Check (ct @c_codewrightref12_List (ct @c_codewrightref09_Combine cz))) ?_
 intro b1 h1 h2 pb1 cb1
 refine j_giv [0] rfl rfl rfl ⟨_,_,rfl,rfl,rfl⟩
theorem S_codewrightref12_Encode_bad {p m N nm cm n c nx cx : Nat} {pm ps px : Option Addr} {md msg : List Int} {rows : List (List Int)} {e : Int} (CC : Cok p m md N rows) (he : liE msg rows.length (p ^ m) = e) (h0 : e ≠ 0) :
  Ctr Tryz.prog 22 [.agg #[.int .i64 p,.int .i64 m,.slice pm nm cm,.int .i64 N,.slice ps n c],.slice px nx cx] [] [slF I64 pm nm cm md,slF (encSl I64) ps n c rows,slF I64 px nx cx msg]
   (Rv (.tuple #[.slice none 0 0,.int .i64 e]) []):=by
 refine Ctr_of_j' (F:=F_codewrightref12_Encode) rfl fun C=>?_
 have hN:=CC.n64
 have hlr:=CC.len
 refine j_len 1 rfl fun hn hb _=>?_
 subst hn
 have c_codewrightref12_Check:=fun {pm ps : Option Addr} {nm cm n c : Nat}=>S_codewrightref12_Check (pm:=pm) (ps:=ps) (nm:=nm) (cm:=cm) (n:=n) (c:=c) (show InR .i64 (N : Int) by simp only [InR];omega) CC.ck
 have c_codewrightref12_List:=fun {nm cm n c : Nat} {pm ps : Option Addr}=>S_codewrightref12_List (nm:=nm) (cm:=cm) (pm:=pm) (ps:=ps) (n:=n) (c:=c) CC.K he
 refine wk 27 (ct @c_codewrightref12_Check (ct @c_codewrightref12_List cz)) ?_
 intro b1 h1 h2
 exact ge
theorem S_codewrightref12_Encode_err {P M N e : Int} {nm cm n c nx cx : Nat} {pm ps px : Option Addr} {md msg : List Int} {rows : List (List Int)} (hN : InR .i64 N) (he : ckE P M md N rows = e) (h0 : e ≠ 0) :
  Ctr Tryz.prog 22 [.agg #[.int .i64 P,.int .i64 M,.slice pm nm cm,.int .i64 N,.slice ps n c],.slice px nx cx] [] [slF I64 pm nm cm md,slF (encSl I64) ps n c rows,slF I64 px nx cx msg]
   (Rv (.tuple #[.slice none 0 0,.int .i64 e]) []):=by
 refine Ctr_of_j' (F:=F_codewrightref12_Encode) rfl fun C=>?_
 have hr:=ckE_rng P M md N rows
 have c_codewrightref12_Check:=fun {pm ps : Option Addr} {nm cm n c : Nat}=>S_codewrightref12_Check (pm:=pm) (ps:=ps) (nm:=nm) (cm:=cm) (n:=n) (c:=c) hN he
 refine wk 18 (ct @c_codewrightref12_Check cz) ?_
 intro b1 h1 h2
 exact ge
abbrev piL (w hs : List Int) : List Int:=hs.map fun j=>at0 w j.toNat
theorem S_repair_shaped_1 {b no nh ch nl cl nc cc np cp : Nat} {f : Bool} {pl ph pc pp pr : Option Addr} {n c : Nat} {r : List Int} {k : Nat} {res : Bool} (hr : (!decide ((n : Int) = (nh : Int))) = res) :
  Ctr Tryz.prog 88 [.slice pr n c,.pointer (some ⟨b,0,none⟩)] [] [slF I64 pr n c r,celF b [.slice pl nl cl,.slice ph nh ch,.slice pc nc cc,.bool f,.slice pp np cp]] (Rv (.bool res) []):=by
 refine Ctr_of_j' (F:=F_repair_shaped_1) rfl fun C=>?_
 subst hr
 refine wk 10 cz ?_
 exact ge
def shB (lost hs : List Int) (coef : List (List Int)) : Bool:=decide ((coef.length : Int) = (lost.length : Int)) && !coef.any fun r=>!decide ((r.length : Int) = (hs.length : Int))
theorem S_repair_shaped {nh ch nl cl nc cc np cp : Nat} {f : Bool} {pl ph pc pp : Option Addr} {lost hs : List Int} {coef : List (List Int)} :
  Ctr Tryz.prog 39 [.agg #[.slice pl nl cl,.slice ph nh ch,.slice pc nc cc,.bool f,.slice pp np cp]] [] [slF I64 pl nl cl lost,slF I64 ph nh ch hs,slF (encSl I64) pc nc cc coef] (Rv (.bool (shB lost hs coef)) []):=by
 refine Ctr_of_j' (F:=F_repair_shaped) rfl fun C=>?_
 refine j_len 0 rfl fun hn hb _=>?_
 subst hn
 refine j_len 1 rfl fun hn hb2 _=>?_
 subst hn
 refine j_len 2 rfl fun hn hb3 _=>?_
 subst hn
 refine wk 2 cz ?_
 intro b1
 refine j_pubC 0 rfl ?_
 refine j_conj [0] rfl ?_
 have c_slices_ContainsFunc_____int___int_:=fun {b : Nat}=>S_slices_ContainsFunc_____int___int_ (f:=88) (caps:=[.pointer (some ⟨b,0,none⟩)]) (g:=conjF [celF b [.slice pl lost.length cl,.slice ph hs.length ch,.slice pc coef.length cc,.bool f,.slice pp np cp]]) (p:=fun r=>!decide ((r.length : Int) = (hs.length : Int))) (ps:=pc) (n:=coef.length) (c:=cc) (l:=coef) fun x _ pa ca=>(S_repair_shaped_1 (no:=0) (k:=0) rfl).conj1
 rw [shB]
 by_cases h : coef.length = lost.length
 ·rw [decide_eq_true (by omega),Bool.true_and]
  refine wk 17 (ct @c_slices_ContainsFunc_____int___int_ cz) ?_
  intro h1
  exact ge
 ·rw [decide_eq_false (by omega),Bool.false_and]
  refine wk 13 cz ?_
  intro h1
  exact ge
theorem S_repair_elements_1_1 {b c0 p m q ng cg ne ce nl cl : Nat} {pg pe pl : Option Addr} {x : Int} {res : Bool} (hq : q ≤ 256) (hr : (!decide (0 ≤ x ∧ x < (q : Int))) = res) :
  Ctr Tryz.prog 90 [.int .i64 x,.pointer (some ⟨c0,0,none⟩)] [] [celF c0 [.pointer (some ⟨b,0,none⟩)],gfC b p m q pg ng cg pe ne ce pl nl cl] (Rv (.bool res) []):=by
 refine Ctr_of_j' (F:=F_repair_elements_1_1) rfl fun C=>?_
 subst hr
 refine wk 8 (ct @S_field_GF__Is cz) ?_
 exact ge
theorem S_repair_elements_1 {b c0 p m q ng cg ne ce nl cl n c : Nat} {pg pe pl ps : Option Addr} {r : List Int} {res : Bool} (hq : q ≤ 256) (hr : (r.any fun x=>!decide (0 ≤ x ∧ x < (q : Int))) = res) :
  Ctr Tryz.prog 89 [.slice ps n c,.pointer (some ⟨c0,0,none⟩)] [] [slF I64 ps n c r,celF c0 [.pointer (some ⟨b,0,none⟩)],gfC b p m q pg ng cg pe ne ce pl nl cl] (Rv (.bool res) []):=by
 refine Ctr_of_j' (F:=F_repair_elements_1) rfl fun C=>?_
 subst hr
 refine j_conj [1,2] rfl ?_
 have c_slices_ContainsFunc___int_int_:=S_slices_ContainsFunc___int_int_ (f:=90) (caps:=[.pointer (some ⟨c0,0,none⟩)]) (g:=conjF [celF c0 [.pointer (some ⟨b,0,none⟩)],gfC b p m q pg ng cg pe ne ce pl nl cl]) (p:=fun x=>!decide (0 ≤ x ∧ x < (q : Int))) (ps:=ps) (n:=n) (c:=c) (l:=r) fun x _=>(S_repair_elements_1_1 hq rfl).conj
 refine wk 7 (ct @c_slices_ContainsFunc___int_int_ cz) ?_
 exact ge
def elB (rows : List (List Int)) (q : Nat) : Bool:=!rows.any fun r=>r.any fun x=>!decide (0 ≤ x ∧ x < (q : Int))
theorem S_repair_elements {b p m q ng cg ne ce nl cl n c : Nat} {pg pe pl ps : Option Addr} {rows : List (List Int)} (hq : q ≤ 256) :
  Ctr Tryz.prog 40 [.pointer (some ⟨b,0,none⟩),.slice ps n c] [] [gfC b p m q pg ng cg pe ne ce pl nl cl,slF (encSl I64) ps n c rows] (Rv (.bool (elB rows q)) []):=by
 refine Ctr_of_j' (F:=F_repair_elements) rfl fun C=>?_
 refine wk 2 cz ?_
 intro b1
 refine j_pubC 0 rfl ?_
 refine j_conj [0,1] rfl ?_
 have c_slices_ContainsFunc_____int___int_:=fun {c0 : Nat}=>S_slices_ContainsFunc_____int___int_ (f:=89) (caps:=[.pointer (some ⟨c0,0,none⟩)]) (g:=conjF [celF c0 [.pointer (some ⟨b,0,none⟩)],gfC b p m q pg ng cg pe ne ce pl nl cl]) (p:=fun r=>r.any fun x=>!decide (0 ≤ x ∧ x < (q : Int))) (ps:=ps) (n:=n) (c:=c) (l:=rows) fun x _ pa ca=>(S_repair_elements_1 hq rfl).conj1
 rw [elB]
 refine wk 6 (ct @c_slices_ContainsFunc_____int___int_ cz) ?_
 exact ge
theorem S_repair_Apply_1 {b nb cb n c : Nat} {pb ps : Option Addr} {r : List Int} {bs : List (List Int)} {res : Bool} (h0 : 0 < bs.length) (hr : (!decide ((r.length : Int) = ((bs.getD 0 []).length : Int))) = res) :
  Ctr Tryz.prog 63 [.slice ps n c,.pointer (some ⟨b,0,none⟩)] [] [slF I64 ps n c r,celF b [.slice pb nb cb],slF (encSl I64) pb nb cb bs] (Rv (.bool res) []):=by
 refine Ctr_of_j' (F:=F_repair_Apply_1) rfl fun C=>?_
 subst hr
 refine j_len 0 rfl fun hn hb _=>?_
 subst hn
 refine j_len 2 rfl fun hn hb2 _=>?_
 subst hn
 obtain ⟨u,at_u⟩ : ∃ u,bs[0]? = some u:=⟨_,List.getElem?_eq_getElem h0⟩
 rw [show bs.getD 0 [] = u by rw [List.getD_eq_getElem?_getD,at_u];rfl]
 refine wk 11 cz ?_
 intro b1 o1 hz1 pa1 ca1
 exact ge
def acbP (p m : Nat) (md : List Int) (n : Nat) (c : List Int) (bs : List (List Int)) : Nat → List Int
 | 0=>zW n
 | j + 1=>axp (liftI (fA p m)) (liftI (fM p (fpo m md))) (c.getD j default) (bs.getD j default) (acbP p m md n c bs j)
theorem acb_wd {p m n : Nat} {md c : List Int} {bs : List (List Int)} (K : Fok p m md) (hM : Mat (p ^ m) n bs) (hc : ∀ x ∈ c,0 ≤ x ∧ x < ((p ^ m : Nat) : Int)) (hl : bs.length ≤ c.length) : ∀ {j : Nat},j ≤ bs.length → Wd (p ^ m) n (acbP p m md n c bs j)
 | 0,_=>(fok_fo K).wz n
 | j + 1,h=>by
  have hj : j < bs.length:=h
  have e1:=gd_at (List.getElem?_eq_getElem (show j < c.length by omega))
  have e2:=gd_at (List.getElem?_eq_getElem hj)
  obtain ⟨c0,c1⟩:=hc _ (List.getElem_mem (show j < c.length by omega))
  rw [acbP,e1,e2]
  exact (fok_fo K).fi.axw c0 c1 (hM _ (List.getElem_mem hj)) (acb_wd K hM hc hl (j:=j) (by omega))
def wdB (bs : List (List Int)) : Bool:=!bs.any fun r=>!decide ((r.length : Int) = ((bs.getD 0 []).length : Int))
theorem shB_iff {lost hs : List Int} {coef : List (List Int)} : shB lost hs coef = true ↔ coef.length = lost.length ∧ ∀ r ∈ coef,(r.length : Int) = (hs.length : Int):=by
 rw [shB,Bool.and_eq_true,Bool.not_eq_true',List.any_eq_false,decide_eq_true_iff]
 refine and_congr (by omega) (forall_congr' fun r=>forall_congr' fun _=>?_)
 rw [Bool.not_eq_true,Bool.not_eq_false',decide_eq_true_iff]
theorem wdB_iff {bs : List (List Int)} : wdB bs = true ↔ ∀ r ∈ bs,(r.length : Int) = ((bs.getD 0 []).length : Int):=by
 rw [wdB,Bool.not_eq_true',List.any_eq_false]
 refine forall_congr' fun r=>forall_congr' fun _=>?_
 rw [Bool.not_eq_true,Bool.not_eq_false',decide_eq_true_iff]
theorem elB_iff {q : Nat} {rows : List (List Int)} : elB rows q = true ↔ ∀ r ∈ rows,∀ x ∈ r,0 ≤ x ∧ x < (q : Int):=by
 rw [elB,Bool.not_eq_true',List.any_eq_false]
 refine forall_congr' fun r=>forall_congr' fun _=>?_
 rw [List.any_eq_true]
 constructor
 ·intro h x hx
  by_cases hd : 0 ≤ x ∧ x < (q : Int)
  ·exact hd
  ·exact absurd ⟨x,hx,by rw [decide_eq_false hd];rfl⟩ h
 ·rintro h ⟨x,hx,h2⟩
  rw [decide_eq_true (h x hx)] at h2
  cases h2
def apE (lost hs : List Int) (coef bs : List (List Int)) (q : Nat) : Int:=if shB lost hs coef = true then if (bs.length : Int) = (hs.length : Int) then if wdB bs = true then if elB coef q = true then if elB bs q = true then 0 else 2 else 2 else 3 else 3 else 3
def apR (p m : Nat) (md : List Int) (coef bs : List (List Int)) (e : Int) : List (List Int):=if e = 0 then coef.map fun c=>acbP p m md (bs.getD 0 []).length c bs bs.length else []
abbrev ApQ (e : Int) (R : List (List Int)) : Value → List Fact → List Blk → Prop:=fun v Φ β=>∃ (pb : Option Addr) (cb : Nat),v = .tuple #[.slice pb R.length cb,.int .i64 e] ∧ Φ = [slF (encSl I64) pb R.length cb R] ∧ β = []
theorem S_repair_elementsR {b p m q ng cg ne ce nl cl n c : Nat} {pg pe pl ps : Option Addr} {rows : List (List Int)} {res : Bool} (hq : q ≤ 256) (hr : elB rows q = res) :
  Ctr Tryz.prog 40 [.pointer (some ⟨b,0,none⟩),.slice ps n c] [] [gfC b p m q pg ng cg pe ne ce pl nl cl,slF (encSl I64) ps n c rows] (Rv (.bool res) []):=hr ▸ S_repair_elements hq
theorem S_repair_Apply {p m nm cm nh ch nl cl nc cc np cp nb cb : Nat} {f : Bool} {pm pl ph pc pp pb : Option Addr} {md lost hs : List Int} {coef bs : List (List Int)} {e : Int} (K : Fok p m md) (hW : (bs.getD 0 []).length ≤ 1000000) (hL : lost.length ≤ 1000000) (he : apE lost hs coef bs (p ^ m) = e) :
  Ctr Tryz.prog 25 [.agg #[.int .i64 p,.int .i64 m,.slice pm nm cm],.agg #[.slice pl nl cl,.slice ph nh ch,.slice pc nc cc,.bool f,.slice pp np cp],.slice pb nb cb] [] [slF I64 pm nm cm md,slF I64 pl nl cl lost,slF I64 ph nh ch hs,slF (encSl I64) pc nc cc coef,slF (encSl I64) pb nb cb bs] (ApQ e (apR p m md coef bs e)):=by
 refine Ctr_of_j' (F:=F_repair_Apply) rfl fun C=>?_
 have hq:=K.q
 refine j_len 1 rfl fun hn hbl _=>?_
 subst hn
 refine j_len 2 rfl fun hn hbh _=>?_
 subst hn
 refine j_len 3 rfl fun hn hbc _=>?_
 subst hn
 refine j_len 4 rfl fun hn hbb _=>?_
 subst hn
 have hbc' : coef.length * 24 ≤ 140737488355328:=hbc
 have hbb' : bs.length * 24 ≤ 140737488355328:=hbb
 have c_field_New:=fun {pm : Option Addr} {nm cm : Nat}=>S_field_New_ok (pm:=pm) (nm:=nm) (cm:=cm) K
 have c_repair_shaped:=fun {nh ch nl cl nc cc np cp : Nat} {f : Bool} {pl ph pc pp : Option Addr}=>S_repair_shaped (nh:=nh) (ch:=ch) (nl:=nl) (cl:=cl) (nc:=nc) (cc:=cc) (np:=np) (cp:=cp) (f:=f) (pl:=pl) (ph:=ph) (pc:=pc) (pp:=pp) (lost:=lost) (hs:=hs) (coef:=coef)
 have c_repair_elements:=fun {b ng cg ne ce nl cl n c : Nat} {pg pe pl ps : Option Addr} {rows : List (List Int)}=>S_repair_elements (b:=b) (p:=p) (m:=m) (q:=p ^ m) (ng:=ng) (cg:=cg) (ne:=ne) (ce:=ce) (nl:=nl) (cl:=cl) (n:=n) (c:=c) (pg:=pg) (pe:=pe) (pl:=pl) (ps:=ps) (rows:=rows) hq
 have c_slices_ContainsFunc_____int___int_:=fun {b3 : Nat}=>S_slices_ContainsFunc_____int___int_ (f:=63) (caps:=[.pointer (some ⟨b3,0,none⟩)]) (g:=conjF [celF b3 [.slice pb bs.length cb],slF (encSl I64) pb bs.length cb bs]) (p:=fun r=>!decide ((r.length : Int) = ((bs.getD 0 []).length : Int))) (ps:=pb) (n:=bs.length) (c:=cb) (l:=bs) fun x hx pa ca=>(S_repair_Apply_1 (List.length_pos_of_mem hx) rfl).conj1
 refine wk 5 cz ?_
 intro b1 b2 b3
 refine j_pubC 0 rfl ?_
 refine j_conj [0,5] rfl ?_
 rw [apE] at he
 by_cases h1 : shB lost hs coef = true
 ·rw [if_pos h1] at he
  rw [h1] at c_repair_shaped
  obtain ⟨hcl,hcr⟩:=shB_iff.1 h1
  by_cases h2 : (bs.length : Int) = (hs.length : Int)
  ·rw [if_pos h2] at he
   by_cases h3 : wdB bs = true
   ·rw [if_pos h3] at he
    have hbw:=wdB_iff.1 h3
    rw [show (bs.any fun r=>!decide ((r.length : Int) = ((bs.getD 0 []).length : Int))) = false by rw [wdB,Bool.not_eq_true'] at h3;exact h3] at c_slices_ContainsFunc_____int___int_
    by_cases h4 : elB coef (p ^ m) = true
    ·rw [if_pos h4] at he
     have hce:=elB_iff.1 h4
     have c_repair_elements:=fun {b ng cg ne ce nl cl n c : Nat} {pg pe pl ps : Option Addr}=>S_repair_elementsR (b:=b) (p:=p) (m:=m) (q:=p ^ m) (ng:=ng) (cg:=cg) (ne:=ne) (ce:=ce) (nl:=nl) (cl:=cl) (n:=n) (c:=c) (pg:=pg) (pe:=pe) (pl:=pl) (ps:=ps) (rows:=coef) hq h4
     refine wk 31 (ct @c_field_New (ct @c_repair_shaped (ct @c_slices_ContainsFunc_____int___int_ cz))) ?_
     intro b4 pg1 cg1 pe1 ce1 pl1 cl1 h5 h6
     refine wk 2 (ct @c_repair_elements cz) ?_
     by_cases h5 : elB bs (p ^ m) = true
     ·rw [if_pos h5] at he
      subst he
      have hbe:=elB_iff.1 h5
      have c_repair_elements:=fun {b ng cg ne ce nl cl n c : Nat} {pg pe pl ps : Option Addr}=>S_repair_elementsR (b:=b) (p:=p) (m:=m) (q:=p ^ m) (ng:=ng) (cg:=cg) (ne:=ne) (ce:=ce) (nl:=nl) (cl:=cl) (n:=n) (c:=c) (pg:=pg) (pe:=pe) (pl:=pl) (ps:=ps) (rows:=bs) hq h5
      have hM : Mat (p ^ m) (bs.getD 0 []).length bs:=fun r hr=>⟨by have:=hbw r hr;omega,hbe r hr⟩
      rw [apR,if_pos rfl]
      clear c_slices_ContainsFunc_____int___int_ c_repair_shaped c_field_New
      rcases Nat.eq_zero_or_pos bs.length with h0 | h0
      ·rw [show (coef.map fun c=>acbP p m md (bs.getD 0 []).length c bs bs.length) = (List.range lost.length).map (fun _=>[]) from by
        obtain rfl : bs = []:=List.eq_nil_of_length_eq_zero h0
        refine List.ext_getElem (by rw [List.length_map,List.length_map,List.length_range,hcl]) fun i a b=>?_
        rw [List.getElem_map,List.getElem_map];rfl]
       refine wk 9 (ct @c_repair_elements cz) ?_
       refine j_step rfl (x_make (lost.length) _ rfl rfl sl25 zo25e rfl rfl by25e (by omega) (by omega) (by omega) fun b5=>?_)
       refine wk 7 cz ?_
       refine j_hd0 0 rfl (by omega) fun csA=>?_
       refine j_famNil I64 3 lost.length ?_
       simp only [setB,List.cons_append,List.nil_append,List.eraseIdx_cons_zero]
       refine j_loopG (X:=Nat) [5,6,7,8,10,57,58] [0,1,2,3,4,5,6,7,8,9,10,11,12] (fun i=>[(59,.int .i64 (i : Int))]) (fun _=>_) (fun _=>[]) (fun i=>i ≤ coef.length) (fun i=>coef.length - i) 0 [] rfl rfl rfl (Nat.zero_le _) (by repeat (first | exact Fr.sub_nil _ | refine Fr.sub_cons rfl ?_)) rfl rfl ?_
       rintro i hi ih
       simp only [List.cons_append,List.nil_append] at hi ih ⊢
       by_cases h9 : i < coef.length
       ·obtain ⟨u,at_u⟩ : ∃ u,coef[i]? = some u:=⟨_,List.getElem?_eq_getElem h9⟩
        refine wk 14 cz ?_
        intro h7 b6 o1 hz1 pa1 ca1
        refine j_loopG (X:=Unit) [5,6,7,8,10,11,12,57,58,59,60,61,62,63,64,65] [0,1,2,3,4,5,6,7,8,9,10,11,12,13,14] (fun _=>[(66,.int .i64 0)]) (fun _=>_) (fun _=>[]) (fun _=>True) (fun _=>0) () [] rfl rfl rfl trivial (by repeat (first | exact Fr.sub_nil _ | refine Fr.sub_cons rfl ?_)) rfl rfl ?_
        rintro ⟨⟩ - ihj
        simp only [List.cons_append,List.nil_append] at ihj ⊢
        clear ihj
        refine wk 7 cz ?_
        intro h8
        exact tw (ih (i + 1) (by omega) (by omega))
       ·clear ih
        refine wk 3 cz ?_
        refine j_pubFamL 3 0 1 0 rfl rfl rfl rfl (fun i hi=>Nat.zero_le _) ?_
        simp only [List.take_succ_cons,List.take_zero]
        have hRl : ((List.range lost.length).map fun _=>([] : List Int)).length = lost.length:=by rw [List.length_map,List.length_range]
        generalize ((List.range lost.length).map fun _=>([] : List Int)) = R at *
        refine j_pubR 0 0 rfl rfl (by show lost.length * 24 ≤ 140737488355328;omega) ?_
        rw [← hRl]
        simp only [List.eraseIdx_cons_zero,List.eraseIdx_cons_succ]
        refine wk 4 cz ?_
        intro h7
        refine j_giv [0] rfl rfl rfl ⟨_,_,rfl,rfl,rfl⟩
      ·generalize (bs.getD 0 []).length = W at *
       have hRl : (coef.map fun c=>acbP p m md W c bs bs.length).length = lost.length:=by rw [List.length_map,hcl]
       have hRa : ∀ i u,coef[i]? = some u → row0 (coef.map fun c=>acbP p m md W c bs bs.length) i = acbP p m md W u bs bs.length:=fun i u h=>by
        rw [row0,List.getD_eq_getElem?_getD,List.getElem?_map,h];rfl
       generalize (coef.map fun c=>acbP p m md W c bs bs.length) = R at *
       refine wk 9 (ct @c_repair_elements cz) ?_
       refine j_step rfl (x_make (lost.length) _ rfl rfl sl25 zo25e rfl rfl by25e (by omega) (by omega) (by omega) fun b5=>?_)
       refine wk 7 cz ?_
       refine j_hd0 0 rfl (by omega) fun csA=>?_
       refine j_famNil I64 3 0 ?_
       simp only [setB,List.cons_append,List.nil_append]
       refine j_matCongr (row0 R) 0 rfl (fun g hg=>absurd hg (Nat.not_lt_zero g)) ?_
       simp only [List.eraseIdx_cons_zero,List.cons_append,List.nil_append]
       refine j_loopG (X:=Nat × List Value × (Nat → Hd) × (Nat → List Value)) [5,6,7,8,10,57,58] [3,5,6,8,12,13] (fun x=>[(59,.int .i64 (x.1 : Int))]) (fun x=>(some b5,22,x.2.1)::(some b2,40,[.slice pl lost.length cl,.slice ph hs.length ch,.slice pc coef.length cc,.bool f,.slice pp np cp])::(some b1,24,[.int .i64 p,.int .i64 m,.slice pm nm cm])::famB 3 x.2.2.1 x.2.2.2 x.1 [])
        (fun x=>[rowF hdE ⟨some b5,lost.length,x.2.1⟩ lost.length (hdl x.2.2.1 lost.length),matF I64 x.2.2.1 x.2.2.2 (row0 R) x.1 []])
        (fun x=>x.1 ≤ lost.length ∧ ∀ k,x.1 ≤ k → x.2.2.1 k = (none,0,0)) (fun x=>lost.length - x.1) (0,csA,fun _=>(none,0,0),fun _=>[]) [2,0] rfl rfl rfl ⟨Nat.zero_le _,fun _ _=>rfl⟩ (by repeat (first | exact Fr.sub_nil _ | refine Fr.sub_cons rfl ?_)) rfl rfl ?_
       rintro ⟨i,hc,hd,cs⟩ ⟨hi,hnil⟩ ih
       simp only [List.cons_append,List.nil_append] at hi hnil ih ⊢
       by_cases h9 : i < lost.length
       ·obtain ⟨u,at_u⟩ : ∃ u,coef[i]? = some u:=⟨_,List.getElem?_eq_getElem (by omega)⟩
        have hxe:=hce u (List.mem_of_getElem? at_u)
        have hxl:=hcr u (List.mem_of_getElem? at_u)
        have hra:=hRa i u at_u
        have hwd : ∀ {j : Nat},j ≤ bs.length → Wd (p ^ m) W (acbP p m md W u bs j):=acb_wd K hM hxe (by omega)
        have eu : upd hd i (none,0,0) = hd:=upd_id (hnil i (Nat.le_refl _))
        refine wk 14 cz ?_
        intro h7 b6 o1 hz1 pa1 ca1
        refine j_add (rowF hdE ⟨some b5,lost.length,hc⟩ lost.length (hdl (upd hd i (none,0,0)) lost.length)) (fun w A hG=>by rw [eu];exact hG _ (fact_mem (n:=2) rfl)) ?_
        refine j_row0 I64 3 ?_
        refine j_loopG (X:=Nat × Option Nat × Nat × List Value × List Value) [5,6,7,8,10,11,12,57,58,59,60,61,62,63,64,65] [2,5,6,7,8,9,10,11] (fun x=>[(66,.int .i64 (x.1 : Int))]) (fun x=>(x.2.1,3,x.2.2.2.1)::(some b5,22,x.2.2.2.2)::(some b2,40,[.slice pl lost.length cl,.slice ph hs.length ch,.slice pc coef.length cc,.bool f,.slice pp np cp])::(some b1,24,[.int .i64 p,.int .i64 m,.slice pm nm cm])::famB 3 hd cs i [])
         (fun x=>[rowF hdE ⟨some b5,lost.length,x.2.2.2.2⟩ lost.length (hdl (upd hd i (x.2.1,x.2.2.1,x.2.2.1)) lost.length)])
         (fun x=>x.1 ≤ bs.length ∧ (x.1 = 0 → x.2.1 = none ∧ x.2.2.1 = 0) ∧ (x.1 ≠ 0 → (∃ b,x.2.1 = some b) ∧ x.2.2.1 = W ∧ x.2.2.2.1 = intCells .i64 (acbP p m md W u bs x.1))) (fun x=>bs.length - x.1) (0,none,0,[],hc) [1] rfl rfl rfl ⟨Nat.zero_le _,fun _=>⟨rfl,rfl⟩,fun h=>absurd rfl h⟩ (by repeat (first | exact Fr.sub_nil _ | refine Fr.sub_cons rfl ?_)) rfl rfl ?_
        rintro ⟨j,bo,l,cel,hc⟩ ⟨hj,hj0,hj1⟩ ihj
        simp only [List.cons_append,List.nil_append] at hj hj0 hj1 ihj ⊢
        have hz : (hdl (upd hd i (bo,l,l)) lost.length)[i]? = some (bo,l,l):=by rw [hdl,List.getElem?_map,List.getElem?_range h9,Option.map_some,upd_self]
        by_cases h8 : j < bs.length
        ·obtain ⟨v,at_v⟩ : ∃ v,bs[j]? = some v:=⟨_,List.getElem?_eq_getElem h8⟩
         have hv:=hM v (List.mem_of_getElem? at_v)
         obtain rfl : W = v.length:=hv.1.symm
         obtain ⟨a,at_a⟩ : ∃ a,u[j]? = some a:=⟨_,List.getElem?_eq_getElem (by omega)⟩
         obtain ⟨a0,a1⟩:=hxe a (List.mem_of_getElem? at_a)
         have ga:=gd_at at_a
         have hu:=hwd hj
         have FF:=(fok_fo K).fi
         have hax:=FF.axw a0 a1 hv hu
         have hnx : acbP p m md v.length u bs (j + 1) = axp (liftI (fA p m)) (liftI (fM p (fpo m md))) a v (acbP p m md v.length u bs j):=by rw [acbP,gd_at at_v,ga]
         have key : ∀ (b : Nat) (hc : List Value) (pa2 : Option Addr) (ca2 : Nat),J F_repair_Apply C [It.c (pL 133483726),It.blk 4,It.blk 3,It.c (pL 4171367),It.lp (pL 521420),It.blk 2,It.blk 1,It.c (pL 16295),It.lp (pL 2036),It.blk 0,It.c (pL 255)]
           [(5,.pointer (some ⟨b3,0,none⟩)),(6,.slice none 0 0),(7,.int .i64 0),(8,.pointer (some ⟨b4,0,none⟩)),(10,.slice (some ⟨b5,0,none⟩) lost.length lost.length),(11,.int .i64 i),(12,.slice pa1 u.length ca1),(13,.int .i64 j),(57,.slice pc coef.length cc),(58,.int .i64 coef.length),(59,.int .i64 i),(60,.bool (decide ((i : Int) < coef.length))),(61,.int .i64 i),(62,.pointer (some ⟨o1,hz1,none⟩)),(63,.slice pa1 u.length ca1),(64,.slice pb bs.length cb),(65,.int .i64 bs.length),(66,.int .i64 j),(82,.slice pa2 v.length ca2),(83,.int .i64 v.length),(84,.int .i64 0)]
           ((some b,3,intCells .i64 (acbP p m md v.length u bs j))::(some b5,22,hc)::(some b2,40,[.slice pl lost.length cl,.slice ph hs.length ch,.slice pc coef.length cc,.bool f,.slice pp np cp])::(some b1,24,[.int .i64 p,.int .i64 m,.slice pm nm cm])::famB 3 hd cs i [])
           [rowF hdE ⟨some b5,lost.length,hc⟩ lost.length (hdl (upd hd i (some b,v.length,v.length)) lost.length),slF I64 pa2 v.length ca2 v,slF I64 pa1 u.length ca1 u,matF I64 hd cs (row0 R) i [],celF b4 [.int .i64 p,.int .i64 m,.slice pg1 md.length cg1,.int .i64 (p ^ m : Nat),.slice pe1 (p ^ m - 1) ce1,.slice pl1 (p ^ m) cl1],slF I64 pe1 (p ^ m - 1) ce1 (exL p m md),slF I64 pl1 (p ^ m) cl1 (lgL p m md),celF b3 [.slice pb bs.length cb],slF (encSl I64) pc coef.length cc coef,slF (encSl I64) pb bs.length cb bs] (Gives C (ApQ 0 R)):=by
          intro b hc pa2 ca2
          have hal:=hax.1
          have hul:=hu.1
          have hz : (hdl (upd hd i (some b,v.length,v.length)) lost.length)[i]? = some (some b,v.length,v.length):=by rw [hdl,List.getElem?_map,List.getElem?_range h9,Option.map_some,upd_self]
          have c_field_GF__Mul:=fun {b ng cg ce cl : Nat} {pg pe pl : Option Addr} {x y : Int}=>S_field_GF__Mul (b:=b) (ng:=ng) (cg:=cg) (ce:=ce) (cl:=cl) (pg:=pg) (pe:=pe) (pl:=pl) (x:=x) (y:=y) K
          have c_field_GF__Add:=fun {b ng cg ne ce nl cl : Nat} {pg pe pl : Option Addr} {x y : Int}=>S_field_GF__Add (b:=b) (ng:=ng) (cg:=cg) (ne:=ne) (ce:=ce) (nl:=nl) (cl:=cl) (pg:=pg) (pe:=pe) (pl:=pl) (x:=x) (y:=y) K.p2 K.m1 K.q
          have ihj':=fun hc=>ihj (j + 1,some b,v.length,intCells .i64 (acbP p m md v.length u bs (j + 1)),hc) (by dsimp only;omega) ⟨by dsimp only;omega,fun h=>absurd h (Nat.succ_ne_zero j),fun _=>⟨⟨b,rfl⟩,rfl,rfl⟩⟩
          dsimp only at ihj'
          rw [hnx] at ihj'
          clear ihj ih
          generalize acbP p m md v.length u bs j = o at *
          generalize liftI (fM p (fpo m md)) = M at *
          generalize liftI (fA p m) = A0 at *
          refine j_loopG (X:=Nat) [5,6,7,8,10,11,12,13,57,58,59,60,61,62,63,64,65,66,82,83] [0,1,2,3,4,5,6,7,8,9] (fun k=>[(84,.int .i64 (k : Int))]) (fun k=>(some b,3,intCells .i64 ((axp A0 M a v o).take k++o.drop k))::(some b5,22,hc)::(some b2,40,[.slice pl lost.length cl,.slice ph hs.length ch,.slice pc coef.length cc,.bool f,.slice pp np cp])::(some b1,24,[.int .i64 p,.int .i64 m,.slice pm nm cm])::famB 3 hd cs i []) (fun _=>[]) (fun k=>k ≤ v.length) (fun k=>v.length - k) 0 [] rfl rfl rfl (Nat.zero_le _) (by repeat (first | exact Fr.sub_nil _ | refine Fr.sub_cons rfl ?_)) rfl rfl ?_
          rintro k hk ihk
          simp only [List.cons_append,List.nil_append] at hk ihk ⊢
          by_cases hkn : k < v.length
          ·obtain ⟨x,at_x⟩ : ∃ x,v[k]? = some x:=⟨_,List.getElem?_eq_getElem hkn⟩
           obtain ⟨y,hy⟩ : ∃ y,o[k]? = some y:=⟨_,List.getElem?_eq_getElem (by omega)⟩
           obtain ⟨x0,x1⟩:=hv.2 x (List.mem_of_getElem? at_x)
           obtain ⟨y0,y1⟩:=hu.2 y (List.mem_of_getElem? hy)
           have hT : (axp A0 M a v o)[k]? = some (A0 y (M a x)):=by rw [axp,List.getElem?_zipWith,hy,at_x]
           have at_y:=(mixI_at hal hul hkn).trans hy
           have hset:=mixI_set hal hul hkn hT
           have hLl : ((axp A0 M a v o).take k++o.drop k).length = v.length:=by rw [List.length_append,List.length_take,List.length_drop];omega
           have ihk':=ihk (k + 1) (by omega) (by omega)
           rw [← hset] at ihk'
           obtain ⟨m0,m1⟩:=FF.ml a x a0 a1 x0 x1
           obtain ⟨s0,s1⟩:=FF.al y (M a x) y0 y1 m0 m1
           generalize (axp A0 M a v o).take k++o.drop k = L at *
           rw [← ga] at ihk' m0 m1 s0 s1
           clear ihk ihj'
           refine wk 7 cz ?_
           intro h10 b7 o2 hz2
           refine j_step rfl (x_ld_int 0 rfl rfl ld3 fun ⟨r1,r2⟩=>?_)
           refine wk 8 (ct @c_field_GF__Mul (ct @c_field_GF__Add cz)) ?_
           intro b8 o3
           simp only [setB]
           exact tw (ihk')
          ·obtain rfl : k = v.length:=by omega
           rw [List.take_of_length_le (by omega),List.drop_of_length_le (by omega),List.append_nil]
           clear ihk
           refine wk 7 cz ?_
           intro h10
           exact tw (ihj' hc)
         by_cases h7 : j = 0
         ·obtain ⟨rfl,rfl⟩:=hj0 h7
          clear ih ihj
          refine wk 13 cz ?_
          intro h10 b7 o2 hz2 pa2 ca2
          refine j_step rfl (x_eqnilN sl22 rfl rfl ?_)
          refine wk 7 cz ?_
          intro b8
          refine j_step rfl (x_stR (vs:=[Value.slice (some { block:=b8,off:=0 }) v.length v.length]) (z:=(some b8,v.length,v.length)) 2 2 (i) rfl rfl rfl rfl rfl ld22 (Nat.mul_one _).symm (by omega) (fun w A hG=>(rd_hd (some _) _ _)) fun cs1=>?_)
          refine wk 5 cz ?_
          simp only [setB,List.set_cons_succ,List.set_cons_zero]
          rw [hdl_set,eu,show natCells .i64 (List.replicate v.length 0) = intCells .i64 (acbP p m md v.length u bs j) by rw [h7];simp [natCells,intCells,zW,acbP]]
          refine j_selT 5 [0,2,3,4] rfl rfl ?_
          simp only [List.cons_append,List.nil_append,List.drop_succ_cons,List.drop_zero]
          exact tw (key b8 cs1 pa2 ca2)
         ·obtain ⟨⟨b,rfl⟩,rfl,rfl⟩:=hj1 h7
          clear ih ihj
          refine wk 13 cz ?_
          intro h10 b7 o2 hz2 pa2 ca2
          refine j_step rfl (x_eqnilS sl22 rfl rfl ?_)
          refine wk 7 cz ?_
          exact tw (key b hc pa2 ca2)
        ·obtain rfl : j = bs.length:=by omega
         obtain ⟨⟨b,rfl⟩,rfl,rfl⟩:=hj1 (by omega)
         clear ihj
         have hr:=hwd (Nat.le_refl _)
         refine wk 3 cz ?_
         refine j_rowInt 0 rfl hr.1.symm (fun y hy=>by have:=hr.2 y hy;simp only [InR];omega) (by omega) ?_
         refine j_push 3 0 0 3 rfl rfl rfl rfl ?_
         simp only [List.eraseIdx_cons_zero,List.eraseIdx_cons_succ,List.take_succ_cons,List.take_zero,List.cons_append,List.nil_append]
         refine j_matCongr (row0 R) 0 rfl (fun g hg=>by
          by_cases e : g = i
          ·subst e;rw [upd_self,hra]
          ·rw [upd_ne e]) ?_
         refine wk 4 cz ?_
         intro h10
         exact tw (ih (i + 1,hc,upd hd i (some b,l,l),upd cs i (intCells .i64 (acbP p m md l u bs bs.length))) (by dsimp only;omega) ⟨by dsimp only;omega,fun k hk=>by
          dsimp only at hk ⊢
          rw [upd_ne (show k ≠ i by omega)]
          exact hnil k (by omega)⟩)
       ·obtain rfl : lost.length = i:=by omega
        refine wk 3 cz ?_
        clear ih
        refine j_hdlen 1 rfl fun hlen=>?_
        refine j_pubFamL 3 0 0 1 rfl rfl rfl rfl (fun k hk=>by
         obtain ⟨u,at_u⟩ : ∃ u,coef[k]? = some u:=⟨_,List.getElem?_eq_getElem (by omega)⟩
         rw [hlen k hk rfl,hRa k u at_u,(acb_wd K hM (hce u (List.mem_of_getElem? at_u)) (by have:=hcr u (List.mem_of_getElem? at_u);omega) (Nat.le_refl _)).1]
         show W * 8 ≤ 140737488355328
         omega) ?_
        simp only [List.take_succ_cons,List.take_zero]
        rw [show (List.range lost.length).map (row0 R) = R from by
         refine List.ext_getElem (by rw [List.length_map,List.length_range,hRl]) fun i h1 h2=>?_
         rw [List.getElem_map,List.getElem_range,row0,List.getD_eq_getElem?_getD,List.getElem?_eq_getElem h2];rfl]
        refine j_pubR 0 0 rfl rfl (by show lost.length * 24 ≤ 140737488355328;omega) ?_
        simp only [List.eraseIdx_cons_zero,List.eraseIdx_cons_succ]
        rw [← hRl]
        refine wk 4 cz ?_
        intro h7
        refine j_giv [0] rfl rfl rfl ⟨_,_,rfl,rfl,rfl⟩
     ·rw [if_neg h5] at he
      have c_repair_elements:=fun {b ng cg ne ce nl cl n c : Nat} {pg pe pl ps : Option Addr}=>S_repair_elementsR (b:=b) (p:=p) (m:=m) (q:=p ^ m) (ng:=ng) (cg:=cg) (ne:=ne) (ce:=ce) (nl:=nl) (cl:=cl) (n:=n) (c:=c) (pg:=pg) (pe:=pe) (pl:=pl) (ps:=ps) (rows:=bs) hq (Bool.eq_false_iff.2 h5)
      subst he
      refine wk 8 (ct @c_repair_elements cz) ?_
      refine j_add (slF (encSl I64) none 0 0 []) (fun w A _=>slF_nil (encSl I64) w A none 0) ?_
      refine j_giv [0] rfl rfl rfl ⟨_,_,rfl,rfl,rfl⟩
    ·rw [if_neg h4] at he
     have c_repair_elements:=fun {b ng cg ne ce nl cl n c : Nat} {pg pe pl ps : Option Addr}=>S_repair_elementsR (b:=b) (p:=p) (m:=m) (q:=p ^ m) (ng:=ng) (cg:=cg) (ne:=ne) (ce:=ce) (nl:=nl) (cl:=cl) (n:=n) (c:=c) (pg:=pg) (pe:=pe) (pl:=pl) (ps:=ps) (rows:=coef) hq (Bool.eq_false_iff.2 h4)
     subst he
     refine wk 38 (ct @c_field_New (ct @c_repair_shaped (ct @c_slices_ContainsFunc_____int___int_ (ct @c_repair_elements cz)))) ?_
     intro b4 pg1 cg1 pe1 ce1 pl1 cl1 h5 h6
     refine j_add (slF (encSl I64) none 0 0 []) (fun w A _=>slF_nil (encSl I64) w A none 0) ?_
     refine j_giv [0] rfl rfl rfl ⟨_,_,rfl,rfl,rfl⟩
   ·rw [if_neg h3] at he
    rw [show (bs.any fun r=>!decide ((r.length : Int) = ((bs.getD 0 []).length : Int))) = true by rw [wdB,Bool.not_eq_true',Bool.not_eq_false] at h3;exact h3] at c_slices_ContainsFunc_____int___int_
    subst he
    refine wk 30 (ct @c_field_New (ct @c_repair_shaped (ct @c_slices_ContainsFunc_____int___int_ cz))) ?_
    intro b4 pg1 cg1 pe1 ce1 pl1 cl1 h4 h5
    refine j_add (slF (encSl I64) none 0 0 []) (fun w A _=>slF_nil (encSl I64) w A none 0) ?_
    refine j_giv [0] rfl rfl rfl ⟨_,_,rfl,rfl,rfl⟩
  ·rw [if_neg h2] at he
   subst he
   refine wk 27 (ct @c_field_New (ct @c_repair_shaped cz)) ?_
   intro b4 pg1 cg1 pe1 ce1 pl1 cl1 h3 h4
   refine j_add (slF (encSl I64) none 0 0 []) (fun w A _=>slF_nil (encSl I64) w A none 0) ?_
   refine j_giv [0] rfl rfl rfl ⟨_,_,rfl,rfl,rfl⟩
 ·rw [if_neg h1] at he
  rw [Bool.eq_false_iff.2 h1] at c_repair_shaped
  subst he
  refine wk 17 (ct @c_field_New (ct @c_repair_shaped cz)) ?_
  intro b4 pg1 cg1 pe1 ce1 pl1 cl1 h2
  refine j_add (slF (encSl I64) none 0 0 []) (fun w A _=>slF_nil (encSl I64) w A none 0) ?_
  refine j_giv [0] rfl rfl rfl ⟨_,_,rfl,rfl,rfl⟩
def auL (rows : List (List Int)) (b : List Int) : List (List Int):=List.zipWith (fun r x=>r++[x]) rows b
theorem auL_len {rows : List (List Int)} {b : List Int} (h : b.length = rows.length) : (auL rows b).length = rows.length:=by rw [auL,List.length_zipWith];omega
theorem auL_at {rows : List (List Int)} {b : List Int} {i : Nat} {r : List Int} {x : Int} (hr : rows[i]? = some r) (hx : b[i]? = some x) : (auL rows b)[i]? = some (r++[x]):=by
 rw [auL,List.getElem?_zipWith,hr,hx]
theorem auL_mat {q n : Nat} {rows : List (List Int)} {b : List Int} (hM : Mat q n rows) (hb : ∀ x ∈ b,0 ≤ x ∧ x < (q : Int)) : Mat q (n + 1) (auL rows b):=fun s hs=>by
 obtain ⟨i,h1,rfl⟩:=List.getElem_of_mem hs
 rw [auL,List.length_zipWith] at h1
 have h2 : i < rows.length:=by omega
 have h3 : i < b.length:=by omega
 obtain ⟨l1,l2⟩:=hM _ (List.getElem_mem h2)
 simp only [auL,List.getElem_zipWith]
 refine ⟨by rw [List.length_append,l1];rfl,fun x hx=>?_⟩
 rcases List.mem_append.1 hx with hx | hx
 ·exact l2 x hx
 ·rw [List.mem_singleton.1 hx];exact hb _ (List.getElem_mem h3)
theorem auL_eq {gen : List (List Int)} {hs : List Nat} {l : Nat} : auL (gen.map fun r=>pkL r hs) (gen.map fun r=>at0 r l) = eqL gen hs l:=by
 rw [auL,List.zipWith_map,List.zipWith_self]
def slK (n : Nat) (E : List (List Int) × List Nat) (k : Nat) : List Int:=(List.range n).map fun e=>if e ∈ E.2.take k then en E.1 (E.2.idxOf e) n else 0
theorem slK_len {n k : Nat} {E : List (List Int) × List Nat} : (slK n E k).length = n:=by simp [slK]
theorem slK_zero {n : Nat} {E : List (List Int) × List Nat} : slK n E 0 = zW n:=by
 refine List.ext_getElem (by simp [slK,zW]) fun j h1 h2=>?_
 simp only [slK,zW,List.getElem_map,List.getElem_range,List.take_zero,List.getElem_replicate]
 exact if_neg (by simp)
theorem slK_end {n : Nat} {E : List (List Int) × List Nat} : slK n E E.2.length = slX n E:=by rw [slK,List.take_length];rfl
theorem slK_set {n k a : Nat} {E : List (List Int) × List Nat} (h : Ech E.1 n E.2) (hk : E.2[k]? = some a) : (slK n E k).set a (en E.1 k n) = slK n E (k + 1):=by
 refine List.ext_getElem (by simp [slK]) fun j h1 h2=>?_
 rw [List.getElem_set]
 simp only [slK,List.getElem_map,List.getElem_range]
 by_cases e : a = j
 ·subst e
  rw [if_pos rfl,if_pos (List.mem_of_getElem? (i:=k) (by rw [List.getElem?_take,if_pos (by omega),hk])),ech_idx h hk]
 ·rw [if_neg e,List.take_add_one,hk]
  by_cases hm : j ∈ E.2.take k
  ·rw [if_pos hm,if_pos (List.mem_append_left _ hm)]
  ·rw [if_neg hm,if_neg]
   intro hm2
   rcases List.mem_append.1 hm2 with h3 | h3
   ·exact hm h3
   ·rw [Option.toList_some,List.mem_singleton] at h3;exact e h3.symm
abbrev SoQ (N : Nat) (E : List (List Int) × List Nat) : Value → List Fact → List Blk → Prop:=fun v Φ β=>∃ (pb : Option Addr) (cb : Nat),v = .tuple #[.slice pb (if slB N E then slX N E else []).length cb,.int .i64 (if slB N E then 0 else 11)] ∧ Φ = [slF I64 pb (if slB N E then slX N E else []).length cb (if slB N E then slX N E else [])] ∧ β = []
theorem S_matrix_Solve {p m n c nm cm N nb cb : Nat} {pm ps pb : Option Addr} {md b : List Int} {rows : List (List Int)} (K : Fok p m md) (hN : N ≤ 256) (hl : rows.length ≤ 256) (hM : Mat (p ^ m) N rows) (hb : Wd (p ^ m) rows.length b) :
  Ctr Tryz.prog 106 [.agg #[.int .i64 p,.int .i64 m,.slice pm nm cm],.agg #[.int .i64 N,.slice ps n c],.slice pb nb cb] [] [slF I64 pm nm cm md,slF (encSl I64) ps n c rows,slF I64 pb nb cb b]
   (SoQ N (elP p m md N 0 0 (auL rows b))):=by
 refine Ctr_of_j' (F:=F_matrix_Solve) rfl fun C=>?_
 have O:=fok_fo K
 have hq:=K.q
 refine j_len 1 rfl fun hn hbs _=>?_
 subst hn
 refine j_len 2 rfl fun hn hbb _=>?_
 have hbl:=hb.1
 rw [hbl] at hn
 subst hn
 have hbs' : rows.length * 24 ≤ 140737488355328:=hbs
 have c_matrix_open:=fun {pm ps : Option Addr} {nm cm n c : Nat}=>S_matrix_open_ok (pm:=pm) (nm:=nm) (cm:=cm) (ps:=ps) (n:=n) (c:=c) (Ms:=[((N : Int),rows)]) K (fun z hz=>by rw [List.mem_singleton.1 hz];simp only [InR];omega) (op_one (mtE_ok hN hl hM))
 have c_matrix_entries:=fun {b0 ng cg ne ce nl cl n c : Nat} {pg pe pl ps : Option Addr}=>S_matrix_entries (b:=b0) (p:=p) (m:=m) (q:=p ^ m) (ng:=ng) (cg:=cg) (ne:=ne) (ce:=ce) (nl:=nl) (cl:=cl) (n:=n) (c:=c) (pg:=pg) (pe:=pe) (pl:=pl) (ps:=ps) (l:=b) hq
 rw [entE,if_pos hb.2] at c_matrix_entries
 have c_matrix_clone:=fun {ps : Option Addr} {c : Nat}=>S_matrix_clone (ps:=ps) (m:=rows.length) (c:=c) (rows:=rows) (by omega)
 refine wk 8 cz ?_
 intro b1 b2 b3
 refine j_pub_all (E:=MatE) (n:=1) [[Value.int IntKind.i64 ↑N,Value.slice ps rows.length c]] [((↑N : Int),rows)] 0 (fun w A hG=>(allrd_cons (rd_pair (v1:=[Value.int IntKind.i64 ↑N]) (rd_int (by first | (simp only [InR];omega) | (simp [InR];done) | assumption)) (rd_of_slF (hG _ (fact_mem (n:=1) rfl)))) allrd_nil)) rfl rfl rfl rfl (by first | decide | exact Nat.le_of_ble_eq_true rfl) (by first | decide | exact Nat.le_of_ble_eq_true rfl) ?_
 refine wk 33 (ct @c_matrix_open (ct @c_matrix_entries (ct @c_matrix_clone cz))) ?_
 intro b4 pg1 cg1 pe1 ce1 pl1 cl1 h1 h2 h3 r1 hd1 cs1
 obtain ⟨ro,rcap,rcs⟩:=r1
 dsimp only
 refine j_perm (List.Perm.cons _ List.perm_append_comm) ?_
 simp only [List.eraseIdx_cons_zero,List.cons_append,List.nil_append]
 refine j_selT 3 [1,2,0] rfl rfl ?_
 simp only [List.cons_append,List.nil_append,List.drop_succ_cons,List.drop_zero]
 have hau : (auL rows b).length = rows.length:=auL_len hbl
 let ls : Nat → Nat → List Int:=fun i k=>if k < i then row0 (auL rows b) k else row0 rows k
 refine j_matCongr (ls 0) 1 rfl (fun g hg=>(if_neg (Nat.not_lt_zero g)).symm) ?_
 refine j_loopG (X:=Nat × List Value × (Nat → Hd) × (Nat → List Value)) [2,4,6,7,8,11,46] [3,5,6,8,9,10] (fun x=>[(47,.int .i64 (x.1 : Int))]) (fun x=>(some b2,67,[.int .i64 N,.slice ps rows.length c])::(some b1,24,[.int .i64 p,.int .i64 m,.slice pm nm cm])::(ro,22,x.2.1)::famB 3 x.2.2.1 x.2.2.2 rows.length [])
  (fun x=>[rowF hdE ⟨ro,rcap,x.2.1⟩ rows.length (hdl x.2.2.1 rows.length),matF I64 x.2.2.1 x.2.2.2 (ls x.1) rows.length []]) (fun x=>x.1 ≤ rows.length) (fun x=>rows.length - x.1) (0,rcs,hd1,cs1) [1,0] rfl rfl rfl (Nat.zero_le _) (by repeat (first | exact Fr.sub_nil _ | refine Fr.sub_cons rfl ?_)) rfl rfl ?_
 rintro ⟨i,hc,hd,cs⟩ hi ih
 simp only [List.cons_append,List.nil_append] at hi ih ⊢
 by_cases h9 : i < rows.length
 ·obtain ⟨x,at_x⟩ : ∃ x,b[i]? = some x:=⟨_,List.getElem?_eq_getElem (by omega)⟩
  have ex:=gd_at at_x
  obtain ⟨x0,x1⟩:=hb.2 x (List.mem_of_getElem? at_x)
  have hli : ls i i = row0 rows i:=if_neg (Nat.lt_irrefl i)
  refine j_hdlen 1 rfl fun hlen=>?_
  have hdi : (hd i).2.1 = N:=by rw [hlen i h9 rfl,hli];exact (hM.row h9).1
  refine j_rowB 0 rfl (by omega) fun b9 cap9 cs9 h9'=>?_
  obtain ⟨rfl,rfl,rfl⟩:=Row.mk.inj h9'
  refine j_focusL 3 (i) 1 (N) rfl rfl (by first | assumption | omega) (by first | rfl | assumption | (simp [memB_cons,memB];done) | (simp [memB_cons,memB];omega)) (by first | assumption | omega) fun r1 hr1=>?_
  simp only [List.take_succ_cons,List.take_zero,List.cons_append,List.nil_append]
  refine wk 7 cz ?_
  intro h4
  (refine j_selT 4 [0,1,2,3] rfl rfl ?_;apply j_drawKB it mx 1 12;(· rfl);(· rfl);(· rfl))
  (apply lxk_run 4;(· rfl);(· simp))
  (apply lxk_eq;(· rfl);(· exact d_x fun _=>x_idx_own (i) (i) rfl rfl sl25 rfl (by omega) (Nat.mul_one _) dk_eq))
  (apply lxk_eq;(· rfl);(· exact d_ldR_hd 2 2 (i) rfl rfl rfl ld22 rfl (by assumption)))
  dsimp only
  (apply lxk_run 2;(· rfl);(· simp))
  (apply lxk_pt;(· rfl);(· exact d_x fun _=>x_idx 9 (i) rfl rfl rfl sl22 rfl (by omega) fun z1 hz1 b5 o1=>(dk_ptD default hz1 0 rfl));intro b5 o1)
  (apply lxk_eq;(· rfl);(· exact d_x fun _=>x_ld_int 0 rfl rfl ld3 fun ⟨r2,r3⟩=>dk_eq))
  (apply lxk_sl;(· rfl);(· exact d_x fun _=>x_lit sl22 zo22e rfl rfl rfl rfl (by decide) (by decide) rfl fun b6=>dk_all (E:=I64) [[Value.int IntKind.i64 (b.getD i default)]] [b.getD i default] (fun w A hG=>(allrd_cons ⟨rfl,by first | assumption | (simp only [InR];omega)⟩ allrd_nil)) rfl rfl rfl (by first | decide | exact Nat.le_of_ble_eq_true rfl));intro pa1 ca1)
  (apply lxk_app (m:=1) 2 0;(· rfl);(· rfl);(· rfl);(· rfl);(· rfl);(· exact sl22);(· exact zo22e);(· rfl);(· (first | omega | (simp;done)));(· (first | omega | (simp only [List.length_cons,List.length_nil];omega)));(· exact by22e);(· (first | omega | (simp only [List.length_cons,List.length_nil];omega)));intro b6 cap1 cs2)
  refine lxk_end rfl ?_
  simp only [List.map_cons,List.map_nil,List.cons_append,List.nil_append]
  refine wk 1 cz ?_
  refine j_step rfl (x_stR (vs:=[Value.slice (some { block:=b6,off:=0 }) (N + 1) cap1]) (z:=(some b6,N + 1,cap1)) 3 5 (i) rfl rfl rfl rfl rfl ld22 (Nat.mul_one _).symm (by omega) (fun w A hG=>(rd_hd (some _) _ _)) fun cs3=>?_)
  refine wk 3 cz ?_
  simp only [List.drop_succ_cons,List.drop_zero,setB,List.set_cons_succ,List.set_cons_zero]
  rw [hdl_set,ex]
  refine j_unfocusL 3 i 0 1 5 rfl rfl rfl rfl h9 rfl ?_
  simp only [List.eraseIdx_cons_zero,List.eraseIdx_cons_succ,List.take_succ_cons,List.take_zero,List.cons_append,List.nil_append]
  refine j_matCongr (ls (i + 1)) 0 rfl (fun g hg=>by
   show upd (ls i) i _ g = if _ then _ else _
   by_cases e : g = i
   ·subst e
    rw [upd_self,if_pos (Nat.lt_succ_self g),hli]
    have h1 : rows[g]? = some (row0 rows g):=by rw [row0,List.getD_eq_getElem?_getD,List.getElem?_eq_getElem h9];rfl
    conv=>rhs;rw [row0,List.getD_eq_getElem?_getD,auL_at h1 at_x]
    rfl
   ·rw [upd_ne e]
    show (if _ then _ else _) = _
    by_cases h : g < i
    ·rw [if_pos h,if_pos (by omega)]
    ·rw [if_neg h,if_neg (by omega)]) ?_
  exact tw (ih (i + 1,cs3,upd hd i (some b6,N + 1,cap1),upd cs i cs2) (by dsimp only;omega) (by dsimp only;omega))
 ·have hi0 : i = rows.length:=by omega
  subst hi0
  clear ih
  have hM2:=auL_mat hM hb.2
  refine j_matCongr (row0 (auL rows b)) 1 rfl (fun g hg=>if_pos hg) ?_
  clear_value ls
  have c_matrix_eliminate:=fun {b ng cg ce cl : Nat} {pg pe pl : Option Addr} {rh : Row} {hd : Nat → Hd} {cs : Nat → List Value}=>S_matrix_eliminateW (b:=b) (ng:=ng) (cg:=cg) (ce:=ce) (cl:=cl) (pg:=pg) (pe:=pe) (pl:=pl) (rh:=rh) (hd:=hd) (cs:=cs) K (n:=rows.length) (by omega) (Nat.le_succ N) (by omega) hau hM2
  have hEl : (elP p m md N 0 0 (auL rows b)).1.length = rows.length:=by rw [elP,elimL_len,hau]
  have hEk : (elP p m md N 0 0 (auL rows b)).2.length ≤ rows.length:=by
   have:=elim_le (A:=liftI (fA p m)) (M:=liftI (fM p (fpo m md))) (N:=negI p m) (V:=invI p m md) N 0 0 (auL rows b) (Nat.zero_le _)
   rw [Nat.zero_add,hau] at this;exact this
  have hEM : Mat (p ^ m) (N + 1) (elP p m md N 0 0 (auL rows b)).1:=((fok_fo K).elim (m:=N) hM2).1
  have hEe : Ech (elP p m md N 0 0 (auL rows b)).1 N (elP p m md N 0 0 (auL rows b)).2:=((fok_fo K).elim (m:=N) hM2).2.1
  generalize elP p m md N 0 0 (auL rows b) = E at *
  refine j_nf [_,_,_,_,_] rfl ?_
  refine j_run it 1 rfl (by simp) ?_
  refine j_nf [_,_,_,_,_] rfl ?_
  refine j_if rfl rfl (fun h4=>by exfalso;omega) (fun h4=>?_)
  refine j_nf [_,_] rfl ?_
  refine j_run it 2 rfl (by simp) ?_
  refine j_step rfl (x_field rfl fd67_0 ?_)
  refine j_step rfl (x_bld 0 rfl rfl ld3 rfl ?_)
  refine j_step rfl (x_callA 2 [3,4,5,1,0] rfl rfl (c_matrix_eliminate (rh:=⟨ro,rcap,hc⟩)) rfl ?_)
  rintro _ _ _ ⟨r1,ch'1,hd'1,cs'1,d1,rfl,rfl,rfl⟩
  simp only [List.cons_append,List.nil_append]
  refine j_run it 5 rfl (by simp) ?_
  refine j_nf [_,_,_] rfl ?_
  refine j_run it 2 rfl (by simp) ?_
  refine j_step rfl (x_len sl22 rfl ?_) --ok
  simp only [List.take_succ_cons,List.take_zero,List.cons_append,List.nil_append]
  refine j_hdlen 2 rfl fun hlen=>?_
  refine j_pubFamL 4 3 1 2 rfl rfl rfl rfl (fun i hi=>by rw [hlen i hi rfl,(hEM.row (by omega)).1];show (N + 1) * 8 ≤ _;omega) ?_
  simp only [List.take_succ_cons,List.take_zero]
  rw [show (List.range rows.length).map (row0 E.1) = E.1 from by
   refine List.ext_getElem (by rw [List.length_map,List.length_range,hEl]) fun i h1 h2=>?_
   rw [List.getElem_map,List.getElem_range,row0,List.getD_eq_getElem?_getD,List.getElem?_eq_getElem h2];rfl]
  refine j_pubR 3 0 rfl rfl (by show rows.length * 24 ≤ 140737488355328;omega) ?_
  simp only [List.eraseIdx_cons_zero,List.eraseIdx_cons_succ]
  refine j_pubR 2 2 rfl rfl (by show E.2.length * 8 ≤ 140737488355328;omega) ?_
  simp only [List.eraseIdx_cons_zero,List.eraseIdx_cons_succ]
  refine j_len 1 rfl fun _ _ hcap=>?_
  refine j_step rfl (x_slice_l 1 (E.snd.length) rfl rfl rfl sl25 (by omega) (by omega) fun pa1=>?_)
  refine wk 3 cz ?_
  have hDl : (E.1.drop E.2.length).length = rows.length - E.2.length:=by rw [List.length_drop,hEl]
  have hDM : ∀ r ∈ E.1.drop E.2.length,Wd (p ^ m) (N + 1) r:=fun r hr=>hEM r (List.mem_of_mem_drop hr)
  have hsl : slB N E = (E.1.drop E.2.length).all fun r=>decide (at0 r N = 0):=rfl
  generalize E.1.drop E.2.length = D at *
  refine j_loopG (X:=Nat) [4,11,13,75,76] [0,1,2,3,4,5,6,7,8,9,10,11,12,13,14,15] (fun i=>[(77,.int .i64 (i : Int))]) (fun _=>_) (fun _=>[]) (fun i=>i ≤ D.length ∧ ∀ r ∈ D.take i,at0 r N = 0) (fun i=>D.length - i) 0 [] rfl rfl rfl ⟨Nat.zero_le _,fun x h=>by simp at h⟩ (by repeat (first | exact Fr.sub_nil _ | refine Fr.sub_cons rfl ?_)) rfl rfl ?_
  rintro i ⟨hi,hno⟩ ih
  simp only [List.cons_append,List.nil_append] at hi ih ⊢
  by_cases h9 : i < D.length
  ·obtain ⟨r,at_r⟩ : ∃ r,D[i]? = some r:=⟨_,List.getElem?_eq_getElem h9⟩
   have hrl:=(hDM r (List.mem_of_getElem? at_r)).1
   have at_y : r[N]? = some (at0 r N):=by
    rw [at0,List.getD_eq_getElem?_getD,List.getElem?_eq_getElem (by omega)];rfl
   by_cases h8 : at0 r N = 0
   ·refine wk 13 cz ?_
    intro h5 b5 o1 hz1 pa2 ca1 b6 o2 hz2
    refine j_step rfl (x_ld_int 0 rfl rfl ld3 fun ⟨r2,r3⟩=>?_)
    refine wk 6 cz ?_
    intro h6
    exact tw (ih (i + 1) (by omega) ⟨by omega,tk_all at_r hno h8⟩)
   ·have hs : slB N E = false:=by
     rw [hsl,List.all_eq_false]
     exact ⟨r,List.mem_of_getElem? at_r,by rw [decide_eq_false h8];exact Bool.false_ne_true⟩
    rw [show SoQ N E = fun v Φ β=>∃ (pb : Option Addr) (cb : Nat),v = .tuple #[.slice pb 0 cb,.int .i64 11] ∧ Φ = [slF I64 pb 0 cb []] ∧ β = [] from by funext v Φ β;show (∃ _ _,_) = _;rw [hs];rfl]
    clear ih
    refine wk 13 cz ?_
    intro h5 b5 o1 hz1 pa2 ca1 b6 o2 hz2
    refine j_step rfl (x_ld_int 0 rfl rfl ld3 fun ⟨r2,r3⟩=>?_)
    refine wk 6 cz ?_
    intro h6
    refine j_add (slF I64 none 0 0 []) (fun w A _=>slF_nil I64 w A none 0) ?_
    refine j_giv [0] rfl rfl rfl ⟨_,_,rfl,rfl,rfl⟩
  ·have hs : slB N E = true:=by
    rw [hsl,List.all_eq_true]
    exact fun r hr=>decide_eq_true (hno r (by rwa [List.take_of_length_le (by omega)]))
   rw [show SoQ N E = fun v Φ β=>∃ (pb : Option Addr) (cb : Nat),v = .tuple #[.slice pb (slX N E).length cb,.int .i64 0] ∧ Φ = [slF I64 pb (slX N E).length cb (slX N E)] ∧ β = [] from by funext v Φ β;show (∃ _ _,_) = _;rw [hs];rfl]
   clear ih
   refine wk 14 cz ?_
   intro h5 b5
   rw [show natCells .i64 (List.replicate N 0) = intCells .i64 (slK N E 0) by rw [slK_zero];simp [natCells,intCells,zW]]
   refine j_loopG (X:=Nat) [4,11,17,91,92] [0,1,2,3,4,5,6,7,8,9,10,11,12,13,14,15] (fun i=>[(93,.int .i64 (i : Int))]) (fun i=>(some b5,3,intCells .i64 (slK N E i))::_) (fun _=>[]) (fun i=>i ≤ E.2.length) (fun i=>E.2.length - i) 0 [] rfl rfl rfl (Nat.zero_le _) (by repeat (first | exact Fr.sub_nil _ | refine Fr.sub_cons rfl ?_)) rfl rfl ?_
   rintro i hi ih
   simp only [List.cons_append,List.nil_append] at hi ih ⊢
   by_cases h9 : i < E.2.length
   ·obtain ⟨a,hpa⟩ : ∃ a,E.2[i]? = some a:=⟨_,List.getElem?_eq_getElem h9⟩
    have at_p : (toI E.2)[i]? = some (a : Int):=by rw [toI,List.getElem?_map,hpa];rfl
    have haN:=hEe.lt a (List.mem_of_getElem? hpa)
    have hr : E.1[i]? = some (row0 E.1 i):=by rw [row0,List.getD_eq_getElem?_getD,List.getElem?_eq_getElem (by omega)];rfl
    have er:=gd_at hr
    have hrl : (E.1.getD i default).length = N + 1:=by rw [er];exact (hEM.row (by omega)).1
    have ih':=ih (i + 1) (by omega) (by omega)
    rw [← slK_set hEe hpa,en,← er,show at0 (E.1.getD i default) N = (E.1.getD i default).getD N default from rfl] at ih'
    have hln:=slK_len (n:=N) (k:=i) (E:=E)
    generalize slK N E i = L at *
    refine wk 6 cz ?_
    intro h6
    refine j_rowB 4 rfl (by omega) fun b6 cap1 cs2 hr1=>?_
    subst hr1
    dsimp only
    refine wk 1 cz ?_
    intro b7 o1 hz1
    refine j_step rfl (x_ld_int 0 rfl rfl ld3 fun ⟨r1,r2⟩=>?_)
    refine wk 8 cz ?_
    intro b8 o2 pa2 ca1 b9 o3
    exact tw (ih')
   ·obtain rfl : i = E.2.length:=by omega
    rw [slK_end]
    clear ih
    have hX:=(fok_fo K).slX_wd hEM hEe
    have hXl:=hX.1
    generalize slX N E = X at *
    refine wk 7 cz ?_
    intro h6
    refine j_rowInt 0 rfl hXl.symm (fun y hy=>by have:=hX.2 y hy;simp only [InR];omega) (by omega) ?_
    refine j_pubR 0 0 rfl rfl (by show N * 8 ≤ 140737488355328;omega) ?_
    simp only [List.eraseIdx_cons_zero,List.eraseIdx_cons_succ]
    rw [← hXl]
    refine j_giv [0] rfl rfl rfl ⟨_,_,rfl,rfl,rfl⟩
theorem so_true {N : Nat} {E : List (List Int) × List Nat} (hs : slB N E = true) : SoQ N E = fun v Φ β=>∃ (pb : Option Addr) (cb : Nat),v = .tuple #[.slice pb (slX N E).length cb,.int .i64 0] ∧ Φ = [slF I64 pb (slX N E).length cb (slX N E)] ∧ β = []:=by
 funext v Φ β;show (∃ _ _,_) = _;rw [hs];rfl
theorem so_false {N : Nat} {E : List (List Int) × List Nat} (hs : slB N E = false) : SoQ N E = fun v Φ β=>∃ (pb : Option Addr) (cb : Nat),v = .tuple #[.slice pb 0 cb,.int .i64 11] ∧ Φ = [slF I64 pb 0 cb []] ∧ β = []:=by
 funext v Φ β;show (∃ _ _,_) = _;rw [hs];rfl
abbrev hpL (rows : List (List Int)) (hs : List Int) : List (List Int):=rows.map fun r=>hs.map fun j=>at0 r j.toNat
def eqP (p m : Nat) (md : List Int) (rows : List (List Int)) (hs : List Int) (l : Nat) : List (List Int) × List Nat:=elP p m md hs.length 0 0 (auL (hpL rows hs) (colL rows l))
def coP (p m : Nat) (md : List Int) (rows : List (List Int)) (lost hs : List Int) : List (List Int):=lost.map fun l=>slX hs.length (eqP p m md rows hs l.toNat)
def coB (p m : Nat) (md : List Int) (rows : List (List Int)) (lost hs : List Int) : Bool:=lost.all fun l=>slB hs.length (eqP p m md rows hs l.toNat)
abbrev CoQ (e : Int) (R : List (List Int)) : Value → List Fact → List Blk → Prop:=fun v Φ β=>∃ (pb : Option Addr) (cb : Nat),v = .tuple #[.slice pb R.length cb,.int .i64 e] ∧ Φ = [slF (encSl I64) pb R.length cb R] ∧ β = []
theorem hp_mat {q N : Nat} {rows : List (List Int)} (hq : 0 < q) (hM : Mat q N rows) (hs : List Int) : Mat q hs.length (hpL rows hs):=fun s hr=>by
 obtain ⟨r,h,rfl⟩:=List.mem_map.1 hr
 refine ⟨List.length_map _,fun x hx=>?_⟩
 obtain ⟨j,_,rfl⟩:=List.mem_map.1 hx
 exact wd_at hq (hM r h) _
theorem S_repair_Combine {p m N n c nm cm nl cl nh ch : Nat} {pm ps pl ph : Option Addr} {md lost hs : List Int} {rows : List (List Int)} {B : Bool} (CC : Cok p m md N rows) (he : pairE p m md N rows lost hs = 0) (hlo : stP N lost) (hst : stP N hs) (hB : coB p m md rows lost hs = B) :
  Ctr Tryz.prog 54 [.agg #[.int .i64 p,.int .i64 m,.slice pm nm cm,.int .i64 N,.slice ps n c],.slice pl nl cl,.slice ph nh ch] [] [slF I64 pm nm cm md,slF (encSl I64) ps n c rows,slF I64 pl nl cl lost,slF I64 ph nh ch hs] (CoQ (if B then 0 else 11) (if B then coP p m md rows lost hs else [])):=by
 refine Ctr_of_j' (F:=F_repair_Combine) rfl fun C=>?_
 have hN:=CC.n64
 have hn1:=CC.n1
 have hlr:=CC.len
 have hl1:=st_len hlo
 have hl2:=st_len hst
 have hq:=CC.K.q
 have q2:=(fok_fo CC.K).q2
 have hHM:=hp_mat (by omega) CC.mat hs
 have c_repair_sides:=fun {n c nm cm nl cl nh ch : Nat} {pm ps pl ph : Option Addr}=>S_repair_sides (pm:=pm) (nm:=nm) (cm:=cm) (ps:=ps) (n:=n) (c:=c) (pl:=pl) (nl:=nl) (cl:=cl) (ph:=ph) (nh:=nh) (ch:=ch) (by simp only [InR];omega) he
 have c_matrix_Columns:=fun {pm ps pt : Option Addr} {nm cm n c ns cs' : Nat}=>S_matrix_Columns_ok (pm:=pm) (ps:=ps) (pt:=pt) (nm:=nm) (cm:=cm) (n:=n) (c:=c) (ns:=ns) (cs':=cs') (set:=hs) CC.K (show N ≤ 256 by omega) (show rows.length ≤ 256 by omega) CC.mat (by omega) hst.1
 refine j_len 1 rfl fun hn hb1 _=>?_
 subst hn
 refine j_len 2 rfl fun hn hb2 _=>?_
 subst hn
 refine j_len 3 rfl fun hn hb3 _=>?_
 subst hn
 have hb1' : rows.length * 24 ≤ 140737488355328:=hb1
 have hb2' : lost.length * 8 ≤ 140737488355328:=hb2
 refine wk 33 (ct @c_repair_sides (ct @c_matrix_Columns cz)) ?_
 intro b1 h1 pb1 cb1 b2
 simp only [setB]
 have hRl : (coP p m md rows lost hs).length = lost.length:=List.length_map _
 refine j_row0 (encSl I64) 22 ?_
 refine j_loopG (X:=Nat × Row) [3,9,38,39] [0,1,2,3,4,5] (fun x=>[(40,.int .i64 (x.1 : Int)),(11,.slice (ad x.2.bo) x.1 x.2.cap)]) (fun x=>(x.2.bo,22,x.2.cs)::_) (fun x=>[rowF (encSl I64) x.2 x.1 ((coP p m md rows lost hs).take x.1)]) (fun x=>x.1 ≤ lost.length ∧ ∀ l ∈ lost.take x.1,slB hs.length (eqP p m md rows hs l.toNat) = true) (fun x=>lost.length - x.1) (0,⟨none,0,[]⟩) [0] rfl rfl rfl ⟨Nat.zero_le _,fun x h=>by simp at h⟩ (by repeat (first | exact Fr.sub_nil _ | refine Fr.sub_cons rfl ?_)) rfl rfl ?_
 rintro ⟨i,r⟩ ⟨hi,hno⟩ ih
 simp only [List.cons_append,List.nil_append] at hi hno ih ⊢
 by_cases h9 : i < lost.length
 ·obtain ⟨l,at_l⟩ : ∃ l,lost[i]? = some l:=⟨_,List.getElem?_eq_getElem h9⟩
  obtain ⟨l0,l1⟩:=hlo.1 l (List.mem_of_getElem? at_l)
  obtain ⟨l,rfl⟩:=Int.eq_ofNat_of_zero_le l0
  have hcW:=wd_col (show 0 < p ^ m by omega) CC.mat l
  have hTl : (colL rows l).length = rows.length:=List.length_map _
  have hTa : ∀ (k : Nat) (x : List Int),rows[k]? = some x → (colL rows l)[k]? = some (at0 x l):=fun k x h=>by rw [colL,List.getElem?_map,h];rfl
  have hTr : ∀ z ∈ colL rows l,InR .i64 z:=fun z hz=>by
   have:=hcW.2 z hz
   simp only [InR];omega
  have c_matrix_Solve:=fun {pm ps pb : Option Addr} {nm cm n c nb cb : Nat}=>S_matrix_Solve (pm:=pm) (ps:=ps) (pb:=pb) (nm:=nm) (cm:=cm) (n:=n) (c:=c) (nb:=nb) (cb:=cb) CC.K (show hs.length ≤ 256 by omega) (show (hpL rows hs).length ≤ 256 by rw [List.length_map];omega) hHM (b:=colL rows l) (by rw [List.length_map];exact hcW)
  rw [show elP p m md hs.length 0 0 (auL (hpL rows hs) (colL rows l)) = eqP p m md rows hs l from rfl] at c_matrix_Solve
  refine wk 6 cz ?_
  intro h2 b3 o1 hz1
  refine j_step rfl (x_ld_int 0 rfl rfl ld3 fun ⟨r1,r2⟩=>?_)
  refine wk 13 cz ?_
  intro b4
  rw [show natCells .i64 (List.replicate rows.length 0) = intCells .i64 ((colL rows l).take 0++List.replicate (rows.length - 0) 0) by simp [natCells,intCells]]
  refine j_loopG (X:=Nat) [3,9,11,13,14,38,39,40,41,42,43,44,45,46,47,48,49,50] [0,1,2,3,4,5,6,7] (fun k=>[(51,.int .i64 (k : Int))]) (fun k=>(some b4,3,intCells .i64 ((colL rows l).take k++List.replicate (rows.length - k) 0))::_) (fun _=>[]) (fun k=>k ≤ rows.length) (fun k=>rows.length - k) 0 [] rfl rfl rfl (Nat.zero_le _) (by repeat (first | exact Fr.sub_nil _ | refine Fr.sub_cons rfl ?_)) rfl rfl ?_
  rintro k hk ihk
  simp only [List.cons_append,List.nil_append] at hk ihk ⊢
  by_cases h8 : k < rows.length
  ·obtain ⟨x,at_x⟩ : ∃ x,rows[k]? = some x:=⟨_,List.getElem?_eq_getElem h8⟩
   have hxl:=(CC.mat x (List.mem_of_getElem? at_x)).1
   have hT:=hTa k x at_x
   have at_y : x[l]? = some (at0 x l):=by
    rw [at0,List.getD_eq_getElem?_getD,List.getElem?_eq_getElem (by omega)];rfl
   have ih':=ihk (k + 1) (by omega) (by omega)
   rw [← take_set hT h8] at ih'
   have hln : ((colL rows l).take k++List.replicate (rows.length - k) 0).length = rows.length:=by rw [List.length_append,List.length_take,List.length_replicate];omega
   generalize (colL rows l).take k++List.replicate (rows.length - k) 0 = L at *
   refine wk 12 cz ?_
   intro h3 b5 o2 hz2 pa1 ca1 b6 o3 hz3
   refine j_step rfl (x_ld_int 0 rfl rfl ld3 fun ⟨r3,r4⟩=>?_)
   refine wk 5 cz ?_
   exact tw (ih')
  ·obtain rfl : k = rows.length:=by omega
   rw [Nat.sub_self,List.replicate_zero,List.append_nil,List.take_of_length_le (by omega)]
   clear ihk
   refine wk 3 cz ?_
   refine j_pub_madei (kd:=.i64) (n:=rows.length) 8 (colL rows l) 0 rfl hTl.symm hTr (by omega) (by omega) ?_
   simp only [List.eraseIdx_cons_zero,List.eraseIdx_cons_succ]
   have hcx : (coP p m md rows lost hs)[i]? = some (slX hs.length (eqP p m md rows hs l)):=by rw [coP,List.getElem?_map,at_l];rfl
   by_cases hs1 : slB hs.length (eqP p m md rows hs l) = true
   ·rw [so_true hs1] at c_matrix_Solve
    have ih':=fun r=>ih (i + 1,r) (by dsimp only;omega) ⟨by dsimp only;omega,tk_all at_l hno hs1⟩
    simp only [List.take_add_one,hcx,Option.toList_some] at ih'
    clear ih
    generalize slX hs.length (eqP p m md rows hs l) = X at *
    refine wk 15 (ct @c_matrix_Solve cz) ?_
    intro h3 pb2 cb2 h4 b5
    refine j_step rfl (x_appR (z:=X) 1 0 3 rfl rfl rfl rfl rfl sl25 zo25e rfl (fun w A hG=>(rd_of_slF (hG _ (fact_mem (n:=0) rfl)))) (by omega) _ by25e (by omega) fun r3=>?_)
    refine wk 4 cz ?_
    refine j_toM [true,false,true,true] [0,5,6,7,8,9,10] (by exact fra rfl) rfl rfl (ih' r3)
   ·rw [so_false (Bool.eq_false_iff.2 hs1)] at c_matrix_Solve
    obtain rfl : B = false:=by
     rw [← hB,coB,List.all_eq_false]
     exact ⟨_,List.mem_of_getElem? at_l,hs1⟩
    clear ih
    refine wk 15 (ct @c_matrix_Solve cz) ?_
    intro h3 pb2 cb2 h4
    refine j_add (slF (encSl I64) none 0 0 []) (fun w A _=>slF_nil (encSl I64) w A none 0) ?_
    refine j_giv [0] rfl rfl rfl ⟨_,_,rfl,rfl,rfl⟩
 ·obtain rfl : i = lost.length:=by omega
  obtain rfl : B = true:=by
   rw [← hB,coB,List.all_eq_true]
   exact fun l hl=>hno l (by rwa [List.take_length])
  rw [List.take_of_length_le (by omega)]
  clear ih
  simp only [if_pos]
  generalize coP p m md rows lost hs = R at *
  refine j_pubR 0 0 rfl rfl (by show lost.length * 24 ≤ 140737488355328;omega) ?_
  simp only [List.eraseIdx_cons_zero,List.eraseIdx_cons_succ]
  rw [← hRl]
  refine wk 7 cz ?_
  intro h2
  refine j_giv [0] rfl rfl rfl ⟨_,_,rfl,rfl,rfl⟩
theorem eq_eqP {p m l : Nat} {md hs : List Int} {rows : List (List Int)} : eqP p m md rows hs l = eqE (liftI (fA p m)) (liftI (fM p (fpo m md))) (negI p m) (invI p m md) rows (hs.map Int.toNat) l:=by
 rw [eqP,elP,eqE,List.length_map,← auL_eq]
 refine congrArg (elimL _ _ _ _ _ 0 0) (congrArg (fun z=>auL z _) (List.map_congr_left fun r _=>?_))
 rw [pkL,List.map_map];rfl
theorem co_en {p m n : Nat} {md lost hs : List Int} {rows : List (List Int)} (CC : Cok p m md n rows) (hlo : stP n lost) : coB p m md rows lost hs = enB p m md rows lost hs:=by
 have O:=fok_fn CC.K
 rw [en_wt CC hlo,Bool.eq_iff_iff,Option.isNone_iff_eq_none,wt_none,coB,List.all_eq_true]
 refine forall_congr' fun l=>forall_congr' fun hl=>?_
 have:=hlo.1 l hl
 rw [eq_eqP,(O.wi CC.mat (hs_mat CC hs)).2 l.toNat (by omega),show hs.length = (hs.map Int.toNat).length by rw [List.length_map],O.sl_iff CC.mat]
 refine forall_congr' fun x=>forall_congr' fun hx=>?_
 rw [List.map_map];rfl
theorem co_word {p m n : Nat} {md lost hs msg : List Int} {rows : List (List Int)} {l : Int} (CC : Cok p m md n rows) (hB : coB p m md rows lost hs = true) (hl : l ∈ lost) (hx : Wd (p ^ m) rows.length msg) :
  dotL (liftI (fA p m)) (liftI (fM p (fpo m md))) (slX hs.length (eqP p m md rows hs l.toNat)) (piL (cbP p m md n msg rows) hs) = at0 (cbP p m md n msg rows) l.toNat:=by
 have O:=fok_fn CC.K
 have h1:=List.all_eq_true.1 hB l hl
 rw [eq_eqP,show hs.length = (hs.map Int.toNat).length by rw [List.length_map]] at h1
 have h2:=O.sl_word CC.mat h1 hx.2
 rw [eq_eqP,show hs.length = (hs.map Int.toNat).length by rw [List.length_map]]
 rw [pkL,List.map_map] at h2
 exact h2
theorem S_slices_Grow___int_int_ {n : Nat} (hn : n ≤ 1000000) : Ctr Tryz.prog 147 [.slice none 0 0,.int .i64 n] [] [] (RwI 0 []):=by
 refine Ctr_of_j' (F:=F_slices_Grow___int_int_) rfl fun C=>?_
 refine wk 99 cz ?_
 intro h1
 refine j_step rfl (x_cap (tb.slT rfl) rfl ?_)
 rcases Nat.eq_zero_or_pos n with h0 | h0
 ·subst h0
  refine wk 99 cz ?_
  intro h2
  refine j_row0 I64 3 ?_
  refine j_givK 1 [0] [0] rfl (.tmp rfl .nil) rfl rfl rfl ⟨⟨none,0,[]⟩,rfl,rfl,rfl⟩
 ·refine wk 99 cz ?_
  intro h2
  refine j_step rfl (x_cap (tb.slT rfl) rfl ?_)
  refine j_step rfl (x_slice_nil rfl rfl (tb.slT rfl) ?_)
  refine j_run it 1 rfl (by simp) ?_
  refine j_recast (t:=21) ((n : Nat) : Int) rfl (by omega) ?_
  refine j_step rfl (x_mkroom rfl rfl (tb.slT rfl) (it _ _ rfl) (tb.zoT rfl) rfl (tb.byt rfl) h0 (by omega) (by omega) fun b cap cs hc1 hc2 hc3=>?_)
  refine wk 99 cz ?_
  refine j_step rfl (x_slice_h_own 0 rfl rfl (tb.slT rfl) rfl (by omega) (by omega) ?_)
  refine wk 99 cz ?_
  refine j_room (E:=I64) 0 rfl hc2 (by rw [hc3];exact (Nat.mul_one _).symm) ?_
  refine j_givK 1 [0] [0] rfl (.tmp rfl .nil) rfl rfl rfl ⟨⟨some b,cap,cs⟩,rfl,rfl,rfl⟩
theorem S_slices_Concat___int_int_ {ps : Option Addr} {n c : Nat} {ls : List (List Int)} (hn : ls.flatten.length ≤ 1000000) : Ctr Tryz.prog 104 [.slice ps n c] [] [slF (encSl I64) ps n c ls] (RwI ls.flatten.length ls.flatten):=by
 refine Ctr_of_j' (F:=F_slices_Concat___int_int_) rfl fun C=>?_
 refine j_len 0 rfl fun hn1 hb _=>?_
 subst hn1
 have hb' : ls.length * 24 ≤ 140737488355328:=hb
 have hle : ∀ k,(ls.take k).flatten.length ≤ ls.flatten.length:=fun k=>by
  rw [← List.take_append_drop k ls,List.flatten_append,List.length_append,List.take_append_drop];omega
 have hsn : ∀ k l,ls[k]? = some l → (ls.take (k + 1)).flatten = (ls.take k).flatten++l:=fun k l h=>by
  rw [List.take_add_one,h,List.flatten_append];simp
 refine wk 99 cz ?_
 refine j_loopG (X:=Nat) [0,2,9,10] [0] (fun i=>[(11,.int .i64 (i : Int)),(3,.int .i64 ((ls.take i).flatten.length : Int))]) (fun _=>[]) (fun _=>[]) (fun i=>i ≤ ls.length) (fun i=>ls.length - i) 0 [] rfl rfl rfl (Nat.zero_le _) (by repeat (first | exact Fr.sub_nil _ | refine Fr.sub_cons rfl ?_)) rfl rfl ?_
 rintro i hi ih
 simp only [List.cons_append,List.nil_append] at hi ih ⊢
 by_cases hil : i < ls.length
 ·obtain ⟨l,at_l⟩ : ∃ l,ls[i]? = some l:=⟨_,List.getElem?_eq_getElem hil⟩
  have h2:=hle (i + 1)
  have ih':=ih (i + 1) (by omega) (by omega)
  rw [hsn i l at_l,List.length_append] at h2 ih'
  refine wk 19 cz ?_
  intro h1 b1 o1 hz1 pa1 ca1 h3
  exact tw (ih')
 ·obtain rfl : i = ls.length:=by omega
  rw [List.take_length] at *
  refine wk 2 cz ?_
  have c_slices_Grow___int_int_:=S_slices_Grow___int_int_ hn
  refine wk 11 (ct @c_slices_Grow___int_int_ cz) ?_
  intro h1 r1
  simp only [List.cons_append,List.nil_append]
  refine j_loopG (X:=Nat × Row) [2,25,26] [0,1] (fun x=>[(27,.int .i64 (x.1 : Int)),(6,.slice (ad x.2.bo) (ls.take x.1).flatten.length x.2.cap)]) (fun x=>[(x.2.bo,3,x.2.cs)]) (fun x=>[rowF I64 x.2 (ls.take x.1).flatten.length (ls.take x.1).flatten]) (fun x=>x.1 ≤ ls.length) (fun x=>ls.length - x.1) (0,r1) [0] rfl rfl rfl (Nat.zero_le _) (by repeat (first | exact Fr.sub_nil _ | refine Fr.sub_cons rfl ?_)) rfl rfl ?_
  rintro ⟨i,r⟩ hi ih2
  simp only [List.cons_append,List.nil_append] at hi ih2 ⊢
  by_cases hil : i < ls.length
  ·obtain ⟨l,at_l⟩ : ∃ l,ls[i]? = some l:=⟨_,List.getElem?_eq_getElem hil⟩
   have h2:=hle (i + 1)
   have ih':=fun r=>ih2 (i + 1,r) (by dsimp only;omega) (by dsimp only;omega)
   dsimp only at ih'
   simp only [hsn i l at_l,List.length_append] at h2 ih'
   refine wk 10 cz ?_
   intro h3 b1 o1 hz1 pa1 ca1
   refine j_step rfl (x_appS 0 2 0 rfl rfl rfl rfl rfl sl22 zo22e rfl (by omega) _ by22e (by omega) fun r2=>?_)
   refine wk 4 cz ?_
   exact tw (ih' r2)
  ·obtain rfl : i = ls.length:=by omega
   simp only [List.take_length] at *
   refine wk 7 cz ?_
   intro h2
   refine j_givK 1 [0] [0] rfl (.tmp rfl .nil) rfl rfl rfl ⟨r,rfl,rfl,rfl⟩
theorem S_repair_with {ps px : Option Addr} {n c k d : Nat} {l x : List Int} (hl : (l++x).length ≤ 1000000) : Ctr Tryz.prog 101 [.slice ps n c,.slice px k d] [] [slF I64 ps n c l,slF I64 px k d x] (RwI (l++x).length (l++x)):=by
 refine Ctr_of_j' (F:=F_repair_with) rfl fun C=>?_
 have e : [l,x].flatten = l++x:=by simp
 have c_slices_Concat___int_int_:=fun {ps : Option Addr} {n c : Nat}=>S_slices_Concat___int_int_ (ps:=ps) (n:=n) (c:=c) (ls:=[l,x]) (by rw [e];exact hl)
 rw [e] at c_slices_Concat___int_int_
 refine wk 5 cz ?_
 intro b1
 refine j_pub_all (E:=(encSl (I64))) (n:=2) [[Value.slice ps n c],[Value.slice px k d]] [l,x] 0 (fun w A hG=>(allrd_cons (rd_of_slF (hG _ (fact_mem (n:=0) rfl))) (allrd_cons (rd_of_slF (hG _ (fact_mem (n:=1) rfl))) allrd_nil))) rfl rfl rfl rfl (by first | decide | exact Nat.le_of_ble_eq_true rfl) (by first | decide | exact Nat.le_of_ble_eq_true rfl) ?_
 refine wk 3 (ct @c_slices_Concat___int_int_ cz) ?_
 intro r1
 refine j_givK 1 [0] [0] rfl (.tmp rfl .nil) rfl rfl rfl ⟨r1,rfl,rfl,rfl⟩
def rsF (A M : Int → Int → Int) (N : Int → Int) (v : List Int) : List Nat → List (List Int) → List Int → List Int
 | p::ps,r::rs,out=>rsF A M N v ps rs (axp A M (N (at0 v p)) r out)
 | _,_,out=>out
section
variable {q : Nat} {A M : Int → Int → Int} {N V : Int → Int} (O : FO q A M N V)
include O
theorem FO.rs_wd {n : Nat} {v : List Int} (hv : Wd q n v) : ∀ {P : List Nat} {R : List (List Int)} {out : List Int},Mat q n R → Wd q n out → Wd q n (rsF A M N v P R out)
 | [],_,_,_,ho=>ho
 | _::_,[],_,_,ho=>ho
 | p::ps,r::rs,out,hM,ho=>by
  have hq:=O.q2
  obtain ⟨v0,v1⟩:=wd_at (by omega) hv p
  obtain ⟨⟨n0,n1⟩,_⟩:=O.ng _ v0 v1
  exact FO.rs_wd hv (P:=ps) (R:=rs) (fun x hx=>hM x (.tail _ hx)) (O.fi.axw n0 n1 (hM r (.head _)) ho)
theorem FO.rs_cmb {n : Nat} {G : List (List Int)} (hG : Mat q n G) {v : List Int} (hv : Wd q n v) : ∀ {P : List Nat} {R : List (List Int)} {out : List Int},(∀ r ∈ R,r ∈ G) → Wd q n out → Cmb q A M n G (rsF A M N v P R out) → Cmb q A M n G out
 | [],_,_,_,_,h=>h
 | _::_,[],_,_,_,h=>h
 | p::ps,r::rs,out,hR,ho,h=>by
  have hq:=O.q2
  have F:=O.fi
  obtain ⟨v0,v1⟩:=wd_at (by omega) hv p
  obtain ⟨⟨n0,n1⟩,e⟩:=O.ng _ v0 v1
  have hr:=hG r (hR r (.head _))
  have h1:=FO.rs_cmb hG hv (P:=ps) (R:=rs) (fun x hx=>hR x (.tail _ hx)) (F.axw n0 n1 hr ho) h
  have h2:=O.cmb_axp hG v0 v1 (O.cmb_row hG (hR r (.head _))) h1
  have e2 : axp A M (at0 v p) r (axp A M (N (at0 v p)) r out) = out:=by
   refine wd_at_ext (F.axw v0 v1 hr (F.axw n0 n1 hr ho)) ho fun j _=>?_
   obtain ⟨r0,r1⟩:=wd_at (by omega) hr j
   obtain ⟨o0,o1⟩:=wd_at (by omega) ho j
   obtain ⟨m0,m1⟩:=F.ml _ _ n0 n1 r0 r1
   obtain ⟨k0,k1⟩:=F.ml _ _ v0 v1 r0 r1
   rw [O.axp_at v0 v1 hr (F.axw n0 n1 hr ho),O.axp_at n0 n1 hr ho,F.aa _ _ _ o0 o1 m0 m1 k0 k1,F.mc _ _ n0 n1 r0 r1,F.mc _ _ v0 v1 r0 r1,← F.md _ _ _ r0 r1 n0 n1 v0 v1,F.ac _ _ n0 n1 v0 v1,e,F.m0 r0 r1,F.a0 _ o0 o1]
  rwa [e2] at h2
theorem FO.rs_zero {n : Nat} {G : List (List Int)} (hG : Mat q n G) {v : List Int} {P : List Nat} (hv : Wd q n v) (h : ∀ x ∈ rsF A M N v P G v,x = 0) : Cmb q A M n G v:=by
 refine O.rs_cmb hG hv (P:=P) (fun r hr=>hr) hv ?_
 have hw:=O.rs_wd hv (P:=P) hG hv
 have : rsF A M N v P G v = zW n:=by
  refine wd_at_ext hw (O.wz n) fun j hj=>?_
  rw [at0_zW,at0,List.getD_eq_getElem?_getD,List.getElem?_eq_getElem (by rw [hw.1];exact hj)]
  exact h _ (List.getElem_mem _)
 rw [this];exact .zero
theorem FO.not_enough {n : Nat} {gen h : List (List Int)} {hs lost : List Nat} (hG : Mat q n gen) (hh : h = hs.map (colL gen)) {x : List Int} (hx : Cmb q A M n gen x) (h0 : ∀ j ∈ hs,at0 x j = 0) {l : Nat} (hl : l ∈ lost) (hln : l < n) (h1 : at0 x l ≠ 0) :
  ¬ ∀ j ∈ lost,∀ r ∈ wiL A M N V n gen h,at0 r j = 0:=by
 have hq:=O.q2
 intro hall
 have hm : Mat q gen.length h:=fun r hr=>by
  rw [hh] at hr
  obtain ⟨j,_,rfl⟩:=List.mem_map.1 hr
  exact wd_col (by omega) hG j
 obtain ⟨t,ht,e⟩:=O.cmb_coef hG hx
 have:=((O.wi hG hm).2 l hln).1 (hall l hl) t ht fun r hr=>by
  rw [hh] at hr
  obtain ⟨j,hj,rfl⟩:=List.mem_map.1 hr
  rw [← e];exact h0 j hj
 exact h1 (by rw [e];exact this)
end
set_option maxRecDepth 100000
set_option linter.unusedVariables false
set_option linter.unusedSimpArgs false
section
variable {q : Nat} {A M : Int → Int → Int} {N V : Int → Int} (O : FO q A M N V)
include O
omit O in
theorem en_col {R : List (List Int)} {i a : Nat} : at0 (colL R a) i = en R i a:=by
 rw [colL,at0,en,row0,List.getD_eq_getElem?_getD,List.getElem?_map,List.getD_eq_getElem?_getD]
 cases R[i]? <;> rfl
theorem FO.rs_piv {n : Nat} {R : List (List Int)} {P : List Nat} (h : Red q n R P) (hl : R.length = P.length) {v : List Int} (hv : Wd q n v) : ∀ (k : Nat) (out : List Int),k ≤ P.length → Wd q n out → (∀ (j a : Nat),j < k → P[j]? = some a → at0 out a = 0) → (∀ (j a : Nat),k ≤ j → P[j]? = some a → at0 out a = at0 v a) →
  ∀ (j a : Nat),P[j]? = some a → at0 (rsF A M N v (P.drop (P.length - (P.length - k))) (R.drop (P.length - (P.length - k))) out) a = 0:=by
 have hq:=O.q2
 have F:=O.fi
 intro k
 generalize hd : P.length - k = d
 induction d generalizing k with
 | zero =>
  intro out hk _ h1 _ j a hj
  rw [Nat.sub_zero,List.drop_of_length_le (Nat.le_refl _),List.drop_of_length_le (by omega)]
  exact h1 j a (by have:=(List.getElem?_eq_some_iff.1 hj).1;omega) hj
 | succ d ih =>
  intro out hk ho h1 h2 j a hj
  have hkl : P.length - (d + 1) = k:=by omega
  rw [hkl,List.drop_eq_getElem_cons (show k < P.length by omega),List.drop_eq_getElem_cons (show k < R.length by omega),rsF]
  have hp : P[k]? = some P[k]:=List.getElem?_eq_getElem (by omega)
  obtain ⟨v0,v1⟩:=wd_at (by omega) hv P[k]
  obtain ⟨⟨n0,n1⟩,e⟩:=O.ng _ v0 v1
  have hr : Wd q n R[k]:=h.mat _ (List.getElem_mem _)
  have hen : ∀ a,en R k a = at0 R[k] a:=fun a=>by rw [en,row0,List.getD_eq_getElem?_getD,List.getElem?_eq_getElem (show k < R.length by omega)];rfl
  have ih':=ih (k + 1) (by omega) (axp A M (N (at0 v P[k])) R[k] out) (by omega) (F.axw n0 n1 hr ho) (fun i b hi hb=>by
   rw [O.axp_at n0 n1 hr ho]
   by_cases hik : i = k
   ·subst hik
    obtain rfl : P[i] = b:=Option.some.inj (hp.symm.trans hb)
    have:=h.ech.one i _ hp
    rw [hen] at this
    rw [this,h2 i _ (Nat.le_refl _) hp,F.m1 _ n0 n1]
    exact e
   ·have hz:=h.ech.zer i b hb k (by omega) (by omega)
    rw [hen] at hz
    obtain ⟨o0,o1⟩:=wd_at (by omega) ho b
    rw [hz,F.m0 n0 n1,F.a0 _ o0 o1]
    exact h1 i b (by omega) hb) (fun i b hi hb=>by
   rw [O.axp_at n0 n1 hr ho]
   have hz:=h.ech.zer i b hb k (by omega) (by omega)
   rw [hen] at hz
   obtain ⟨o0,o1⟩:=wd_at (by omega) ho b
   rw [hz,F.m0 n0 n1,F.a0 _ o0 o1]
   exact h2 i b (by omega) hb)
  rw [show P.length - d = k + 1 by omega] at ih'
  exact ih' j a hj
theorem FO.cmb_piv {n : Nat} {R : List (List Int)} {P : List Nat} (h : Red q n R P) (hl : R.length = P.length) {u : List Int} (hu : Cmb q A M n R u) (h0 : ∀ a ∈ P,at0 u a = 0) : u = zW n:=by
 have hq:=O.q2
 have F:=O.fi
 obtain ⟨t,ht,e⟩:=O.cmb_coef h.mat hu
 have ht0 : ∀ i,at0 t i = 0:=fun i=>by
  by_cases hi : i < P.length
  ·have hp : P[i]? = some P[i]:=List.getElem?_eq_getElem hi
   have h1:=e P[i]
   rw [h0 _ (List.getElem_mem _),O.dot_one ht (wd_col (by omega) h.mat _) i fun j hj=>?_,en_col,h.ech.one i _ hp] at h1
   ·obtain ⟨t0,t1⟩:=wd_at (by omega) ht i
    rw [F.m1 _ t0 t1] at h1
    exact h1.symm
   ·obtain ⟨t0,t1⟩:=wd_at (by omega) ht j
    rw [en_col]
    by_cases hjl : j < R.length
    ·rw [h.ech.zer i _ hp j hjl hj,F.m0 t0 t1]
    ·rw [en,row0,List.getD_eq_getElem?_getD,List.getElem?_eq_none (by omega),at0,List.getD_eq_getElem?_getD]
     exact F.m0 t0 t1
  ·rw [at0,List.getD_eq_getElem?_getD,List.getElem?_eq_none (by rw [ht.1];omega)];rfl
 refine wd_at_ext (O.cmb_mat h.mat hu) (O.wz n) fun j _=>?_
 obtain ⟨c0,c1⟩:=wd_col (by omega) h.mat j (rows:=R)
 rw [e,at0_zW]
 refine O.dot_zero ht (wd_col (by omega) h.mat j) fun i=>?_
 obtain ⟨r0,r1⟩:=wd_at (by omega) (wd_col (show 0 < q by omega) h.mat j) i
 rw [ht0,F.mc 0 _ (Int.le_refl 0) (by omega) r0 r1,F.m0 r0 r1]
theorem FO.rs_in {n : Nat} {G : List (List Int)} (hG : Mat q n G) {v : List Int} (hv : Wd q n v) : ∀ {P : List Nat} {R : List (List Int)} {out : List Int},(∀ r ∈ R,r ∈ G) → Cmb q A M n G out → Cmb q A M n G (rsF A M N v P R out)
 | [],_,_,_,h=>h
 | _::_,[],_,_,h=>h
 | p::ps,r::rs,out,hR,h=>by
  have hq:=O.q2
  obtain ⟨v0,v1⟩:=wd_at (by omega) hv p
  obtain ⟨⟨n0,n1⟩,e⟩:=O.ng _ v0 v1
  exact FO.rs_in hG hv (P:=ps) (R:=rs) (fun x hx=>hR x (.tail _ hx)) (O.cmb_axp hG n0 n1 (O.cmb_row hG (hR r (.head _))) h)
theorem FO.rs_nil {n : Nat} {R : List (List Int)} {P : List Nat} (h : Red q n R P) (hl : R.length = P.length) {v : List Int} (hv : Cmb q A M n R v) : ∀ x ∈ rsF A M N v P R v,x = 0:=by
 have hw:=O.cmb_mat h.mat hv
 have h1:=O.rs_piv h hl hw 0 v (Nat.zero_le _) hw (fun j a hj _=>by omega) (fun _ _ _ _=>rfl)
 rw [Nat.sub_zero,Nat.sub_self,List.drop_zero,List.drop_zero] at h1
 rw [O.cmb_piv h hl (O.rs_in h.mat hw (P:=P) (R:=R) (fun r hr=>hr) hv) fun a ha=>by
  obtain ⟨j,hj⟩:=List.getElem?_of_mem ha
  exact h1 j a hj]
 intro x hx
 exact List.eq_of_mem_replicate hx
end
open Go Go.Fw
set_option maxRecDepth 100000
set_option linter.unusedVariables false
set_option linter.unusedSimpArgs false
set_option maxHeartbeats 0
section
variable {p m : Nat} {md : List Int}
end
open Go Go.Fw
set_option maxRecDepth 100000
set_option linter.unusedVariables false
set_option linter.unusedSimpArgs false
set_option maxHeartbeats 0
def zrB (l : List Int) : Bool:=!l.any fun y=>!decide (y = 0)
theorem zrB_iff {l : List Int} : zrB l = true ↔ ∀ x ∈ l,x = 0:=by
 rw [zrB,Bool.not_eq_true',List.any_eq_false]
 exact ⟨fun h x hx=>by simpa using h x hx,fun h x hx=>by simpa using h x hx⟩
def mbB (p m : Nat) (md : List Int) (N : Nat) (rows : List (List Int)) (x : List Int) : Bool:=zrB (rsF (liftI (fA p m)) (liftI (fM p (fpo m md))) (negI p m) x (cnP p m md N rows).2 rows x)
section
variable {p m N b ng cg ce cl n c k cp nx cx : Nat} {pg pe pl ps pp px : Option Addr} {md x : List Int} {rows : List (List Int)}
end
open Go Go.Fw
set_option maxRecDepth 100000
set_option linter.unusedVariables false
set_option linter.unusedSimpArgs false
set_option maxHeartbeats 0
section
variable {p m N n c nm cm nx cx : Nat} {pm ps px : Option Addr} {md x : List Int} {rows : List (List Int)}
theorem liE_ok {q k : Nat} {l : List Int} (h : Wd q k l) : liE l k q = 0:=by
 rw [liE,if_neg (by have:=h.1;omega),entE,if_pos h.2]
theorem liE_of {q k : Nat} {l : List Int} (h : liE l k q = 0) : Wd q k l:=by
 rw [liE] at h
 by_cases h1 : l.length ≠ k
 ·rw [if_pos h1] at h;omega
 ·rw [if_neg h1,entE] at h
  by_cases h2 : ∀ x ∈ l,0 ≤ x ∧ x < (q : Int)
  ·exact ⟨by omega,h2⟩
  ·rw [if_neg h2] at h;omega
end
open Go Go.Fw
set_option maxRecDepth 100000
set_option linter.unusedVariables false
set_option linter.unusedSimpArgs false
set_option maxHeartbeats 0
def brB (lost away z w : List Int) (i : Nat) : Bool:=!decide (at0 w i = 0) && !decide ((i : Int) ∈ lost) && !decide ((i : Int) ∈ away) && !decide ((i : Int) ∈ z)
def brL (lost away z w : List Int) (n : Nat) : List Int:=((List.range n).filter (brB lost away z w)).map fun i : Nat=>(i : Int)
theorem brL_succ {lost away z w : List Int} {n : Nat} : brL lost away z w (n + 1) = brL lost away z w n++if brB lost away z w n then [(n : Int)] else []:=by
 rw [brL,List.range_succ,List.filter_append,List.map_append,← brL]
 cases h : brB lost away z w n <;> simp [h]
theorem brL_le {lost away z w : List Int} {n : Nat} : (brL lost away z w n).length ≤ n:=by
 rw [brL,List.length_map];have:=List.length_filter_le (brB lost away z w) (List.range n);rwa [List.length_range] at this
theorem brL_mem {lost away z w : List Int} {n : Nat} {x : Int} : x ∈ brL lost away z w n ↔ ∃ i : Nat,x = i ∧ i < n ∧ at0 w i ≠ 0 ∧ (i : Int) ∉ lost ∧ (i : Int) ∉ away ∧ (i : Int) ∉ z:=by
 rw [brL,List.mem_map]
 constructor
 ·rintro ⟨i,hi,rfl⟩
  rw [List.mem_filter,List.mem_range] at hi
  obtain ⟨h1,h2⟩:=hi
  simp only [brB,Bool.and_eq_true,Bool.not_eq_true',decide_eq_false_iff_not] at h2
  exact ⟨i,rfl,h1,h2.1.1.1,h2.1.1.2,h2.1.2,h2.2⟩
 ·rintro ⟨i,rfl,h1,h2,h3,h4,h5⟩
  refine ⟨i,?_,rfl⟩
  rw [List.mem_filter,List.mem_range]
  refine ⟨h1,?_⟩
  simp only [brB,Bool.and_eq_true,Bool.not_eq_true',decide_eq_false_iff_not]
  exact ⟨⟨⟨h2,h3⟩,h4⟩,h5⟩
section
variable {pw pl pa pz : Option Addr} {nw cw nl cl na ca nz cz' : Nat} {w lost away z : List Int}
theorem S_repair_branches (hw : w.length ≤ 1000000) : Ctr Tryz.prog 100 [.slice pw nw cw,.slice pl nl cl,.slice pa na ca,.slice pz nz cz'] [] [slF I64 pw nw cw w,slF I64 pl nl cl lost,slF I64 pa na ca away,slF I64 pz nz cz' z] (RwI (brL lost away z w w.length).length (brL lost away z w w.length)):=by
 refine Ctr_of_j' (F:=F_repair_branches) rfl fun C=>?_
 refine j_len 0 rfl fun hn _ _=>?_
 subst hn
 refine wk 9 cz ?_
 refine j_row0 I64 3 ?_
 refine j_loopG (X:=Nat × Row) [1,2,3,8,12,13] [0,1,2,3,4] (fun x=>[(14,.int .i64 (x.1 : Int)),(9,.slice (ad x.2.bo) (brL lost away z w x.1).length x.2.cap)]) (fun x=>[(x.2.bo,3,x.2.cs)]) (fun x=>[rowF I64 x.2 (brL lost away z w x.1).length (brL lost away z w x.1)]) (fun x=>x.1 ≤ w.length) (fun x=>w.length - x.1) (0,⟨none,0,[]⟩) [0] rfl rfl rfl (Nat.zero_le _) (by repeat (first | exact Fr.sub_nil _ | refine Fr.sub_cons rfl ?_)) rfl rfl ?_
 rintro ⟨i,r⟩ hi ih
 simp only [List.cons_append,List.nil_append] at hi ih ⊢
 have hle:=brL_le (lost:=lost) (away:=away) (z:=z) (w:=w) (n:=i)
 by_cases hil : i < w.length
 ·obtain ⟨y,at_y⟩ : ∃ y,w[i]? = some y:=⟨_,List.getElem?_eq_getElem hil⟩
  have ey : at0 w i = y:=by rw [at0,List.getD_eq_getElem?_getD,at_y];rfl
  have ih':=fun r=>ih (i + 1,r) (by dsimp only;omega) (by dsimp only;omega)
  dsimp only at ih'
  rw [brL_succ,brB,ey] at ih'
  by_cases h0 : y = 0
  ·rw [decide_eq_true h0] at ih'
   simp only [Bool.not_true,Bool.false_and,if_neg (show ¬ (false = true) by decide),List.append_nil] at ih'
   refine j_nf [_,_,_,_,_] rfl ?_
   refine j_run it 1 rfl (by simp) ?_
   refine j_nf [_,_,_,_,_] rfl ?_
   refine j_if rfl rfl (fun h1=>?_) (fun h1=>by exfalso;omega)
   refine j_nf [_,_,_,_,_,_,_] rfl ?_
   refine j_run it 1 rfl (by simp) ?_
   refine j_step rfl (x_idx 2 (i) rfl rfl rfl sl22 rfl (by omega) fun z1 hz1 b1 o1=>?_)
   obtain rfl : _ = z1:=Option.some.inj (at_y.symm.trans hz1)
   refine j_step rfl (x_ld_int 0 rfl rfl ld3 fun ⟨r1,r2⟩=>?_)
   refine j_run it 2 rfl (by simp) ?_
   refine j_nf [_,_,_,_,_,_,_] rfl ?_
   refine j_run it 3 rfl (by simp) ?_
   refine j_split_ndec (t:=21) rfl (fun h2=>by exfalso;omega) (fun h2=>?_)
   refine j_run it 17 rfl (by simp) ?_
   refine j_nf [_,_,_,_,_,_] rfl ?_
   refine j_false rfl rfl ?_
   refine j_nf [_,_,_,_] rfl ?_
   refine j_run it 2 rfl ⟨trivial,⟨by omega,by omega⟩,trivial⟩ ?_
   refine j_nfn 1 [.lp (pL 116),.blk 0,.c [1,1,1]] rfl ?_
   exact tw (ih' r)
  rw [decide_eq_false h0] at ih'
  cases hA : decide ((i : Int) ∈ lost) with
  | true =>
   rw [hA] at ih'
   simp only [Bool.not_true,Bool.not_false,Bool.and_false,Bool.false_and,if_neg (show ¬ (false = true) by decide),List.append_nil] at ih'
   refine wk 14 cz ?_
   intro h1 b1 o1 hz1 _ r1 r2
   refine j_split_ndec (t:=21) rfl (fun h2=>?_) (fun h2=>by exfalso;omega)
   refine wk 8 (ct @S_slices_Contains___int_int_ cz) ?_
   exact tw (ih' r)
  | false =>
   cases hB : decide ((i : Int) ∈ away) with
   | true =>
    rw [hA,hB] at ih'
    simp only [Bool.not_true,Bool.not_false,Bool.and_false,Bool.false_and,if_neg (show ¬ (false = true) by decide),List.append_nil] at ih'
    refine wk 14 cz ?_
    intro h1 b1 o1 hz1 _ r1 r2
    refine j_split_ndec (t:=21) rfl (fun h2=>?_) (fun h2=>by exfalso;omega)
    refine wk 10 (ct @S_slices_Contains___int_int_ (ct @S_slices_Contains___int_int_ cz)) ?_
    exact tw (ih' r)
   | false =>
    cases hC : decide ((i : Int) ∈ z) with
    | true =>
     rw [hA,hB,hC] at ih'
     simp only [Bool.not_true,Bool.not_false,Bool.and_false,if_neg (show ¬ (false = true) by decide),List.append_nil] at ih'
     refine wk 14 cz ?_
     intro h1 b1 o1 hz1 _ r1 r2
     refine j_split_ndec (t:=21) rfl (fun h2=>?_) (fun h2=>by exfalso;omega)
     refine wk 12 (ct @S_slices_Contains___int_int_ (ct @S_slices_Contains___int_int_ (ct @S_slices_Contains___int_int_ cz))) ?_
     exact tw (ih' r)
    | false =>
     rw [hA,hB,hC] at ih'
     simp only [Bool.not_false,Bool.and_true,if_pos,List.length_append,List.length_singleton] at ih'
     refine wk 14 cz ?_
     intro h1 b1 o1 hz1 _ r1 r2
     refine j_split_ndec (t:=21) rfl (fun h2=>?_) (fun h2=>by exfalso;omega)
     refine wk 12 (ct @S_slices_Contains___int_int_ (ct @S_slices_Contains___int_int_ (ct @S_slices_Contains___int_int_ cz))) ?_
     intro b2
     refine j_step rfl (x_appR (z:=(↑i : Int)) 1 0 1 rfl rfl rfl rfl rfl sl22 zo22e rfl (fun w A hG=>(rd_int (by first | (simp only [InR];omega) | (simp [InR];done)))) (by omega) _ by22e (by omega) fun r3=>?_)
     refine wk 4 cz ?_
     refine j_toM [true,false] [0,3,4,5,6,7] (by exact fra rfl) rfl rfl (ih' r3)
 ·obtain rfl : i = w.length:=by omega
  refine wk 7 cz ?_
  intro h1
  refine j_givK 1 [0] [0] rfl (.tmp rfl .nil) rfl rfl rfl ⟨r,rfl,rfl,rfl⟩
end
end Go.Proofs.YtkcmkomhnjppaaaGreat
