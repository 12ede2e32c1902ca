/-
One constraint more: what follows for the answers; the walk of SimplexConstraints.
-/
import Derived.Test.YthahejfpdhcpiaaHC7
set_option linter.unusedVariables false
set_option linter.unusedSimpArgs false

namespace Go.Proofs.Ythahejfpdhcpiaa
open Go Go.Fw
set_option maxRecDepth 100000
set_option linter.unusedVariables false
set_option linter.unusedSimpArgs false
set_option maxHeartbeats 8000000
theorem fe_less {n m : Nat} {A A' : Nat → Nat → Rat} {B B' x : Nat → Rat} (hA : ∀ i j,i < m → j < n → A' i j = A i j) (hB : ∀ i,i < m → B' i = B i) (h : Fe n (m + 1) A' B' x) : Fe n m A B x :=
 ⟨h.1,fun i hi=>by
  have:=h.2 i (by omega)
  rw [hB i hi,rs_congr (g:=fun k=>A i k * x k) fun k hk=>by rw [hA i k hi hk]] at this
  exact this⟩
theorem cons_law {n m : Nat} {A A' : Nat → Nat → Rat} {B B' C : Nat → Rat} {k k' : Int} {X Y R X' Y' R' : List Rt} (hA : ∀ i j,i < m → j < n → A' i j = A i j) (hB : ∀ i,i < m → B' i = B i)
  (s : SolR n m A B C k X Y R) (t : SolR n (m + 1) A' B' C k' X' Y' R') : (k = 1 → k' = 1) ∧ (k = 0 → k' = 1 ∨ k' = 0):=by
 constructor
 ·rintro rfl
  rcases sol_kind t with rfl | rfl | rfl
  ·obtain ⟨x,hx⟩:=sol_feas t (by decide)
   exact (sol_inf s (fe_less hA hB hx)).elim
  ·rfl
  ·obtain ⟨x,hx⟩:=sol_feas t (by decide)
   exact (sol_inf s (fe_less hA hB hx)).elim
 ·rintro rfl
  rcases sol_kind t with rfl | rfl | rfl
  ·exact .inr rfl
  ·exact .inl rfl
  ·exfalso
   obtain ⟨x,y,_,_,_,hy,_⟩:=sol_opt s
   cases t with
   | unb x d h1 h2 h3 h4 h5 =>
    refine rayD h3 (fun h hh=>?_) hy.1 hy.2 h5
    have:=h4 h (by omega)
    rwa [rs_congr (g:=fun k=>A h k * d k) fun k hk=>by rw [hA h k hh hk]] at this
theorem cons_val {n m : Nat} {A A' : Nat → Nat → Rat} {B B' C : Nat → Rat} {X Y R X' Y' R' : List Rt} (hA : ∀ i j,i < m → j < n → A' i j = A i j) (hB : ∀ i,i < m → B' i = B i)
  (s : SolR n m A B C 0 X Y R) (t : SolR n (m + 1) A' B' C 0 X' Y' R') : ∃ x x',X = rl n x ∧ X' = rl n x' ∧ rs n (fun k=>C k * x' k) ≤ rs n (fun k=>C k * x k):=by
 obtain ⟨x,y,rfl,_,_,hy,e⟩:=sol_opt s
 obtain ⟨x',_,rfl,_,hx',_,_⟩:=sol_opt t
 have h:=fe_less hA hB hx'
 exact ⟨x,x',rfl,rfl,by rw [e];exact weakD h.1 h.2 hy.1 hy.2⟩
theorem mvOf_snoc {M : List (List Rt)} {row : List Rt} {i j : Nat} (h : i < M.length) : mvOf (M++[row]) i j = mvOf M i j:=by
 rw [mvOf,mvOf,List.getD_eq_getElem?_getD,List.getD_eq_getElem?_getD,List.getElem?_append_left h]
theorem cvOf_snoc {B : List Rt} {b : Rt} {i : Nat} (h : i < B.length) : cvOf (B++[b]) i = cvOf B i:=by
 rw [cvOf,cvOf,List.getD_eq_getElem?_getD,List.getD_eq_getElem?_getD,List.getElem?_append_left h]
theorem check_snoc {C B row : List Rt} {b : Rt} {M : List (List Rt)} (h : checkOf (C,M,B) = 0) (hr : row.length = C.length) (lM : M.length ≤ 5) : checkOf (C,M++[row],B++[b]) = 0:=by
 obtain ⟨h1,h2,h3,h4⟩:=check_zero h
 unfold checkOf
 rw [if_neg (by simp only [List.length_append,List.length_cons,List.length_nil];omega),if_neg (by simp only [List.length_append,List.length_cons,List.length_nil];omega),if_pos]
 rw [List.all_eq_true]
 intro z hz
 rw [beq_iff_eq]
 rcases List.mem_append.1 hz with hz | hz
 ·exact h4 z hz
 ·rw [List.mem_singleton.1 hz];exact hr
theorem S_SimplexConstraints {p1 p2 p3 p4 pn pd : Option Addr} {c1 c2 c3 c4 cn cd : Nat} {C B row : List Rt} {M : List (List Rt)} {b : Rt} :
  Ctr Try.prog 6 [.agg #[.slice p1 C.length c1,.slice p2 M.length c2,.slice p3 B.length c3],.slice p4 row.length c4,.agg #[.bool b.1,.slice pn b.2.1.length cn,.slice pd b.2.2.length cd]] []
   [slF RatE p1 C.length c1 C,slF (encSl RatE) p2 M.length c2 M,slF RatE p3 B.length c3 B,slF RatE p4 row.length c4 row,slF U32 pn b.2.1.length cn b.2.1,slF U32 pd b.2.2.length cd b.2.2] (Rv (.bool true) []):=by
 refine Ctr_of_j' (F:=F_codewrightlaw35_SimplexConstraints) rfl fun Cx=>?_
 refine rts_range 0 rfl fun rC=>?_
 refine rtss_rng 1 rfl fun rM=>?_
 refine rts_range 2 rfl fun rB=>?_
 refine rts_range 3 rfl fun rR=>?_
 have c_codewrightref35_Small:=@S_Small_res
 have c_codewrightlaw35_one:=S_one_few
 refine j_nf [.o [0] 0,.c [1]] rfl ?_
 refine j_step rfl (x_box_agg rfl fun b1=>?_)
 refine j_step rfl (x_box_agg rfl fun b2=>?_)
 refine j_run it 1 rfl (by simp) ?_
 refine j_nf [.o [1,0,0] 0,.c [1,0,1],.c [1,1]] rfl ?_
 refine j_step rfl (x_bld_all 1 rfl rfl ld26 rfl ?_)
 refine j_run it 1 rfl (by simp) ?_
 refine j_step rfl (x_bld_all 0 rfl rfl ld44 rfl ?_)
 refine j_step rfl (x_lit sl23 zo23e rfl rfl rfl rfl (by decide) (by decide) rfl fun b3=>?_)
 refine j_step rfl (x_lit sl24 zo24e rfl rfl rfl rfl (by decide) (by decide) rfl fun b4=>?_)
 refine j_pub_all (E:=RatE) (n:=1) [[.bool b.1,.slice pn b.2.1.length cn,.slice pd b.2.2.length cd]] [b] 1 (fun w A hG=>allrd_cons (rd_rt (hG _ (fact_mem (n:=4) rfl)) (hG _ (fact_mem (n:=5) rfl))) allrd_nil) rfl rfl rfl rfl (by decide) (by decide) ?_
 refine rts_range 0 rfl fun rb=>?_
 cases hff : fitsB C M B [row,[b]] with
 | false =>
  refine j_pub_all (E:=(encSl RatE)) (n:=2) [[Value.slice p4 row.length c4],[Value.slice (some { block:=b3,off:=0 }) 1 1]] [row,[b]] 0 (fun w A hG=>(allrd_cons (rd_of_slF (hG _ (fact_mem (n:=4) rfl))) (allrd_cons (rd_of_slF (hG _ (fact_mem (n:=0) rfl))) allrd_nil))) rfl rfl rfl rfl (by first | decide | exact Nat.le_of_ble_eq_true rfl) (by first | decide | exact Nat.le_of_ble_eq_true rfl) ?_
  refine j_step rfl (x_call [2,3,4,0] rfl (S_codewrightlaw35_fits (by first|omega|exact side _ (by assumption)|assumption|rfl|(simp;done)|(simp;omega))) rfl ?_)
  rintro _ _ _ ⟨rfl,rfl,rfl⟩
  simp only [List.cons_append,List.nil_append]
  refine j_run it 1 rfl (by simp) ?_
  refine j_nf [.c [1,0,1],.c [1,1]] rfl ?_
  refine j_true rfl rfl ?_
  refine j_nf [.o [1,0,1,0,0] 0,.c [1,0,1,0,1],.c [1,1]] rfl ?_
  refine j_run it 1 rfl (by simp) ?_
  refine j_nf [.c [1,0,1,0,1],.c [1,1]] rfl ?_
  refine j_giv [] rfl rfl rfl ⟨rfl,rfl,rfl⟩
 | true =>
  have hff':=hff
  simp only [fitsB,Bool.and_eq_true,List.all_cons,List.all_nil,and_true] at hff'
  obtain ⟨_,ob⟩:=few_list hff'.1.2 rb
  obtain ⟨_,oRow⟩:=few_list hff'.1.1 rR
  cases hf : smallB 5 C M B with
  | false =>
   refine j_pub_all (E:=(encSl RatE)) (n:=2) [[Value.slice p4 row.length c4],[Value.slice (some { block:=b3,off:=0 }) 1 1]] [row,[b]] 0 (fun w A hG=>(allrd_cons (rd_of_slF (hG _ (fact_mem (n:=4) rfl))) (allrd_cons (rd_of_slF (hG _ (fact_mem (n:=0) rfl))) allrd_nil))) rfl rfl rfl rfl (by first | decide | exact Nat.le_of_ble_eq_true rfl) (by first | decide | exact Nat.le_of_ble_eq_true rfl) ?_
   refine j_step rfl (x_call [2,3,4,0] rfl (S_codewrightlaw35_fits (by first|omega|exact side _ (by assumption)|assumption|rfl|(simp;done)|(simp;omega))) rfl ?_)
   rintro _ _ _ ⟨rfl,rfl,rfl⟩
   simp only [List.cons_append,List.nil_append]
   refine j_run it 1 rfl (by simp) ?_
   refine j_nf [.c [1,0,1],.c [1,1]] rfl ?_
   refine j_false rfl rfl ?_
   refine j_nf [.o [1,1,0,0] 0,.c [1,1,0,1],.c [1,1,1]] rfl ?_
   refine j_step rfl (x_bld_all 1 rfl rfl ld26 rfl ?_)
   refine j_step rfl (x_call [2,3,4] rfl (c_codewrightref35_Small (by first|omega|exact side _ (by assumption)|assumption|rfl|(simp;done)|(simp;omega)) (by first|omega|exact side _ (by assumption)|assumption|rfl|(simp;done)|(simp;omega)) (by first|omega|exact side _ (by assumption)|assumption|rfl|(simp;done)|(simp;omega)) (by first|omega|exact side _ (by assumption)|assumption|rfl|(simp;done)|(simp;omega)) (by first|omega|exact side _ (by assumption)|assumption|rfl|(simp;done)|(simp;omega))) rfl ?_)
   rintro _ _ _ ⟨rfl,rfl,rfl⟩
   simp only [List.cons_append,List.nil_append]
   refine j_run it 14 rfl (by simp) ?_
   refine j_nf [.c [1,1,0,1],.c [1,1,1]] rfl ?_
   refine j_true rfl rfl ?_
   refine j_nf [.o (pL 116) 0,.c (pL 117),.c [1,1,1]] rfl ?_
   refine j_run it 1 rfl (by simp) ?_
   refine j_nf [.c (pL 117),.c [1,1,1]] rfl ?_
   refine j_giv [] rfl rfl rfl ⟨rfl,rfl,rfl⟩
  | true =>
   by_cases hc : checkOf (C,M,B) = 0
   case neg =>
    refine j_pub_all (E:=(encSl RatE)) (n:=2) [[Value.slice p4 row.length c4],[Value.slice (some { block:=b3,off:=0 }) 1 1]] [row,[b]] 0 (fun w A hG=>(allrd_cons (rd_of_slF (hG _ (fact_mem (n:=4) rfl))) (allrd_cons (rd_of_slF (hG _ (fact_mem (n:=0) rfl))) allrd_nil))) rfl rfl rfl rfl (by first | decide | exact Nat.le_of_ble_eq_true rfl) (by first | decide | exact Nat.le_of_ble_eq_true rfl) ?_
    refine j_step rfl (x_call [2,3,4,0] rfl (S_codewrightlaw35_fits (by first|omega|exact side _ (by assumption)|assumption|rfl|(simp;done)|(simp;omega))) rfl ?_)
    rintro _ _ _ ⟨rfl,rfl,rfl⟩
    simp only [List.cons_append,List.nil_append]
    refine j_run it 1 rfl (by simp) ?_
    refine j_nf [.c [1,0,1],.c [1,1]] rfl ?_
    refine j_false rfl rfl ?_
    refine j_nf [.o [1,1,0,0] 0,.c [1,1,0,1],.c [1,1,1]] rfl ?_
    refine j_step rfl (x_bld_all 1 rfl rfl ld26 rfl ?_)
    refine j_step rfl (x_call [2,3,4] rfl (c_codewrightref35_Small (by first|omega|exact side _ (by assumption)|assumption|rfl|(simp;done)|(simp;omega)) (by first|omega|exact side _ (by assumption)|assumption|rfl|(simp;done)|(simp;omega)) (by first|omega|exact side _ (by assumption)|assumption|rfl|(simp;done)|(simp;omega)) (by first|omega|exact side _ (by assumption)|assumption|rfl|(simp;done)|(simp;omega)) (by first|omega|exact side _ (by assumption)|assumption|rfl|(simp;done)|(simp;omega))) rfl ?_)
    rintro _ _ _ ⟨rfl,rfl,rfl⟩
    simp only [List.cons_append,List.nil_append]
    refine j_run it 2 rfl (by simp) ?_
    refine j_gstep rfl rfl (x_bld_all 1 rfl rfl ld26 rfl ?_)
    refine j_gstep rfl rfl (x_call [2,3,4] rfl (S_codewrightref35_Check) rfl ?_)
    rintro _ _ _ ⟨rfl,rfl,rfl⟩
    simp only [List.cons_append,List.nil_append]
    refine j_run it 3 rfl (by simp) ?_
    refine j_split_ndec (t:=27) rfl (fun h1=>?_) (fun h1=>by exfalso;omega)
    refine j_run it 7 rfl (by simp) ?_
    refine j_nf [.c [1,1,0,1],.c [1,1,1]] rfl ?_
    refine j_true rfl rfl ?_
    refine j_nf [.o (pL 116) 0,.c (pL 117),.c [1,1,1]] rfl ?_
    refine j_run it 1 rfl (by simp) ?_
    refine j_nf [.c (pL 117),.c [1,1,1]] rfl ?_
    refine j_giv [] rfl rfl rfl ⟨rfl,rfl,rfl⟩
   by_cases hrl : row.length = C.length
   case neg =>
    refine j_pub_all (E:=(encSl RatE)) (n:=2) [[Value.slice p4 row.length c4],[Value.slice (some { block:=b3,off:=0 }) 1 1]] [row,[b]] 0 (fun w A hG=>(allrd_cons (rd_of_slF (hG _ (fact_mem (n:=4) rfl))) (allrd_cons (rd_of_slF (hG _ (fact_mem (n:=0) rfl))) allrd_nil))) rfl rfl rfl rfl (by first | decide | exact Nat.le_of_ble_eq_true rfl) (by first | decide | exact Nat.le_of_ble_eq_true rfl) ?_
    refine j_step rfl (x_call [2,3,4,0] rfl (S_codewrightlaw35_fits (by first|omega|exact side _ (by assumption)|assumption|rfl|(simp;done)|(simp;omega))) rfl ?_)
    rintro _ _ _ ⟨rfl,rfl,rfl⟩
    simp only [List.cons_append,List.nil_append]
    refine j_run it 1 rfl (by simp) ?_
    refine j_nf [.c [1,0,1],.c [1,1]] rfl ?_
    refine j_false rfl rfl ?_
    refine j_nf [.o [1,1,0,0] 0,.c [1,1,0,1],.c [1,1,1]] rfl ?_
    refine j_step rfl (x_bld_all 1 rfl rfl ld26 rfl ?_)
    refine j_step rfl (x_call [2,3,4] rfl (c_codewrightref35_Small (by first|omega|exact side _ (by assumption)|assumption|rfl|(simp;done)|(simp;omega)) (by first|omega|exact side _ (by assumption)|assumption|rfl|(simp;done)|(simp;omega)) (by first|omega|exact side _ (by assumption)|assumption|rfl|(simp;done)|(simp;omega)) (by first|omega|exact side _ (by assumption)|assumption|rfl|(simp;done)|(simp;omega)) (by first|omega|exact side _ (by assumption)|assumption|rfl|(simp;done)|(simp;omega))) rfl ?_)
    rintro _ _ _ ⟨rfl,rfl,rfl⟩
    simp only [List.cons_append,List.nil_append]
    refine j_run it 2 rfl (by simp) ?_
    refine j_gstep rfl rfl (x_bld_all 1 rfl rfl ld26 rfl ?_)
    refine j_gstep rfl rfl (x_call [2,3,4] rfl (S_codewrightref35_Check) rfl ?_)
    rintro _ _ _ ⟨rfl,rfl,rfl⟩
    simp only [List.cons_append,List.nil_append]
    refine j_run it 3 rfl (by simp) ?_
    refine j_split_ndec (t:=27) rfl (fun h1=>by exfalso;omega) (fun h1=>?_)
    refine j_run it 1 rfl (by simp) ?_
    refine j_gstep rfl rfl (x_len sl23 rfl ?_)
    refine j_gstep rfl rfl (x_field rfl fd26_0 ?_)
    refine j_gstep rfl rfl (x_bld 1 rfl rfl ld23 rfl ?_)
    refine j_gstep rfl rfl (x_len sl23 rfl ?_)
    refine j_run it 2 rfl (by simp) ?_
    refine j_nf [.c [1,1,0,1],.c [1,1,1]] rfl ?_
    refine j_ifn rfl rfl (fun h2=>?_) (fun h2=>by exfalso;omega)
    refine j_nf [.o (pL 116) 0,.c (pL 117),.c [1,1,1]] rfl ?_
    refine j_run it 1 rfl (by simp) ?_
    refine j_nf [.c (pL 117),.c [1,1,1]] rfl ?_
    refine j_giv [] rfl rfl rfl ⟨rfl,rfl,rfl⟩
   obtain ⟨lC,lB,lM,oC,oB,oM⟩:=small_ok2 hf rC rB rM
   obtain ⟨eM,eR⟩:=check_rows hc
   refine j_pub_all (E:=(encSl RatE)) (n:=2) [[Value.slice p4 row.length c4],[Value.slice (some { block:=b3,off:=0 }) 1 1]] [row,[b]] 0 (fun w A hG=>(allrd_cons (rd_of_slF (hG _ (fact_mem (n:=4) rfl))) (allrd_cons (rd_of_slF (hG _ (fact_mem (n:=0) rfl))) allrd_nil))) rfl rfl rfl rfl (by first | decide | exact Nat.le_of_ble_eq_true rfl) (by first | decide | exact Nat.le_of_ble_eq_true rfl) ?_
   refine j_step rfl (x_call [2,3,4,0] rfl (S_codewrightlaw35_fits (by first|omega|exact side _ (by assumption)|assumption|rfl|(simp;done)|(simp;omega))) rfl ?_)
   rintro _ _ _ ⟨rfl,rfl,rfl⟩
   simp only [List.cons_append,List.nil_append]
   refine j_run it 1 rfl (by simp) ?_
   refine j_nf [.c [1,0,1],.c [1,1]] rfl ?_
   refine j_false rfl rfl ?_
   refine j_nf [.o [1,1,0,0] 0,.c [1,1,0,1],.c [1,1,1]] rfl ?_
   refine j_step rfl (x_bld_all 1 rfl rfl ld26 rfl ?_)
   refine j_step rfl (x_call [2,3,4] rfl (c_codewrightref35_Small (by first|omega|exact side _ (by assumption)|assumption|rfl|(simp;done)|(simp;omega)) (by first|omega|exact side _ (by assumption)|assumption|rfl|(simp;done)|(simp;omega)) (by first|omega|exact side _ (by assumption)|assumption|rfl|(simp;done)|(simp;omega)) (by first|omega|exact side _ (by assumption)|assumption|rfl|(simp;done)|(simp;omega)) (by first|omega|exact side _ (by assumption)|assumption|rfl|(simp;done)|(simp;omega))) rfl ?_)
   rintro _ _ _ ⟨rfl,rfl,rfl⟩
   simp only [List.cons_append,List.nil_append]
   refine j_run it 2 rfl (by simp) ?_
   refine j_gstep rfl rfl (x_bld_all 1 rfl rfl ld26 rfl ?_)
   refine j_gstep rfl rfl (x_call [2,3,4] rfl (S_codewrightref35_Check) rfl ?_)
   rintro _ _ _ ⟨rfl,rfl,rfl⟩
   simp only [List.cons_append,List.nil_append]
   refine j_run it 3 rfl (by simp) ?_
   refine j_split_ndec (t:=27) rfl (fun h1=>by exfalso;omega) (fun h1=>?_)
   refine j_run it 1 rfl (by simp) ?_
   refine j_gstep rfl rfl (x_len sl23 rfl ?_)
   refine j_gstep rfl rfl (x_field rfl fd26_0 ?_)
   refine j_gstep rfl rfl (x_bld 1 rfl rfl ld23 rfl ?_)
   refine j_gstep rfl rfl (x_len sl23 rfl ?_)
   refine j_run it 2 rfl (by simp) ?_
   refine j_nf [.c [1,1,0,1],.c [1,1,1]] rfl ?_
   refine j_ifn rfl rfl (fun h2=>by exfalso;omega) (fun h2=>?_)
   refine j_nf [.c [1,1,1,0],.c [1,1,1,1]] rfl ?_
   (apply j_drawKB it mx 0 18;(· rfl);(· rfl);(· rfl))
   (apply lxk_eq;(· rfl);(· exact d_x fun _=>x_field rfl fd26_0 dk_eq))
   (apply lxk_eq;(· rfl);(· exact d_bld 1 rfl rfl ld23 rfl))
   (apply lxk_lit0 (encSl RatE);(· rfl);(· exact sl24);intro pa1)
   (apply lxk_eq;(· rfl);(· exact d_x fun _=>x_field rfl fd26_1 dk_eq))
   (apply lxk_eq;(· rfl);(· exact d_bld 1 rfl rfl ld24 rfl))
   (apply lxk_appL (keep:=[]) 0 4;(· rfl);(· rfl);(· rfl);(· rfl);(· rfl);(· exact sl24);(· exact zo24e);(· rfl);(· (first | omega | (simp only [List.length_cons,List.length_nil];omega)));(· exact by24e);(· (first | omega | (simp only [List.length_cons,List.length_nil];omega)));intro pa2 cap1 b5 cs1)
   (apply lxk_run 1;(· rfl);(· simp))
   (apply lxk_sl;(· rfl);(· exact d_x fun _=>x_lit sl24 zo24e rfl rfl rfl rfl (by decide) (by decide) rfl fun b6=>dk_all (E:=(encSl RatE)) [[Value.slice p4 row.length c4]] [row] (fun w A hG=>(allrd_cons (rd_of_slF (hG _ (fact_mem (n:=5) rfl))) allrd_nil)) rfl rfl rfl (by first | decide | exact Nat.le_of_ble_eq_true rfl));intro pa3 ca1)
   (apply lxk_appZi 1 0;(· rfl);(· rfl);(· rfl);(· rfl);(· rfl);(· exact sl24);(· exact zo24e);(· rfl);(· (first | omega | (simp only [List.length_cons,List.length_nil];omega)));(· exact by24e);(· (first | omega | (simp only [List.length_cons,List.length_nil];omega)));intro pa4 cap2 b6 cs2)
   (apply lxk_lit0 (RatE);(· rfl);(· exact sl23);intro pa5)
   (apply lxk_eq;(· rfl);(· exact d_x fun _=>x_field rfl fd26_2 dk_eq))
   (apply lxk_eq;(· rfl);(· exact d_bld 1 rfl rfl ld23 rfl))
   (apply lxk_appL (keep:=[]) 0 9;(· rfl);(· rfl);(· rfl);(· rfl);(· rfl);(· exact sl23);(· exact zo23e);(· rfl);(· (first | omega | (simp only [List.length_cons,List.length_nil];omega)));(· exact by23e);(· (first | omega | (simp only [List.length_cons,List.length_nil];omega)));intro pa6 cap3 b7 cs3)
   (apply lxk_eq;(· rfl);(· exact d_bld_all 0 rfl rfl ld44 rfl))
   (apply lxk_sl;(· rfl);(· exact d_x fun _=>x_lit sl23 zo23e rfl rfl rfl rfl (by decide) (by decide) rfl fun b8=>dk_all (E:=RatE) [[Value.bool b.fst,Value.slice pn b.snd.fst.length cn,Value.slice pd b.snd.snd.length cd]] [(b.fst,b.snd.fst,b.snd.snd)] (fun w A hG=>(allrd_cons (rd_rt (hG _ (fact_mem (n:=6) rfl)) (hG _ (fact_mem (n:=7) rfl))) allrd_nil)) rfl rfl rfl (by first | decide | exact Nat.le_of_ble_eq_true rfl));intro pa7 ca2)
   (apply lxk_appZi 1 0;(· rfl);(· rfl);(· rfl);(· rfl);(· rfl);(· exact sl23);(· exact zo23e);(· rfl);(· (first | omega | (simp only [List.length_cons,List.length_nil];omega)));(· exact by23e);(· (first | omega | (simp only [List.length_cons,List.length_nil];omega)));intro pa8 cap4 b8 cs4)
   (apply lxk_pv [36,43,50] (fun vs=>Value.agg ((fillL ([(0,1),(1,1),(2,1)]) ([Value.slice none 0 0,Value.slice none 0 0,Value.slice none 0 0]) [(0,cellsL (vs.getD 0 undef)),(1,cellsL (vs.getD 1 undef)),(2,cellsL (vs.getD 2 undef))]).getD []).toArray) (v:=Value.agg #[Value.slice p1 C.length c1,Value.slice pa4 (0 + M.length + 1) cap2,Value.slice pa8 (0 + B.length + 1) cap4]);(· rfl);(· rfl);(· rfl);(· rfl);(· exact d_x fun _=>x_build (cs:=[Value.slice p1 C.length c1,Value.slice pa4 (0 + M.length + 1) cap2,Value.slice pa8 (0 + B.length + 1) cap4]) st26 zo26 rfl rfl dk_eq))
   (apply lxk_alloc;(· rfl);(· exact zo26);intro b9)
   refine lxk_endB rfl ?_
   (rotate_left;rfl;rotate_right)
   (rotate_left;rfl;rotate_right)
   (rotate_left;rfl;rotate_right)
   (rotate_left;rfl;rotate_right)
   simp only [List.append_nil,List.append_assoc,List.map_cons,List.map_nil,List.cons_append,List.nil_append,List.drop_zero]
   (refine j_pubZ 1 0 (by first | rfl | exact (List.append_nil _).symm) rfl (by show (0 + B.length + 1) * 56 ≤ 140737488355328;omega) ?_;simp only [List.take_succ_cons,List.take_zero,List.cons_append,List.nil_append,List.append_nil])
   (refine j_pubZ 1 5 (by first | rfl | exact (List.append_nil _).symm) rfl (by show (0 + M.length + 1) * 24 ≤ 140737488355328;omega) ?_;simp only [List.take_succ_cons,List.take_zero,List.cons_append,List.nil_append,List.append_nil])
   refine j_step rfl (x_bst_all 0 rfl rfl rfl ld26 rfl rfl (by simp [Value.oneCell']) ?_)
   refine j_nf [.o (pL 124) 0,.c (pL 125),.c [1,1,1,1,1]] rfl ?_
   refine j_step rfl (x_bld_all 0 rfl rfl ld26 rfl ?_)
   generalize hM2 : M++[row] = M2
   generalize hB2 : B++[(b.1,b.2.1,b.2.2)] = B2
   have e1 : 0 + M.length + 1 = M2.length:=by rw [← hM2,List.length_append,List.length_singleton];omega
   have e2 : 0 + B.length + 1 = B2.length:=by rw [← hB2,List.length_append,List.length_singleton];omega
   rw [e1,e2]
   cases hf2 : smallB 6 C M2 B2 with
   | false =>
    refine j_step rfl (x_call [12,0,1] rfl (c_codewrightref35_Small (by first|omega|exact side _ (by assumption)|assumption|rfl|(simp;done)|(simp;omega)) (by first|omega|exact side _ (by assumption)|assumption|rfl|(simp;done)|(simp;omega)) (by first|omega|exact side _ (by assumption)|assumption|rfl|(simp;done)|(simp;omega)) (by first|omega|exact side _ (by assumption)|assumption|rfl|(simp;done)|(simp;omega)) (by first|omega|exact side _ (by assumption)|assumption|rfl|(simp;done)|(simp;omega))) rfl ?_)
    rintro _ _ _ ⟨rfl,rfl,rfl⟩
    simp only [List.cons_append,List.nil_append]
    refine j_run it 1 rfl (by simp) ?_
    refine j_nf [.c (pL 125),.c [1,1,1,1,1]] rfl ?_
    refine j_true rfl rfl ?_
    refine j_nf [.o (pL 500) 0,.c (pL 501),.c [1,1,1,1,1]] rfl ?_
    refine j_run it 1 rfl (by simp) ?_
    refine j_nf [.c (pL 501),.c [1,1,1,1,1]] rfl ?_
    refine j_giv [] rfl rfl rfl ⟨rfl,rfl,rfl⟩
   | true =>
    have hc2 : checkOf (C,M2,B2) = 0:=by rw [← hM2,← hB2];exact check_snoc hc hrl lM
    have rM2 : ∀ z ∈ M2,∀ r ∈ z,(∀ x ∈ r.2.1,x < 4294967296) ∧ (∀ x ∈ r.2.2,x < 4294967296):=fun z hz=>by
     rw [← hM2] at hz
     rcases List.mem_append.1 hz with hz | hz
     ·exact rM z hz
     ·rw [List.mem_singleton.1 hz];exact rR
    have rB2 : ∀ r ∈ B2,(∀ x ∈ r.2.1,x < 4294967296) ∧ (∀ x ∈ r.2.2,x < 4294967296):=fun z hz=>by
     rw [← hB2] at hz
     rcases List.mem_append.1 hz with hz | hz
     ·exact rB z hz
     ·rw [List.mem_singleton.1 hz];exact rb b (.head _)
    obtain ⟨_,_,_,_,oB2,oM2'⟩:=small_ok2 hf2 rC rB2 rM2
    have eR2:=(check_rows hc2).2
    have oM2 : ∀ row ∈ M2,row.length = C.length ∧ ∀ r ∈ row,okR 2 r:=fun z hz=>⟨eR2 z hz,oM2' z hz⟩
    have hsz : ∀ {n : Nat},n ≤ 6 → szP' 2 n ≤ 9557:=fun h=>Nat.le_trans (szP'_mono h) (by decide)
    have c_simplex_Solve:=S_simplex_Solve (p1:=p1) (pM:=p2) (p3:=p3) (c1:=c1) (c2:=c2) (c3:=c3) (K:=2) (C:=C) (B:=B) (M:=M) hc (by omega) (by omega) eM.symm (by decide) (by decide) (Nat.le_trans (hsz (by omega)) (by decide)) oC oB (fun row hr=>⟨eR row hr,oM row hr⟩)
    refine j_step rfl (x_call [12,0,1] rfl (c_codewrightref35_Small (by first|omega|exact side _ (by assumption)|assumption|rfl|(simp;done)|(simp;omega)) (by first|omega|exact side _ (by assumption)|assumption|rfl|(simp;done)|(simp;omega)) (by first|omega|exact side _ (by assumption)|assumption|rfl|(simp;done)|(simp;omega)) (by first|omega|exact side _ (by assumption)|assumption|rfl|(simp;done)|(simp;omega)) (by first|omega|exact side _ (by assumption)|assumption|rfl|(simp;done)|(simp;omega))) rfl ?_)
    rintro _ _ _ ⟨rfl,rfl,rfl⟩
    simp only [List.cons_append,List.nil_append]
    refine j_run it 1 rfl (by simp) ?_
    refine j_nf [.c (pL 125),.c [1,1,1,1,1]] rfl ?_
    refine j_false rfl rfl ?_
    refine j_nf [.o (pL 126) 0,.c (pL 127)] rfl ?_
    refine j_step rfl (x_bld_all 2 rfl rfl ld26 rfl ?_)
    refine j_step rfl (x_call [12,13,14] rfl (c_simplex_Solve) rfl ?_)
    rintro _ _ _ ⟨k1,X1,Y1,R1,px1,nx1,cx1,py1,ny1,cy1,pr1,nr1,cr1,rfl,h3,h4,rfl,rfl⟩
    simp only [List.cons_append,List.nil_append]
    have c_simplex_Solve:=fun {p1 pM p3 : Option Addr} {c1 c2 c3 : Nat}=>S_simplex_Solve (p1:=p1) (pM:=pM) (p3:=p3) (c1:=c1) (c2:=c2) (c3:=c3) (K:=2) (C:=C) (B:=B2) (M:=M2) hc2 (by omega) (by omega) (by omega) (by decide) (by decide) (Nat.le_trans (hsz (by omega)) (by decide)) oC oB2 oM2
    refine j_run it 3 rfl (by simp) ?_
    refine j_step rfl (x_alloc zo34 fun b10=>?_)
    refine j_step rfl (x_bst_all 0 rfl rfl rfl ld34 rfl rfl (by simp [Value.oneCell']) ?_)
    refine j_run it 1 rfl (by simp) ?_
    refine j_nf [.o (pL 254) 0,.c (pL 255)] rfl ?_
    refine j_step rfl (x_bld_all 1 rfl rfl ld26 rfl ?_)
    refine j_step rfl (x_call [15,3,4] rfl (c_simplex_Solve) rfl ?_)
    rintro _ _ _ ⟨k2,X2,Y2,R2,px2,nx2,cx2,py2,ny2,cy2,pr2,nr2,cr2,rfl,h5,h6,rfl,rfl⟩
    simp only [List.cons_append,List.nil_append]
    have s1 : SolR C.length M.length (mvOf M) (cvOf B) (cvOf C) k1 X1 Y1 R1:=by assumption
    have s2 : SolR C.length M2.length (mvOf M2) (cvOf B2) (cvOf C) k2 X2 Y2 R2:=by assumption
    have o1 : ∀ r ∈ X1++(Y1++R1),okR (szP' 2 M.length) r:=by assumption
    have o2 : ∀ r ∈ X2++(Y2++R2),okR (szP' 2 M2.length) r:=by assumption
    have em : M2.length = M.length + 1:=by omega
    have hA : ∀ i j,i < M.length → j < C.length → mvOf M2 i j = mvOf M i j:=fun i j hi _=>by rw [← hM2];exact mvOf_snoc hi
    have hB : ∀ i,i < M.length → cvOf B2 i = cvOf B i:=fun i hi=>by rw [← hB2];exact cvOf_snoc (by omega)
    have s2':=s2
    rw [em] at s2'
    obtain ⟨u1,u2⟩:=cons_law hA hB s1 s2'
    rcases sol_kind s1 with rfl | rfl | rfl
    ·rcases u2 rfl with rfl | rfl
     ·refine j_run it 3 rfl (by simp) ?_
      refine j_step rfl (x_alloc zo34 fun b11=>?_)
      refine j_step rfl (x_bst_all 0 rfl rfl rfl ld34 rfl rfl (by simp [Value.oneCell']) ?_)
      refine j_run it 1 rfl (by simp) ?_
      refine j_nf [.o (pL 1020) 0,.c (pL 1021),.c (pL 511)] rfl ?_
      refine j_step rfl (x_call [] rfl (c_codewrightlaw35_one) rfl ?_)
      rintro _ _ _ ⟨rfl,rfl,rfl⟩
      simp only [List.cons_append,List.nil_append]
      refine j_run it 9 rfl (by simp) ?_
      refine j_nf [.c (pL 1021),.c (pL 511)] rfl ?_
      refine j_ifn rfl rfl (fun h7=>by exfalso;omega) (fun h7=>?_)
      refine j_nf [.o (pL 2044) 0,.c (pL 2045),.c (pL 1023)] rfl ?_
      refine j_step rfl (x_field rfl fd34_0 ?_)
      refine j_step rfl (x_bld 1 rfl rfl ld3 rfl ?_)
      refine j_run it 2 rfl (by simp) ?_
      refine j_split_dec (t:=78) rfl (fun h8=>by exfalso;omega) (fun h8=>?_)
      refine j_gstep rfl rfl (x_field rfl fd34_0 ?_)
      refine j_gstep rfl rfl (x_bld 0 rfl rfl ld3 rfl ?_)
      refine j_run it 2 rfl (by simp) ?_
      refine j_nf [.c (pL 2045),.c (pL 1023)] rfl ?_
      refine j_if rfl rfl (fun h9=>?_) (fun h9=>by exfalso;omega)
      refine j_nf [.o (pL 8180) 0,.c (pL 8181),.c (pL 1023)] rfl ?_
      refine j_step rfl (x_field rfl fd34_0 ?_)
      refine j_step rfl (x_bld 0 rfl rfl ld3 rfl ?_)
      refine j_run it 2 rfl (by simp) ?_
      refine j_nf [.c (pL 8181),.c (pL 1023)] rfl ?_
      refine j_giv [] rfl rfl rfl ⟨rfl,rfl,rfl⟩
     ·obtain ⟨x,x',q1,q2,q3⟩:=cons_val hA hB s1 s2'
      have oC' : ∀ r ∈ C,okR 9557 r:=okR_le (by decide) oC
      have oX1 : ∀ r ∈ X1,okR 9557 r:=okR_le (hsz (by omega)) fun r hr=>o1 r (List.mem_append_left _ hr)
      have oX2 : ∀ r ∈ X2,okR 9557 r:=okR_le (hsz (by omega)) fun r hr=>o2 r (List.mem_append_left _ hr)
      have hKK : (1 : Nat) ≤ 9557:=by decide
      obtain ⟨w1,w2⟩:=dot_lens hKK (by decide) oC' oX1 (by omega)
      obtain ⟨w3,w4⟩:=dot_lens hKK (by decide) oC' oX2 (by omega)
      have hge : dotR C X2 ≤ dotR C X1:=by
       rw [q1,q2,dotR_rl rfl,dotR_rl rfl];exact q3
      have hs : (dotR C X2 - dotR C X1).num.sign ≤ 0:=by
       by_cases h : 0 < (dotR C X2 - dotR C X1).num.sign
       ·have:=(signP _).1 h;grind
       ·omega
      refine j_run it 3 rfl (by simp) ?_
      refine j_step rfl (x_alloc zo34 fun b11=>?_)
      refine j_step rfl (x_bst_all 0 rfl rfl rfl ld34 rfl rfl (by simp [Value.oneCell']) ?_)
      refine j_run it 1 rfl (by simp) ?_
      refine j_nf [.o (pL 1020) 0,.c (pL 1021),.c (pL 511)] rfl ?_
      refine j_step rfl (x_call [] rfl (c_codewrightlaw35_one) rfl ?_)
      rintro _ _ _ ⟨rfl,rfl,rfl⟩
      simp only [List.cons_append,List.nil_append]
      refine j_run it 9 rfl (by simp) ?_
      refine j_nf [.c (pL 1021),.c (pL 511)] rfl ?_
      refine j_ifn rfl rfl (fun h7=>by exfalso;omega) (fun h7=>?_)
      refine j_nf [.o (pL 2044) 0,.c (pL 2045),.c (pL 1023)] rfl ?_
      refine j_step rfl (x_field rfl fd34_0 ?_)
      refine j_step rfl (x_bld 1 rfl rfl ld3 rfl ?_)
      refine j_run it 2 rfl (by simp) ?_
      refine j_split_dec (t:=78) rfl (fun h8=>by exfalso;omega) (fun h8=>?_)
      refine j_gstep rfl rfl (x_field rfl fd34_0 ?_)
      refine j_gstep rfl rfl (x_bld 0 rfl rfl ld3 rfl ?_)
      refine j_run it 2 rfl (by simp) ?_
      refine j_nf [.c (pL 2045),.c (pL 1023)] rfl ?_
      refine j_if rfl rfl (fun h9=>by exfalso;omega) (fun h9=>?_)
      refine j_nf [.o (pL 4092) 0,.c (pL 4093),.c (pL 2047)] rfl ?_
      refine j_step rfl (x_field rfl fd34_0 ?_)
      refine j_step rfl (x_bld 1 rfl rfl ld3 rfl ?_)
      refine j_run it 1 rfl (by simp) ?_
      refine j_nf [.c (pL 4093),.c (pL 2047)] rfl ?_
      refine j_if rfl rfl (fun h10=>by exfalso;omega) (fun h10=>?_)
      refine j_nf [.c (pL 4094),.c (pL 4095)] rfl ?_
      (apply j_drawK it mx 17;(· rfl);(· rfl))
      (apply lxk_eq;(· rfl);(· exact d_x fun _=>x_field rfl fd34_0 dk_eq))
      (apply lxk_eq;(· rfl);(· exact d_bld 0 rfl rfl ld3 rfl))
      (apply lxk_eq;(· rfl);(· exact d_x fun _=>x_true it rfl (by trivial) (by omega) dk_eq))
      (apply lxk_run 1;(· rfl);(· simp))
      (apply lxk_eq;(· rfl);(· exact d_x fun _=>x_field rfl fd26_0 dk_eq))
      (apply lxk_eq;(· rfl);(· exact d_bld 4 rfl rfl ld23 rfl))
      (apply lxk_eq;(· rfl);(· exact d_x fun _=>x_field rfl fd34_1 dk_eq))
      (apply lxk_eq;(· rfl);(· exact d_bld 0 rfl rfl ld23 rfl))
      (apply lxk_rq;(· rfl);(· exact d_x fun _=>x_call [18,0] rfl (S_codewrightref02_Dot (by first|omega|exact side _ (by assumption)|assumption|rfl|(simp;done)|(simp;omega)) (by first|omega|exact side _ (by assumption)|assumption|rfl|(simp;done)|(simp;omega)) (by first|omega|exact side _ (by assumption)|assumption|rfl|(simp;done)|(simp;omega)) (by first|omega|exact side _ (by assumption)|assumption|rfl|(simp;done)|(simp;omega)) (by first|omega|exact side _ (by assumption)|assumption|rfl|(simp;done)|(simp;omega))) rfl (by rintro _ _ _ ⟨pn1,cn1,pd1,cd1,rfl,rfl,rfl⟩;exact (dk_rq 0 1 rfl rfl)));intro pn1 cn1 pd1 cd1)
      simp only [vq_rt']
      (apply lxk_eq;(· rfl);(· exact d_x fun _=>x_field rfl fd26_0 dk_eq))
      (apply lxk_eq;(· rfl);(· exact d_bld 4 rfl rfl ld23 rfl))
      (apply lxk_eq;(· rfl);(· exact d_x fun _=>x_field rfl fd34_1 dk_eq))
      (apply lxk_eq;(· rfl);(· exact d_bld 1 rfl rfl ld23 rfl))
      (apply lxk_rq;(· rfl);(· exact d_x fun _=>x_call [20,5] rfl (S_codewrightref02_Dot (by first|omega|exact side _ (by assumption)|assumption|rfl|(simp;done)|(simp;omega)) (by first|omega|exact side _ (by assumption)|assumption|rfl|(simp;done)|(simp;omega)) (by first|omega|exact side _ (by assumption)|assumption|rfl|(simp;done)|(simp;omega)) (by first|omega|exact side _ (by assumption)|assumption|rfl|(simp;done)|(simp;omega)) (by first|omega|exact side _ (by assumption)|assumption|rfl|(simp;done)|(simp;omega))) rfl (by rintro _ _ _ ⟨pn2,cn2,pd2,cd2,rfl,rfl,rfl⟩;exact (dk_rq 0 1 rfl rfl)));intro pn2 cn2 pd2 cd2)
      simp only [vq_rt']
      (apply lxk_eq;(· rfl);(· exact d_x fun _=>x_call [2,3,0,1] rfl (S_codewrightref02_Cmp (by first|omega|exact side _ (by assumption)|assumption|rfl|(simp;done)|(simp;omega)) (by first|omega|exact side _ (by assumption)|assumption|rfl|(simp;done)|(simp;omega)) (by first|omega|exact side _ (by assumption)|assumption|rfl|(simp;done)|(simp;omega)) (by first|omega|exact side _ (by assumption)|assumption|rfl|(simp;done)|(simp;omega))) rfl (by rintro _ _ _ ⟨rfl,rfl,rfl⟩;exact dk_eq)))
      simp only [vq_rt']
      (apply lxk_eq;(· rfl);(· exact d_x fun _=>x_true it rfl (by trivial) (by omega) dk_eq))
      (apply lxk_run 1;(· rfl);(· simp))
      refine lxk_end rfl ?_
      simp only [List.map_cons,List.map_nil,List.cons_append,List.nil_append]
      refine j_run it 1 rfl (by simp) ?_
      refine j_nf [.c (pL 4095)] rfl ?_
      refine j_giv [] rfl rfl rfl ⟨rfl,rfl,rfl⟩
    ·obtain rfl:=u1 rfl
     refine j_run it 3 rfl (by simp) ?_
     refine j_step rfl (x_alloc zo34 fun b11=>?_)
     refine j_step rfl (x_bst_all 0 rfl rfl rfl ld34 rfl rfl (by simp [Value.oneCell']) ?_)
     refine j_run it 1 rfl (by simp) ?_
     refine j_nf [.o (pL 1020) 0,.c (pL 1021),.c (pL 511)] rfl ?_
     refine j_step rfl (x_call [] rfl (c_codewrightlaw35_one) rfl ?_)
     rintro _ _ _ ⟨rfl,rfl,rfl⟩
     simp only [List.cons_append,List.nil_append]
     refine j_run it 9 rfl (by simp) ?_
     refine j_nf [.c (pL 1021),.c (pL 511)] rfl ?_
     refine j_ifn rfl rfl (fun h7=>by exfalso;omega) (fun h7=>?_)
     refine j_nf [.o (pL 2044) 0,.c (pL 2045),.c (pL 1023)] rfl ?_
     refine j_step rfl (x_field rfl fd34_0 ?_)
     refine j_step rfl (x_bld 1 rfl rfl ld3 rfl ?_)
     refine j_run it 6 rfl (by simp) ?_
     refine j_nf [.c (pL 2045),.c (pL 1023)] rfl ?_
     refine j_true rfl rfl ?_
     refine j_nf [.o (pL 8180) 0,.c (pL 8181),.c (pL 1023)] rfl ?_
     refine j_step rfl (x_field rfl fd34_0 ?_)
     refine j_step rfl (x_bld 0 rfl rfl ld3 rfl ?_)
     refine j_run it 2 rfl (by simp) ?_
     refine j_nf [.c (pL 8181),.c (pL 1023)] rfl ?_
     refine j_giv [] rfl rfl rfl ⟨rfl,rfl,rfl⟩
    ·rcases sol_kind s2 with rfl | rfl | rfl
     ·refine j_run it 3 rfl (by simp) ?_
      refine j_step rfl (x_alloc zo34 fun b11=>?_)
      refine j_step rfl (x_bst_all 0 rfl rfl rfl ld34 rfl rfl (by simp [Value.oneCell']) ?_)
      refine j_run it 1 rfl (by simp) ?_
      refine j_nf [.o (pL 1020) 0,.c (pL 1021),.c (pL 511)] rfl ?_
      refine j_step rfl (x_call [] rfl (c_codewrightlaw35_one) rfl ?_)
      rintro _ _ _ ⟨rfl,rfl,rfl⟩
      simp only [List.cons_append,List.nil_append]
      refine j_run it 9 rfl (by simp) ?_
      refine j_nf [.c (pL 1021),.c (pL 511)] rfl ?_
      refine j_ifn rfl rfl (fun h7=>by exfalso;omega) (fun h7=>?_)
      refine j_nf [.o (pL 2044) 0,.c (pL 2045),.c (pL 1023)] rfl ?_
      refine j_step rfl (x_field rfl fd34_0 ?_)
      refine j_step rfl (x_bld 1 rfl rfl ld3 rfl ?_)
      refine j_run it 2 rfl (by simp) ?_
      refine j_split_dec (t:=78) rfl (fun h8=>by exfalso;omega) (fun h8=>?_)
      refine j_gstep rfl rfl (x_field rfl fd34_0 ?_)
      refine j_gstep rfl rfl (x_bld 0 rfl rfl ld3 rfl ?_)
      refine j_run it 2 rfl (by simp) ?_
      refine j_nf [.c (pL 2045),.c (pL 1023)] rfl ?_
      refine j_if rfl rfl (fun h9=>by exfalso;omega) (fun h9=>?_)
      refine j_nf [.o (pL 4092) 0,.c (pL 4093),.c (pL 2047)] rfl ?_
      refine j_step rfl (x_field rfl fd34_0 ?_)
      refine j_step rfl (x_bld 1 rfl rfl ld3 rfl ?_)
      refine j_run it 1 rfl (by simp) ?_
      refine j_nf [.c (pL 4093),.c (pL 2047)] rfl ?_
      refine j_if rfl rfl (fun h10=>?_) (fun h10=>by exfalso;omega)
      refine j_nf [.o (pL 16372) 0,.c (pL 16373),.c (pL 2047)] rfl ?_
      refine j_run it 1 rfl (by simp) ?_
      refine j_nf [.c (pL 16373),.c (pL 2047)] rfl ?_
      refine j_giv [] rfl rfl rfl ⟨rfl,rfl,rfl⟩
     ·refine j_run it 3 rfl (by simp) ?_
      refine j_step rfl (x_alloc zo34 fun b11=>?_)
      refine j_step rfl (x_bst_all 0 rfl rfl rfl ld34 rfl rfl (by simp [Value.oneCell']) ?_)
      refine j_run it 1 rfl (by simp) ?_
      refine j_nf [.o (pL 1020) 0,.c (pL 1021),.c (pL 511)] rfl ?_
      refine j_step rfl (x_call [] rfl (c_codewrightlaw35_one) rfl ?_)
      rintro _ _ _ ⟨rfl,rfl,rfl⟩
      simp only [List.cons_append,List.nil_append]
      refine j_run it 9 rfl (by simp) ?_
      refine j_nf [.c (pL 1021),.c (pL 511)] rfl ?_
      refine j_ifn rfl rfl (fun h7=>by exfalso;omega) (fun h7=>?_)
      refine j_nf [.o (pL 2044) 0,.c (pL 2045),.c (pL 1023)] rfl ?_
      refine j_step rfl (x_field rfl fd34_0 ?_)
      refine j_step rfl (x_bld 1 rfl rfl ld3 rfl ?_)
      refine j_run it 2 rfl (by simp) ?_
      refine j_split_dec (t:=78) rfl (fun h8=>by exfalso;omega) (fun h8=>?_)
      refine j_gstep rfl rfl (x_field rfl fd34_0 ?_)
      refine j_gstep rfl rfl (x_bld 0 rfl rfl ld3 rfl ?_)
      refine j_run it 2 rfl (by simp) ?_
      refine j_nf [.c (pL 2045),.c (pL 1023)] rfl ?_
      refine j_if rfl rfl (fun h9=>?_) (fun h9=>by exfalso;omega)
      refine j_nf [.o (pL 8180) 0,.c (pL 8181),.c (pL 1023)] rfl ?_
      refine j_step rfl (x_field rfl fd34_0 ?_)
      refine j_step rfl (x_bld 0 rfl rfl ld3 rfl ?_)
      refine j_run it 2 rfl (by simp) ?_
      refine j_nf [.c (pL 8181),.c (pL 1023)] rfl ?_
      refine j_giv [] rfl rfl rfl ⟨rfl,rfl,rfl⟩
     ·refine j_run it 3 rfl (by simp) ?_
      refine j_step rfl (x_alloc zo34 fun b11=>?_)
      refine j_step rfl (x_bst_all 0 rfl rfl rfl ld34 rfl rfl (by simp [Value.oneCell']) ?_)
      refine j_run it 1 rfl (by simp) ?_
      refine j_nf [.o (pL 1020) 0,.c (pL 1021),.c (pL 511)] rfl ?_
      refine j_step rfl (x_call [] rfl (c_codewrightlaw35_one) rfl ?_)
      rintro _ _ _ ⟨rfl,rfl,rfl⟩
      simp only [List.cons_append,List.nil_append]
      refine j_run it 9 rfl (by simp) ?_
      refine j_nf [.c (pL 1021),.c (pL 511)] rfl ?_
      refine j_ifn rfl rfl (fun h7=>by exfalso;omega) (fun h7=>?_)
      refine j_nf [.o (pL 2044) 0,.c (pL 2045),.c (pL 1023)] rfl ?_
      refine j_step rfl (x_field rfl fd34_0 ?_)
      refine j_step rfl (x_bld 1 rfl rfl ld3 rfl ?_)
      refine j_run it 2 rfl (by simp) ?_
      refine j_split_dec (t:=78) rfl (fun h8=>by exfalso;omega) (fun h8=>?_)
      refine j_gstep rfl rfl (x_field rfl fd34_0 ?_)
      refine j_gstep rfl rfl (x_bld 0 rfl rfl ld3 rfl ?_)
      refine j_run it 2 rfl (by simp) ?_
      refine j_nf [.c (pL 2045),.c (pL 1023)] rfl ?_
      refine j_if rfl rfl (fun h9=>by exfalso;omega) (fun h9=>?_)
      refine j_nf [.o (pL 4092) 0,.c (pL 4093),.c (pL 2047)] rfl ?_
      refine j_step rfl (x_field rfl fd34_0 ?_)
      refine j_step rfl (x_bld 1 rfl rfl ld3 rfl ?_)
      refine j_run it 1 rfl (by simp) ?_
      refine j_nf [.c (pL 4093),.c (pL 2047)] rfl ?_
      refine j_if rfl rfl (fun h10=>?_) (fun h10=>by exfalso;omega)
      refine j_nf [.o (pL 16372) 0,.c (pL 16373),.c (pL 2047)] rfl ?_
      refine j_run it 1 rfl (by simp) ?_
      refine j_nf [.c (pL 16373),.c (pL 2047)] rfl ?_
      refine j_giv [] rfl rfl rfl ⟨rfl,rfl,rfl⟩
end Go.Proofs.Ythahejfpdhcpiaa
