/-
The document's fractions: Add, Sub, Cmp. The document's fractions compared as data. The document's integers among the fractions: abs, Of, Int, Nat, Nil; Order. Contracts of nat.Binomial. The document's binomial coefficient. The document's binomial coefficient; the program's for all places. The document's power. The program's numbers with a sign: plus, minus, times, small, ratio. The program's table of Krawtchouk numbers. Krawtchouk, the program's and the document's. The document's Is, Inv and Pow of fractions; the laws' k, pow and choose. Sums of products of two rows of fractions: rational.Dot, simplex.product, the document's Dot. The frame's last text: from a contract of a law to the given statement: arguments are opened, and read the same afterwards. Check of a linear program, the program's and the document's: the contracts. The negatives of a row of fractions, the program's and the document's. The dual of a linear program, the program's and the document's. Linear programs compared, made canonical, and looked at for their size. The sizes that a statement looks at: short, Small, fits. The fits of the laws on linear programs, with lists. Ranges of the layer delsarte; the document's Range and Words; distances of words. Contracts of macwilliams.shape, the document's Shape, and the law's long. The program's sums of products with Krawtchouk numbers; wrong. The program's Transform. The program's tests of linear programs: positive, feasible, column, covers. Apart; the columns of the layer delsarte; Of of the program. The program's Accept of certificates.
-/
import Derived.SizedLaws
import Derived.OpenShut
import Derived.ChangeOld
import Derived.Carry
import Derived.ChangeArms
import Derived.Deep.Slices
import Derived.Test.YthahejfpdhcpiaaGreatHB4
set_option linter.unusedVariables false
set_option linter.unusedSimpArgs false
namespace Go.Proofs.YthahejfpdhcpiaaGreat
open Go Go.Fw
set_option maxRecDepth 100000
set_option linter.unusedVariables false
set_option linter.unusedSimpArgs false
set_option maxHeartbeats 2000000
theorem lenN {p : Rat} {k : Nat} (h : (rt p).2.1.length ≤ k) : (limbs (val (rt p).2.1)).length ≤ k:=limbs_of (l:=(rt p).2.1) rfl h
theorem lenD {p : Rat} {k : Nat} (h : (rt p).2.2.length ≤ k) : (limbs (val (rt p).2.2)).length ≤ k:=limbs_of (l:=(rt p).2.2) rfl h
theorem S_codewrightref02_Add {g1 g2 : Bool} {pn1 pd1 pn2 pd2 : Option Addr} {n1 m1 n2 m2 cn1 cd1 cn2 cd2 : Nat} {N1 D1 N2 D2 : List Nat}
  (l1 : N1.length ≤ 134217728) (l2 : D1.length ≤ 134217728) (l3 : N2.length ≤ 134217728) (l4 : D2.length ≤ 134217728) :
  Ctr Tryz.prog 44 [.agg #[.bool g1,.slice pn1 n1 cn1,.slice pd1 m1 cd1],.agg #[.bool g2,.slice pn2 n2 cn2,.slice pd2 m2 cd2]] [] [slF U32 pn1 n1 cn1 N1,slF U32 pd1 m1 cd1 D1,slF U32 pn2 n2 cn2 N2,slF U32 pd2 m2 cd2 D2] (RtV (rt (vq (g1,N1,D1) + vq (g2,N2,D2)))):=by
 refine Ctr_of_j' (F:=F_codewrightref02_Add) rfl fun C=>?_
 refine j_range 0 rfl fun r1=>?_
 refine j_range 1 rfl fun r2=>?_
 refine j_range 2 rfl fun r3=>?_
 refine j_range 3 rfl fun r4=>?_
 obtain ⟨k1,k2⟩:=rt_len (g:=g1) (lim r1) (lim r2) l1 l2 (by decide)
 obtain ⟨k3,k4⟩:=rt_len (g:=g2) (lim r3) (lim r4) l3 l4 (by decide)
 have LX:=prod_lim (lenN k1) (lenD k4)
 have LY:=prod_lim (lenN k3) (lenD k2)
 have LD:=prod_lim (lenD k2) (lenD k4)
 have LS:=sum_lim LX LY
 have hR : ∀ p q : Rat,(rt p).1 = (rt q).1 → vq ((rt p).1,limbs (val (limbs (val (rt p).2.1 * val (rt q).2.2)) + val (limbs (val (rt q).2.1 * val (rt p).2.2))),limbs (val (rt p).2.2 * val (rt q).2.2)) = p + q:=by
  intro p q h
  rw [vq_eq]
  simp only [val_limbs,num_rt,den_rt,neg_rt] at h ⊢
  exact add_same h
 have hG : ∀ p q : Rat,(rt p).1 ≠ (rt q).1 → val (limbs (val (rt q).2.1 * val (rt p).2.2)) ≤ val (limbs (val (rt p).2.1 * val (rt q).2.2)) → vq ((rt p).1,limbs (val (limbs (val (rt p).2.1 * val (rt q).2.2)) - val (limbs (val (rt q).2.1 * val (rt p).2.2))),limbs (val (rt p).2.2 * val (rt q).2.2)) = p + q:=by
  intro p q h hle
  rw [vq_eq]
  simp only [val_limbs,num_rt,den_rt,neg_rt] at h hle ⊢
  exact add_diff h hle
 refine j_nf [_,_] rfl ?_
 refine j_step rfl (x_box_agg rfl fun b1=>?_)
 refine j_step rfl (x_box_agg rfl fun b2=>?_)
 refine j_step rfl (x_alloc zo26 fun b3=>?_)
 refine j_nf [_,_] rfl ?_
 refine j_step rfl (x_bld_all 2 rfl rfl ld26 rfl ?_)
 refine j_step rfl (x_call [0,1] rfl (S_codewrightref02_Trim (by omega) (by omega)) rfl ?_)
 rintro _ _ _ ⟨pn3,cn3,pd3,cd3,rfl,rfl,rfl⟩
 simp only [List.cons_append,List.nil_append]
 refine j_step rfl (x_bst_all 2 rfl rfl rfl ld26 rfl rfl (by simp [Value.oneCell']) ?_)
 refine j_nf [_,_] rfl ?_
 refine j_step rfl (x_bld_all 1 rfl rfl ld26 rfl ?_)
 refine j_step rfl (x_call [4,5] rfl (S_codewrightref02_Trim (by omega) (by omega)) rfl ?_)
 rintro _ _ _ ⟨pn4,cn4,pd4,cd4,rfl,rfl,rfl⟩
 simp only [List.cons_append,List.nil_append]
 refine j_step rfl (x_bst_all 1 rfl rfl rfl ld26 rfl rfl (by simp [Value.oneCell']) ?_)
 refine j_nf [_,_] rfl ?_
 refine j_step rfl (x_field rfl fd26_1 ?_)
 refine j_step rfl (x_bld 2 rfl rfl ld24 rfl ?_)
 refine j_step rfl (x_field rfl fd26_2 ?_)
 refine j_step rfl (x_bld 1 rfl rfl ld24 rfl ?_)
 refine j_step rfl (x_call [2,1] rfl (S_codewrightref01_Mul (by omega) (by omega)) rfl ?_)
 rintro _ _ _ ⟨pa1,ca1,rfl,rfl,rfl⟩
 simp only [List.cons_append,List.nil_append]
 refine j_run it 1 rfl (by simp) ?_
 refine j_nf [_,_] rfl ?_
 refine j_step rfl (x_field rfl fd26_1 ?_)
 refine j_step rfl (x_bld 1 rfl rfl ld24 rfl ?_)
 refine j_step rfl (x_field rfl fd26_2 ?_)
 refine j_step rfl (x_bld 2 rfl rfl ld24 rfl ?_)
 refine j_step rfl (x_call [1,4] rfl (S_codewrightref01_Mul (by omega) (by omega)) rfl ?_)
 rintro _ _ _ ⟨pa2,ca2,rfl,rfl,rfl⟩
 simp only [List.cons_append,List.nil_append]
 refine j_run it 1 rfl (by simp) ?_
 refine j_nf [_,_] rfl ?_
 refine j_step rfl (x_field rfl fd26_2 ?_)
 refine j_step rfl (x_bld 2 rfl rfl ld24 rfl ?_)
 refine j_step rfl (x_field rfl fd26_2 ?_)
 refine j_step rfl (x_bld 1 rfl rfl ld24 rfl ?_)
 refine j_step rfl (x_call [5,3] rfl (S_codewrightref01_Mul (by omega) (by omega)) rfl ?_)
 rintro _ _ _ ⟨pa3,ca3,rfl,rfl,rfl⟩
 simp only [List.cons_append,List.nil_append]
 refine j_run it 1 rfl (by simp) ?_
 refine j_nf [_,_,_] rfl ?_
 refine j_step rfl (x_field rfl fd26_0 ?_)
 refine j_step rfl (x_bld 2 rfl rfl ld4 rfl ?_)
 refine j_step rfl (x_field rfl fd26_0 ?_)
 refine j_step rfl (x_bld 1 rfl rfl ld4 rfl ?_)
 refine j_step rfl (x_eqb ub rfl rfl ?_)
 refine j_nf [_,_] rfl ?_
 refine j_cond rfl rfl (fun h1=>?_) (fun h1=>?_)
 ·have hs : (rt (vq (g1,N1,D1))).1 = (rt (vq (g2,N2,D2))).1:=by simpa using h1
  have LS' : (limbs (val (limbs (val (rt (vq (g1,N1,D1))).2.1 * val (rt (vq (g2,N2,D2))).2.2)) + val (limbs (val (rt (vq (g2,N2,D2))).2.1 * val (rt (vq (g1,N1,D1))).2.2)))).length ≤ 1073741824:=by
   rw [val_limbs,val_limbs];exact Nat.le_trans LS (by decide)
  refine j_nf [_,_,_] rfl ?_
  (apply j_drawK it mx 7;(· rfl);(· rfl))
  (apply lxk_eq;(· rfl);(· exact d_x fun _=>x_field rfl fd26_0 dk_eq))
  (apply lxk_eq;(· rfl);(· exact d_bld 2 rfl rfl ld4 rfl))
  (apply lxk_run 2;(· rfl);(· simp))
  (apply lxk_sl;(· rfl);(· exact d_x fun _=>x_call [2,1] rfl (S_codewrightref01_Add (by omega) (by omega)) rfl (by rintro _ _ _ ⟨pa4,ca4,rfl,rfl,rfl⟩;exact (dk_sl 0 rfl)));intro pa4 ca4)
  (apply lxk_run 1;(· rfl);(· simp))
  (apply lxk_rq;(· rfl);(· exact d_x fun _=>x_call [0,1] rfl (S_codewrightref02_Make (by omega) (by omega)) rfl (by rintro _ _ _ ⟨pn5,cn5,pd5,cd5,rfl,rfl,rfl⟩;exact (dk_rq 0 1 rfl rfl)));intro pn5 cn5 pd5 cd5)
  simp only [vq_rt']
  refine lxk_end rfl ?_
  simp only [List.map_cons,List.map_nil,List.cons_append,List.nil_append]
  refine j_step rfl (x_bst_all 0 rfl rfl rfl ld26 rfl rfl (by simp [Value.oneCell']) ?_)
  refine j_nf [_,_] rfl ?_
  rw [hR _ _ hs]
  refine j_givC [0,1] rfl (.agg 0 rfl rfl ld26 rfl .nil) rfl ⟨_,_,_,_,rfl,rfl,rfl⟩
 ·have hs : (rt (vq (g1,N1,D1))).1 ≠ (rt (vq (g2,N2,D2))).1:=by simpa using h1
  by_cases hle : val (limbs (val (rt (vq (g2,N2,D2))).2.1 * val (rt (vq (g1,N1,D1))).2.2)) ≤ val (limbs (val (rt (vq (g1,N1,D1))).2.1 * val (rt (vq (g2,N2,D2))).2.2))
  ·have hc : 0 ≤ cmpN (val (limbs (val (rt (vq (g1,N1,D1))).2.1 * val (rt (vq (g2,N2,D2))).2.2))) (val (limbs (val (rt (vq (g2,N2,D2))).2.1 * val (rt (vq (g1,N1,D1))).2.2))):=by unfold cmpN;split <;> (try split) <;> omega
   have LB : (limbs (val (limbs (val (rt (vq (g1,N1,D1))).2.1 * val (rt (vq (g2,N2,D2))).2.2)) - val (limbs (val (rt (vq (g2,N2,D2))).2.1 * val (rt (vq (g1,N1,D1))).2.2)))).length ≤ 1073741824:=limbs_mono (Nat.le_trans LX (by decide)) (by rw [val_limbs];exact Nat.sub_le _ _)
   refine j_nf [_,_,_] rfl ?_
   refine j_run it 2 rfl (by simp) ?_
   refine j_step rfl (x_call [2,1] rfl (S_codewrightref01_Cmp) rfl ?_)
   rintro _ _ _ ⟨rfl,rfl,rfl⟩
   simp only [List.cons_append,List.nil_append]
   refine j_run it 1 rfl (by simp) ?_
   refine j_nf [_,_] rfl ?_
   refine j_if rfl rfl (fun h2=>?_) (fun h2=>by exfalso;omega)
   refine j_nf [_,_,_] rfl ?_
   (apply j_drawK it mx 7;(· rfl);(· rfl))
   (apply lxk_eq;(· rfl);(· exact d_x fun _=>x_field rfl fd26_0 dk_eq))
   (apply lxk_eq;(· rfl);(· exact d_bld 2 rfl rfl ld4 rfl))
   (apply lxk_run 2;(· rfl);(· simp))
   (apply lxk_sl;(· rfl);(· exact d_x fun _=>x_call [2,1] rfl (S_codewrightref01_Sub (by omega)) rfl (by rintro _ _ _ ⟨pa4,ca4,rfl,rfl,rfl⟩;exact (dk_sl 0 rfl)));intro pa4 ca4)
   (apply lxk_run 1;(· rfl);(· simp))
   (apply lxk_rq;(· rfl);(· exact d_x fun _=>x_call [0,1] rfl (S_codewrightref02_Make (by omega) (by omega)) rfl (by rintro _ _ _ ⟨pn5,cn5,pd5,cd5,rfl,rfl,rfl⟩;exact (dk_rq 0 1 rfl rfl)));intro pn5 cn5 pd5 cd5)
   simp only [vq_rt']
   refine lxk_end rfl ?_
   simp only [List.map_cons,List.map_nil,List.cons_append,List.nil_append]
   refine j_step rfl (x_bst_all 0 rfl rfl rfl ld26 rfl rfl (by simp [Value.oneCell']) ?_)
   refine j_nf [_,_] rfl ?_
   rw [hG _ _ hs hle]
   refine j_givC [0,1] rfl (.agg 0 rfl rfl ld26 rfl .nil) rfl ⟨_,_,_,_,rfl,rfl,rfl⟩
  ·have hc : ¬ 0 ≤ cmpN (val (limbs (val (rt (vq (g1,N1,D1))).2.1 * val (rt (vq (g2,N2,D2))).2.2))) (val (limbs (val (rt (vq (g2,N2,D2))).2.1 * val (rt (vq (g1,N1,D1))).2.2))):=by rw [cmpN_lt (by omega)];decide
   have hle2 : val (limbs (val (rt (vq (g1,N1,D1))).2.1 * val (rt (vq (g2,N2,D2))).2.2)) ≤ val (limbs (val (rt (vq (g2,N2,D2))).2.1 * val (rt (vq (g1,N1,D1))).2.2)):=by omega
   have LB : (limbs (val (limbs (val (rt (vq (g2,N2,D2))).2.1 * val (rt (vq (g1,N1,D1))).2.2)) - val (limbs (val (rt (vq (g1,N1,D1))).2.1 * val (rt (vq (g2,N2,D2))).2.2)))).length ≤ 1073741824:=limbs_mono (Nat.le_trans LY (by decide)) (by rw [val_limbs];exact Nat.sub_le _ _)
   refine j_nf [_,_,_] rfl ?_
   refine j_run it 2 rfl (by simp) ?_
   refine j_step rfl (x_call [2,1] rfl (S_codewrightref01_Cmp) rfl ?_)
   rintro _ _ _ ⟨rfl,rfl,rfl⟩
   simp only [List.cons_append,List.nil_append]
   refine j_run it 1 rfl (by simp) ?_
   refine j_nf [_,_] rfl ?_
   refine j_if rfl rfl (fun h2=>by exfalso;omega) (fun h2=>?_)
   refine j_nf [_,_] rfl ?_
   (apply j_drawK it mx 7;(· rfl);(· rfl))
   (apply lxk_eq;(· rfl);(· exact d_x fun _=>x_field rfl fd26_0 dk_eq))
   (apply lxk_eq;(· rfl);(· exact d_bld 1 rfl rfl ld4 rfl))
   (apply lxk_run 2;(· rfl);(· simp))
   (apply lxk_sl;(· rfl);(· exact d_x fun _=>x_call [1,2] rfl (S_codewrightref01_Sub (by omega)) rfl (by rintro _ _ _ ⟨pa4,ca4,rfl,rfl,rfl⟩;exact (dk_sl 0 rfl)));intro pa4 ca4)
   (apply lxk_run 1;(· rfl);(· simp))
   (apply lxk_rq;(· rfl);(· exact d_x fun _=>x_call [0,1] rfl (S_codewrightref02_Make (by omega) (by omega)) rfl (by rintro _ _ _ ⟨pn5,cn5,pd5,cd5,rfl,rfl,rfl⟩;exact (dk_rq 0 1 rfl rfl)));intro pn5 cn5 pd5 cd5)
   simp only [vq_rt']
   refine lxk_end rfl ?_
   simp only [List.map_cons,List.map_nil,List.cons_append,List.nil_append]
   refine j_step rfl (x_bst_all 0 rfl rfl rfl ld26 rfl rfl (by simp [Value.oneCell']) ?_)
   refine j_nf [_] rfl ?_
   rw [Nat.mul_comm (val (rt (vq (g1,N1,D1))).2.2) (val (rt (vq (g2,N2,D2))).2.2),hG _ _ (fun h=>hs h.symm) hle2,Rat.add_comm]
   refine j_givC [0,1] rfl (.agg 0 rfl rfl ld26 rfl .nil) rfl ⟨_,_,_,_,rfl,rfl,rfl⟩
theorem S_codewrightref02_Sub {g1 g2 : Bool} {pn1 pd1 pn2 pd2 : Option Addr} {n1 m1 n2 m2 cn1 cd1 cn2 cd2 : Nat} {N1 D1 N2 D2 : List Nat}
  (l1 : N1.length ≤ 134217728) (l2 : D1.length ≤ 134217728) (l3 : N2.length ≤ 134217728) (l4 : D2.length ≤ 134217728) :
  Ctr Tryz.prog 26 [.agg #[.bool g1,.slice pn1 n1 cn1,.slice pd1 m1 cd1],.agg #[.bool g2,.slice pn2 n2 cn2,.slice pd2 m2 cd2]] [] [slF U32 pn1 n1 cn1 N1,slF U32 pd1 m1 cd1 D1,slF U32 pn2 n2 cn2 N2,slF U32 pd2 m2 cd2 D2] (RtV (rt (vq (g1,N1,D1) - vq (g2,N2,D2)))):=by
 refine Ctr_of_j' (F:=F_codewrightref02_Sub) rfl fun C=>?_
 refine j_range 2 rfl fun r3=>?_
 refine j_range 3 rfl fun r4=>?_
 obtain ⟨k3,k4⟩:=rt_len_neg (g:=g2) (lim r3) (lim r4) l3 l4 (by decide)
 refine j_nf [_,_] rfl ?_
 refine j_step rfl (x_box_agg rfl fun b1=>?_)
 refine j_step rfl (x_box_agg rfl fun b2=>?_)
 refine j_step rfl (x_alloc zo26 fun b3=>?_)
 refine j_nf [_,_] rfl ?_
 (apply j_drawK it mx 4;(· rfl);(· rfl))
 (apply lxk_eq;(· rfl);(· exact d_bld_all 2 rfl rfl ld26 rfl))
 (apply lxk_eq;(· rfl);(· exact d_bld_all 1 rfl rfl ld26 rfl))
 (apply lxk_rq;(· rfl);(· exact d_x fun _=>x_call [2,3] rfl (S_codewrightref02_Neg (by omega) (by omega)) rfl (by rintro _ _ _ ⟨pn3,cn3,pd3,cd3,rfl,rfl,rfl⟩;exact (dk_rq 0 1 rfl rfl)));intro pn3 cn3 pd3 cd3)
 simp only [vq_rt']
 (apply lxk_rq;(· rfl);(· exact d_x fun _=>x_call [2,3,0,1] rfl (S_codewrightref02_Add (by omega) (by omega) (by omega) (by omega)) rfl (by rintro _ _ _ ⟨pn4,cn4,pd4,cd4,rfl,rfl,rfl⟩;exact (dk_rq 0 1 rfl rfl)));intro pn4 cn4 pd4 cd4)
 simp only [vq_rt']
 refine lxk_end rfl ?_
 simp only [List.map_cons,List.map_nil,List.cons_append,List.nil_append]
 refine j_step rfl (x_bst_all 0 rfl rfl rfl ld26 rfl rfl (by simp [Value.oneCell']) ?_)
 refine j_nf [_] rfl ?_
 simp only [vq_rt',← Rat.sub_eq_add_neg]
 refine j_givC [0,1] rfl (.agg 0 rfl rfl ld26 rfl .nil) rfl ⟨_,_,_,_,rfl,rfl,rfl⟩
theorem S_codewrightref02_Cmp {g1 g2 : Bool} {pn1 pd1 pn2 pd2 : Option Addr} {n1 m1 n2 m2 cn1 cd1 cn2 cd2 : Nat} {N1 D1 N2 D2 : List Nat}
  (l1 : N1.length ≤ 134217728) (l2 : D1.length ≤ 134217728) (l3 : N2.length ≤ 134217728) (l4 : D2.length ≤ 134217728) :
  Ctr Tryz.prog 13 [.agg #[.bool g1,.slice pn1 n1 cn1,.slice pd1 m1 cd1],.agg #[.bool g2,.slice pn2 n2 cn2,.slice pd2 m2 cd2]] [] [slF U32 pn1 n1 cn1 N1,slF U32 pd1 m1 cd1 D1,slF U32 pn2 n2 cn2 N2,slF U32 pd2 m2 cd2 D2] (Rv (.int .i64 (vq (g1,N1,D1) - vq (g2,N2,D2)).num.sign) []):=by
 refine Ctr_of_j' (F:=F_codewrightref02_Cmp) rfl fun C=>?_
 refine j_range 0 rfl fun r1=>?_
 refine j_range 1 rfl fun r2=>?_
 refine j_range 2 rfl fun r3=>?_
 refine j_range 3 rfl fun r4=>?_
 have hb:=bd_add (bd_vq (r:=(g1,N1,D1)) (lim r1) (lim r2) l1 l2 (by decide)) (bd_neg (bd_vq (r:=(g2,N2,D2)) (lim r3) (lim r4) l3 l4 (by decide)))
 rw [← Rat.sub_eq_add_neg] at hb
 obtain ⟨k1,k2⟩:=bd_len hb
 refine j_nf [_,_] rfl (j_step rfl (x_box_agg rfl fun b1=>?_))
 refine j_step rfl (x_box_agg rfl fun b2=>?_)
 refine j_run it 1 rfl (by simp) ?_
 refine j_nf [_,_] rfl (j_step rfl (x_bld_all 1 rfl rfl ld26 rfl ?_))
 refine j_step rfl (x_bld_all 0 rfl rfl ld26 rfl ?_)
 refine j_step rfl (x_call [0,1,2,3] rfl (S_codewrightref02_Sub (by omega) (by omega) (by omega) (by omega)) rfl ?_)
 rintro _ _ _ ⟨pn3,cn3,pd3,cd3,rfl,rfl,rfl⟩
 simp only [List.cons_append,List.nil_append]
 refine j_step rfl (x_call [0,1] rfl (S_codewrightref02_Sign (by omega) (by omega)) rfl ?_)
 rintro _ _ _ ⟨rfl,rfl,rfl⟩
 simp only [List.cons_append,List.nil_append]
 simp only [vq_rt']
 refine j_run it 1 rfl (by simp) ?_
 refine j_nf [_] rfl ?_
 refine j_giv [] rfl rfl rfl ⟨rfl,rfl,rfl⟩
theorem S_codewrightref02_Same {g1 g2 : Bool} {pn1 pd1 pn2 pd2 : Option Addr} {n1 m1 n2 m2 cn1 cd1 cn2 cd2 : Nat} {N1 D1 N2 D2 : List Nat} :
  Ctr Tryz.prog 10 [.agg #[.bool g1,.slice pn1 n1 cn1,.slice pd1 m1 cd1],.agg #[.bool g2,.slice pn2 n2 cn2,.slice pd2 m2 cd2]] [] [slF U32 pn1 n1 cn1 N1,slF U32 pd1 m1 cd1 D1,slF U32 pn2 n2 cn2 N2,slF U32 pd2 m2 cd2 D2] (Rv (.bool (decide ((g1,N1,D1) = (g2,N2,D2)))) []):=by
 refine Ctr_of_j' (F:=F_codewrightref02_Same) rfl fun C=>?_
 refine j_nf [_,_] rfl (j_step rfl (x_box_agg rfl fun b1=>?_))
 refine j_step rfl (x_box_agg rfl fun b2=>?_)
 refine j_run it 1 rfl (by simp) ?_
 refine j_nf [_,_] rfl (j_step rfl (x_field rfl fd26_0 ?_))
 refine j_step rfl (x_bld 1 rfl rfl ld4 rfl ?_)
 refine j_step rfl (x_field rfl fd26_0 ?_)
 refine j_step rfl (x_bld 0 rfl rfl ld4 rfl ?_)
 refine j_step rfl (x_eqb ub rfl rfl ?_)
 refine j_run it 1 rfl (by simp) ?_
 refine j_split (t:=10) rfl (fun h1=>?_) (fun h1=>?_)
 ·have hg : g1 = g2:=by simpa using h1
  refine j_gstep rfl rfl (x_field rfl fd26_1 ?_)
  refine j_gstep rfl rfl (x_bld 1 rfl rfl ld24 rfl ?_)
  refine j_gstep rfl rfl (x_field rfl fd26_1 ?_)
  refine j_gstep rfl rfl (x_bld 0 rfl rfl ld24 rfl ?_)
  refine j_gstep rfl rfl (x_call [0,2] rfl (S_codewrightref01_Same) rfl ?_)
  rintro _ _ _ ⟨rfl,rfl,rfl⟩
  simp only [List.cons_append,List.nil_append]
  refine j_run it 2 rfl (by simp) ?_
  refine j_split_dec (t:=17) rfl (fun h2=>?_) (fun h2=>?_)
  ·refine j_gstep rfl rfl (x_field rfl fd26_2 ?_)
   refine j_gstep rfl rfl (x_bld 1 rfl rfl ld24 rfl ?_)
   refine j_gstep rfl rfl (x_field rfl fd26_2 ?_)
   refine j_gstep rfl rfl (x_bld 0 rfl rfl ld24 rfl ?_)
   refine j_gstep rfl rfl (x_call [1,3] rfl (S_codewrightref01_Same) rfl ?_)
   rintro _ _ _ ⟨rfl,rfl,rfl⟩
   simp only [List.cons_append,List.nil_append]
   refine j_run it 2 rfl (by simp) ?_
   refine j_nf [_] rfl ?_
   refine j_giv [] rfl rfl rfl ⟨by subst hg;subst h2;simp [resVal],rfl,rfl⟩
  ·refine j_run it 7 rfl (by simp) ?_
   refine j_nf [_] rfl ?_
   refine j_giv [] rfl rfl rfl ⟨by rw [decide_eq_false (fun h=>h2 (by injection h with _ h;injection h))];rfl,rfl,rfl⟩
 ·have hg : g1 ≠ g2:=by simpa using h1
  refine j_run it 14 rfl (by simp) ?_
  refine j_nf [_] rfl ?_
  refine j_giv [] rfl rfl rfl ⟨by rw [decide_eq_false (fun h=>hg (by injection h))];rfl,rfl,rfl⟩
theorem S_codewrightref02_abs {n : Int} (hn : InR .i64 n) : Ctr Tryz.prog 69 [.int .i64 n] [] [] (Sv U32 (limbs n.natAbs)):=by
 refine Ctr_of_j' (F:=F_codewrightref02_abs) rfl fun C=>?_
 simp only [InR] at hn
 by_cases h : n < 0
 ·have hl : (limbs (-(n + 1)).toNat).length ≤ 2:=limbs_length_le (by omega)
  refine j_nf [_,_] rfl (j_run it 1 rfl (by simp) ?_)
  refine j_nf [_,_,_] rfl (j_run it 2 rfl (by simp) ?_)
  refine j_nf [_,_] rfl (j_if rfl rfl (fun h1=>?_) (fun h1=>by exfalso;omega))
  refine j_nf [_,_,_] rfl (j_run it 4 rfl ⟨⟨by omega,by omega⟩,⟨by omega,by omega⟩,⟨by omega,by omega⟩,trivial,trivial⟩ ?_)
  refine j_recast (t:=8) ((((-(n + 1) : Int).toNat) : Nat) : Int) rfl (by omega) ?_
  refine j_step rfl (x_call [] rfl (S_codewrightref01_Of (by omega)) rfl ?_)
  rintro _ _ _ ⟨pa1,ca1,rfl,rfl,rfl⟩
  simp only [List.cons_append,List.nil_append]
  refine j_step rfl (x_lit sl24 zo24e rfl rfl rfl rfl (by decide) (by decide) rfl fun b1=>?_)
  refine j_pub_made (n:=1) (kd:=IntKind.u32) 4 [1] 0 rfl rfl (by first | (simp [InR];done) | (simp only [InR,List.mem_cons,List.not_mem_nil,or_false,forall_eq_or_imp,forall_eq];omega)) (by decide) (by decide) ?_
  refine j_step rfl (x_call [1,0] rfl (S_codewrightref01_Add (by omega) (by simp)) rfl ?_)
  rintro _ _ _ ⟨pa2,ca2,rfl,rfl,rfl⟩
  simp only [List.cons_append,List.nil_append]
  refine j_run it 1 rfl (by simp) ?_
  refine j_nf [_,_] rfl ?_
  have e : val (limbs (-(n + 1)).toNat) + val [1] = n.natAbs:=by rw [val_limbs];simp [val];omega
  rw [e]
  refine j_giv [0] rfl rfl rfl ⟨_,_,rfl,rfl,rfl⟩
 ·refine j_nf [_,_] rfl (j_run it 1 rfl (by simp) ?_)
  refine j_nf [_,_,_] rfl (j_run it 2 rfl (by simp) ?_)
  refine j_nf [_,_] rfl (j_if rfl rfl (fun h1=>by exfalso;omega) (fun h1=>?_))
  refine j_nf [_,_] rfl (j_run it 2 rfl ⟨⟨by omega,by omega⟩,trivial,trivial⟩ ?_)
  refine j_recast (t:=13) ((((n : Int).toNat) : Nat) : Int) rfl (by omega) ?_
  refine j_step rfl (x_call [] rfl (S_codewrightref01_Of (by omega)) rfl ?_)
  rintro _ _ _ ⟨pa1,ca1,rfl,rfl,rfl⟩
  simp only [List.cons_append,List.nil_append]
  refine j_run it 1 rfl (by simp) ?_
  refine j_nf [_] rfl ?_
  have e : n.toNat = n.natAbs:=by omega
  rw [e]
  refine j_giv [0] rfl rfl rfl ⟨_,_,rfl,rfl,rfl⟩
theorem S_codewrightref02_Of {n : Int} {d : Nat} (hn : InR .i64 n) (hd : 0 < d) (hd2 : d < 9223372036854775808) : Ctr Tryz.prog 43 [.int .i64 n,.int .i64 d] [] [] (RtV (rt (mkRat n d))):=by
 refine Ctr_of_j' (F:=F_codewrightref02_Of) rfl fun C=>?_
 have hi : InR .i64 (d : Int):=by simp only [InR];omega
 have hl : (limbs n.natAbs).length ≤ 2:=limbs_length_le (by simp only [InR] at hn;omega)
 have hl2 : (limbs d).length ≤ 2:=limbs_length_le (by omega)
 have e : vq (decide (n < 0) != decide ((d : Int) < 0),limbs n.natAbs,limbs (d : Int).natAbs) = mkRat n d:=by
  rw [vq_eq,decide_eq_false (by omega : ¬ (d : Int) < 0)]
  simp only [val_limbs,Int.natAbs_natCast,Bool.bne_false,sg_int]
 refine j_nf [_,_] rfl (j_step rfl (x_alloc zo26 fun b1=>?_))
 refine j_nf [_,_] rfl (j_run it 4 rfl (by simp) ?_)
 refine j_step rfl (x_neb ub rfl rfl ?_)
 refine j_run it 1 rfl (by simp) ?_
 refine j_step rfl (x_call [] rfl (S_codewrightref02_abs (by omega)) rfl ?_)
 rintro _ _ _ ⟨pa1,ca1,rfl,rfl,rfl⟩
 simp only [List.cons_append,List.nil_append]
 refine j_run it 1 rfl (by simp) ?_
 refine j_step rfl (x_call [] rfl (S_codewrightref02_abs (by omega)) rfl ?_)
 rintro _ _ _ ⟨pa2,ca2,rfl,rfl,rfl⟩
 simp only [List.cons_append,List.nil_append]
 refine j_step rfl (x_call [1,0] rfl (S_codewrightref02_Make (by omega) (by simp;omega)) rfl ?_)
 rintro _ _ _ ⟨pn1,cn1,pd1,cd1,rfl,rfl,rfl⟩
 simp only [List.cons_append,List.nil_append]
 refine j_step rfl (x_bst_all 0 rfl rfl rfl ld26 rfl rfl (by simp [Value.oneCell']) ?_)
 refine j_nf [_] rfl ?_
 rw [e]
 refine j_givC [0,1] rfl (.agg 0 rfl rfl ld26 rfl .nil) rfl ⟨_,_,_,_,rfl,rfl,rfl⟩
theorem S_codewrightref02_Int {n : Int} (hn : InR .i64 n) : Ctr Tryz.prog 18 [.int .i64 n] [] [] (RtV (rt (n : Rat))):=by
 refine Ctr_of_j' (F:=F_codewrightref02_Int) rfl fun C=>?_
 refine j_nf [_,_] rfl (j_step rfl (x_alloc zo26 fun b1=>?_))
 refine j_nf [_,_] rfl (j_run it 1 rfl (by simp) ?_)
 refine j_step rfl (x_call [] rfl (S_codewrightref02_Of (by omega) (by simp) (by simp)) rfl ?_)
 rintro _ _ _ ⟨pn1,cn1,pd1,cd1,rfl,rfl,rfl⟩
 simp only [List.cons_append,List.nil_append]
 refine j_step rfl (x_bst_all 0 rfl rfl rfl ld26 rfl rfl (by simp [Value.oneCell']) ?_)
 refine j_nf [_] rfl ?_
 rw [Rat.mkRat_one]
 refine j_givC [0,1] rfl (.agg 0 rfl rfl ld26 rfl .nil) rfl ⟨_,_,_,_,rfl,rfl,rfl⟩
theorem S_codewrightref02_Nat {pn : Option Addr} {n cn : Nat} {N : List Nat} (hN : N.length ≤ 1073741824) : Ctr Tryz.prog 74 [.slice pn n cn] [] [slF U32 pn n cn N] (RtV (rt ((val N : Int) : Rat))):=by
 refine Ctr_of_j' (F:=F_codewrightref02_Nat) rfl fun C=>?_
 have e : vq (false,N,[1]) = ((val N : Int) : Rat):=vq_one _ _
 refine j_nf [_,_] rfl (j_step rfl (x_alloc zo26 fun b1=>?_))
 refine j_nf [_,_] rfl (j_run it 1 rfl (by simp) ?_)
 refine j_step rfl (x_lit sl24 zo24e rfl rfl rfl rfl (by decide) (by decide) rfl fun b2=>?_)
 refine j_pub_made (n:=1) (kd:=IntKind.u32) 4 [1] 0 rfl rfl (by first | (simp [InR];done) | (simp only [InR,List.mem_cons,List.not_mem_nil,or_false,forall_eq_or_imp,forall_eq];omega)) (by decide) (by decide) ?_
 refine j_step rfl (x_call [1,0] rfl (S_codewrightref02_Make (by omega) (by simp)) rfl ?_)
 rintro _ _ _ ⟨pn1,cn1,pd1,cd1,rfl,rfl,rfl⟩
 simp only [List.cons_append,List.nil_append]
 refine j_step rfl (x_bst_all 0 rfl rfl rfl ld26 rfl rfl (by simp [Value.oneCell']) ?_)
 refine j_nf [_] rfl ?_
 rw [e]
 refine j_givC [0,1] rfl (.agg 0 rfl rfl ld26 rfl .nil) rfl ⟨_,_,_,_,rfl,rfl,rfl⟩
set_option maxHeartbeats 1000000
theorem S_nat_Binomial {n k : Nat} (hn : n ≤ 4096) : Ctr Tryz.prog 56 [.int .i64 n,.int .i64 k] [] [] (S2 U32 (limbs (binom n k)) 0):=by
 refine Ctr_of_j' (F:=F_nat_Binomial) rfl fun C=>?_
 have e1 : limbs (binom n 0) = [1]:=by rw [binom_zero,limbs_one]
 by_cases hkn : n < k
 ·have hz : limbs (binom n k) = []:=by rw [binom_gt n k hkn,limbs_zero]
  refine j_nf [_,_] rfl (j_run it 2 rfl (by simp) ?_)
  refine j_nf [_,_,_] rfl (j_run it 6 rfl (by simp) ?_)
  refine j_nf [_,_] rfl (j_if rfl rfl (fun h1=>by exfalso;omega) (fun h1=>?_))
  refine j_nf [_,_,_] rfl (j_run it 7 rfl (by simp) ?_)
  refine j_nf [_,_] rfl (j_if rfl rfl (fun h2=>?_) (fun h2=>by exfalso;omega))
  refine j_nf [_,_,_] rfl (j_run it 2 rfl (by simp) ?_)
  refine j_nf [_,_] rfl ?_
  refine j_add (slF U32 none 0 0 []) (fun w A _=>slF_nil _ _ _ _ _) ?_
  refine j_giv [0] rfl rfl rfl ⟨_,_,by rw [hz];rfl,by rw [hz];rfl,rfl⟩
 have hk : k ≤ n:=by omega
 refine j_nf [_,_] rfl (j_run it 2 rfl (by simp) ?_)
 refine j_nf [_,_,_] rfl (j_run it 6 rfl (by simp) ?_)
 refine j_nf [_,_] rfl (j_if rfl rfl (fun h1=>by exfalso;omega) (fun h1=>?_))
 refine j_nf [_,_,_] rfl (j_run it 7 rfl (by simp) ?_)
 refine j_nf [_,_] rfl (j_if rfl rfl (fun h2=>by exfalso;omega) (fun h2=>?_))
 refine j_nf [_,_] rfl (j_step rfl (x_lit sl24 zo24e rfl rfl rfl rfl (by decide) (by decide) rfl fun b1=>?_))
 refine j_run it 1 rfl (by simp) ?_
 refine j_nf [_,_,_] rfl ?_
 refine j_pub_made (n:=1) (kd:=.u32) 4 [1] 0 rfl rfl (by simp [InR]) (by decide) (by decide) ?_
 obtain ⟨M,hM,hMk,hMb⟩ : ∃ M : Nat,(if ((n : Int) - k) < k then ((n : Int) - k) else (k : Int)) = M ∧ M ≤ n ∧ binom n M = binom n k:=by
  refine ⟨if n - k < k then n - k else k,?_,?_,binom_min hk⟩
  ·split <;> split <;> omega
  ·split <;> omega
 refine j_run it 4 rfl ⟨⟨by omega,by omega⟩,trivial,trivial,trivial,trivial⟩ ?_
 refine j_step rfl (x_min rfl rfl ?_)
 refine j_run it 1 rfl (by simp) ?_
 refine j_nf [_,_,_] rfl ?_
 refine j_loopN (X:=Nat × Option Addr × Nat) (fun x=>[(0,.int .i64 n),(6,.slice x.2.1 (limbs (binom n x.1)).length x.2.2),(26,.int .i64 M),(27,.int .i64 x.1)])
  (fun _=>[]) (fun x=>[slF U32 x.2.1 (limbs (binom n x.1)).length x.2.2 (limbs (binom n x.1))])
  (fun x=>x.1 ≤ M) (fun x=>M - x.1) (0,some ⟨b1,0,none⟩,1) [0] rfl (Nat.zero_le _) (by simp only [e1];repeat (first | exact Fr.sub_nil _ | refine Fr.sub_cons rfl ?_ | refine Fr.sub_consI rfl (by first | omega | exact hM) ?_)) rfl (by simp only [e1];rfl) ?_
 rintro ⟨i,pa,ca⟩ hi ih
 simp only at hi ih ⊢
 have hlen:=binom_len hn i
 by_cases hiM : i < M
 ·refine j_nf [_,_,_,_,_] rfl (j_run it 1 rfl (by simp) ?_)
  refine j_nf [_,_,_,_,_] rfl (j_if rfl rfl (fun h3=>?_) (fun h3=>by exfalso;omega))
  refine j_nf [_,_,_,_,_,_,_] rfl (j_run it 2 rfl (by simp) ?_)
  refine j_nf [_,_,_,_,_,_] rfl (j_run it 5 rfl ⟨⟨by omega,by omega⟩,⟨by omega,by omega⟩,trivial,trivial,trivial,trivial⟩ ?_)
  refine j_step rfl (x_lit sl24 zo24e rfl rfl rfl rfl (by decide) (by decide) rfl fun b2=>?_) --ok
  rw [show ((n : Int) - i) = ((n - i : Nat) : Int) by omega]
  refine j_pub_made (n:=1) (kd:=.u32) 4 [n - i] 0 rfl rfl (by simp [InR];omega) (by decide) (by decide) ?_
  have v1 : val (limbs (binom n i)) * val [n - i] = binom n i * (n - i):=by rw [val_limbs];simp [val]
  refine j_step rfl (x_call [1,0] rfl (S_nat_times (by omega) (by simp)) rfl ?_)
  rintro _ _ _ ⟨pa1,ca1,rfl,rfl,rfl⟩
  simp only [List.cons_append,List.nil_append]
  refine j_run it 3 rfl ⟨⟨by omega,by omega⟩,⟨by omega,by omega⟩,trivial,trivial⟩ ?_
  refine j_recast (t:=40) ((((i) + 1) : Nat) : Int) rfl (by omega) ?_
  refine j_step rfl (x_call [0] rfl (S_nat_digit (by omega) (by omega)) rfl ?_)
  rintro _ _ _ ⟨pa2,ca2,rfl,rfl,rfl⟩
  simp only [List.cons_append,List.nil_append]
  refine j_run it 4 rfl (by simp) ?_
  refine j_nf [_,_,_,_] rfl (j_run it 2 rfl ⟨trivial,⟨by omega,by omega⟩,trivial⟩ ?_)
  refine j_nfn 1 [.lp (pL 500),.blk 0,.c [1,1,1,1,1]] rfl ?_ --ok
  rw [v1,show ((i : Int) + 1) = ((i + 1 : Nat) : Int) by omega]
  skip
  simp only [val_limbs,binom_next (show i ≤ n by omega)]
  refine j_to [0] (by exact fra rfl) rfl rfl (ih (i + 1,pa2,ca2) (by simp only;omega) (by simp only;omega))
 ·refine j_nf [_,_,_,_,_] rfl (j_run it 1 rfl (by simp) ?_)
  refine j_nf [_,_,_,_,_] rfl (j_if rfl rfl (fun h3=>by exfalso;omega) (fun h3=>?_))
  refine j_nf [_,_] rfl (j_run it 1 rfl (by simp) ?_)
  refine j_step rfl (x_call [0] rfl (S_nat_Trim) rfl ?_)
  rintro _ _ _ ⟨pa1,ca1,rfl,rfl,rfl⟩
  simp only [List.cons_append,List.nil_append]
  refine j_run it 2 rfl (by simp) ?_
  refine j_nf [_] rfl ?_
  have e : i = M:=by omega
  rw [trim_limbs,e,hMb]
  refine j_giv [0] rfl rfl rfl ⟨_,_,rfl,rfl,rfl⟩
set_option maxHeartbeats 400000
theorem limbs_two {n : Nat} (h : n < 18446744073709551616) : (limbs n).length ≤ 2:=limbs_length_le (by simpa using h)
theorem mul_len {x y L K : Nat} (hx : x < 4294967296 ^ L) (hy : y < 4294967296 ^ K) : (limbs (x * y)).length ≤ L + K:=by
 refine limbs_length_le ?_
 rw [Nat.pow_add]
 rcases Nat.eq_zero_or_pos y with h0 | h0
 ·subst h0;rw [Nat.mul_zero];exact Nat.mul_pos (Nat.pow_pos (by decide)) (Nat.pow_pos (by decide))
 ·exact Nat.lt_of_lt_of_le (Nat.mul_lt_mul_of_pos_right hx h0) (Nat.mul_le_mul_left _ (Nat.le_of_lt hy))
theorem S_codewrightref01_small {pa : Option Addr} {m ca : Nat} {a : List Nat} {n d : Nat} (ha : a.length ≤ 1073741824) (hn : n < 4294967296) (hd : 0 < d) (hdB : d < 4294967296) :
  Ctr Tryz.prog 48 [.slice pa m ca,.int .i64 n,.int .i64 d] [] [slF U32 pa m ca a] (Sv U32 (limbs (val a * n / d))):=by
 refine Ctr_of_j' (F:=F_codewrightref01_small) rfl fun C=>?_
 refine j_len 0 rfl fun hm _ _=>?_
 subst hm
 refine j_range 0 rfl fun hra=>?_
 have hra' : ∀ x ∈ a,x < 4294967296:=fun x hx=>by have:=hra x hx;simp only [InR] at this;omega
 have h2:=limbs_two (show n < 18446744073709551616 by omega)
 have hlen : (limbs (val a * val (limbs n))).length ≤ a.length + 2:=mul_len (val_lt hra') (limbs_le_length (by rw [val_limbs];exact h2))
 have hpr:=limbs_lt (val a * val (limbs n))
 have hpv : val (limbs (val a * val (limbs n))) = val a * n:=by rw [val_limbs,val_limbs]
 clear hra
 refine j_nf [_,_] rfl (j_run it 1 rfl (by simp) ?_)
 refine j_nf [_,_] rfl (j_run it 3 rfl ⟨⟨by omega,by omega⟩,trivial,trivial,trivial⟩ ?_)
 refine j_step rfl (x_call [] rfl (S_codewrightref01_Of (by omega)) rfl ?_)
 rintro _ _ _ ⟨pa1,ca1,rfl,rfl,rfl⟩
 simp only [List.cons_append,List.nil_append]
 refine j_step rfl (x_call [1,0] rfl (S_codewrightref01_Mul (by omega) (by omega)) rfl ?_)
 rintro _ _ _ ⟨pa2,ca2,rfl,rfl,rfl⟩
 simp only [List.cons_append,List.nil_append]
 refine j_run it 1 rfl (by simp) ?_
 refine j_nf [_,_] rfl (j_run it 1 rfl (by simp) ?_)
 refine j_step rfl (x_len sl24 rfl ?_)
 refine j_step rfl (x_make_nat ((limbs (val a * val (limbs n))).length) _ rfl rfl sl24 zo24e by24e (by omega) (by omega) (by omega) fun b1=>?_)
 refine j_run it 1 rfl (by simp) ?_
 refine j_nf [_,_] rfl (j_run it 1 rfl (by simp) ?_)
 refine j_nf [_,_,_] rfl (j_run it 1 rfl (by simp) ?_)
 refine j_step rfl (x_len sl24 rfl ?_)
 refine j_run it 2 rfl ⟨trivial,⟨by omega,by omega⟩,trivial⟩ ?_
 refine j_nf [_,_,_] rfl ?_
 generalize limbs (val a * val (limbs n)) = p at hlen hpr hpv ⊢
 refine j_loopN (X:=Nat × Nat × List Nat) (fun x=>[(0,.slice pa2 p.length ca2),(2,.int .i64 d),(7,.slice (some ⟨b1,0,none⟩) p.length p.length),(8,.int .u64 x.2.1),(9,.int .i64 ((x.1 : Int) - 1))])
  (fun x=>[(some b1,73,natCells .u32 x.2.2)]) (fun _=>[slF U32 pa2 p.length ca2 p])
  (fun x=>x.1 ≤ p.length ∧ x.2.2.length = p.length ∧ x.2.1 < d ∧ (∀ y ∈ x.2.2,y < 4294967296) ∧ val (p.drop x.1) = val (x.2.2.drop x.1) * d + x.2.1)
  (fun x=>x.1) (p.length,0,List.replicate p.length 0) [0] rfl ⟨Nat.le_refl _,by simp,hd,rep_lt (by decide),by simp [val]⟩ (by repeat (first | exact Fr.sub_nil _ | refine Fr.sub_cons rfl ?_)) rfl rfl ?_
 rintro ⟨k,r,out⟩ ⟨hk,hl,hr,ho,hv⟩ ih
 simp only at hk hl hr ho hv ih ⊢
 by_cases hk0 : 0 < k
 ·refine j_nf [_,_,_,_,_,_] rfl (j_run it 2 rfl (by simp) ?_)
  refine j_nf [_,_,_,_,_] rfl (j_if rfl rfl (fun h1=>?_) (fun h1=>by exfalso;omega))
  refine j_nf [_,_,_,_,_,_,_] rfl (j_run it 4 rfl ⟨trivial,trivial,⟨by omega,by omega⟩,trivial,trivial⟩ ?_)
  refine j_step rfl (x_idx 0 ((k) - 1) rfl rfl rfl sl24 (by omega) (by omega) fun z1 hz1 b2 o1=>?_)
  refine j_step rfl (x_ld_nat 0 rfl rfl ld73 fun ⟨r1,r2⟩=>?_)
  refine j_run it 3 rfl ⟨trivial,⟨by omega,by omega⟩,⟨by omega,by omega⟩,trivial⟩ ?_
  refine j_nf [_,_,_,_,_,_,_] rfl (j_run it 6 rfl ⟨⟨by omega,by omega,by omega,by omega⟩,⟨by omega,by omega⟩,trivial,trivial,trivial,trivial,trivial⟩ ?_)
  refine j_step rfl (x_conv_u32 it rfl rfl rfl ?_)
  refine j_step rfl (x_idx_own ((k) - 1) ((k) - 1) rfl rfl sl24 (by omega) (by omega) (Nat.mul_one _) ?_)
  refine j_step rfl (x_bst_nat 0 (((((r) * 4294967296) + (z1)) / (d)) % 4294967296) rfl rfl rfl ld73 (by first | rfl | omega) (by first | omega | (simp;omega)) ?_)
  refine j_nf [_,_,_,_,_,_] rfl (j_run it 5 rfl ⟨trivial,⟨by omega,by omega⟩,⟨by omega,by omega⟩,trivial,trivial,trivial⟩ ?_)
  refine j_nf [_,_,_,_] rfl (j_run it 3 rfl ⟨trivial,⟨by omega,by omega⟩,trivial,trivial⟩ ?_)
  refine j_nfn 1 [.lp (pL 500),.blk 0,.c [1,1,1,1,1]] rfl ?_
  have hz : z1 < 4294967296:=hpr z1 (List.mem_of_getElem? hz1)
  have hq:=div_lt' (x:=z1) hr hz
  refine j_to [1] (by exact fcc rfl (fcc rfl (fcc rfl (fcc rfl (fii rfl (by omega) (fzz _)))))) rfl rfl (ih (k - 1,(r * 4294967296 + z1) % d,out.set (k - 1) ((r * 4294967296 + z1) / d % 4294967296)) (by simp only;omega) ⟨by simp only;omega,by simpa using hl,Nat.mod_lt _ hd,set_lt ho (by omega),by
   simp only
   rw [Nat.mod_eq_of_lt hq]
   have e : k - 1 + 1 = k:=by omega
   have hz1' : p[k - 1]? = some z1:=by first | exact hz1 | simpa using hz1
   rw [val_drop hz1',val_set_drop (by omega),e]
   exact div_step hv hd⟩)
 ·refine j_nf [_,_,_,_,_,_] rfl (j_run it 2 rfl (by simp) ?_)
  refine j_nf [_,_,_,_,_] rfl (j_if rfl rfl (fun h1=>by exfalso;omega) (fun h1=>?_))
  refine j_nf [_,_] rfl (j_run it 1 rfl (by simp) ?_)
  refine j_pub32 (n:=p.length) 0 rfl (by simp [*]) (by first | assumption | exact set_all (by assumption) (by omega) | (simp;omega)) (by omega) ?_
  refine j_step rfl (x_call [0] rfl (S_codewrightref01_Trim) rfl ?_)
  rintro _ _ _ ⟨pa3,ca3,rfl,rfl,rfl⟩
  simp only [List.cons_append,List.nil_append]
  refine j_run it 1 rfl (by simp) ?_
  refine j_nf [_] rfl ?_
  have e : k = 0:=by omega
  subst e
  simp only [List.drop_zero] at hv
  have h1 : val p / d = val out:=by rw [hv,Nat.mul_comm,Nat.mul_add_div hd,Nat.div_eq_of_lt hr,Nat.add_zero]
  rw [trim_eq ho,← h1,hpv]
  refine j_giv [0] rfl rfl rfl ⟨_,_,rfl,rfl,rfl⟩
theorem S_codewrightref01_Choose {n k : Nat} (hn : n ≤ 4096) : Ctr Tryz.prog 22 [.int .i64 n,.int .i64 k] [] [] (Sv U32 (limbs (binom n k))):=by
 refine Ctr_of_j' (F:=F_codewrightref01_Choose) rfl fun C=>?_
 have e1 : limbs (binom n 0) = [1]:=by rw [binom_zero,limbs_one]
 by_cases hk : n < k
 ·have hz : limbs (binom n k) = []:=by rw [binom_gt n k hk,limbs_zero]
  refine j_nf [_,_] rfl (j_run it 1 rfl (by simp) ?_)
  refine j_nf [_,_,_] rfl (j_run it 7 rfl (by simp) ?_)
  refine j_nf [_,_] rfl (j_if rfl rfl (fun h1=>?_) (fun h1=>by exfalso;omega))
  refine j_nf [_,_,_] rfl (j_step rfl (x_lit0 sl24 fun b1=>?_))
  refine j_run it 1 rfl (by simp) ?_
  refine j_nf [_,_] rfl ?_
  refine j_add (slF U32 (some ⟨b1,0,none⟩) 0 0 []) (fun w A _=>slF_nil _ _ _ _ _) ?_
  refine j_giv [0] rfl rfl rfl ⟨_,_,by rw [hz];rfl,by rw [hz];rfl,rfl⟩
 ·have hlen:=fun i=>binom_len hn i
  refine j_nf [_,_] rfl (j_run it 1 rfl (by simp) ?_)
  refine j_nf [_,_,_] rfl (j_run it 7 rfl (by simp) ?_)
  refine j_nf [_,_] rfl (j_if rfl rfl (fun h1=>by exfalso;omega) (fun h1=>?_))
  refine j_nf [_,_] rfl (j_step rfl (x_lit sl24 zo24e rfl rfl rfl rfl (by decide) (by decide) rfl fun b1=>?_))
  refine j_run it 1 rfl (by simp) ?_
  refine j_nf [_,_,_] rfl (j_run it 1 rfl (by simp) ?_)
  refine j_nf [_,_,_] rfl ?_
  refine j_pub_made (n:=1) (kd:=.u32) 4 [1] 0 rfl rfl (by simp [InR]) (by decide) (by decide) ?_
  refine j_loopN (X:=Nat × Option Addr × Nat) (fun x=>[(0,.int .i64 n),(1,.int .i64 k),(5,.slice x.2.1 (limbs (binom n x.1)).length x.2.2),(6,.int .i64 x.1)])
   (fun _=>[]) (fun x=>[slF U32 x.2.1 (limbs (binom n x.1)).length x.2.2 (limbs (binom n x.1))])
   (fun x=>x.1 ≤ k) (fun x=>k - x.1) (0,some ⟨b1,0,none⟩,1) [0] rfl (Nat.zero_le _) (by simp only [e1];repeat (first | exact Fr.sub_nil _ | refine Fr.sub_cons rfl ?_)) rfl (by simp only [e1];rfl) ?_
  rintro ⟨i,pa,ca⟩ hi ih
  simp only at hi ih ⊢
  have hl:=hlen i
  by_cases hik : i < k
  ·refine j_nf [_,_,_,_,_,_] rfl (j_run it 3 rfl (by simp) ?_)
   refine j_nf [_,_,_,_,_] rfl (j_if rfl rfl (fun h2=>?_) (fun h2=>by exfalso;omega))
   refine j_nf [_,_,_,_,_,_] rfl (j_run it 6 rfl ⟨⟨by omega,by omega⟩,trivial,⟨by omega,by omega⟩,trivial,trivial,trivial,trivial⟩ ?_)
   refine j_recast (t:=24) ((((n) - (i)) : Nat) : Int) rfl (by omega) ?_
   refine j_recast (t:=26) ((((i) + 1) : Nat) : Int) rfl (by omega) ?_
   refine j_step rfl (x_call [0] rfl (S_codewrightref01_small (by omega) (by omega) (by omega) (by omega)) rfl ?_)
   rintro _ _ _ ⟨pa1,ca1,rfl,rfl,rfl⟩
   simp only [List.cons_append,List.nil_append]
   refine j_run it 1 rfl (by simp) ?_
   refine j_nf [_,_,_,_] rfl (j_run it 3 rfl ⟨trivial,⟨by omega,by omega⟩,trivial,trivial⟩ ?_)
   refine j_nfn 1 [.lp (pL 244),.blk 0,.c [1,1,1,1]] rfl ?_ --ok
   rw [show ((n : Int) - i) = ((n - i : Nat) : Int) by omega,show ((i : Int) + 1) = ((i + 1 : Nat) : Int) by omega]
   skip
   simp only [val_limbs,binom_next (show i ≤ n by omega)]
   refine j_to [0] (by exact fra rfl) rfl rfl (ih (i + 1,pa1,ca1) (by simp only;omega) (by simp only;omega))
  ·refine j_nf [_,_,_,_,_,_] rfl (j_run it 3 rfl (by simp) ?_)
   refine j_nf [_,_,_,_,_] rfl (j_if rfl rfl (fun h2=>by exfalso;omega) (fun h2=>?_))
   refine j_nf [_,_] rfl (j_run it 2 rfl (by simp) ?_)
   refine j_nf [_] rfl ?_
   have e : i = k:=by omega
   rw [e]
   refine j_giv [0] rfl rfl rfl ⟨_,_,rfl,rfl,rfl⟩
theorem S_codewrightref01_Pow {pa : Option Addr} {m ca n : Nat} {l : List Nat} (hl : val l < 4294967296) (hn : n ≤ 4000) : Ctr Tryz.prog 73 [.slice pa m ca,.int .i64 n] [] [slF U32 pa m ca l] (S2 U32 (limbs (val l ^ n)) 0):=by
 refine Ctr_of_j' (F:=F_codewrightref01_Pow) rfl fun C=>?_
 refine j_len 0 rfl fun hm _ _=>?_
 subst hm
 refine j_range 0 rfl fun hr=>?_
 have hrr : ∀ x ∈ l,x < 4294967296:=fun x hx=>by have:=hr x hx;simp only [InR] at this;omega
 have ht : trim l = limbs (val l):=trim_eq hrr
 have hbl : bitsL (limbs (val l)) = blen (val l):=bitsL_small (trim_limbs _) hl
 have hone : (limbs (val l ^ 0)) = [1]:=by rw [Nat.pow_zero,limbs_one]
 by_cases h0 : n = 0
 ·subst h0
  refine j_nf [_,_] rfl (j_run it 2 rfl (by simp) ?_)
  refine j_nf [_,_,_] rfl (j_run it 2 rfl (by simp) ?_)
  refine j_nf [_,_] rfl (j_if rfl rfl (fun h1=>by exfalso;omega) (fun h1=>?_))
  refine j_nf [_,_] rfl (j_run it 1 rfl (by simp) ?_)
  refine j_step rfl (x_call [0] rfl (S_codewrightref01_Trim) rfl ?_)
  rintro _ _ _ ⟨pa1,ca1,rfl,rfl,rfl⟩
  simp only [List.cons_append,List.nil_append]
  refine j_run it 1 rfl (by simp) ?_
  refine j_nf [_,_,_] rfl (j_run it 2 rfl (by simp) ?_)
  refine j_nf [_,_] rfl (j_if rfl rfl (fun h2=>?_) (fun h2=>by exfalso;omega))
  refine j_nf [_,_,_] rfl (j_step rfl (x_lit sl24 zo24e rfl rfl rfl rfl (by decide) (by decide) rfl fun b1=>?_))
  refine j_run it 2 rfl (by simp) ?_
  refine j_nf [_,_] rfl ?_
  refine j_pub_made (n:=1) (kd:=.u32) 4 [1] 0 rfl rfl (by simp [InR]) (by decide) (by decide) ?_
  refine j_giv [0] rfl rfl rfl ⟨_,_,by rw [hone];rfl,by rw [hone];rfl,rfl⟩
 by_cases h1 : val l ≤ 1
 ·have hp : val l ^ n = val l:=by
   rcases Nat.lt_or_ge (val l) 1 with h | h
   ·rw [show val l = 0 by omega,Nat.zero_pow (by omega)]
   ·rw [show val l = 1 by omega,Nat.one_pow]
  have hb1 : bitsL (trim l) ≤ 1:=by
   rw [ht,hbl];exact blen_le (by omega)
  refine j_nf [_,_] rfl (j_run it 2 rfl (by simp) ?_)
  refine j_nf [_,_,_] rfl (j_run it 2 rfl (by simp) ?_)
  refine j_nf [_,_] rfl (j_if rfl rfl (fun h2=>by exfalso;omega) (fun h2=>?_))
  refine j_nf [_,_] rfl (j_run it 1 rfl (by simp) ?_)
  refine j_step rfl (x_call [0] rfl (S_codewrightref01_Trim) rfl ?_)
  rintro _ _ _ ⟨pa1,ca1,rfl,rfl,rfl⟩
  simp only [List.cons_append,List.nil_append]
  refine j_run it 1 rfl (by simp) ?_
  refine j_nf [_,_,_] rfl (j_run it 2 rfl (by simp) ?_)
  refine j_nf [_,_] rfl (j_if rfl rfl (fun h3=>by exfalso;omega) (fun h3=>?_))
  refine j_nf [_,_,_] rfl (j_run it 1 rfl (by simp) ?_)
  refine j_step rfl (x_call [0] rfl (S_codewrightref01_Bits) rfl ?_)
  rintro _ _ _ ⟨rfl,rfl,rfl⟩
  simp only [List.cons_append,List.nil_append]
  refine j_run it 1 rfl (by simp) ?_
  refine j_nf [_,_] rfl (j_if rfl rfl (fun h4=>?_) (fun h4=>by exfalso;omega))
  refine j_nf [_,_,_] rfl (j_run it 3 rfl (by simp) ?_)
  refine j_nf [_,_] rfl ?_
  rw [ht]
  refine j_giv [0] rfl rfl rfl ⟨_,_,by rw [hp];rfl,by rw [hp],rfl⟩
 have hb1 : 1 < bitsL (trim l):=by
  rw [ht,hbl]
  have h2 : blen (val l) ≠ 0:=fun h=>by have:=blen_eq_zero.1 h;omega
  have h3 : blen (val l) ≠ 1:=fun h=>by have:=blen_eq_one.1 h;omega
  omega
 have hW:=pow_len hl (show n ≤ 4000 from hn)
 refine j_nf [_,_] rfl (j_run it 2 rfl (by simp) ?_)
 refine j_nf [_,_,_] rfl (j_run it 2 rfl (by simp) ?_)
 refine j_nf [_,_] rfl (j_if rfl rfl (fun h2=>by exfalso;omega) (fun h2=>?_))
 refine j_nf [_,_] rfl (j_run it 1 rfl (by simp) ?_)
 refine j_step rfl (x_call [0] rfl (S_codewrightref01_Trim) rfl ?_)
 rintro _ _ _ ⟨pa1,ca1,rfl,rfl,rfl⟩
 simp only [List.cons_append,List.nil_append]
 refine j_run it 1 rfl (by simp) ?_
 refine j_nf [_,_,_] rfl (j_run it 2 rfl (by simp) ?_)
 refine j_nf [_,_] rfl (j_if rfl rfl (fun h3=>by exfalso;omega) (fun h3=>?_))
 refine j_nf [_,_,_] rfl (j_run it 1 rfl (by simp) ?_)
 refine j_step rfl (x_call [0] rfl (S_codewrightref01_Bits) rfl ?_)
 rintro _ _ _ ⟨rfl,rfl,rfl⟩
 simp only [List.cons_append,List.nil_append]
 refine j_run it 1 rfl (by simp) ?_
 refine j_nf [_,_] rfl (j_if rfl rfl (fun h4=>by exfalso;omega) (fun h4=>?_))
 refine j_nf [_,_,_] rfl (j_run it 2 rfl (by simp) ?_)
 refine j_nf [_,_] rfl (j_if rfl rfl (fun h5=>by exfalso;omega) (fun h5=>?_))
 refine j_nf [_,_] rfl (j_step rfl (x_lit sl24 zo24e rfl rfl rfl rfl (by decide) (by decide) rfl fun b1=>?_))
 refine j_run it 1 rfl (by simp) ?_
 refine j_nf [_,_,_] rfl (j_run it 1 rfl (by simp) ?_)
 refine j_nf [_,_,_] rfl ?_
 rw [ht]
 refine j_pub_made (n:=1) (kd:=.u32) 4 [1] 0 rfl rfl (by simp [InR]) (by decide) (by decide) ?_
 have e0 : n / 2 ^ 19 = 0:=Nat.div_eq_of_lt (by omega)
 have e1 : limbs (val l ^ (n / 2 ^ 19)) = [1]:=by rw [e0];exact hone
 have d19 : 2 ^ 19 / 2 = 262144:=by decide
 refine j_loopN (X:=Nat × Option Addr × Nat) (fun x=>[(0,.slice pa1 (limbs (val l)).length ca1),(1,.int .i64 n),(6,.slice x.2.1 (limbs (val l ^ (n / 2 ^ x.1))).length x.2.2),(7,.int .i64 ((2 ^ x.1 / 2 : Nat) : Int))])
  (fun _=>[]) (fun x=>[slF U32 x.2.1 (limbs (val l ^ (n / 2 ^ x.1))).length x.2.2 (limbs (val l ^ (n / 2 ^ x.1))),slF U32 pa1 (limbs (val l)).length ca1 (limbs (val l))])
  (fun x=>x.1 ≤ 19) (fun x=>x.1) (19,some ⟨b1,0,none⟩,1) [0,1] rfl (Nat.le_refl _) (by simp only [e1,d19];repeat (first | exact Fr.sub_nil _ | refine Fr.sub_cons rfl ?_)) rfl (by simp only [e1];rfl) ?_
 rintro ⟨e,po,co⟩ he ih
 simp only at he ih ⊢
 cases e with
 | zero =>
  rw [show (2 : Nat) ^ 0 / 2 = 0 from rfl,show n / 2 ^ 0 = n by simp]
  refine j_nf [_,_,_,_,_,_] rfl (j_run it 2 rfl (by simp) ?_)
  refine j_nf [_,_,_,_,_] rfl (j_if rfl rfl (fun h6=>by exfalso;omega) (fun h6=>?_))
  refine j_nf [_,_] rfl (j_run it 3 rfl (by simp) ?_)
  refine j_nf [_] rfl ?_
  refine j_giv [0] rfl rfl rfl ⟨_,_,rfl,rfl,rfl⟩
 | succ e =>
  have hd2 : 2 ^ (e + 1) = 2 * 2 ^ e:=by rw [Nat.pow_succ,Nat.mul_comm]
  have hd1 : 2 ^ (e + 1) / 2 = 2 ^ e:=by rw [hd2];omega
  have hq : n / 2 ^ (e + 1) = n / 2 ^ e / 2:=by rw [Nat.div_div_eq_div_mul,Nat.mul_comm,hd2]
  have hpos : 0 < 2 ^ e:=Nat.pow_pos (by decide)
  have hle : 2 ^ e ≤ 2 ^ 18:=Nat.pow_le_pow_right (by decide) (by omega)
  have hQn : n / 2 ^ e ≤ n:=Nat.div_le_self _ _
  have ih:=fun p=>ih (e,p)
  simp only at ih
  rw [hd1,hq]
  generalize hd : 2 ^ e = d at hpos hle hQn ih ⊢
  generalize hQ : n / d = Q at hQn ih ⊢
  have hoo : val l ^ (Q / 2) * val l ^ (Q / 2) = val l ^ (2 * (Q / 2)):=by rw [← Nat.pow_add,Nat.two_mul]
  have lW : ∀ x,x ≤ n → (limbs (val l ^ x)).length ≤ 4001:=fun x hx=>limbs_mono hW (Nat.pow_le_pow_right (by omega) hx)
  have l1:=lW (Q / 2) (by omega)
  have l2:=lW (2 * (Q / 2)) (by omega)
  have l3:=lW Q hQn
  have lv:=limbs_two (show val l < 18446744073709551616 by omega)
  have lx1 : (limbs (val (limbs (val l ^ (Q / 2))) * val (limbs (val l ^ (Q / 2))))).length ≤ 4001:=by rw [val_limbs,hoo];exact l2
  by_cases hodd : Q % 2 = 1
  ·have hov : val l ^ (2 * (Q / 2)) * val l = val l ^ Q:=by rw [← Nat.pow_succ];congr 1;omega
   have lx2 : (limbs (val (limbs (val (limbs (val l ^ (Q / 2))) * val (limbs (val l ^ (Q / 2))))) * val (limbs (val l)))).length ≤ 4001:=by rw [val_limbs,val_limbs,val_limbs,hoo,hov];exact l3
   have hoddI : ((n : Int) / d) % 2 = 1:=by rw [show ((n : Int) / d) = ((n / d : Nat) : Int) from rfl,hQ];omega
   refine j_nf [_,_,_,_,_,_] rfl (j_run it 2 rfl (by simp) ?_)
   refine j_nf [_,_,_,_,_] rfl (j_if rfl rfl (fun h6=>?_) (fun h6=>by exfalso;omega))
   refine j_nf [_,_,_,_,_,_,_] rfl (j_run it 2 rfl (by simp) ?_)
   refine j_step rfl (x_call [0,0] rfl (S_codewrightref01_Mul (by omega) (by omega)) rfl ?_)
   rintro _ _ _ ⟨pa2,ca2,rfl,rfl,rfl⟩
   simp only [List.cons_append,List.nil_append]
   refine j_run it 1 rfl (by simp) ?_
   refine j_nf [_,_,_,_,_,_,_,_] rfl (j_run it 5 rfl ⟨trivial,⟨by omega,by omega⟩,⟨by omega,by omega,by omega,by omega⟩,trivial,trivial,trivial⟩ ?_)
   refine j_nf [_,_,_,_,_,_,_] rfl (j_if rfl rfl (fun h7=>?_) (fun h7=>by exfalso;omega))
   refine j_nf [_,_,_,_,_,_,_] rfl (j_run it 2 rfl (by simp) ?_)
   refine j_step rfl (x_call [0,2] rfl (S_codewrightref01_Mul (by omega) (by omega)) rfl ?_)
   rintro _ _ _ ⟨pa3,ca3,rfl,rfl,rfl⟩
   simp only [List.cons_append,List.nil_append]
   refine j_run it 1 rfl (by simp) ?_
   refine j_nf [_,_,_,_,_,_,_] rfl (j_run it 1 rfl (by simp) ?_)
   refine j_step rfl (x_len sl24 rfl ?_)
   refine j_run it 1 rfl (by simp) ?_
   refine j_nf [_,_,_,_,_,_] rfl (j_if rfl rfl (fun h8=>by exfalso;omega) (fun h8=>?_))
   refine j_nf [_,_,_,_] rfl (j_run it 3 rfl ⟨trivial,⟨by omega,by omega,by omega,by omega⟩,trivial,trivial⟩ ?_)
   refine j_nfn 1 [.lp (pL 4084),.blk 0,.c (pL 511)] rfl ?_
   simp only [val_limbs,hoo,hov]
   refine j_to [0,3] (by exact fra rfl) rfl rfl (ih (pa3,ca3) (by omega) (by omega))
  ·have hoddI : ¬ ((n : Int) / d) % 2 = 1:=by rw [show ((n : Int) / d) = ((n / d : Nat) : Int) from rfl,hQ];omega
   have hev : val l ^ (2 * (Q / 2)) = val l ^ Q:=by congr 1;omega
   refine j_nf [_,_,_,_,_,_] rfl (j_run it 2 rfl (by simp) ?_)
   refine j_nf [_,_,_,_,_] rfl (j_if rfl rfl (fun h6=>?_) (fun h6=>by exfalso;omega))
   refine j_nf [_,_,_,_,_,_,_] rfl (j_run it 2 rfl (by simp) ?_)
   refine j_step rfl (x_call [0,0] rfl (S_codewrightref01_Mul (by omega) (by omega)) rfl ?_)
   rintro _ _ _ ⟨pa2,ca2,rfl,rfl,rfl⟩
   simp only [List.cons_append,List.nil_append]
   refine j_run it 1 rfl (by simp) ?_
   refine j_nf [_,_,_,_,_,_,_,_] rfl (j_run it 5 rfl ⟨trivial,⟨by omega,by omega⟩,⟨by omega,by omega,by omega,by omega⟩,trivial,trivial,trivial⟩ ?_)
   refine j_nf [_,_,_,_,_,_,_] rfl (j_if rfl rfl (fun h7=>by exfalso;omega) (fun h7=>?_))
   refine j_nf [_,_,_,_,_,_,_] rfl (j_run it 1 rfl (by simp) ?_)
   refine j_step rfl (x_len sl24 rfl ?_)
   refine j_run it 1 rfl (by simp) ?_
   refine j_nf [_,_,_,_,_,_] rfl (j_if rfl rfl (fun h8=>by exfalso;omega) (fun h8=>?_))
   refine j_nf [_,_,_,_] rfl (j_run it 3 rfl ⟨trivial,⟨by omega,by omega,by omega,by omega⟩,trivial,trivial⟩ ?_)
   refine j_nfn 1 [.lp (pL 4084),.blk 0,.c (pL 511)] rfl ?_
   simp only [val_limbs,hoo,hev]
   refine j_to [0,2] (by exact fra rfl) rfl rfl (ih (pa2,ca2) (by omega) (by omega))
set_option maxHeartbeats 2000000
abbrev ZV (z : Zs) : Value → List Fact → List Blk → Prop:=fun v Φ β=>∃ pa ca,v = .agg #[.bool z.1,.slice pa (limbs z.2).length ca] ∧ Φ = [slF U32 pa (limbs z.2).length ca (limbs z.2)] ∧ β = []
theorem S_macwilliams_plus {g1 g2 : Bool} {p1 p2 : Option Addr} {n1 n2 c1 c2 : Nat} {N1 N2 : List Nat} (l1 : N1.length ≤ 536870912) (l2 : N2.length ≤ 536870912) :
  Ctr Tryz.prog 99 [.agg #[.bool g1,.slice p1 n1 c1],.agg #[.bool g2,.slice p2 n2 c2]] [] [slF U32 p1 n1 c1 N1,slF U32 p2 n2 c2 N2] (ZV (plusZ (g1,val N1) (g2,val N2))):=by
 refine Ctr_of_j' (F:=F_macwilliams_plus) rfl fun C=>?_
 refine j_len 0 rfl fun hn hba _=>?_
 refine j_len 1 rfl fun hm hbb _=>?_
 subst hn;subst hm
 refine j_range 0 rfl fun hra=>?_
 refine j_range 1 rfl fun hrb=>?_
 refine j_nf [_,_] rfl ?_
 refine j_step rfl (x_box_agg rfl fun b1=>?_)
 refine j_step rfl (x_box_agg rfl fun b2=>?_)
 refine j_step rfl (x_alloc zo105 fun b3=>?_)
 refine j_nf [_,_,_] rfl ?_
 refine j_step rfl (x_field rfl fd105_0 ?_)
 refine j_step rfl (x_bld 2 rfl rfl ld4 rfl ?_)
 refine j_step rfl (x_field rfl fd105_0 ?_)
 refine j_step rfl (x_bld 1 rfl rfl ld4 rfl ?_)
 refine j_step rfl (x_eqb ub rfl rfl ?_)
 refine j_nf [_,_] rfl ?_
 refine j_cond rfl rfl (fun h1=>?_) (fun h1=>?_)
 ·have hg : g1 = g2:=by simpa using h1
  subst hg
  have e : plusZ (g1,val N1) (g1,val N2) = (g1,val N1 + val N2):=by simp [plusZ]
  have hL : ∀ l ∈ [N1,N2],l.length ≤ 1073741824:=fun l hl=>by
   rcases List.mem_cons.1 hl with rfl | hl
   ·omega
   ·rw [List.mem_singleton.1 hl];omega
  have es : sumV [N1,N2] = val N1 + val N2:=by simp [sumV]
  rw [e]
  refine j_nf [_,_,_] rfl ?_
  (apply j_drawK it mx 9;(· rfl);(· rfl))
  (apply lxk_eq;(· rfl);(· exact d_x fun _=>x_field rfl fd105_0 dk_eq))
  (apply lxk_eq;(· rfl);(· exact d_bld 2 rfl rfl ld4 rfl))
  (apply lxk_eq;(· rfl);(· exact d_x fun _=>x_field rfl fd105_1 dk_eq))
  (apply lxk_eq;(· rfl);(· exact d_bld 2 rfl rfl ld24 rfl))
  (apply lxk_eq;(· rfl);(· exact d_x fun _=>x_field rfl fd105_1 dk_eq))
  (apply lxk_eq;(· rfl);(· exact d_bld 1 rfl rfl ld24 rfl))
  (apply lxk_sl;(· rfl);(· exact d_x fun _=>x_lit sl117 zo117e rfl rfl rfl rfl (by decide) (by decide) rfl fun b4=>dk_all (E:=(encSl U32)) [[Value.slice p1 N1.length c1],[Value.slice p2 N2.length c2]] [N1,N2] (fun w A hG=>(allrd_cons (rd_of_slF (hG _ (fact_mem (n:=0) rfl))) (allrd_cons (rd_of_slF (hG _ (fact_mem (n:=1) rfl))) allrd_nil))) rfl rfl rfl (by first | decide | exact Nat.le_of_ble_eq_true rfl));intro pa1 ca1)
  (apply lxk_sl;(· rfl);(· exact d_x fun _=>x_call [0] rfl (S_nat_Add (by simp) (by omega)) rfl (by rintro _ _ _ ⟨pa2,ca2,rfl,rfl,rfl⟩;exact (dk_sl 0 rfl)));intro pa2 ca2)
  (apply lxk_fa (val:=fun g=>Value.agg #[Value.bool g1,Value.slice (g 1).1 ((limbs (sumV [N1,N2])).length) (g 1).2.1]) (f:=fun g=>[slF (U32) (g 1).1 ((limbs (sumV [N1,N2])).length) (g 1).2.1 (limbs (sumV [N1,N2]))]);(· rfl);(· exact d_x fun _=>x_build (cs:=[Value.bool g1,Value.slice pa2 (limbs (sumV [N1,N2])).length ca2]) st105 zo105 rfl rfl (fun _ _ _ hG=>⟨(fun | 1=>(pa2,ca2,0,[]) | _=>default),rfl,fun g hg=>by (simp only [List.mem_cons,List.not_mem_nil,or_false] at hg;rcases hg with rfl;(· exact drop_own (hG _ (fact_mem (n:=0) rfl))))⟩));intro g2;dsimp only [List.map_cons,List.map_nil])
  refine lxk_end rfl ?_
  simp only [List.map_cons,List.map_nil,List.cons_append,List.nil_append]
  refine j_step rfl (x_bst_all 0 rfl rfl rfl ld105 rfl rfl (by simp [Value.oneCell']) ?_)
  refine j_nf [_,_] rfl ?_
  rw [es]
  refine j_givC [0] rfl (.agg 0 rfl rfl ld105 rfl .nil) rfl ⟨_,_,rfl,rfl,rfl⟩
 ·have hg : g1 ≠ g2:=by simpa using h1
  by_cases hlt : val N1 < val N2
  ·have hc:=cmpN_lt hlt
   have hle : val N1 ≤ val N2:=by omega
   have e : plusZ (g1,val N1) (g2,val N2) = (g2,val N2 - val N1):=by simp [plusZ,hg,hlt]
   rw [e]
   refine j_nf [_,_,_] rfl ?_
   refine j_step rfl (x_field rfl fd105_1 ?_)
   refine j_step rfl (x_bld 2 rfl rfl ld24 rfl ?_)
   refine j_step rfl (x_field rfl fd105_1 ?_)
   refine j_step rfl (x_bld 1 rfl rfl ld24 rfl ?_)
   refine j_step rfl (x_call [0,1] rfl (S_nat_Cmp) rfl ?_)
   rintro _ _ _ ⟨rfl,rfl,rfl⟩
   simp only [List.cons_append,List.nil_append]
   refine j_run it 1 rfl (by simp) ?_
   refine j_nf [_,_] rfl ?_
   refine j_if rfl rfl (fun h2=>?_) (fun h2=>by exfalso;omega)
   refine j_nf [_,_] rfl ?_
   refine j_step rfl (x_bld_all 1 rfl rfl ld105 rfl ?_)
   refine j_step rfl (x_bld_all 2 rfl rfl ld105 rfl ?_)
   refine j_step rfl (x_bst_all 2 rfl rfl rfl ld105 rfl rfl (by simp [Value.oneCell']) ?_)
   refine j_step rfl (x_bst_all 1 rfl rfl rfl ld105 rfl rfl (by simp [Value.oneCell']) ?_)
   refine j_nf [_,_] rfl ?_
   refine j_step rfl (x_field rfl fd105_1 ?_)
   refine j_step rfl (x_bld 2 rfl rfl ld24 rfl ?_)
   refine j_step rfl (x_field rfl fd105_1 ?_)
   refine j_step rfl (x_bld 1 rfl rfl ld24 rfl ?_)
   refine j_step rfl (x_call [1,0] rfl (S_nat_Sub (by omega)) rfl ?_)
   rintro _ _ _ ⟨pa1,ca1,rfl,rfl,rfl⟩
   simp only [List.cons_append,List.nil_append]
   refine j_run it 5 rfl (by simp) ?_
   refine j_nf [_,_] rfl ?_
   refine j_step rfl (x_field rfl fd105_0 ?_)
   refine j_step rfl (x_bld 2 rfl rfl ld4 rfl ?_)
   refine j_run it 1 rfl (by simp) ?_
   refine j_step rfl (x_build (cs:=[Value.bool g2,Value.slice pa1 (limbs (val N2 - val N1)).length ca1]) st105 zo105 rfl rfl ?_)
   refine j_step rfl (x_bst_all 0 rfl rfl rfl ld105 rfl rfl (by simp [Value.oneCell']) ?_)
   refine j_nf [_] rfl ?_
   refine j_givC [0] rfl (.agg 0 rfl rfl ld105 rfl .nil) rfl ⟨_,_,rfl,rfl,rfl⟩
  ·have hc : ¬ cmpN (val N1) (val N2) < 0:=by unfold cmpN;split <;> (try split) <;> omega
   have hle : val N2 ≤ val N1:=by omega
   have e : plusZ (g1,val N1) (g2,val N2) = (g1,val N1 - val N2):=by simp [plusZ,hg,hlt]
   rw [e]
   refine j_nf [_,_,_] rfl ?_
   refine j_step rfl (x_field rfl fd105_1 ?_)
   refine j_step rfl (x_bld 2 rfl rfl ld24 rfl ?_)
   refine j_step rfl (x_field rfl fd105_1 ?_)
   refine j_step rfl (x_bld 1 rfl rfl ld24 rfl ?_)
   refine j_step rfl (x_call [0,1] rfl (S_nat_Cmp) rfl ?_)
   rintro _ _ _ ⟨rfl,rfl,rfl⟩
   simp only [List.cons_append,List.nil_append]
   refine j_run it 1 rfl (by simp) ?_
   refine j_nf [_,_] rfl ?_
   refine j_if rfl rfl (fun h2=>by exfalso;omega) (fun h2=>?_)
   refine j_nf [_,_] rfl ?_
   refine j_step rfl (x_field rfl fd105_1 ?_)
   refine j_step rfl (x_bld 2 rfl rfl ld24 rfl ?_)
   refine j_step rfl (x_field rfl fd105_1 ?_)
   refine j_step rfl (x_bld 1 rfl rfl ld24 rfl ?_)
   refine j_step rfl (x_call [0,1] rfl (S_nat_Sub (by omega)) rfl ?_)
   rintro _ _ _ ⟨pa1,ca1,rfl,rfl,rfl⟩
   simp only [List.cons_append,List.nil_append]
   refine j_run it 5 rfl (by simp) ?_
   refine j_nf [_,_] rfl ?_
   refine j_step rfl (x_field rfl fd105_0 ?_)
   refine j_step rfl (x_bld 2 rfl rfl ld4 rfl ?_)
   refine j_run it 1 rfl (by simp) ?_
   refine j_step rfl (x_build (cs:=[Value.bool g1,Value.slice pa1 (limbs (val N1 - val N2)).length ca1]) st105 zo105 rfl rfl ?_)
   refine j_step rfl (x_bst_all 0 rfl rfl rfl ld105 rfl rfl (by simp [Value.oneCell']) ?_)
   refine j_nf [_] rfl ?_
   refine j_givC [0] rfl (.agg 0 rfl rfl ld105 rfl .nil) rfl ⟨_,_,rfl,rfl,rfl⟩
theorem S_macwilliams_minus {g1 g2 : Bool} {p1 p2 : Option Addr} {n1 n2 c1 c2 : Nat} {N1 N2 : List Nat} (l1 : N1.length ≤ 536870912) (l2 : N2.length ≤ 536870912) :
  Ctr Tryz.prog 107 [.agg #[.bool g1,.slice p1 n1 c1],.agg #[.bool g2,.slice p2 n2 c2]] [] [slF U32 p1 n1 c1 N1,slF U32 p2 n2 c2 N2] (ZV (minusZ (g1,val N1) (g2,val N2))):=by
 refine Ctr_of_j' (F:=F_macwilliams_minus) rfl fun C=>?_
 refine j_nf [_,_] rfl (j_step rfl (x_box_agg rfl fun b1=>?_))
 refine j_step rfl (x_box_agg rfl fun b2=>?_)
 refine j_step rfl (x_alloc zo105 fun b3=>?_)
 refine j_nf [_,_] rfl (j_step rfl (x_bld_all 2 rfl rfl ld105 rfl ?_))
 refine j_step rfl (x_field rfl fd105_0 ?_)
 refine j_step rfl (x_bld 1 rfl rfl ld4 rfl ?_)
 refine j_run it 1 rfl (by simp) ?_
 refine j_step rfl (x_field rfl fd105_1 ?_)
 refine j_step rfl (x_bld 1 rfl rfl ld24 rfl ?_)
 refine j_step rfl (x_build (cs:=[Value.bool !g2,Value.slice p2 n2 c2]) st105 zo105 rfl rfl ?_)
 refine j_step rfl (x_call [0,1] rfl (S_macwilliams_plus (by omega) (by omega)) rfl ?_)
 rintro _ _ _ ⟨pa1,ca1,rfl,rfl,rfl⟩
 simp only [List.cons_append,List.nil_append]
 refine j_step rfl (x_bst_all 0 rfl rfl rfl ld105 rfl rfl (by simp [Value.oneCell']) ?_)
 refine j_nf [_] rfl ?_
 refine j_givC [0] rfl (.agg 0 rfl rfl ld105 rfl .nil) rfl ⟨_,_,rfl,rfl,rfl⟩
theorem S_macwilliams_times {g1 g2 : Bool} {p1 p2 : Option Addr} {n1 n2 c1 c2 : Nat} {N1 N2 : List Nat} (l1 : N1.length ≤ 536870912) (l2 : N2.length ≤ 536870912) :
  Ctr Tryz.prog 100 [.agg #[.bool g1,.slice p1 n1 c1],.agg #[.bool g2,.slice p2 n2 c2]] [] [slF U32 p1 n1 c1 N1,slF U32 p2 n2 c2 N2] (ZV (timesZ (g1,val N1) (g2,val N2))):=by
 refine Ctr_of_j' (F:=F_macwilliams_times) rfl fun C=>?_
 have hL : lenS [N1,N2] ≤ 1073741824:=by simp [lenS];omega
 have es : prodV [N1,N2] = val N1 * val N2:=by simp [prodV]
 have e : timesZ (g1,val N1) (g2,val N2) = (g1 != g2,val N1 * val N2):=rfl
 rw [e]
 refine j_nf [_,_] rfl ?_
 refine j_step rfl (x_box_agg rfl fun b1=>?_)
 refine j_step rfl (x_box_agg rfl fun b2=>?_)
 refine j_step rfl (x_alloc zo105 fun b3=>?_)
 refine j_nf [_,_] rfl ?_
 (apply j_drawK it mx 12;(· rfl);(· rfl))
 (apply lxk_eq;(· rfl);(· exact d_x fun _=>x_field rfl fd105_0 dk_eq))
 (apply lxk_eq;(· rfl);(· exact d_bld 2 rfl rfl ld4 rfl))
 (apply lxk_eq;(· rfl);(· exact d_x fun _=>x_field rfl fd105_0 dk_eq))
 (apply lxk_eq;(· rfl);(· exact d_bld 1 rfl rfl ld4 rfl))
 (apply lxk_eq;(· rfl);(· exact d_x fun _=>x_neb ub rfl rfl dk_eq))
 (apply lxk_eq;(· rfl);(· exact d_x fun _=>x_field rfl fd105_1 dk_eq))
 (apply lxk_eq;(· rfl);(· exact d_bld 2 rfl rfl ld24 rfl))
 (apply lxk_eq;(· rfl);(· exact d_x fun _=>x_field rfl fd105_1 dk_eq))
 (apply lxk_eq;(· rfl);(· exact d_bld 1 rfl rfl ld24 rfl))
 (apply lxk_sl;(· rfl);(· exact d_x fun _=>x_lit sl117 zo117e rfl rfl rfl rfl (by decide) (by decide) rfl fun b4=>dk_all (E:=(encSl U32)) [[Value.slice p1 n1 c1],[Value.slice p2 n2 c2]] [N1,N2] (fun w A hG=>(allrd_cons (rd_of_slF (hG _ (fact_mem (n:=0) rfl))) (allrd_cons (rd_of_slF (hG _ (fact_mem (n:=1) rfl))) allrd_nil))) rfl rfl rfl (by first | decide | exact Nat.le_of_ble_eq_true rfl));intro pa1 ca1)
 (apply lxk_sl;(· rfl);(· exact d_x fun _=>x_call [0] rfl (S_nat_Mul (by omega)) rfl (by rintro _ _ _ ⟨pa2,ca2,rfl,rfl,rfl⟩;exact (dk_sl 0 rfl)));intro pa2 ca2)
 (apply lxk_fa (val:=fun g=>Value.agg #[Value.bool (g1 != g2),Value.slice (g 1).1 ((limbs (prodV [N1,N2])).length) (g 1).2.1]) (f:=fun g=>[slF (U32) (g 1).1 ((limbs (prodV [N1,N2])).length) (g 1).2.1 (limbs (prodV [N1,N2]))]);(· rfl);(· exact d_x fun _=>x_build (cs:=[Value.bool (g1 != g2),Value.slice pa2 (limbs (prodV [N1,N2])).length ca2]) st105 zo105 rfl rfl (fun _ _ _ hG=>⟨(fun | 1=>(pa2,ca2,0,[]) | _=>default),rfl,fun g hg=>by (simp only [List.mem_cons,List.not_mem_nil,or_false] at hg;rcases hg with rfl;(· exact drop_own (hG _ (fact_mem (n:=0) rfl))))⟩));intro g3;dsimp only [List.map_cons,List.map_nil])
 refine lxk_end rfl ?_
 simp only [List.map_cons,List.map_nil,List.cons_append,List.nil_append]
 refine j_step rfl (x_bst_all 0 rfl rfl rfl ld105 rfl rfl (by simp [Value.oneCell']) ?_)
 refine j_nf [_] rfl ?_
 rw [es]
 refine j_givC [0] rfl (.agg 0 rfl rfl ld105 rfl .nil) rfl ⟨_,_,rfl,rfl,rfl⟩
theorem S_macwilliams_small {n : Nat} (hn : n < 9223372036854775808) : Ctr Tryz.prog 106 [.int .i64 n] [] [] (ZV (false,n)):=by
 refine Ctr_of_j' (F:=F_macwilliams_small) rfl fun C=>?_
 refine j_nf [_,_] rfl (j_step rfl (x_alloc zo105 fun b1=>?_))
 refine j_nf [_,_] rfl (j_run it 2 rfl ⟨⟨by omega,by omega⟩,trivial,trivial⟩ ?_)
 refine j_step rfl (x_call [] rfl (S_nat_Of (by omega)) rfl ?_)
 rintro _ _ _ ⟨pa1,ca1,rfl,rfl,rfl⟩
 simp only [List.cons_append,List.nil_append]
 refine j_step rfl (x_build (cs:=[Value.bool false,Value.slice pa1 (limbs n).length ca1]) st105 zo105 rfl rfl ?_)
 refine j_step rfl (x_bst_all 0 rfl rfl rfl ld105 rfl rfl (by simp [Value.oneCell']) ?_)
 refine j_nf [_] rfl ?_
 refine j_givC [0] rfl (.agg 0 rfl rfl ld105 rfl .nil) rfl ⟨_,_,rfl,rfl,rfl⟩
theorem S_macwilliams_ratio {g : Bool} {pn pd : Option Addr} {n m cn cd : Nat} {N D : List Nat} (hN : N.length ≤ 1073741824) (hD : D.length ≤ 1073741824) :
  Ctr Tryz.prog 83 [.agg #[.bool g,.slice pn n cn],.slice pd m cd] [] [slF U32 pn n cn N,slF U32 pd m cd D] (RtV (rt (vq (g,N,D)))):=by
 refine Ctr_of_j' (F:=F_macwilliams_ratio) rfl fun C=>?_
 refine j_nf [_,_] rfl (j_step rfl (x_box_agg rfl fun b1=>?_))
 refine j_step rfl (x_alloc zo26 fun b2=>?_)
 refine j_nf [_,_] rfl (j_step rfl (x_field rfl fd105_0 ?_))
 refine j_step rfl (x_bld 1 rfl rfl ld4 rfl ?_)
 refine j_step rfl (x_field rfl fd105_1 ?_)
 refine j_step rfl (x_bld 1 rfl rfl ld24 rfl ?_)
 refine j_run it 1 rfl (by simp) ?_
 refine j_step rfl (x_build (cs:=[Value.bool g,Value.slice pn n cn,Value.slice pd m cd]) st26 zo26 rfl rfl ?_)
 refine j_step rfl (x_call [0,1] rfl (S_rational_Trim (by omega) (by omega)) rfl ?_)
 rintro _ _ _ ⟨pn1,cn1,pd1,cd1,rfl,rfl,rfl⟩
 simp only [List.cons_append,List.nil_append]
 refine j_step rfl (x_bst_all 0 rfl rfl rfl ld26 rfl rfl (by simp [Value.oneCell']) ?_)
 refine j_nf [_] rfl ?_
 refine j_givC [0,1] rfl (.agg 0 rfl rfl ld26 rfl .nil) rfl ⟨_,_,_,_,rfl,rfl,rfl⟩
set_option maxHeartbeats 4000000
def rowT (q n x : Nat) : List (Bool × List Nat):=(List.range (n + 1)).map fun k=>enz (tz q n x k)
def tabT (q n : Nat) : List (List (Bool × List Nat)):=(List.range (n + 1)).map (rowT q n)
theorem rowT_len (q n x : Nat) : (rowT q n x).length = n + 1:=by simp [rowT]
theorem tabT_len (q n : Nat) : (tabT q n).length = n + 1:=by simp [tabT]
theorem S_macwilliams_table {q n : Nat} (hq : 2 ≤ q) (hq2 : q ≤ 256) (hn : n ≤ 64) : Ctr Tryz.prog 98 [.int .i64 q,.int .i64 n] [] [] (Sv (encSl IntE) (tabT q n)):=by
 refine Ctr_of_j' (F:=F_macwilliams_table) rfl fun C=>?_
 have hB:=fun k=>binom_len (show n ≤ 4096 by omega) k
 have hq1 : val (limbs (q - 1)) = q - 1:=val_limbs _
 have hq3 : val (limbs (q - 1)) < 4294967296:=by omega
 refine j_nf [_,_] rfl ?_
 refine j_run it 1 rfl (by simp) ?_
 refine j_nf [_,_] rfl ?_
 refine j_run it 2 rfl ⟨⟨by omega,by omega⟩,trivial,trivial⟩ ?_
 refine j_step rfl (x_makeR IntE default ((n) + 1) _ rfl rfl sl103 zo103e rfl rfl by103e (by omega) (by omega) (by omega) rz105 fun b1 cs1=>?_)
 refine j_run it 1 rfl (by simp) ?_
 refine j_nf [_,_,_] rfl ?_
 refine j_run it 1 rfl (by simp) ?_
 refine j_step rfl (x_len sl103 rfl ?_)
 refine j_run it 1 rfl (by simp) ?_
 refine j_nf [_,_,_] rfl ?_
 rw [← mapTo_zero (fun k=>enz (tz q n 0 k))]
 refine j_loopG (X:=Nat × List Value) [0,1,4,5,20] [] (fun x=>[(21,.int .i64 x.1)]) (fun x=>[(some b1,105,x.2)]) (fun x=>[rowF IntE ⟨some b1,n + 1,x.2⟩ (n + 1) (mapTo (fun k=>enz (tz q n 0 k)) default (n + 1) x.1)])
  (fun x=>x.1 ≤ n + 1) (fun x=>n + 1 - x.1) (0,cs1) [0] rfl rfl rfl (Nat.zero_le _) (by repeat (first | exact Fr.sub_nil _ | refine Fr.sub_cons rfl ?_)) rfl rfl ?_
 rintro ⟨k,cs⟩ hk ih
 simp only [List.cons_append,List.nil_append] at hk ih ⊢
 by_cases hkl : k < n + 1
 ·have hBk:=hB k
  have hp : (limbs (val (limbs (q - 1)) ^ k)).length ≤ 64 + 1:=by
   refine limbs_length_le ?_
   have h1 : val (limbs (q - 1)) ^ k ≤ 4294967296 ^ k:=Nat.pow_le_pow_left (Nat.le_of_lt hq3) k
   have h2 : (4294967296 : Nat) ^ k ≤ 4294967296 ^ 64:=Nat.pow_le_pow_right (by decide) (by omega)
   have h3 : (4294967296 : Nat) ^ 64 < 4294967296 ^ (64 + 1):=Nat.pow_lt_pow_right (by decide) (by decide)
   exact Nat.lt_of_le_of_lt (Nat.le_trans h1 h2) h3
  have hL : lenS [limbs (binom n k),limbs (val (limbs (q - 1)) ^ k)] ≤ 1073741824:=by simp [lenS];omega
  refine j_nf [_,_,_,_,_] rfl ?_
  refine j_run it 1 rfl (by simp) ?_
  refine j_nf [_,_,_,_,_] rfl ?_
  refine j_if rfl rfl (fun h1=>?_) (fun h1=>by exfalso;omega)
  refine j_nf [_,_,_,_,_,_,_] rfl ?_
  refine j_run it 2 rfl (by simp) ?_
  refine j_nf [_,_,_,_,_,_,_] rfl ?_
  refine j_run it 2 rfl (by simp) ?_
  refine j_step rfl (x_call [] rfl (S_nat_Binomial (by omega)) rfl ?_)
  rintro _ _ _ ⟨pa1,ca1,rfl,rfl,rfl⟩
  simp only [List.cons_append,List.nil_append]
  refine j_run it 5 rfl (by simp) ?_
  refine j_nf [_,_,_,_,_,_,_] rfl ?_
  refine j_run it 3 rfl ⟨⟨by omega,by omega⟩,⟨by omega,by omega⟩,trivial,trivial⟩ ?_
  refine j_recast (t:=33) ((((q) - 1) : Nat) : Int) rfl (by omega) ?_
  refine j_step rfl (x_call [] rfl (S_nat_Of (by omega)) rfl ?_)
  rintro _ _ _ ⟨pa2,ca2,rfl,rfl,rfl⟩
  simp only [List.cons_append,List.nil_append]
  refine j_run it 1 rfl (by simp) ?_
  refine j_step rfl (x_call [0] rfl (S_nat_Pow (by omega) (by omega)) rfl ?_)
  rintro _ _ _ ⟨pa3,ca3,rfl,rfl,rfl⟩
  simp only [List.cons_append,List.nil_append]
  refine j_run it 5 rfl (by simp) ?_
  refine j_nf [_,_,_,_,_,_] rfl ?_
  refine j_run it 4 rfl (by simp) ?_
  refine j_step rfl (x_lit sl117 zo117e rfl rfl rfl rfl (by decide) (by decide) rfl fun b2=>?_)
  refine j_pub_all (E:=(encSl U32)) (n:=2) [[Value.slice pa1 (limbs (binom n k)).length ca1],[Value.slice pa3 (limbs (val (limbs (q - 1)) ^ k)).length ca3]] [limbs (binom n k),limbs (val (limbs (q - 1)) ^ k)] 0 (fun w A hG=>(allrd_cons (rd_of_slF (hG _ (fact_mem (n:=2) rfl))) (allrd_cons (rd_of_slF (hG _ (fact_mem (n:=0) rfl))) allrd_nil))) rfl rfl rfl rfl (by first | decide | exact Nat.le_of_ble_eq_true rfl) (by first | decide | exact Nat.le_of_ble_eq_true rfl) ?_
  refine j_step rfl (x_call [0] rfl (S_nat_Mul (by omega)) rfl ?_)
  rintro _ _ _ ⟨pa4,ca4,rfl,rfl,rfl⟩
  simp only [List.cons_append,List.nil_append]
  refine j_step rfl (x_build (cs:=[Value.bool false,Value.slice pa4 (limbs (prodV [limbs (binom n k),limbs (val (limbs (q - 1)) ^ k)])).length ca4]) st105 zo105 rfl rfl ?_)
  refine j_step rfl (x_idx_own (k) _ rfl rfl sl103 rfl (by omega) rfl ?_)
  refine j_step rfl (x_stR (vs:=[Value.bool false,Value.slice pa4 (limbs (prodV [limbs (binom n k),limbs (val (limbs (q - 1)) ^ k)])).length ca4]) (z:=(false,limbs (prodV [limbs (binom n k),limbs (val (limbs (q - 1)) ^ k)]))) 0 5 (k) rfl rfl rfl rfl rfl ld105 rfl (by omega) (fun w A hG=>(rd_pair (v1:=[Value.bool false]) (rd_bool _) (rd_of_slF (hG _ (fact_mem (n:=0) rfl))))) fun cs2=>?_)
  refine j_nf [_,_,_,_] rfl ?_
  refine j_run it 2 rfl ⟨trivial,⟨by omega,by omega⟩,trivial⟩ ?_
  refine j_nfn 1 [.lp (pL 116),.blk 0,.c [1,1,1]] rfl ?_
  have e : (false,limbs (prodV [limbs (binom n k),limbs (val (limbs (q - 1)) ^ k)])) = enz (tz q n 0 k):=by simp [prodV,hq1,val_limbs,enz,tz]
  rw [e,mapTo_set (fun k=>enz (tz q n 0 k))]
  refine j_to [0] (by exact fra rfl) rfl rfl (ih (k + 1,cs2) (by dsimp only;omega) (by dsimp only;omega))
 ·have ek : k = n + 1:=by omega
  subst ek
  rw [mapTo_all]
  refine j_nf [_,_,_,_,_] rfl ?_
  refine j_run it 1 rfl (by simp) ?_
  refine j_nf [_,_,_,_,_] rfl ?_
  refine j_if rfl rfl (fun h1=>by exfalso;omega) (fun h1=>?_)
  refine j_nf [_,_] rfl ?_
  refine j_run it 1 rfl (by simp) ?_
  refine j_step rfl (x_lit sl118 zo118e rfl rfl rfl rfl (by decide) (by decide) rfl fun b2=>?_)
  refine j_run it 1 rfl (by simp) ?_
  refine j_nf [_,_] rfl ?_
  refine j_run it 2 rfl ⟨⟨by omega,by omega⟩,trivial,trivial⟩ ?_
  refine j_recast (t:=51) ((((q) - 1) : Nat) : Int) rfl (by omega) ?_
  refine j_step rfl (x_call [] rfl (S_macwilliams_small (by omega)) rfl ?_)
  rintro _ _ _ ⟨pa1,ca1,rfl,rfl,rfl⟩
  simp only [List.cons_append,List.nil_append]
  refine j_step rfl (x_alloc zo105 fun b3=>?_)
  refine j_step rfl (x_bst_all 0 rfl rfl rfl ld105 rfl rfl (by simp [Value.oneCell']) ?_)
  refine j_nf [_,_,_] rfl ?_
  refine j_run it 2 rfl (by simp) ?_
  refine j_nf [_,_,_] rfl ?_
  refine j_pubR 2 1 rfl rfl (by show (n + 1) * 32 ≤ 140737488355328;omega) ?_
  refine j_rowlit (E:=encSl IntE) (n:=1) [[.slice (some ⟨b1,0,none⟩) (n + 1) (n + 1)]] [rowT q n 0] 1 (fun w A hG=>allrd_cons (rd_of_slF (hG _ (fact_mem (n:=0) rfl))) allrd_nil) rfl rfl rfl rfl (by decide) ?_
  refine j_loopG (X:=Nat × Row) [1,4,12,53] [2] (fun x=>[(11,.slice (ad x.2.bo) (x.1 + 1) x.2.cap),(54,.int .i64 x.1)]) (fun x=>[(some b3,105,[.bool false,.slice pa1 (limbs (q - 1)).length ca1]),(x.2.bo,103,x.2.cs)])
   (fun x=>[rowF (encSl IntE) x.2 (x.1 + 1) ((List.range (x.1 + 1)).map (rowT q n))])
   (fun x=>x.1 ≤ n) (fun x=>n - x.1) (0,⟨some b2,1,[.slice (some ⟨b1,0,none⟩) (n + 1) (n + 1)]⟩) [0] rfl rfl rfl (Nat.zero_le _) (by repeat (first | exact Fr.sub_nil _ | refine Fr.sub_cons rfl ?_)) rfl rfl ?_
  rintro ⟨x,r⟩ hx ih
  simp only [List.cons_append,List.nil_append] at hx ih ⊢
  by_cases hxl : x < n
  ·refine j_nf [_,_,_,_,_] rfl ?_
   refine j_run it 1 rfl (by simp) ?_
   refine j_nf [_,_,_,_,_] rfl ?_
   refine j_if rfl rfl (fun h2=>?_) (fun h2=>by exfalso;omega)
   refine j_nf [_,_,_,_,_,_,_] rfl ?_
   refine j_run it 2 rfl (by simp) ?_
   refine j_step rfl (x_len sl118 rfl ?_)
   refine j_run it 1 rfl ⟨⟨by omega,by omega⟩,trivial⟩ ?_
   refine j_rowB 0 rfl (by omega) fun b4 cap1 cs2 hr1=>?_
   subst hr1
   dsimp only
   refine j_step rfl (x_idx_own ((x + 1) - 1) ((x + 1) - 1) rfl rfl sl118 (by omega) (by omega) (Nat.mul_one _) ?_)
   refine j_step rfl (x_ldR_sl 1 0 (x + 1 - 1) rfl rfl rfl ld103 rfl (by omega) fun z1 hz1 pa2 ca2=>?_)
   refine j_run it 1 rfl (by simp) ?_
   refine j_nf [_,_,_,_,_,_,_] rfl ?_
   refine j_run it 1 rfl (by simp) ?_
   refine j_step rfl (x_idx 0 0 rfl rfl rfl sl103 (by omega) ?_ fun z2 hz2 b5 o1=>?_) --ok
   ·have : z1.length = n + 1:=by
     rw [Nat.add_sub_cancel,range_get (rowT q n) (by omega)] at hz1
     rw [← Option.some.inj hz1,rowT_len]
    omega
   rw [Nat.add_sub_cancel,range_get (rowT q n) (by omega)] at hz1
   obtain rfl:=Option.some.inj hz1
   refine j_step rfl (x_ld_vw vw_IntE 0 rfl rfl ld105 fun g1=>?_)
   dsimp only [vw_IntE,List.cons_append,List.nil_append,List.map_cons,List.map_nil]
   refine j_step rfl (x_lit sl103 zo103e rfl rfl rfl rfl (by decide) (by decide) rfl fun b6=>?_)
   refine j_run it 1 rfl (by simp) ?_
   refine j_nf [_,_,_,_,_,_,_,_] rfl ?_
   refine j_run it 1 rfl (by simp) ?_
   refine j_nf [_,_,_,_,_,_,_,_] rfl ?_
   refine j_rowlit (E:=IntE) (n:=1) [[.bool z2.1,.slice (g1 0).1 z2.2.length (g1 0).2.1]] [z2] 0 (fun w A hG=>allrd_cons (rd_pair (v1:=[.bool z2.1]) (rd_bool _) (rd_of_slF (hG _ (fact_mem (n:=0) rfl)))) allrd_nil) rfl rfl rfl rfl (by decide) ?_
   have ez : [z2] = (List.range 1).map fun k=>enz (tz q n (x + 1) k):=by
    rw [rowT,range_get _ (by omega)] at hz2
    rw [← Option.some.inj hz2];rfl
   rw [ez]
   refine j_loopG (X:=Nat × Row) [1,4,11,12,13,53,54,55,56,57,58,59,60,61,62,63,64,65] [0,1,2,3,4,5] (fun y=>[(14,.slice (ad y.2.bo) y.1 y.2.cap),(15,.int .i64 y.1)]) (fun y=>[(y.2.bo,105,y.2.cs),(some b3,105,[.bool false,.slice pa1 (limbs (q - 1)).length ca1]),(some b4,103,cs2)])
    (fun y=>[rowF IntE y.2 y.1 ((List.range y.1).map fun k=>enz (tz q n (x + 1) k))])
    (fun y=>1 ≤ y.1 ∧ y.1 ≤ n + 1) (fun y=>n + 1 - y.1) (1,⟨some b6,1,[.bool z2.1,.slice (g1 0).1 z2.2.length (g1 0).2.1]⟩) [0] rfl rfl rfl ⟨Nat.le_refl _,by dsimp only;omega⟩ (by repeat (first | exact Fr.sub_nil _ | refine Fr.sub_cons rfl ?_)) rfl rfl ?_
   rintro ⟨k,r⟩ ⟨hk1,hk2⟩ ihk
   simp only [List.cons_append,List.nil_append] at hk1 hk2 ihk ⊢
   obtain ⟨k,rfl⟩ : ∃ k',k = k' + 1:=⟨k - 1,by omega⟩
   by_cases hkl : k + 1 ≤ n
   ·refine j_rowB 0 rfl (by omega) fun b7 cap7 cs7 hr=>?_
    subst hr
    dsimp only
    have hrl:=rowT_len q n x
    have hz3 : ((List.range (k + 1)).map fun k=>enz (tz q n (x + 1) k))[k + 1 - 1]? = some (enz (tz q n (x + 1) (k + 1 - 1))):=range_get _ (by omega)
    have eA : (rowT q n x).getD (k + 1) default = enz (tz q n x (k + 1)):=range_getD _ _ (by omega)
    have eB : (rowT q n x).getD (k + 1 - 1) default = enz (tz q n x (k + 1 - 1)):=range_getD _ _ (by omega)
    have eB' : (rowT q n x).getD k default = enz (tz q n x k):=range_getD _ _ (by omega)
    have hA : ((rowT q n x).getD (k + 1) default).2.length ≤ 17:=by rw [eA];exact tz_len hq hq2 hn hx _
    have hA' : ((rowT q n x).getD (k + 1 - 1) default).2.length ≤ 17:=by rw [eB];exact tz_len hq hq2 hn hx _
    have hA3 : ((rowT q n x).getD k default).2.length ≤ 17:=by rw [eB'];exact tz_len hq hq2 hn hx _
    have hN : (enz (tz q n (x + 1) (k + 1 - 1))).2.length ≤ 17:=tz_len hq hq2 hn (by omega) _
    have hF : (limbs (q - 1)).length ≤ 1:=limbs_length_le (by omega)
    have hP : (4294967296 : Nat) ^ 18 = 4294967296 ^ 17 * 4294967296:=Nat.pow_succ ..
    have t1:=tz_lt hq hq2 hn hx (k + 1) (Nat.le_refl 17)
    have t2:=tz_lt hq hq2 hn hx (k + 1 - 1) (Nat.le_refl 17)
    have t3:=tz_lt hq hq2 hn (show x + 1 ≤ n by omega) (k + 1 - 1) (Nat.le_refl 17)
    have hM1 : (limbs (minusZ (((rowT q n x).getD (k + 1) default).1,val ((rowT q n x).getD (k + 1) default).2) (((rowT q n x).getD (k + 1 - 1) default).1,val ((rowT q n x).getD (k + 1 - 1) default).2)).2).length ≤ 18:=by
     rw [eA,eB,val_enz,val_enz]
     refine limbs_length_le ?_
     have:=minusZ_le (tz q n x (k + 1)) (tz q n x (k + 1 - 1))
     rw [hP]
     generalize (4294967296 : Nat) ^ 17 = P at *
     omega
    have hM3 : (limbs (minusZ (((rowT q n x).getD (k + 1) default).1,val ((rowT q n x).getD (k + 1) default).2) (((rowT q n x).getD k default).1,val ((rowT q n x).getD k default).2)).2).length ≤ 18:=hM1
    have hM2 : (limbs (timesZ (false,val (limbs (q - 1))) ((enz (tz q n (x + 1) (k + 1 - 1))).1,val (enz (tz q n (x + 1) (k + 1 - 1))).2)).2).length ≤ 18:=by
     rw [hq1,val_enz]
     refine limbs_length_le ?_
     rw [hP]
     show (q - 1) * (tz q n (x + 1) (k + 1 - 1)).2 < _
     rw [Nat.mul_comm]
     exact Nat.mul_lt_mul'' t3 (by omega)
    refine j_nf [_,_,_,_,_,_,_,_,_,_,_] rfl ?_
    refine j_run it 3 rfl (by simp) ?_
    refine j_nf [_,_,_,_,_,_,_,_,_,_] rfl ?_
    refine j_if rfl rfl (fun h3=>?_) (fun h3=>by exfalso;omega)
    refine j_nf [_,_,_,_,_,_,_,_,_,_,_] rfl ?_
    (apply j_drawK it mx 20;(· rfl);(· rfl))
    (apply lxk_run 3;(· rfl);(· simp))
    (apply lxk_pt;(· rfl);(· exact d_x fun _=>x_idx 4 (k + 1) rfl rfl rfl sl103 rfl (by omega) fun z1 hz4 b8 o2=>(dk_ptD default hz4 0 rfl));intro b8 o2)
    (apply lxk_vw vw_IntE;(· rfl);(· exact d_x fun _=>x_ld_vw vw_IntE 0 rfl rfl ld105 fun _=>dk_vw _);intro g2)
    dsimp only [vw_IntE,List.cons_append,List.nil_append,List.map_cons,List.map_nil]
    (apply lxk_run 2;(· rfl);(· simp))
    (apply lxk_eq (v:=Value.int IntKind.i64 ((((k + 1) - 1 : Nat)) : Int));(· rfl);(· exact d_x fun _=>x_asN it _ rfl ⟨by omega,by omega⟩ (by omega) dk_eq))
    simp only [Nat.add_sub_cancel]
    (apply lxk_pt;(· rfl);(· exact d_x fun _=>x_idx 4 (k) rfl rfl rfl sl103 rfl (by omega) fun z1 hz4 b9 o3=>(dk_ptD default hz4 0 rfl));intro b9 o3)
    (apply lxk_vw vw_IntE;(· rfl);(· exact d_x fun _=>x_ld_vw vw_IntE 0 rfl rfl ld105 fun _=>dk_vw _);intro g3)
    dsimp only [vw_IntE,List.cons_append,List.nil_append,List.map_cons,List.map_nil]
    (apply lxk_fa (val:=(fun g=>Value.agg #[Value.bool (minusZ (((rowT q n x).getD (k + 1) default).fst,val ((rowT q n x).getD (k + 1) default).snd) (((rowT q n x).getD k default).fst,val ((rowT q n x).getD k default).snd)).fst,Value.slice (g 0).fst (limbs (minusZ (((rowT q n x).getD (k + 1) default).fst,val ((rowT q n x).getD (k + 1) default).snd) (((rowT q n x).getD k default).fst,val ((rowT q n x).getD k default).snd)).snd).length (g 1).snd.fst])) (f:=(fun g=>[slF U32 (g 0).fst (limbs (minusZ (((rowT q n x).getD (k + 1) default).fst,val ((rowT q n x).getD (k + 1) default).snd) (((rowT q n x).getD k default).fst,val ((rowT q n x).getD k default).snd)).snd).length (g 1).snd.fst (limbs (minusZ (((rowT q n x).getD (k + 1) default).fst,val ((rowT q n x).getD (k + 1) default).snd) (((rowT q n x).getD k default).fst,val ((rowT q n x).getD k default).snd)).snd)]));(· rfl);(· exact d_x fun _=>x_call [2,0] rfl (S_macwilliams_minus (by omega) (by omega)) rfl (by rintro _ _ _ ⟨pag0,cag1,rfl,rfl,rfl⟩;exact fun _ _ _ hG=>⟨(fun | 0=>(pag0,0,0,[]) | 1=>(none,cag1,0,[]) | _=>default),rfl,fun g hg=>drop_own (hG _ (List.mem_append_left _ hg))⟩));intro g4;dsimp only [List.map_cons,List.map_nil])
    (apply lxk_eq;(· rfl);(· exact d_bld_all 1 rfl rfl ld105 rfl))
    (apply lxk_run 2;(· rfl);(· simp))
    (apply lxk_eq (v:=Value.int IntKind.i64 ((((k + 1) - 1 : Nat)) : Int));(· rfl);(· exact d_x fun _=>x_asN it _ rfl ⟨by omega,by omega⟩ (by omega) dk_eq))
    simp only [Nat.add_sub_cancel]
    (apply lxk_eq;(· rfl);(· exact d_x fun _=>x_idx_own (k) _ rfl rfl sl103 rfl (by omega) rfl dk_eq))
    (apply lxk_vw vw_IntE;(· rfl);(· exact d_ldR_vw vw_IntE 0 0 (k) rfl rfl rfl ld105 rfl (by assumption));intro g5)
    dsimp only [vw_IntE,List.cons_append,List.nil_append,List.map_cons,List.map_nil]
    (apply lxk_fa (val:=(fun g=>Value.agg #[Value.bool (timesZ (false,val (limbs (q - 1))) ((enz (tz q n (x + 1) (k + 1 - 1))).fst,val (enz (tz q n (x + 1) (k + 1 - 1))).snd)).fst,Value.slice (g 0).fst (limbs (timesZ (false,val (limbs (q - 1))) ((enz (tz q n (x + 1) (k + 1 - 1))).fst,val (enz (tz q n (x + 1) (k + 1 - 1))).snd)).snd).length (g 1).snd.fst])) (f:=(fun g=>[slF U32 (g 0).fst (limbs (timesZ (false,val (limbs (q - 1))) ((enz (tz q n (x + 1) (k + 1 - 1))).fst,val (enz (tz q n (x + 1) (k + 1 - 1))).snd)).snd).length (g 1).snd.fst (limbs (timesZ (false,val (limbs (q - 1))) ((enz (tz q n (x + 1) (k + 1 - 1))).fst,val (enz (tz q n (x + 1) (k + 1 - 1))).snd)).snd)]));(· rfl);(· exact d_x fun _=>x_call [12,0] rfl (S_macwilliams_times (by omega) (by omega)) rfl (by rintro _ _ _ ⟨pag0,cag1,rfl,rfl,rfl⟩;exact fun _ _ _ hG=>⟨(fun | 0=>(pag0,0,0,[]) | 1=>(none,cag1,0,[]) | _=>default),rfl,fun g hg=>drop_own (hG _ (List.mem_append_left _ hg))⟩));intro g6;dsimp only [List.map_cons,List.map_nil])
    (apply lxk_fa (val:=(fun g=>Value.agg #[Value.bool (minusZ ((minusZ (((rowT q n x).getD (k + 1) default).fst,val ((rowT q n x).getD (k + 1) default).snd) (((rowT q n x).getD k default).fst,val ((rowT q n x).getD k default).snd)).fst,val (limbs (minusZ (((rowT q n x).getD (k + 1) default).fst,val ((rowT q n x).getD (k + 1) default).snd) (((rowT q n x).getD k default).fst,val ((rowT q n x).getD k default).snd)).snd)) ((timesZ (false,val (limbs (q - 1))) ((enz (tz q n (x + 1) (k + 1 - 1))).fst,val (enz (tz q n (x + 1) (k + 1 - 1))).snd)).fst,val (limbs (timesZ (false,val (limbs (q - 1))) ((enz (tz q n (x + 1) (k + 1 - 1))).fst,val (enz (tz q n (x + 1) (k + 1 - 1))).snd)).snd))).fst,Value.slice (g 0).fst (limbs (minusZ ((minusZ (((rowT q n x).getD (k + 1) default).fst,val ((rowT q n x).getD (k + 1) default).snd) (((rowT q n x).getD k default).fst,val ((rowT q n x).getD k default).snd)).fst,val (limbs (minusZ (((rowT q n x).getD (k + 1) default).fst,val ((rowT q n x).getD (k + 1) default).snd) (((rowT q n x).getD k default).fst,val ((rowT q n x).getD k default).snd)).snd)) ((timesZ (false,val (limbs (q - 1))) ((enz (tz q n (x + 1) (k + 1 - 1))).fst,val (enz (tz q n (x + 1) (k + 1 - 1))).snd)).fst,val (limbs (timesZ (false,val (limbs (q - 1))) ((enz (tz q n (x + 1) (k + 1 - 1))).fst,val (enz (tz q n (x + 1) (k + 1 - 1))).snd)).snd))).snd).length (g 1).snd.fst])) (f:=(fun g=>[slF U32 (g 0).fst (limbs (minusZ ((minusZ (((rowT q n x).getD (k + 1) default).fst,val ((rowT q n x).getD (k + 1) default).snd) (((rowT q n x).getD k default).fst,val ((rowT q n x).getD k default).snd)).fst,val (limbs (minusZ (((rowT q n x).getD (k + 1) default).fst,val ((rowT q n x).getD (k + 1) default).snd) (((rowT q n x).getD k default).fst,val ((rowT q n x).getD k default).snd)).snd)) ((timesZ (false,val (limbs (q - 1))) ((enz (tz q n (x + 1) (k + 1 - 1))).fst,val (enz (tz q n (x + 1) (k + 1 - 1))).snd)).fst,val (limbs (timesZ (false,val (limbs (q - 1))) ((enz (tz q n (x + 1) (k + 1 - 1))).fst,val (enz (tz q n (x + 1) (k + 1 - 1))).snd)).snd))).snd).length (g 1).snd.fst (limbs (minusZ ((minusZ (((rowT q n x).getD (k + 1) default).fst,val ((rowT q n x).getD (k + 1) default).snd) (((rowT q n x).getD k default).fst,val ((rowT q n x).getD k default).snd)).fst,val (limbs (minusZ (((rowT q n x).getD (k + 1) default).fst,val ((rowT q n x).getD (k + 1) default).snd) (((rowT q n x).getD k default).fst,val ((rowT q n x).getD k default).snd)).snd)) ((timesZ (false,val (limbs (q - 1))) ((enz (tz q n (x + 1) (k + 1 - 1))).fst,val (enz (tz q n (x + 1) (k + 1 - 1))).snd)).fst,val (limbs (timesZ (false,val (limbs (q - 1))) ((enz (tz q n (x + 1) (k + 1 - 1))).fst,val (enz (tz q n (x + 1) (k + 1 - 1))).snd)).snd))).snd)]));(· rfl);(· exact d_x fun _=>x_call [2,0] rfl (S_macwilliams_minus (by omega) (by omega)) rfl (by rintro _ _ _ ⟨pag0,cag1,rfl,rfl,rfl⟩;exact fun _ _ _ hG=>⟨(fun | 0=>(pag0,0,0,[]) | 1=>(none,cag1,0,[]) | _=>default),rfl,fun g hg=>drop_own (hG _ (List.mem_append_left _ hg))⟩));intro g7;dsimp only [List.map_cons,List.map_nil])
    (apply lxk_sl;(· rfl);(· exact d_x fun _=>x_lit sl103 zo103e rfl rfl rfl rfl (by decide) (by decide) rfl fun b10=>dk_all (E:=IntE) [[Value.bool (minusZ ((minusZ (((rowT q n x).getD (k + 1) default).fst,val ((rowT q n x).getD (k + 1) default).snd) (((rowT q n x).getD k default).fst,val ((rowT q n x).getD k default).snd)).fst,val (limbs (minusZ (((rowT q n x).getD (k + 1) default).fst,val ((rowT q n x).getD (k + 1) default).snd) (((rowT q n x).getD k default).fst,val ((rowT q n x).getD k default).snd)).snd)) ((timesZ (false,val (limbs (q - 1))) ((enz (tz q n (x + 1) (k + 1 - 1))).fst,val (enz (tz q n (x + 1) (k + 1 - 1))).snd)).fst,val (limbs (timesZ (false,val (limbs (q - 1))) ((enz (tz q n (x + 1) (k + 1 - 1))).fst,val (enz (tz q n (x + 1) (k + 1 - 1))).snd)).snd))).fst,Value.slice (g7 0).fst (limbs (minusZ ((minusZ (((rowT q n x).getD (k + 1) default).fst,val ((rowT q n x).getD (k + 1) default).snd) (((rowT q n x).getD k default).fst,val ((rowT q n x).getD k default).snd)).fst,val (limbs (minusZ (((rowT q n x).getD (k + 1) default).fst,val ((rowT q n x).getD (k + 1) default).snd) (((rowT q n x).getD k default).fst,val ((rowT q n x).getD k default).snd)).snd)) ((timesZ (false,val (limbs (q - 1))) ((enz (tz q n (x + 1) (k + 1 - 1))).fst,val (enz (tz q n (x + 1) (k + 1 - 1))).snd)).fst,val (limbs (timesZ (false,val (limbs (q - 1))) ((enz (tz q n (x + 1) (k + 1 - 1))).fst,val (enz (tz q n (x + 1) (k + 1 - 1))).snd)).snd))).snd).length (g7 1).snd.fst]] [((minusZ ((minusZ (((rowT q n x).getD (k + 1) default).fst,val ((rowT q n x).getD (k + 1) default).snd) (((rowT q n x).getD k default).fst,val ((rowT q n x).getD k default).snd)).fst,val (limbs (minusZ (((rowT q n x).getD (k + 1) default).fst,val ((rowT q n x).getD (k + 1) default).snd) (((rowT q n x).getD k default).fst,val ((rowT q n x).getD k default).snd)).snd)) ((timesZ (false,val (limbs (q - 1))) ((enz (tz q n (x + 1) (k + 1 - 1))).fst,val (enz (tz q n (x + 1) (k + 1 - 1))).snd)).fst,val (limbs (timesZ (false,val (limbs (q - 1))) ((enz (tz q n (x + 1) (k + 1 - 1))).fst,val (enz (tz q n (x + 1) (k + 1 - 1))).snd)).snd))).fst,limbs (minusZ ((minusZ (((rowT q n x).getD (k + 1) default).fst,val ((rowT q n x).getD (k + 1) default).snd) (((rowT q n x).getD k default).fst,val ((rowT q n x).getD k default).snd)).fst,val (limbs (minusZ (((rowT q n x).getD (k + 1) default).fst,val ((rowT q n x).getD (k + 1) default).snd) (((rowT q n x).getD k default).fst,val ((rowT q n x).getD k default).snd)).snd)) ((timesZ (false,val (limbs (q - 1))) ((enz (tz q n (x + 1) (k + 1 - 1))).fst,val (enz (tz q n (x + 1) (k + 1 - 1))).snd)).fst,val (limbs (timesZ (false,val (limbs (q - 1))) ((enz (tz q n (x + 1) (k + 1 - 1))).fst,val (enz (tz q n (x + 1) (k + 1 - 1))).snd)).snd))).snd)] (fun w A hG=>(allrd_cons (rd_pair (v1:=[Value.bool (minusZ ((minusZ (((rowT q n x).getD (k + 1) default).fst,val ((rowT q n x).getD (k + 1) default).snd) (((rowT q n x).getD k default).fst,val ((rowT q n x).getD k default).snd)).fst,val (limbs (minusZ (((rowT q n x).getD (k + 1) default).fst,val ((rowT q n x).getD (k + 1) default).snd) (((rowT q n x).getD k default).fst,val ((rowT q n x).getD k default).snd)).snd)) ((timesZ (false,val (limbs (q - 1))) ((enz (tz q n (x + 1) (k + 1 - 1))).fst,val (enz (tz q n (x + 1) (k + 1 - 1))).snd)).fst,val (limbs (timesZ (false,val (limbs (q - 1))) ((enz (tz q n (x + 1) (k + 1 - 1))).fst,val (enz (tz q n (x + 1) (k + 1 - 1))).snd)).snd))).fst]) (rd_bool _) (rd_of_slF (hG _ (fact_mem (n:=0) rfl)))) allrd_nil)) rfl rfl rfl (by first | decide | exact Nat.le_of_ble_eq_true rfl));intro pa3 ca3)
    refine lxk_end rfl ?_
    simp only [List.map_cons,List.map_nil,List.cons_append,List.nil_append]
    refine j_step rfl (x_appS 0 9 0 rfl rfl rfl rfl rfl sl103 zo103e rfl (by omega) _ by103e (by omega) fun r1=>?_)
    refine j_run it 1 rfl (by simp) ?_
    refine j_nf [_,_,_,_,_,_,_,_,_] rfl ?_
    refine j_run it 3 rfl ⟨trivial,⟨by omega,by omega⟩,trivial,trivial⟩ ?_
    refine j_nfn 1 [.lp (pL 1037108),.blk 4,.c (pL 129639),.blk 3,.c (pL 8103),.lp (pL 1012),.blk 2,.c (pL 127)] rfl ?_
    simp only [eA,eB',val_enz,val_limbs,hq1,zs_eta,Nat.add_sub_cancel]
    rw [show ((minusZ (minusZ (tz q n x (k + 1)) (tz q n x k)) (timesZ (false,q - 1) (tz q n (x + 1) k))).1,limbs (minusZ (minusZ (tz q n x (k + 1)) (tz q n x k)) (timesZ (false,q - 1) (tz q n (x + 1) k))).2) = enz (tz q n (x + 1) (k + 1)) from rfl,← range_snoc fun k=>enz (tz q n (x + 1) k)]
    refine j_to [0,11,12,13,14,15,16] (by exact fra rfl) rfl rfl (ihk (k + 1 + 1,r1) (by dsimp only;omega) ⟨by dsimp only;omega,by dsimp only;omega⟩)
   ·obtain rfl : n = k:=by omega
    refine j_nf [_,_,_,_,_,_,_,_,_,_,_] rfl ?_
    refine j_run it 3 rfl (by simp) ?_
    refine j_nf [_,_,_,_,_,_,_,_,_,_] rfl ?_
    refine j_if rfl rfl (fun h3=>by exfalso;omega) (fun h3=>?_)
    refine j_nf [_,_,_,_,_,_] rfl ?_
    refine j_run it 2 rfl (by simp) ?_
    refine j_step rfl (x_lit sl118 zo118e rfl rfl rfl rfl (by decide) (by decide) rfl fun b7=>?_)
    refine j_pubR 1 0 rfl rfl (by show (n + 1) * 32 ≤ 140737488355328;omega) ?_
    refine j_step rfl (x_appR (z:=List.map (fun k=>enz (tz q n (x + 1) k)) (List.range (n + 1))) 2 0 6 rfl rfl rfl rfl rfl sl118 zo118e rfl (fun w A hG=>(rd_of_slF (hG _ (fact_mem (n:=0) rfl)))) (by omega) _ by118e (by omega) fun r1=>?_)
    refine j_run it 1 rfl (by simp) ?_
    refine j_nf [_,_,_,_] rfl ?_
    refine j_run it 2 rfl ⟨trivial,⟨by omega,by omega⟩,trivial⟩ ?_
    refine j_nfn 1 [.lp (pL 1012),.blk 2,.c (pL 127)] rfl ?_
    rw [show ((List.range (n + 1)).map fun k=>enz (tz q n (x + 1) k)) = rowT q n (x + 1) from rfl,← range_snoc (rowT q n)]
    refine j_toX [2,0] [0,8] (by exact fra rfl) rfl rfl rfl (ih (x + 1,r1) (by dsimp only;omega) (by dsimp only;omega))
  ·obtain rfl : x = n:=by omega
   refine j_nf [_,_,_,_,_] rfl ?_
   refine j_run it 1 rfl (by simp) ?_
   refine j_nf [_,_,_,_,_] rfl ?_
   refine j_if rfl rfl (fun h2=>by exfalso;omega) (fun h2=>?_)
   refine j_nf [_,_] rfl ?_
   refine j_run it 2 rfl (by simp) ?_
   refine j_nf [_] rfl ?_
   refine j_pubR 1 0 rfl rfl (by show (x + 1) * 24 ≤ 140737488355328;omega) ?_
   refine j_giv [0] rfl rfl rfl ⟨_,_,by rw [tabT_len];rfl,by rw [tabT_len];rfl,rfl⟩
theorem S_codewrightref24_Krawtchouk {q n k x : Nat} (hq : 2 ≤ q) (hq2 : q ≤ 256) (hn : n ≤ 64) (hk : k ≤ n) (hx : x ≤ n) :
  Ctr Tryz.prog 46 [.int .i64 q,.int .i64 n,.int .i64 k,.int .i64 x] [] [] (RtV (rt ((kr ((q : Int) - 1) n k x : Int) : Rat))):=by
 refine Ctr_of_j' (F:=F_codewrightref24_Krawtchouk) rfl fun C=>?_
 have hi0 : InR .i64 0:=by simp [InR]
 refine j_nf [_,_] rfl (j_step rfl (x_alloc zo26 fun b1=>?_))
 refine j_nf [_,_] rfl (j_step rfl (x_call [] rfl (S_codewrightref02_Int (by omega)) rfl ?_))
 rintro _ _ _ ⟨pn1,cn1,pd1,cd1,rfl,rfl,rfl⟩
 simp only [List.cons_append,List.nil_append]
 refine j_step rfl (x_alloc zo26 fun b2=>?_)
 refine j_step rfl (x_bst_all 0 rfl rfl rfl ld26 rfl rfl (by simp [Value.oneCell']) ?_)
 refine j_nf [_,_,_] rfl (j_run it 1 rfl (by simp) ?_)
 refine j_nf [_,_,_] rfl ?_
 rw [show (((0 : Int) : Rat)) = ((sm 0 (krTerm q n k x) : Int) : Rat) from rfl]
 refine j_loopG (X:=Nat × (Option Addr × Nat) × (Option Addr × Nat)) [0,1,2,3,8,9] [] (fun y=>[(10,.int .i64 y.1)])
  (fun y=>[(some b2,26,[.bool (rt ((sm y.1 (krTerm q n k x) : Int) : Rat)).1,.slice y.2.1.1 (rt ((sm y.1 (krTerm q n k x) : Int) : Rat)).2.1.length y.2.1.2,.slice y.2.2.1 (rt ((sm y.1 (krTerm q n k x) : Int) : Rat)).2.2.length y.2.2.2]),(some b1,26,[.bool false,.slice none 0 0,.slice none 0 0])])
  (fun y=>[slF U32 y.2.1.1 (rt ((sm y.1 (krTerm q n k x) : Int) : Rat)).2.1.length y.2.1.2 (rt ((sm y.1 (krTerm q n k x) : Int) : Rat)).2.1,slF U32 y.2.2.1 (rt ((sm y.1 (krTerm q n k x) : Int) : Rat)).2.2.length y.2.2.2 (rt ((sm y.1 (krTerm q n k x) : Int) : Rat)).2.2])
  (fun y=>y.1 ≤ k + 1) (fun y=>k + 1 - y.1) (0,(pn1,cn1),(pd1,cd1)) [0,1] rfl rfl rfl (Nat.zero_le _) (by repeat (first | exact Fr.sub_nil _ | refine Fr.sub_cons rfl ?_)) rfl rfl ?_
 rintro ⟨j,⟨pn,cn⟩,⟨pd,cd⟩⟩ hj ih
 simp only [List.cons_append,List.nil_append] at hj ih ⊢
 by_cases hjl : j ≤ k
 ·have hq1 : val (limbs (q - 1)) = q - 1:=val_limbs _
  have hq3 : val (limbs (q - 1)) < 4294967296:=by omega
  have hp:=pow_len hq3 (show k - j ≤ 64 by omega)
  have hb1:=binom_len (show x ≤ 4096 by omega) j
  have hb2:=binom_len (show n - x ≤ 4096 by omega) (k - j)
  have hM : (limbs (val (limbs (binom x j)) * val (limbs (binom (n - x) (k - j))))).length ≤ 129 + 129:=by rw [val_limbs,val_limbs];exact prod_lim hb1 hb2
  have eS : val (limbs (val (limbs (q - 1)) ^ (k - j))) * val (limbs (val (limbs (binom x j)) * val (limbs (binom (n - x) (k - j))))) = krSize q n k x j:=by
   simp only [val_limbs,krSize]
  have hS : (limbs (krSize q n k x j)).length ≤ 23:=limbs_length_le (krSize_lt hq2 hn hk hx)
  have hR:=rt_int_len (z:=(krSize q n k x j : Int)) (m:=23) (by rw [Int.natAbs_natCast];exact krSize_lt hq2 hn hk hx)
  have hT:=rt_int_len (z:=krTerm q n k x j) (m:=23) (by rw [krTerm_abs (by omega)];exact krSize_lt hq2 hn hk hx)
  obtain ⟨hR1,hR2⟩:=hR
  obtain ⟨hT1,hT2⟩:=hT
  obtain ⟨hO1,hO2⟩:=rt_int_len (krPart_lt (by omega) hq2 hn hk hx (show j ≤ 65 by omega))
  have eA : ((sm j (krTerm q n k x) : Int) : Rat) + ((krTerm q n k x j : Int) : Rat) = ((sm (j + 1) (krTerm q n k x) : Int) : Rat):=by rw [sm,Rat.intCast_add]
  refine j_nf [_,_,_,_,_,_] rfl (j_run it 3 rfl (by simp) ?_)
  refine j_nf [_,_,_,_,_] rfl (j_if rfl rfl (fun h1=>?_) (fun h1=>by exfalso;omega))
  refine j_nf [_,_,_,_,_,_,_] rfl (j_run it 3 rfl ⟨⟨by omega,by omega⟩,⟨by omega,by omega⟩,trivial,trivial⟩ ?_)
  refine j_recast (t:=23) ((((q) - 1) : Nat) : Int) rfl (by omega) ?_
  refine j_step rfl (x_call [] rfl (S_codewrightref01_Of (by omega)) rfl ?_)
  rintro _ _ _ ⟨pa1,ca1,rfl,rfl,rfl⟩
  simp only [List.cons_append,List.nil_append]
  refine j_run it 3 rfl ⟨⟨by omega,by omega⟩,trivial,trivial,trivial⟩ ?_
  refine j_recast (t:=27) ((((k) - (j)) : Nat) : Int) rfl (by omega) ?_
  refine j_step rfl (x_call [0] rfl (S_codewrightref01_Pow (by omega) (by omega)) rfl ?_)
  rintro _ _ _ ⟨pa2,ca2,rfl,rfl,rfl⟩
  simp only [List.cons_append,List.nil_append]
  refine j_run it 5 rfl (by simp) ?_
  refine j_nf [_,_,_,_,_,_,_] rfl (j_run it 3 rfl (by simp) ?_)
  refine j_step rfl (x_call [] rfl (S_codewrightref01_Choose (by omega)) rfl ?_)
  rintro _ _ _ ⟨pa3,ca3,rfl,rfl,rfl⟩
  simp only [List.cons_append,List.nil_append]
  refine j_run it 6 rfl ⟨⟨by omega,by omega⟩,trivial,trivial,⟨by omega,by omega⟩,trivial,trivial,trivial⟩ ?_
  refine j_recast (t:=37) ((((n) - (x)) : Nat) : Int) rfl (by omega) ?_
  refine j_recast (t:=40) ((((k) - (j)) : Nat) : Int) rfl (by omega) ?_
  refine j_step rfl (x_call [] rfl (S_codewrightref01_Choose (by omega)) rfl ?_)
  rintro _ _ _ ⟨pa4,ca4,rfl,rfl,rfl⟩
  simp only [List.cons_append,List.nil_append]
  refine j_step rfl (x_call [1,0] rfl (S_codewrightref01_Mul (by omega) (by omega)) rfl ?_)
  rintro _ _ _ ⟨pa5,ca5,rfl,rfl,rfl⟩
  simp only [List.cons_append,List.nil_append]
  refine j_step rfl (x_call [3,0] rfl (S_codewrightref01_Mul (by omega) (by omega)) rfl ?_)
  rintro _ _ _ ⟨pa6,ca6,rfl,rfl,rfl⟩
  simp only [List.cons_append,List.nil_append]
  rw [eS]
  have ho : j % 2 = 1 → -(((val (limbs (krSize q n k x j)) : Nat) : Int) : Rat) = ((krTerm q n k x j : Int) : Rat):=fun h=>by rw [val_limbs,krTerm_odd (by omega) h,Rat.intCast_neg]
  have he : ¬ j % 2 = 1 → (((val (limbs (krSize q n k x j)) : Nat) : Int) : Rat) = ((krTerm q n k x j : Int) : Rat):=fun h=>by rw [val_limbs,krTerm_even (by omega) h]
  rw [← val_limbs (krSize q n k x j)] at hR1 hR2
  refine j_step rfl (x_call [0] rfl (S_codewrightref02_Nat (by omega)) rfl ?_)
  rintro _ _ _ ⟨pn2,cn2,pd2,cd2,rfl,rfl,rfl⟩
  simp only [List.cons_append,List.nil_append]
  refine j_step rfl (x_alloc zo26 fun b3=>?_)
  refine j_step rfl (x_bst_all 0 rfl rfl rfl ld26 rfl rfl (by simp [Value.oneCell']) ?_)
  refine j_nf [_,_,_,_,_,_,_,_] rfl (j_run it 3 rfl (by simp) ?_)
  refine j_nf [_,_,_,_,_,_,_] rfl (j_if rfl rfl (fun h2=>?_) (fun h2=>?_))
  ·refine j_nf [_,_,_,_,_,_,_] rfl (j_step rfl (x_bld_all 0 rfl rfl ld26 rfl ?_))
   refine j_step rfl (x_call [0,1] rfl (S_codewrightref02_Neg (by omega) (by omega)) rfl ?_)
   rintro _ _ _ ⟨pn3,cn3,pd3,cd3,rfl,rfl,rfl⟩
   simp only [List.cons_append,List.nil_append]
   simp only [vq_rt']
   refine j_step rfl (x_bst_all 0 rfl rfl rfl ld26 rfl rfl (by simp [Value.oneCell']) ?_)
   refine j_nf [_,_,_,_,_,_] rfl (j_step rfl (x_bld_all 1 rfl rfl ld26 rfl ?_))
   refine j_step rfl (x_bld_all 0 rfl rfl ld26 rfl ?_)
   rw [ho (by omega)]
   refine j_step rfl (x_call [10,11,0,1] rfl (S_codewrightref02_Add (by omega) (by omega) (by omega) (by omega)) rfl ?_)
   rintro _ _ _ ⟨pn4,cn4,pd4,cd4,rfl,rfl,rfl⟩
   simp only [List.cons_append,List.nil_append]
   simp only [vq_rt']
   refine j_step rfl (x_bst_all 1 rfl rfl rfl ld26 rfl rfl (by simp [Value.oneCell']) ?_)
   refine j_nf [_,_,_,_] rfl (j_run it 3 rfl ⟨trivial,⟨by omega,by omega⟩,trivial,trivial⟩ ?_)
   refine j_nfn 1 [.lp (pL 116),.blk 0,.c [1,1,1]] rfl ?_
   rw [eA]
   refine j_toM [false,true,true] [0,1] (by exact fra rfl) rfl rfl (ih (j + 1,(pn4,cn4),(pd4,cd4)) (by dsimp only;omega) (by dsimp only;omega))
  ·refine j_nf [_,_,_,_,_,_] rfl (j_step rfl (x_bld_all 1 rfl rfl ld26 rfl ?_))
   refine j_step rfl (x_bld_all 0 rfl rfl ld26 rfl ?_)
   rw [he (by omega)]
   refine j_step rfl (x_call [8,9,0,1] rfl (S_codewrightref02_Add (by omega) (by omega) (by omega) (by omega)) rfl ?_)
   rintro _ _ _ ⟨pn3,cn3,pd3,cd3,rfl,rfl,rfl⟩
   simp only [List.cons_append,List.nil_append]
   simp only [vq_rt']
   refine j_step rfl (x_bst_all 1 rfl rfl rfl ld26 rfl rfl (by simp [Value.oneCell']) ?_)
   refine j_nf [_,_,_,_] rfl (j_run it 3 rfl ⟨trivial,⟨by omega,by omega⟩,trivial,trivial⟩ ?_)
   refine j_nfn 1 [.lp (pL 116),.blk 0,.c [1,1,1]] rfl ?_
   rw [eA]
   refine j_toM [false,true,true] [0,1] (by exact fra rfl) rfl rfl (ih (j + 1,(pn3,cn3),(pd3,cd3)) (by dsimp only;omega) (by dsimp only;omega))
 ·obtain rfl : j = k + 1:=by omega
  refine j_nf [_,_,_,_,_,_] rfl (j_run it 3 rfl (by simp) ?_)
  refine j_nf [_,_,_,_,_] rfl (j_if rfl rfl (fun h1=>by exfalso;omega) (fun h1=>?_))
  refine j_nf [_,_] rfl (j_step rfl (x_bld_all 0 rfl rfl ld26 rfl ?_))
  refine j_step rfl (x_bst_all 1 rfl rfl rfl ld26 rfl rfl (by simp [Value.oneCell']) ?_)
  refine j_nf [_] rfl ?_
  rw [← krTerm_sum]
  refine j_givC [0,1] rfl (.agg 1 rfl rfl ld26 rfl .nil) rfl ⟨_,_,_,_,rfl,rfl,rfl⟩
theorem S_codewrightref02_Is {g : Bool} {pn pd : Option Addr} {n m cn cd : Nat} {N D : List Nat} (hN : N.length ≤ 1073741824) (hD : D.length ≤ 1073741824) :
  Ctr Tryz.prog 12 [.agg #[.bool g,.slice pn n cn,.slice pd m cd]] [] [slF U32 pn n cn N,slF U32 pd m cd D] (Rv (.bool (decide ((g,N,D) = rt (vq (g,N,D))))) []):=by
 refine Ctr_of_j' (F:=F_codewrightref02_Is) rfl fun C=>?_
 refine j_nf [_,_] rfl ?_
 refine j_step rfl (x_box_agg rfl fun b1=>?_)
 refine j_run it 1 rfl (by simp) ?_
 refine j_nf [_,_] rfl ?_
 (apply j_drawK it mx 4;(· rfl);(· rfl))
 (apply lxk_eq;(· rfl);(· exact d_bld_all 0 rfl rfl ld26 rfl))
 (apply lxk_eq;(· rfl);(· exact d_bld_all 0 rfl rfl ld26 rfl))
 (apply lxk_rq;(· rfl);(· exact d_x fun _=>x_call [0,1] rfl (S_codewrightref02_Trim (by omega) (by omega)) rfl (by rintro _ _ _ ⟨pn1,cn1,pd1,cd1,rfl,rfl,rfl⟩;exact (dk_rq 0 1 rfl rfl)));intro pn1 cn1 pd1 cd1)
 simp only [vq_rt']
 (apply lxk_eq;(· rfl);(· exact d_x fun _=>x_call [2,3,0,1] rfl (S_codewrightref02_Same) rfl (by rintro _ _ _ ⟨rfl,rfl,rfl⟩;exact dk_eq)))
 simp only [vq_rt']
 refine lxk_end rfl ?_
 simp only [List.map_cons,List.map_nil,List.cons_append,List.nil_append]
 refine j_run it 1 rfl (by simp) ?_
 refine j_nf [_] rfl ?_
 refine j_giv [] rfl rfl rfl ⟨rfl,rfl,rfl⟩
abbrev RtErr (r : Rt) (e : Int) : Value → List Fact → List Blk → Prop:=fun v Φ β=>∃ pn cn pd cd,v = .tuple #[.agg #[.bool r.1,.slice pn r.2.1.length cn,.slice pd r.2.2.length cd],.int .i64 e] ∧ Φ = [slF U32 pn r.2.1.length cn r.2.1,slF U32 pd r.2.2.length cd r.2.2] ∧ β = []
theorem okR_at {K : Nat} {l : List Rt} (h : ∀ r ∈ l,okR K r) {k : Nat} (hk : k < l.length) : okR K (l.getD k default):=h _ (List.mem_of_getElem? (getD_at hk))
theorem S_rational_DotN {pa pb : Option Addr} {n m ca cb K : Nat} {a b : List Rt} (Z : Nat) (hK : 1 ≤ K) (hK2 : K ≤ 1000000) (hZ : (2 * K + 1) * Z + 1 ≤ 16000081) (hn : n ≤ Z) (ha : ∀ r ∈ a,okR K r) (hb : ∀ r ∈ b,okR K r) (hnm : n = m) :
  Ctr Tryz.prog 42 [.slice pa n ca,.slice pb m cb] [] [slF RatE pa n ca a,slF RatE pb m cb b] (RtErr (rt (dotR a b)) 0):=by
 refine Ctr_of_j' (F:=F_rational_Dot) rfl fun C=>?_
 have hZ' : Z ≤ 16000081:=by have:=Nat.le_mul_of_pos_left Z (show 0 < 2 * K + 1 by omega);omega
 refine j_len 0 rfl fun ea _ _=>?_
 refine j_len 1 rfl fun eb _ _=>?_
 refine j_nf [_,_] rfl ?_
 refine j_step rfl (x_alloc zo26 fun b1=>?_)
 refine j_run it 1 rfl (by simp) ?_
 refine j_nf [_,_,_] rfl ?_
 refine j_run it 1 rfl (by simp) ?_
 refine j_step rfl (x_len sl27 rfl ?_)
 refine j_run it 1 rfl (by simp) ?_
 refine j_step rfl (x_len sl27 rfl ?_)
 refine j_run it 1 rfl (by simp) ?_
 refine j_nf [_,_] rfl ?_
 refine j_ifn rfl rfl (fun h1=>by exfalso;omega) (fun h1=>?_)
 refine j_nf [_,_] rfl ?_
 refine j_step rfl (x_call [] rfl (S_rational_one) rfl ?_)
 rintro _ _ _ ⟨pa1,ca1,rfl,rfl,rfl⟩
 simp only [List.cons_append,List.nil_append]
 refine j_step rfl (x_build (cs:=[Value.bool false,Value.slice none 0 0,Value.slice pa1 [1].length ca1]) st26 zo26 rfl rfl ?_)
 refine j_step rfl (x_alloc zo26 fun b2=>?_)
 refine j_step rfl (x_bst_all 0 rfl rfl rfl ld26 rfl rfl (by simp [Value.oneCell']) ?_)
 refine j_nf [_,_,_] rfl ?_
 refine j_run it 1 rfl (by simp) ?_
 refine j_step rfl (x_len sl27 rfl ?_)
 refine j_run it 1 rfl (by simp) ?_
 refine j_nf [_,_,_] rfl ?_
 subst ea
 refine j_add (slF U32 none 0 0 []) (fun w A _=>slF_nil _ _ _ _ _) ?_
 refine j_loopG (X:=Nat × Rat × (Option Addr × Nat) × (Option Addr × Nat)) [0,1,4,5,6,17] [0,1,2,3] (fun x=>[(18,.int .i64 x.1)])
  (fun x=>[(some b2,26,[.bool (rt x.2.1).1,.slice x.2.2.1.1 (rt x.2.1).2.1.length x.2.2.1.2,.slice x.2.2.2.1 (rt x.2.1).2.2.length x.2.2.2.2]),(some b1,26,[.bool false,.slice none 0 0,.slice none 0 0])])
  (fun x=>[slF U32 x.2.2.1.1 (rt x.2.1).2.1.length x.2.2.1.2 (rt x.2.1).2.1,slF U32 x.2.2.2.1 (rt x.2.1).2.2.length x.2.2.2.2 (rt x.2.1).2.2])
  (fun x=>x.1 ≤ a.length ∧ x.2.1 = dotR (a.take x.1) (b.take x.1)) (fun x=>a.length - x.1) (0,0,(none,0),(pa1,ca1)) [0,1] rfl rfl rfl ⟨Nat.zero_le _,rfl⟩ (by repeat (first | exact Fr.sub_nil _ | refine Fr.sub_cons rfl ?_)) (by rw [rt_zero];rfl) (by rw [rt_zero];rfl) ?_
 rintro ⟨k,q,⟨pn,cn⟩,⟨pd,cd⟩⟩ ⟨hk,hq⟩ ih
 simp only [List.cons_append,List.nil_append] at hk hq ih ⊢
 by_cases hkl : k < a.length
 ·have z1:=okR_at ha hkl
  have z2:=okR_at hb (show k < b.length by omega)
  have b1 : bd 16000081 q:=bd_mono (by rw [hq];exact dotR_take_bd hK ha hb (by omega)) hZ
  have b2:=bd_mono (mul_bd2 hK z1 z2) (show 2 * K ≤ 2000000 by omega)
  obtain ⟨w1,w2⟩:=bd_len b1
  obtain ⟨w3,w4⟩:=bd_len b2
  have hL : ∀ r ∈ [a.getD k default,b.getD k default],r.2.1.length ≤ K ∧ r.2.2.length ≤ K:=fun r hr=>by
   rcases List.mem_cons.1 hr with rfl | hr
   ·exact z1.2.2
   ·rw [List.mem_singleton.1 hr];exact z2.2.2
  have ep : prodQ [((a.getD k default).1,(a.getD k default).2.1,(a.getD k default).2.2),((b.getD k default).1,(b.getD k default).2.1,(b.getD k default).2.2)] = vq (a.getD k default) * vq (b.getD k default):=prodQ_two _ _
  rw [← ep] at w3 w4
  refine j_nf [_,_,_,_,_] rfl ?_
  refine j_run it 1 rfl (by simp) ?_
  refine j_nf [_,_,_,_,_] rfl ?_
  refine j_if rfl rfl (fun h2=>?_) (fun h2=>by exfalso;omega)
  refine j_nf [_,_,_,_,_,_,_] rfl ?_
  refine j_run it 2 rfl (by simp) ?_
  refine j_nf [_,_,_,_,_,_] rfl ?_
  (apply j_drawK it mx 12;(· rfl);(· rfl))
  (apply lxk_eq;(· rfl);(· exact d_bld_all 0 rfl rfl ld26 rfl))
  (apply lxk_run 2;(· rfl);(· simp))
  (apply lxk_pt;(· rfl);(· exact d_x fun _=>x_idx 4 (k) rfl rfl rfl sl27 rfl (by omega) fun z3 hz1 b3 o1=>(dk_ptD default hz1 0 rfl));intro b3 o1)
  (apply lxk_rq;(· rfl);(· exact d_x fun _=>x_ld_rt 0 rfl rfl ld26 fun pa2 ca2 pa3 ca3=>(dk_rq 0 1 rfl rfl));intro pn1 cn1 pd1 cd1)
  (apply lxk_run 2;(· rfl);(· simp))
  (apply lxk_pt;(· rfl);(· exact d_x fun _=>x_idx 5 (k) rfl rfl rfl sl27 rfl (by omega) fun z3 hz1 b4 o2=>(dk_ptD default hz1 0 rfl));intro b4 o2)
  (apply lxk_rq;(· rfl);(· exact d_x fun _=>x_ld_rt 0 rfl rfl ld26 fun pa2 ca2 pa3 ca3=>(dk_rq 0 1 rfl rfl));intro pn2 cn2 pd2 cd2)
  (apply lxk_sl;(· rfl);(· exact d_x fun _=>x_lit sl27 zo27e rfl rfl rfl rfl (by decide) (by decide) rfl fun b5=>dk_all (E:=RatE) [[Value.bool (a.getD k default).fst,Value.slice pn1 (a.getD k default).snd.fst.length cn1,Value.slice pd1 (a.getD k default).snd.snd.length cd1],[Value.bool (b.getD k default).fst,Value.slice pn2 (b.getD k default).snd.fst.length cn2,Value.slice pd2 (b.getD k default).snd.snd.length cd2]] [((a.getD k default).fst,(a.getD k default).snd.fst,(a.getD k default).snd.snd),((b.getD k default).fst,(b.getD k default).snd.fst,(b.getD k default).snd.snd)] (fun w A hG=>(allrd_cons (rd_rt (hG _ (fact_mem (n:=3) rfl)) (hG _ (fact_mem (n:=4) rfl))) (allrd_cons (rd_rt (hG _ (fact_mem (n:=0) rfl)) (hG _ (fact_mem (n:=1) rfl))) allrd_nil))) rfl rfl rfl (by first | decide | exact Nat.le_of_ble_eq_true rfl));intro pa2 ca2)
  (apply lxk_rq;(· rfl);(· exact d_x fun _=>x_call [0] rfl (S_rational_Mul (by omega) (by omega) (by simp;omega) (by omega)) rfl (by rintro _ _ _ ⟨pn3,cn3,pd3,cd3,rfl,rfl,rfl⟩;exact (dk_rq 0 1 rfl rfl)));intro pn3 cn3 pd3 cd3)
  simp only [vq_rt']
  (apply lxk_rq;(· rfl);(· exact d_x fun _=>x_call [9,10,0,1] rfl (S_rational_plus (by rfl) (by rfl) (by omega) (by omega) (by omega) (by omega)) rfl (by rintro _ _ _ ⟨pn4,cn4,pd4,cd4,rfl,rfl,rfl⟩;exact (dk_rq 0 1 rfl rfl)));intro pn4 cn4 pd4 cd4)
  simp only [vq_rt']
  refine lxk_end rfl ?_
  simp only [List.map_cons,List.map_nil,List.cons_append,List.nil_append]
  refine j_step rfl (x_bst_all 0 rfl rfl rfl ld26 rfl rfl (by simp [Value.oneCell']) ?_)
  refine j_nf [_,_,_,_] rfl ?_
  refine j_run it 2 rfl ⟨trivial,⟨by omega,by omega⟩,trivial⟩ ?_
  refine j_nfn 1 [.lp (pL 244),.blk 0,.c [1,1,1,1]] rfl ?_
  rw [ep]
  refine j_to [0,1,13,14,15,16] (by exact fra rfl) rfl rfl (ih (k + 1,q + vq (a.getD k default) * vq (b.getD k default),(pn4,cn4),(pd4,cd4)) (by dsimp only;omega) ⟨by dsimp only;omega,by dsimp only;rw [dotR_succ (getD_at hkl) (getD_at (show k < b.length by omega)),hq]⟩)
 ·obtain rfl : k = a.length:=by omega
  rw [List.take_length,show a.length = b.length by omega,List.take_length] at hq
  subst hq
  refine j_nf [_,_,_,_,_] rfl ?_
  refine j_run it 1 rfl (by simp) ?_
  refine j_nf [_,_,_,_,_] rfl ?_
  refine j_if rfl rfl (fun h2=>by exfalso;omega) (fun h2=>?_)
  refine j_nf [_,_] rfl ?_
  refine j_step rfl (x_bld_all 0 rfl rfl ld26 rfl ?_)
  refine j_step rfl (x_bst_all 1 rfl rfl rfl ld26 rfl rfl (by simp [Value.oneCell']) ?_)
  refine j_run it 1 rfl (by simp) ?_
  refine j_nf [_] rfl ?_
  refine j_givC [0,1] rfl (.agg 1 rfl rfl ld26 rfl (.tmp rfl .nil)) rfl ⟨_,_,_,_,rfl,rfl,rfl⟩
end Go.Proofs.YthahejfpdhcpiaaGreat
namespace Go.Fw
open Go.ChangeShapes Go.WideShapes Go.RowKit
def Opens {α : Type} (P : Program) (t : TypeId) (E : Enc α) : Prop :=
 P.cellsOf t = E.size ∧ P.bytesOf t = E.bytes ∧ ∀ {H : Type} (enc : TypeId × Value → H) (W : World) (fuel : Nat) (cs : List Value) (d : DataW H) (ps : List MemPlace),
  DataW.trod enc P W 0 (fun _=>true) true fuel t cs = some (d,ps) → (∀ n ∈ d.weights P t,n ≤ reachBytes) → ∃ x : α,E.rd W (fun k=>k < W.heap.size) cs x
theorem inR_of_wf {k : IntKind} {n : Int} (h : (Lit.int k n).wf = true) : InR k n:=by
 cases k <;> simp [Lit.wf,IntKind.min,IntKind.max,IntKind.bits,IntKind.signed] at h <;> simp only [InR] <;> omega
section
variable {P : Program} {t : TypeId}
theorem opens_int {k : IntKind} {by' : Nat} (ht : P.underlying t = some (.int k)) (hc : P.cellsOf t = 1) (hb : P.bytesOf t = by') : Opens P t (encInt k by') :=
 ⟨hc,hb,fun enc W fuel cs d ps h _=>by
  obtain ⟨n,rfl,_,hw⟩:=DataW.trod_int ht h
  exact ⟨n,rfl,inR_of_wf hw⟩⟩
theorem opens_nat {k : IntKind} {by' : Nat} (ht : P.underlying t = some (.int k)) (hc : P.cellsOf t = 1) (hb : P.bytesOf t = by') (hk : ∀ n,InR k n → 0 ≤ n) : Opens P t (encNat k by') :=
 ⟨hc,hb,fun enc W fuel cs d ps h _=>by
  obtain ⟨n,rfl,_,hw⟩:=DataW.trod_int ht h
  have h1:=inR_of_wf hw
  have h0:=hk n h1
  refine ⟨n.toNat,?_,?_⟩
  ·rw [Int.toNat_of_nonneg h0]
  ·rwa [Int.toNat_of_nonneg h0]⟩
theorem opens_bool (ht : P.underlying t = some .bool) (hc : P.cellsOf t = 1) (hb : P.bytesOf t = 1) : Opens P t encBool :=
 ⟨hc,hb,fun enc W fuel cs d ps h _=>by
  obtain ⟨b,rfl,_⟩:=DataW.trod_bool ht h
  exact ⟨b,rfl⟩⟩
theorem cellsAt_of_cells? {W : World} {a : Addr} {n : Nat} {cs : List Value} (h : W.cells? 0 a n = some cs) (hn : 0 < n) : a.spot = none ∧ a.block < W.heap.size ∧ cellsAt W a.block a.off n cs:=by
 obtain ⟨_,hl,hc⟩:=World.cells?_some h
 have h0:=hc 0 hn
 rw [List.getElem?_eq_getElem (by omega)] at h0
 have e0 : a.add 0 = a:=rfl
 rw [e0] at h0
 unfold World.cell? at h0
 split at h0
 ·rename_i c T fr hb
  split at h0
  ·cases h0
  ·rename_i hs
   have hs' : a.spot = none:=by cases ha : a.spot with
    | none=>rfl
    | some _=>rw [ha] at hs;simp at hs
   refine ⟨hs',?_,c,T,fr,hb,?_,hl⟩
   ·rcases Nat.lt_or_ge a.block W.heap.size with h | h
    ·exact h
    ·rw [Array.getElem?_eq_none h] at hb;cases hb
   ·apply List.ext_getElem?
    intro i
    by_cases hi : i < n
    ·have:=hc i hi
     unfold World.cell? Addr.add at this
     rw [List.getElem?_take,if_pos hi,List.getElem?_drop,← this]
     by_cases h0 : i = 0
     ·subst h0;simp [hb,hs']
     ·simp [h0,hb]
    ·rw [List.getElem?_take,if_neg hi,List.getElem?_eq_none (by omega)]
 ·cases h0
theorem list_of_all {α : Type} : ∀ (n : Nat) (p : Nat → α → Prop),(∀ i,i < n → ∃ x,p i x) → ∃ l : List α,l.length = n ∧ ∀ i x,l[i]? = some x → p i x:=by
 intro n p h
 refine ⟨List.ofFn (fun i : Fin n=>Classical.choose (h i.1 i.2)),by simp,fun i x hx=>?_⟩
 have hi : i < n:=by
  have:=(List.getElem?_eq_some_iff.1 hx).1
  simpa using this
 have e : x = Classical.choose (h i hi):=by
  rw [List.getElem?_eq_getElem (by simpa using hi),List.getElem_ofFn] at hx
  exact (Option.some.inj hx).symm
 rw [e]
 exact Classical.choose_spec (h i hi)
theorem weightsAll_of {H : Type} {e : TypeId} : ∀ {l : List (DataW H)} {d : DataW H},d ∈ l → ∀ n ∈ d.weights P e,n ∈ DataW.weightsAll P e l
 | [],_,hd,_,_=>by cases hd
 | x::l,d,hd,n,hn=>by
  simp only [DataW.weightsAll,List.mem_append]
  rcases List.mem_cons.1 hd with rfl | hd
  ·exact .inl hn
  ·exact .inr (weightsAll_of hd n hn)
theorem opens_sl {α : Type} {E : Enc α} {e : TypeId} (ht : P.underlying t = some (.slice e)) (hE : Opens P e E) (hc : P.cellsOf t = 1) (hb : P.bytesOf t = 24) (hs : 0 < E.size) : Opens P t (encSl E) :=
 ⟨hc,hb,fun enc W fuel cs d ps h hw=>by
  obtain ⟨he,hby,hE⟩:=hE
  rcases Deep.open_slice ht h with ⟨rfl,_⟩ | ⟨a,len,cap,m,n,D,Pl,rfl,_,hl,_,hm,hx,hel⟩
  ·exact ⟨[],none,0,rfl,Nat.zero_le _,by simp,.inl rfl⟩
  ·simp only [Prod.mk.injEq] at hx
   obtain ⟨rfl,_⟩:=hx
   simp only [if_true] at hm
   subst hm
   have hsz : len * E.bytes ≤ 140737488355328:=by
    have h1 : ((List.range len).map D).length + ((List.range (m - len)).map fun j=>D (len + j)).length = m:=by simp;omega
    have h2:=hw (m * P.bytesOf e) (by rw [DataW.weights,ht];show m * P.bytesOf e ∈ _::_;rw [h1];exact List.mem_cons_self)
    rw [hby] at h2
    exact Nat.le_trans (Nat.mul_le_mul_right _ hl) (Nat.le_trans h2 (by decide))
   have each : ∀ i,i < len → ∃ x : α,(a.spot = none ∧ a.block < W.heap.size) ∧ ∃ vs,cellsAt W a.block (a.off + i * E.size) E.size vs ∧ E.rd W (fun k=>k < W.heap.size) vs x:=by
    intro i hi
    obtain ⟨cs',h1,h2⟩:=hel i (by omega)
    obtain ⟨x,hxr⟩:=hE enc W n cs' _ _ h2 (fun k hk=>hw k (by
     rw [DataW.weights,ht]
     refine List.mem_cons_of_mem _ (List.mem_append_left _ (weightsAll_of (List.mem_map.2 ⟨i,List.mem_range.2 hi,rfl⟩) k hk))))
    rw [he] at h1
    obtain ⟨hsp,hlt,hca⟩:=cellsAt_of_cells? h1 hs
    have hadd : (a.add (i * E.size)).block = a.block ∧ (a.add (i * E.size)).off = a.off + i * E.size:=by
     unfold Addr.add
     split
     ·rename_i h;rw [h];exact ⟨rfl,rfl⟩
     ·exact ⟨rfl,rfl⟩
    rw [hadd.1] at hlt
    rw [hadd.1,hadd.2] at hca
    have hsp0 : a.spot = none:=by
     obtain ⟨cs0,h10,_⟩:=hel 0 (by omega)
     rw [he,Nat.zero_mul] at h10
     exact (cellsAt_of_cells? h10 hs).1
    exact ⟨x,⟨hsp0,hlt⟩,cs',hca,hxr⟩
   obtain ⟨l,hll,hlx⟩:=list_of_all len _ each
   refine ⟨l,some a,m,by rw [hll],by omega,by rw [hll];exact hsz,?_⟩
   cases l with
   | nil=>exact .inl rfl
   | cons y l =>
    obtain ⟨⟨h1,h2⟩,_⟩:=hlx 0 y rfl
    refine .inr ⟨a.block,a.off,?_,h2,fun i x hi=>(hlx i x hi).2⟩
    cases a;simp_all⟩
def OpensAll {α : Type} (P : Program) (fs : List Field) (off : Nat) (E : Enc α) : Prop :=
 ∀ {H : Type} (enc : TypeId × Value → H) (W : World) (n : Nat) (cs : List Value) (xs : List (DataW H × List MemPlace)),xs.length = fs.length →
  (∀ (i : Nat) (f : Field),fs[i]? = some f → DataW.trod enc P W 0 (fun _=>true) true n f.type ((cs.drop f.offset).take (P.cellsOf f.type)) = xs[i]?) → cs.length = off + E.size →
  (∀ n ∈ DataW.weightsEach P (fs.map fun f : Field=>f.type) (xs.map (·.1)),n ≤ reachBytes) → ∃ x : α,E.rd W (fun k=>k < W.heap.size) (cs.drop off) x
theorem opensAll_one {α : Type} {E : Enc α} {f : Field} {off : Nat} (hf : f.offset = off) (hE : Opens P f.type E) : OpensAll P [f] off E:=fun enc W n cs xs hl h hc hw=>by
 match xs,hl with
 | [x],_ =>
  have h0:=h 0 f rfl
  obtain ⟨d,ps⟩:=x
  rw [hf,hE.1,List.take_of_length_le (by rw [List.length_drop];omega)] at h0
  exact hE.2.2 enc W n _ d ps h0 (fun k hk=>hw k (by simp [DataW.weightsEach,hk]))
theorem opensAll_cons {α β : Type} {E : Enc α} {F : Enc β} {f : Field} {fs : List Field} {off : Nat} (by' : Nat) (hf : f.offset = off) (hE : Opens P f.type E) (hF : OpensAll P fs (off + E.size) F) : OpensAll P (f::fs) off (encPair E F by'):=fun enc W n cs xs hl h hc hw=>by
 match xs,hl with
 | x::xs,hl =>
  have h0:=h 0 f rfl
  obtain ⟨d,ps⟩:=x
  rw [hf,hE.1] at h0
  have hc' : cs.length = off + (E.size + F.size):=hc
  obtain ⟨y,hy⟩:=hE.2.2 enc W n _ d ps h0 (fun k hk=>hw k (by simp [DataW.weightsEach,hk]))
  obtain ⟨z,hz⟩:=hF enc W n cs xs (by simpa using hl) (fun i g hg=>by simpa using h (i + 1) g (by simpa using hg)) (by omega) (fun k hk=>hw k (by
   simp only [List.map_cons,DataW.weightsEach,List.mem_append];exact .inr hk))
  refine ⟨(y,z),_,_,?_,hy,hz⟩
  rw [← List.drop_drop,List.take_append_drop]
theorem opens_struct {α : Type} {E : Enc α} {fs : Array Field} (ht : P.underlying t = some (.struct fs)) (hE : OpensAll P fs.toList 0 E) (hc : P.cellsOf t = E.size) (hb : P.bytesOf t = E.bytes) : Opens P t E :=
 ⟨hc,hb,fun enc W fuel cs d ps h hw=>by
  obtain ⟨xs,n,_,hx,hl,hlen,hf⟩:=DataW.trod_struct ht h
  simp only [Prod.mk.injEq] at hx
  obtain ⟨rfl,_⟩:=hx
  obtain ⟨x,hx⟩:=hE enc W n cs xs (by simpa using hlen) (fun i f hi=>hf i f (by simpa using hi)) (by rw [hl,hc];omega) (fun k hk=>hw k (by rw [DataW.weights,ht];exact hk))
  exact ⟨x,by simpa using hx⟩⟩
def Arg (P : Program) (W : World) (t : TypeId) (v : Value) : Prop :=
 (∃ b,Value.okWide P W .any b t v) ∧ ∃ (H : Type) (enc : TypeId × Value → H) (d : DataW H) (p : List MemPlace),DataW.Trod enc P W 0 (fun _=>true) true t v d p ∧ ∀ n ∈ d.weights P t,n ≤ reachBytes
def Args (P : Program) (W : World) : List TypeId → List Value → Prop
 | [],[]=>True
 | t::ts,v::vs=>Arg P W t v ∧ Args P W ts vs
 | _,_=>False
variable {W : World} {v : Value}
theorem Arg.slice {α : Type} {E : Enc α} {e : TypeId} (h : Arg P W t v) (ht : P.underlying t = some (.slice e)) (hE : Opens P t (encSl E)) : ∃ pa ca l,v = .slice pa l.length ca ∧ (slF E pa l.length ca l).holds W (fun k=>k < W.heap.size):=by
 obtain ⟨⟨b,hv⟩,H,enc,d,p,⟨fuel,hf⟩,hw⟩:=h
 obtain ⟨a,len,cap,rfl⟩:=okWide_slice ht hv
 obtain ⟨l,pa,ca,e1,hs⟩:=hE.2.2 enc W fuel _ d p hf hw
 have e2 : Value.slice a len cap = .slice pa l.length ca:=by simpa [Value.cells] using e1
 exact ⟨pa,ca,l,e2,rfl,hs⟩
theorem Arg.int {k : IntKind} (h : Arg P W t v) (ht : P.underlying t = some (.int k)) : ∃ n,v = .int k n ∧ InR k n:=by
 obtain ⟨⟨b,hv⟩,H,enc,d,p,hf,hw⟩:=h
 obtain ⟨n,e,_,_,hn⟩:=open_int ht hv hf
 exact ⟨n,e,inR_of_wf hn⟩
theorem Arg.bool (h : Arg P W t v) (ht : P.underlying t = some .bool) : ∃ b,v = .bool b:=by
 obtain ⟨⟨b,hv⟩,H,enc,d,p,hf,hw⟩:=h
 obtain ⟨n,e,_⟩:=open_bool ht hv hf
 exact ⟨n,e⟩
theorem Arg.agg {α : Type} {E : Enc α} {fs : Array Field} (h : Arg P W t v) (ht : P.underlying t = some (.struct fs)) (hE : Opens P t E) : ∃ vs x,v = .agg vs.toArray ∧ (vF E vs x).holds W (fun k=>k < W.heap.size):=by
 obtain ⟨⟨b,hv⟩,H,enc,d,p,⟨fuel,hf⟩,hw⟩:=h
 obtain ⟨cs,rfl,_⟩:=okWide_struct ht hv
 obtain ⟨x,hx⟩:=hE.2.2 enc W fuel _ d p hf hw
 have hx' : E.rd W (fun k=>k < W.heap.size) cs.toList x:=hx
 exact ⟨cs.toList,x,by simp,hx'⟩
end
theorem trodAll_below {H : Type} {enc : TypeId × Value → H} {P : Program} (hl : laidOutB P = true) {W W' : World} (hb : Below W.heap.size W W') : ∀ {ts : List TypeId} {vs : List Value} {ds : List (DataW H)} {ps : List MemPlace},
  (ts.all fun t=>P.readableRec t && decide (t < P.types.size)) = true → DataW.TrodAll enc P W 0 (fun _=>true) true ts vs ds ps → DataW.TrodAll enc P W' 0 (fun b=>decide (b < W.heap.size)) true ts vs ds ps
 | [],[],[],_,_,h=>h
 | t::ts,v::vs,d::ds,ps,ha,⟨p,q,h1,h2,e⟩=>by
  simp only [List.all_cons,Bool.and_eq_true,decide_eq_true_eq] at ha
  refine ⟨p,q,Below.trod hl ha.1.1 ha.1.2 h1 hb ?_,trodAll_below hl hb (by simpa using ha.2) h2,e⟩
  obtain ⟨m,hm⟩:=h1
  exact DataW.trod_lt m _ _ _ hm
 | [],_::_,_,_,_,h=>h.elim
 | [],[],_::_,_,_,h=>h.elim
 | _::_,[],_,_,_,h=>h.elim
 | _::_,_::_,[],_,_,h=>h.elim
theorem args_of {H : Type} {enc : TypeId × Value → H} {P : Program} {W : World} {base : Nat} : ∀ (ts : List TypeId) (vs : List Value) (ds : List (DataW H)) (ps : List MemPlace),
  (∀ (j : Nat) t v,ts[j]? = some t → vs[j]? = some v → Value.okWide P W .any base t v) → DataW.TrodAll enc P W 0 (fun _=>true) true ts vs ds ps → (∀ n ∈ DataW.weightsEach P ts ds,n ≤ reachBytes) → Args P W ts vs
 | [],[],[],_,_,_,_=>trivial
 | t::ts,v::vs,d::ds,ps,hv,⟨p,q,h1,h2,e⟩,hw=>by
  refine ⟨⟨⟨base,hv 0 t v rfl rfl⟩,H,enc,d,p,h1,fun n hn=>hw n (by simp only [DataW.weightsEach,List.mem_append];exact .inl hn)⟩,args_of ts vs ds q (fun j t v ht hv'=>hv (j + 1) t v (by simpa using ht) (by simpa using hv')) h2 (fun n hn=>hw n (by simp only [DataW.weightsEach,List.mem_append];exact .inr hn))⟩
 | [],_::_,_,_,_,h,_=>h.elim
 | [],[],_::_,_,_,h,_=>h.elim
 | _::_,[],_,_,_,h,_=>h.elim
 | _::_,_::_,[],_,_,h,_=>h.elim
def LawSays (P : Program) (f : FuncId) (fn : Func) : Prop :=
 ∀ (W : World) (args : List Value),Args P W fn.params.toList args → Calls P f args.toArray W (Ret fun v W'=>v = .bool true ∧ Below W.heap.size W W')
theorem law_of_gives {P : Program} {f : FuncId} {args : List Value} {Γ : List Fact} {W : World} {Q : Value → List Fact → List Blk → Prop} (h : Ctr P f args [] Γ Q) (hq : ∀ v Φ β,Q v Φ β → v = .bool true) (hG : ∀ g ∈ Γ,g.holds W (fun k=>k < W.heap.size)) :
  Calls P f args.toArray W (Ret fun v W'=>v = .bool true ∧ Below W.heap.size W W'):=by
 refine (h.2 W (fun k=>k < W.heap.size) (fun k hk=>hk) (fun x hx=>by cases hx) trivial (fun g hg=>g.stable (fun k hk=>⟨⟨hk,fun ⟨x,hx,_⟩=>by cases hx⟩,rfl⟩) (hG g hg))).mono ?_
 intro e w' he
 cases e <;> try exact he.elim
 obtain ⟨Φ,β,hQ,hO,_⟩:=he
 exact ⟨hq _ _ _ hQ,hO.ext.os,hO.ext.tape,hO.ext.output,hO.ext.size,fun k hk=>hO.ext.block k hk (fun ⟨x,hx,_⟩=>by cases hx)⟩
theorem law_lift {H : Type} {enc : TypeId × Value → H} {C : Checked} {f : FuncId} {fn : Func} {s : ChangeSpec} {tb : TypeId} {os : Os} {conds : List PathCond}
  (own : ownKnob C.prog.godebug = none) (started : os.Started) (noInit : C.prog.inits.idxOf? f = none) (hfn : C.prog.funcs[f]? = some fn)
  (witness : ∃ (w : World) (tape : Tape) (i : Input),w.os = os ∧ (w.forCall tape i).Shaped C.prog ∧ i.vars = [] ∧ Input.okWide C.prog (w.forCall tape i) .any w.heap.size f i ∧
   s.pre6 enc C.prog fn conds false (w.forCall tape i).memory i.args ∧ (Assume.holds {} C.prog (lone (Frame.enter C.prog f i.args .normal) [] (w.forCall tape i))))
  (laid : laidOutB C.prog = true) (hvars : s.vars = []) (hts : (fn.params.toList.all fun t=>C.prog.readableRec t && decide (t < C.prog.types.size)) = true)
  (hres : fn.resultTypes = #[tb]) (htb : C.prog.underlying tb = some .bool)
  (hspec : ∀ ds : List (DataW H),ds.length = fn.params.toList.length → s.fn H ds = { results:=[.lit (.bool true)],args:=ds })
  (walk : LawSays C.prog f fn) :
  ReturnsInHanded {} C os f .any (s.pre6 enc C.prog fn conds false) (s.post enc C.prog fn false true false false):=by
 refine returnsInHanded_of_change_sized own started noInit hfn witness ?_
 intro W base args ds gs before hval hW _ hsz _
 have hW':=hW
 obtain ⟨p,q,hA,hV,rfl,_,_⟩:=hW
 rw [hvars] at hV
 obtain ⟨rfl,rfl⟩:=trodVars_none hV
 have hlen : ∀ {ts : List TypeId} {vs : List Value} {ds : List (DataW H)} {ps : List MemPlace},DataW.TrodAll enc C.prog W 0 (fun _=>true) true ts vs ds ps → ds.length = ts.length:=by
  intro ts
  induction ts with
  | nil=>intro vs ds ps h;cases vs <;> cases ds <;> first | rfl | exact h.elim
  | cons t ts ih =>
   intro vs ds ps h
   cases vs <;> cases ds <;> try exact h.elim
   obtain ⟨p,q,_,h2,_⟩:=h
   simp [ih h2]
 have hw : ∀ n ∈ DataW.weightsEach C.prog fn.params.toList ds,n ≤ reachBytes:=fun n hn=>by
  have e : s.plain.varTypes C.prog = []:=by
   unfold DataSpec.varTypes ChangeSpec.plain
   rw [hvars];rfl
  rw [e,List.append_nil,List.append_nil] at hsz
  simpa using List.all_eq_true.1 hsz n hn
 have:=walk W args.toList (args_of fn.params.toList args.toList ds p (fun j t v ht hv=>hval j t v (by simpa using ht) (by simpa using hv)) hA hw)
 rw [Array.toArray_toList] at this
 refine this.mono fun e W' he=>?_
 cases e <;> try exact he.elim
 obtain ⟨rfl,hb⟩:=he
 refine ⟨_,rfl,ds,[],p++[],[],p,[],hW',?_,?_,?_,hb.frame _,fun h=>by cases h⟩
 ·rw [List.append_nil,hspec ds (hlen hA),hres]
  exact trodAll_mk1 (shut_bool htb _)
 ·rw [List.append_nil,hspec ds (hlen hA)]
  exact trodAll_below laid hb hts hA
 ·rw [List.append_nil,hspec ds (hlen hA),hvars]
  rfl
end Go.Fw
namespace Go.Proofs.YthahejfpdhcpiaaGreat
open Go Go.Fw
set_option maxRecDepth 100000
set_option linter.unusedVariables false
set_option linter.unusedSimpArgs false
def checkOf (l : List Rt × List (List Rt) × List Rt) : Int :=
 if 80 < l.1.length ∨ 80 < l.2.1.length ∨ 80 < l.2.2.length then 8 else if l.2.1.length ≠ l.2.2.length then 3 else if l.2.1.all (fun r=>r.length == l.1.length) then 0 else 3
theorem getD_some {α : Type} {l : List α} {i : Nat} {x d : α} (h : l[i]? = some x) : l.getD i d = x:=by rw [List.getD,h];rfl
theorem S_simplex_Check {p1 p2 p3 : Option Addr} {c1 c2 c3 : Nat} {C A B} : Ctr Tryz.prog 30 [.agg [.slice p1 C.length c1,.slice p2 A.length c2,.slice p3 B.length c3].toArray] [] [slF RatE p1 C.length c1 C,slF (encSl RatE) p2 A.length c2 A,slF RatE p3 B.length c3 B]
  (Rv (.int .i64 (checkOf (C,A,B))) []):=by
 refine Ctr_of_j' (F:=F_simplex_Check) rfl fun Cx=>?_
 refine j_len 0 rfl fun _ _ _=>?_
 refine j_len 1 rfl fun _ hb2 _=>?_
 refine j_len 2 rfl fun _ _ _=>?_
 have hb2' : A.length * 24 ≤ 140737488355328:=hb2
 have big : (80 < C.length ∨ 80 < A.length ∨ 80 < B.length) → Value.int .i64 8 = .int .i64 (checkOf (C,A,B)):=fun h=>by rw [checkOf,if_pos h]
 by_cases h1 : 80 < C.length
 ·refine j_nf [_,_] rfl (j_step rfl (x_box_agg rfl fun b1=>?_))
  refine j_run it 1 rfl (by simp) ?_
  refine j_nf [_,_,_] rfl (j_step rfl (x_field rfl fd41_0 ?_))
  refine j_step rfl (x_bld 0 rfl rfl ld27 rfl ?_)
  refine j_step rfl (x_len sl27 rfl ?_)
  refine j_run it 2 rfl (by simp) ?_
  refine j_split_dec (t:=9) rfl (fun h2=>?_) (fun h2=>by exfalso;omega)
  refine j_run it 11 rfl (by simp) ?_
  refine j_nf [_,_] rfl ?_
  refine j_true rfl rfl ?_
  refine j_nf [_,_,_] rfl (j_run it 1 rfl (by simp) ?_)
  refine j_nf [_,_] rfl ?_
  refine j_giv [] rfl rfl rfl ⟨big (.inl h1),rfl,rfl⟩
 by_cases h2 : 80 < A.length
 ·refine j_nf [_,_] rfl (j_step rfl (x_box_agg rfl fun b1=>?_))
  refine j_run it 1 rfl (by simp) ?_
  refine j_nf [_,_,_] rfl (j_step rfl (x_field rfl fd41_0 ?_))
  refine j_step rfl (x_bld 0 rfl rfl ld27 rfl ?_)
  refine j_step rfl (x_len sl27 rfl ?_)
  refine j_run it 2 rfl (by simp) ?_
  refine j_split_dec (t:=9) rfl (fun h3=>by exfalso;omega) (fun h3=>?_)
  refine j_gstep rfl rfl (x_field rfl fd41_1 ?_)
  refine j_gstep rfl rfl (x_bld 0 rfl rfl ld39 rfl ?_)
  refine j_gstep rfl rfl (x_len sl39 rfl ?_)
  refine j_run it 3 rfl (by simp) ?_
  refine j_split_dec (t:=15) rfl (fun h4=>?_) (fun h4=>by exfalso;omega)
  refine j_run it 5 rfl (by simp) ?_
  refine j_nf [_,_] rfl ?_
  refine j_true rfl rfl ?_
  refine j_nf [_,_,_] rfl (j_run it 1 rfl (by simp) ?_)
  refine j_nf [_,_] rfl ?_
  refine j_giv [] rfl rfl rfl ⟨big (.inr (.inl h2)),rfl,rfl⟩
 by_cases h3 : 80 < B.length
 ·refine j_nf [_,_] rfl (j_step rfl (x_box_agg rfl fun b1=>?_))
  refine j_run it 1 rfl (by simp) ?_
  refine j_nf [_,_,_] rfl (j_step rfl (x_field rfl fd41_0 ?_))
  refine j_step rfl (x_bld 0 rfl rfl ld27 rfl ?_)
  refine j_step rfl (x_len sl27 rfl ?_)
  refine j_run it 2 rfl (by simp) ?_
  refine j_split_dec (t:=9) rfl (fun h4=>by exfalso;omega) (fun h4=>?_)
  refine j_gstep rfl rfl (x_field rfl fd41_1 ?_)
  refine j_gstep rfl rfl (x_bld 0 rfl rfl ld39 rfl ?_)
  refine j_gstep rfl rfl (x_len sl39 rfl ?_)
  refine j_run it 3 rfl (by simp) ?_
  refine j_split_dec (t:=15) rfl (fun h5=>by exfalso;omega) (fun h5=>?_)
  refine j_gstep rfl rfl (x_field rfl fd41_2 ?_)
  refine j_gstep rfl rfl (x_bld 0 rfl rfl ld27 rfl ?_)
  refine j_gstep rfl rfl (x_len sl27 rfl ?_)
  refine j_run it 2 rfl (by simp) ?_
  refine j_nf [_,_] rfl (j_if rfl rfl (fun h6=>?_) (fun h6=>by exfalso;omega))
  refine j_nf [_,_,_] rfl (j_run it 1 rfl (by simp) ?_)
  refine j_nf [_,_] rfl ?_
  refine j_giv [] rfl rfl rfl ⟨big (.inr (.inr h3)),rfl,rfl⟩
 by_cases h4 : A.length = B.length
 ·have good : (∀ i,i < A.length → (A.getD i default).length = C.length) → Value.int .i64 0 = .int .i64 (checkOf (C,A,B)):=fun h=>by
   rw [checkOf,if_neg (by simp;omega),if_neg (by simpa using h4),if_pos (by
    simp only [List.all_eq_true,beq_iff_eq]
    intro r hr
    obtain ⟨i,hi,rfl⟩:=List.mem_iff_getElem.1 hr
    have:=h i hi
    rwa [getD_some (List.getElem?_eq_getElem hi)] at this)]
  have bad : ∀ i,i < A.length → (A.getD i default).length ≠ C.length → Value.int .i64 3 = .int .i64 (checkOf (C,A,B)):=fun i hi h=>by
   rw [checkOf,if_neg (by simp;omega),if_neg (by simpa using h4),if_neg (by
    simp only [List.all_eq_true,beq_iff_eq]
    intro hh
    rw [getD_some (List.getElem?_eq_getElem hi)] at h
    exact h (hh _ (List.getElem_mem hi)))]
  refine j_nf [_,_] rfl (j_step rfl (x_box_agg rfl fun b1=>?_))
  refine j_run it 1 rfl (by simp) ?_
  refine j_nf [_,_,_] rfl (j_step rfl (x_field rfl fd41_0 ?_))
  refine j_step rfl (x_bld 0 rfl rfl ld27 rfl ?_)
  refine j_step rfl (x_len sl27 rfl ?_)
  refine j_run it 2 rfl (by simp) ?_
  refine j_split_dec (t:=9) rfl (fun h5=>by exfalso;omega) (fun h5=>?_)
  refine j_gstep rfl rfl (x_field rfl fd41_1 ?_)
  refine j_gstep rfl rfl (x_bld 0 rfl rfl ld39 rfl ?_)
  refine j_gstep rfl rfl (x_len sl39 rfl ?_)
  refine j_run it 3 rfl (by simp) ?_
  refine j_split_dec (t:=15) rfl (fun h6=>by exfalso;omega) (fun h6=>?_)
  refine j_gstep rfl rfl (x_field rfl fd41_2 ?_)
  refine j_gstep rfl rfl (x_bld 0 rfl rfl ld27 rfl ?_)
  refine j_gstep rfl rfl (x_len sl27 rfl ?_)
  refine j_run it 2 rfl (by simp) ?_
  refine j_nf [_,_] rfl (j_if rfl rfl (fun h7=>by exfalso;omega) (fun h7=>?_))
  refine j_nf [_,_,_] rfl (j_step rfl (x_field rfl fd41_1 ?_))
  refine j_step rfl (x_bld 0 rfl rfl ld39 rfl ?_)
  refine j_step rfl (x_len sl39 rfl ?_)
  refine j_step rfl (x_field rfl fd41_2 ?_)
  refine j_step rfl (x_bld 0 rfl rfl ld27 rfl ?_)
  refine j_step rfl (x_len sl27 rfl ?_)
  refine j_run it 1 rfl (by simp) ?_
  refine j_nf [_,_] rfl (j_ifn rfl rfl (fun h8=>by exfalso;omega) (fun h8=>?_))
  refine j_nf [_,_,_] rfl (j_step rfl (x_field rfl fd41_1 ?_))
  refine j_step rfl (x_bld 0 rfl rfl ld39 rfl ?_)
  refine j_step rfl (x_len sl39 rfl ?_)
  refine j_run it 1 rfl (by simp) ?_
  refine j_nf [_,_,_] rfl ?_
  refine j_loopN (X:=Nat) (fun k=>[(1,.pointer (some ⟨b1,0,none⟩)),(29,.slice p2 A.length c2),(30,.int .i64 A.length),(31,.int .i64 k)]) (fun _=>[(some b1,41,[.slice p1 C.length c1,.slice p2 A.length c2,.slice p3 B.length c3])]) (fun _=>[slF RatE p1 C.length c1 C,slF (encSl RatE) p2 A.length c2 A,slF RatE p3 B.length c3 B])
   (fun k=>k ≤ A.length ∧ ∀ i,i < k → (A.getD i default).length = C.length) (fun k=>A.length - k) 0 [0,1,2] rfl ⟨Nat.zero_le _,fun i hi=>by omega⟩ (by repeat (first | exact Fr.sub_nil _ | refine Fr.sub_cons rfl ?_)) rfl rfl ?_
  intro k ⟨hk,hall⟩ ih
  by_cases hkl : k < A.length
  ·refine j_nf [_,_,_,_,_] rfl (j_run it 1 rfl (by simp) ?_)
   refine j_nf [_,_,_,_,_] rfl (j_if rfl rfl (fun h9=>?_) (fun h9=>by exfalso;omega))
   refine j_nf [_,_,_,_,_,_,_] rfl (j_step rfl (x_idx 1 (k) rfl rfl rfl sl39 rfl (by omega) fun z1 hz1 b2 o1=>?_))
   refine j_step rfl (x_ld_sl 0 rfl rfl ld27 fun pa1 ca1=>?_)
   refine j_run it 1 rfl (by simp) ?_
   refine j_nf [_,_,_,_,_,_,_] rfl (j_run it 1 rfl (by simp) ?_)
   refine j_step rfl (x_len sl27 rfl ?_)
   refine j_step rfl (x_field rfl fd41_0 ?_)
   refine j_step rfl (x_bld 0 rfl rfl ld27 rfl ?_)
   refine j_step rfl (x_len sl27 rfl ?_)
   refine j_run it 1 rfl (by simp) ?_
   refine j_nf [_,_,_,_,_,_] rfl (j_ifn rfl rfl (fun h10=>?_) (fun h10=>?_))
   ·refine j_nf [_,_,_,_,_,_,_] rfl (j_run it 1 rfl (by simp) ?_)
    refine j_nf [_,_,_,_,_,_] rfl ?_
    refine j_giv [] rfl rfl rfl ⟨bad k hkl (by rw [getD_some hz1];omega),rfl,rfl⟩
   ·refine j_nf [_,_,_,_] rfl (j_run it 2 rfl ⟨trivial,⟨by omega,by omega⟩,trivial⟩ ?_)
    refine j_nfn 1 [.lp (pL 244),.blk 0,.c [1,1,1,1]] rfl ?_
    refine j_to [2,3,4] (by exact fra rfl) rfl rfl (ih (k + 1) (by omega) ⟨by omega,fun i hi=>by rcases Nat.lt_succ_iff_lt_or_eq.1 hi with h | rfl;exact hall i h;rw [getD_some hz1];omega⟩)
  ·refine j_nf [_,_,_,_,_] rfl (j_run it 1 rfl (by simp) ?_)
   refine j_nf [_,_,_,_,_] rfl (j_if rfl rfl (fun h9=>by exfalso;omega) (fun h9=>?_))
   refine j_nf [_,_] rfl (j_run it 1 rfl (by simp) ?_)
   refine j_nf [_] rfl ?_
   refine j_giv [] rfl rfl rfl ⟨good (fun i hi=>hall i (by omega)),rfl,rfl⟩
 ·refine j_nf [_,_] rfl (j_step rfl (x_box_agg rfl fun b1=>?_))
  refine j_run it 1 rfl (by simp) ?_
  refine j_nf [_,_,_] rfl (j_step rfl (x_field rfl fd41_0 ?_))
  refine j_step rfl (x_bld 0 rfl rfl ld27 rfl ?_)
  refine j_step rfl (x_len sl27 rfl ?_)
  refine j_run it 2 rfl (by simp) ?_
  refine j_split_dec (t:=9) rfl (fun h5=>by exfalso;omega) (fun h5=>?_)
  refine j_gstep rfl rfl (x_field rfl fd41_1 ?_)
  refine j_gstep rfl rfl (x_bld 0 rfl rfl ld39 rfl ?_)
  refine j_gstep rfl rfl (x_len sl39 rfl ?_)
  refine j_run it 3 rfl (by simp) ?_
  refine j_split_dec (t:=15) rfl (fun h6=>by exfalso;omega) (fun h6=>?_)
  refine j_gstep rfl rfl (x_field rfl fd41_2 ?_)
  refine j_gstep rfl rfl (x_bld 0 rfl rfl ld27 rfl ?_)
  refine j_gstep rfl rfl (x_len sl27 rfl ?_)
  refine j_run it 2 rfl (by simp) ?_
  refine j_nf [_,_] rfl (j_if rfl rfl (fun h7=>by exfalso;omega) (fun h7=>?_))
  refine j_nf [_,_,_] rfl (j_step rfl (x_field rfl fd41_1 ?_))
  refine j_step rfl (x_bld 0 rfl rfl ld39 rfl ?_)
  refine j_step rfl (x_len sl39 rfl ?_)
  refine j_step rfl (x_field rfl fd41_2 ?_)
  refine j_step rfl (x_bld 0 rfl rfl ld27 rfl ?_)
  refine j_step rfl (x_len sl27 rfl ?_)
  refine j_run it 1 rfl (by simp) ?_
  refine j_nf [_,_] rfl (j_ifn rfl rfl (fun h8=>?_) (fun h8=>by exfalso;omega))
  refine j_nf [_,_,_] rfl (j_run it 1 rfl (by simp) ?_)
  refine j_nf [_,_] rfl ?_
  refine j_giv [] rfl rfl rfl ⟨by rw [checkOf,if_neg (by simp;omega),if_pos h4];rfl,rfl,rfl⟩
set_option maxHeartbeats 2000000
def negR (r : Rt) : Rt:=rt (-vq r)
def turned (m : Nat) (A : List (List Rt)) : List (List Rt):=(List.range m).map fun j=>A.map fun row=>negR (row.getD j default)
set_option maxHeartbeats 4000000
def rangeP (q n d : Int) : Prop:=2 ≤ q ∧ q ≤ 256 ∧ 1 ≤ n ∧ n ≤ 64 ∧ 1 ≤ d ∧ d ≤ n
instance (q n d : Int) : Decidable (rangeP q n d):=by unfold rangeP;infer_instance
theorem S_delsarte_wrong {q n d : Int} {res : Bool} (hres : decide (rangeP q n d) = !res) : Ctr Tryz.prog 27 [.int .i64 q,.int .i64 n,.int .i64 d] [] [] (Rv (.bool res) []):=by
 refine Ctr_of_j' (F:=F_delsarte_wrong) rfl fun C=>?_
 have no : ¬ rangeP q n d → res = true:=fun h=>by rw [decide_eq_false h] at hres;simpa using hres
 by_cases h1 : q < 2
 ·rw [no (by unfold rangeP;omega)]
  refine j_nf [_,_] rfl (j_run it 1 rfl (by simp) ?_)
  refine j_nf [_,_] rfl (j_run it 3 rfl (by simp) ?_)
  refine j_split_dec (t:=9) rfl (fun h2=>?_) (fun h2=>by exfalso;omega)
  refine j_run it 21 rfl (by simp) ?_
  refine j_nf [_] rfl ?_
  refine j_giv [] rfl rfl rfl ⟨rfl,rfl,rfl⟩
 by_cases h2 : 256 < q
 ·rw [no (by unfold rangeP;omega)]
  refine j_nf [_,_] rfl (j_run it 1 rfl (by simp) ?_)
  refine j_nf [_,_] rfl (j_run it 3 rfl (by simp) ?_)
  refine j_split_dec (t:=9) rfl (fun h3=>by exfalso;omega) (fun h3=>?_)
  refine j_run it 4 rfl (by simp) ?_
  refine j_split_dec (t:=13) rfl (fun h4=>?_) (fun h4=>by exfalso;omega)
  refine j_run it 17 rfl (by simp) ?_
  refine j_nf [_] rfl ?_
  refine j_giv [] rfl rfl rfl ⟨rfl,rfl,rfl⟩
 by_cases h3 : n < 1
 ·rw [no (by unfold rangeP;omega)]
  refine j_nf [_,_] rfl (j_run it 1 rfl (by simp) ?_)
  refine j_nf [_,_] rfl (j_run it 3 rfl (by simp) ?_)
  refine j_split_dec (t:=9) rfl (fun h4=>by exfalso;omega) (fun h4=>?_)
  refine j_run it 4 rfl (by simp) ?_
  refine j_split_dec (t:=13) rfl (fun h5=>by exfalso;omega) (fun h5=>?_)
  refine j_run it 4 rfl (by simp) ?_
  refine j_split_dec (t:=17) rfl (fun h6=>?_) (fun h6=>by exfalso;omega)
  refine j_run it 13 rfl (by simp) ?_
  refine j_nf [_] rfl ?_
  refine j_giv [] rfl rfl rfl ⟨rfl,rfl,rfl⟩
 by_cases h4 : 64 < n
 ·rw [no (by unfold rangeP;omega)]
  refine j_nf [_,_] rfl (j_run it 1 rfl (by simp) ?_)
  refine j_nf [_,_] rfl (j_run it 3 rfl (by simp) ?_)
  refine j_split_dec (t:=9) rfl (fun h5=>by exfalso;omega) (fun h5=>?_)
  refine j_run it 4 rfl (by simp) ?_
  refine j_split_dec (t:=13) rfl (fun h6=>by exfalso;omega) (fun h6=>?_)
  refine j_run it 4 rfl (by simp) ?_
  refine j_split_dec (t:=17) rfl (fun h7=>by exfalso;omega) (fun h7=>?_)
  refine j_run it 4 rfl (by simp) ?_
  refine j_split_dec (t:=21) rfl (fun h8=>?_) (fun h8=>by exfalso;omega)
  refine j_run it 9 rfl (by simp) ?_
  refine j_nf [_] rfl ?_
  refine j_giv [] rfl rfl rfl ⟨rfl,rfl,rfl⟩
 by_cases h5 : d < 1
 ·rw [no (by unfold rangeP;omega)]
  refine j_nf [_,_] rfl (j_run it 1 rfl (by simp) ?_)
  refine j_nf [_,_] rfl (j_run it 3 rfl (by simp) ?_)
  refine j_split_dec (t:=9) rfl (fun h6=>by exfalso;omega) (fun h6=>?_)
  refine j_run it 4 rfl (by simp) ?_
  refine j_split_dec (t:=13) rfl (fun h7=>by exfalso;omega) (fun h7=>?_)
  refine j_run it 4 rfl (by simp) ?_
  refine j_split_dec (t:=17) rfl (fun h8=>by exfalso;omega) (fun h8=>?_)
  refine j_run it 4 rfl (by simp) ?_
  refine j_split_dec (t:=21) rfl (fun h9=>by exfalso;omega) (fun h9=>?_)
  refine j_run it 4 rfl (by simp) ?_
  refine j_split_dec (t:=25) rfl (fun h10=>?_) (fun h10=>by exfalso;omega)
  refine j_run it 5 rfl (by simp) ?_
  refine j_nf [_] rfl ?_
  refine j_giv [] rfl rfl rfl ⟨rfl,rfl,rfl⟩
 have e : res = decide (n < d):=by
  by_cases h6 : n < d
  ·rw [no (by unfold rangeP;omega),decide_eq_true h6]
  ·rw [decide_eq_true (show rangeP q n d by unfold rangeP;omega)] at hres
   rw [decide_eq_false h6];simpa using hres
 rw [e]
 refine j_nf [_,_] rfl (j_run it 1 rfl (by simp) ?_)
 refine j_nf [_,_] rfl (j_run it 3 rfl (by simp) ?_)
 refine j_split_dec (t:=9) rfl (fun h6=>by exfalso;omega) (fun h6=>?_)
 refine j_run it 4 rfl (by simp) ?_
 refine j_split_dec (t:=13) rfl (fun h7=>by exfalso;omega) (fun h7=>?_)
 refine j_run it 4 rfl (by simp) ?_
 refine j_split_dec (t:=17) rfl (fun h8=>by exfalso;omega) (fun h8=>?_)
 refine j_run it 4 rfl (by simp) ?_
 refine j_split_dec (t:=21) rfl (fun h9=>by exfalso;omega) (fun h9=>?_)
 refine j_run it 4 rfl (by simp) ?_
 refine j_split_dec (t:=25) rfl (fun h10=>by exfalso;omega) (fun h10=>?_)
 refine j_run it 5 rfl (by simp) ?_
 refine j_nf [_] rfl ?_
 refine j_giv [] rfl rfl rfl ⟨rfl,rfl,rfl⟩
theorem S_codewrightref34_Range {q n d : Int} {res : Bool} (hres : decide (rangeP q n d) = res) : Ctr Tryz.prog 5 [.int .i64 q,.int .i64 n,.int .i64 d] [] [] (Rv (.bool res) []):=by
 refine Ctr_of_j' (F:=F_codewrightref34_Range) rfl fun C=>?_
 have no : ¬ rangeP q n d → res = false:=fun h=>by rw [decide_eq_false h] at hres;exact hres.symm
 by_cases h1 : 2 ≤ q
 ·by_cases h2 : q ≤ 256
  ·by_cases h3 : 1 ≤ n
   ·by_cases h4 : n ≤ 64
    ·by_cases h5 : 1 ≤ d
     ·have e : res = decide (d ≤ n):=by
       by_cases h6 : d ≤ n
       ·rw [decide_eq_true (show rangeP q n d from ⟨h1,h2,h3,h4,h5,h6⟩)] at hres
        rw [decide_eq_true h6];exact hres.symm
       ·rw [no (by unfold rangeP;omega),decide_eq_false h6]
      rw [e]
      refine j_nf [_,_] rfl (j_run it 1 rfl (by simp) ?_)
      refine j_nf [_,_] rfl (j_run it 3 rfl (by simp) ?_)
      refine j_split_dec (t:=9) rfl (fun h6=>?_) (fun h6=>by exfalso;omega)
      refine j_run it 4 rfl (by simp) ?_
      refine j_split_dec (t:=13) rfl (fun h7=>?_) (fun h7=>by exfalso;omega)
      refine j_run it 4 rfl (by simp) ?_
      refine j_split_dec (t:=17) rfl (fun h8=>?_) (fun h8=>by exfalso;omega)
      refine j_run it 4 rfl (by simp) ?_
      refine j_split_dec (t:=21) rfl (fun h9=>?_) (fun h9=>by exfalso;omega)
      refine j_run it 4 rfl (by simp) ?_
      refine j_split_dec (t:=25) rfl (fun h10=>?_) (fun h10=>by exfalso;omega)
      refine j_run it 5 rfl (by simp) ?_
      refine j_nf [_] rfl ?_
      refine j_giv [] rfl rfl rfl ⟨rfl,rfl,rfl⟩
     ·rw [no (by unfold rangeP;omega)]
      refine j_nf [_,_] rfl (j_run it 1 rfl (by simp) ?_)
      refine j_nf [_,_] rfl (j_run it 3 rfl (by simp) ?_)
      refine j_split_dec (t:=9) rfl (fun h6=>?_) (fun h6=>by exfalso;omega)
      refine j_run it 4 rfl (by simp) ?_
      refine j_split_dec (t:=13) rfl (fun h7=>?_) (fun h7=>by exfalso;omega)
      refine j_run it 4 rfl (by simp) ?_
      refine j_split_dec (t:=17) rfl (fun h8=>?_) (fun h8=>by exfalso;omega)
      refine j_run it 4 rfl (by simp) ?_
      refine j_split_dec (t:=21) rfl (fun h9=>?_) (fun h9=>by exfalso;omega)
      refine j_run it 4 rfl (by simp) ?_
      refine j_split_dec (t:=25) rfl (fun h10=>by exfalso;omega) (fun h10=>?_)
      refine j_run it 5 rfl (by simp) ?_
      refine j_nf [_] rfl ?_
      refine j_giv [] rfl rfl rfl ⟨rfl,rfl,rfl⟩
    ·rw [no (by unfold rangeP;omega)]
     refine j_nf [_,_] rfl (j_run it 1 rfl (by simp) ?_)
     refine j_nf [_,_] rfl (j_run it 3 rfl (by simp) ?_)
     refine j_split_dec (t:=9) rfl (fun h5=>?_) (fun h5=>by exfalso;omega)
     refine j_run it 4 rfl (by simp) ?_
     refine j_split_dec (t:=13) rfl (fun h6=>?_) (fun h6=>by exfalso;omega)
     refine j_run it 4 rfl (by simp) ?_
     refine j_split_dec (t:=17) rfl (fun h7=>?_) (fun h7=>by exfalso;omega)
     refine j_run it 4 rfl (by simp) ?_
     refine j_split_dec (t:=21) rfl (fun h8=>by exfalso;omega) (fun h8=>?_)
     refine j_run it 9 rfl (by simp) ?_
     refine j_nf [_] rfl ?_
     refine j_giv [] rfl rfl rfl ⟨rfl,rfl,rfl⟩
   ·rw [no (by unfold rangeP;omega)]
    refine j_nf [_,_] rfl (j_run it 1 rfl (by simp) ?_)
    refine j_nf [_,_] rfl (j_run it 3 rfl (by simp) ?_)
    refine j_split_dec (t:=9) rfl (fun h4=>?_) (fun h4=>by exfalso;omega)
    refine j_run it 4 rfl (by simp) ?_
    refine j_split_dec (t:=13) rfl (fun h5=>?_) (fun h5=>by exfalso;omega)
    refine j_run it 4 rfl (by simp) ?_
    refine j_split_dec (t:=17) rfl (fun h6=>by exfalso;omega) (fun h6=>?_)
    refine j_run it 13 rfl (by simp) ?_
    refine j_nf [_] rfl ?_
    refine j_giv [] rfl rfl rfl ⟨rfl,rfl,rfl⟩
  ·rw [no (by unfold rangeP;omega)]
   refine j_nf [_,_] rfl (j_run it 1 rfl (by simp) ?_)
   refine j_nf [_,_] rfl (j_run it 3 rfl (by simp) ?_)
   refine j_split_dec (t:=9) rfl (fun h3=>?_) (fun h3=>by exfalso;omega)
   refine j_run it 4 rfl (by simp) ?_
   refine j_split_dec (t:=13) rfl (fun h4=>by exfalso;omega) (fun h4=>?_)
   refine j_run it 17 rfl (by simp) ?_
   refine j_nf [_] rfl ?_
   refine j_giv [] rfl rfl rfl ⟨rfl,rfl,rfl⟩
 ·rw [no (by unfold rangeP;omega)]
  refine j_nf [_,_] rfl (j_run it 1 rfl (by simp) ?_)
  refine j_nf [_,_] rfl (j_run it 3 rfl (by simp) ?_)
  refine j_split_dec (t:=9) rfl (fun h2=>by exfalso;omega) (fun h2=>?_)
  refine j_run it 21 rfl (by simp) ?_
  refine j_nf [_] rfl ?_
  refine j_giv [] rfl rfl rfl ⟨rfl,rfl,rfl⟩
def shapeOf (n : Nat) : Int:=if n < 1 ∨ 65 < n then 3 else 0
theorem S_macwilliams_shape {n : Nat} : Ctr Tryz.prog 96 [.int .i64 n] [] [] (Rv (.int .i64 (shapeOf n)) []):=by
 refine Ctr_of_j' (F:=F_macwilliams_shape) rfl fun C=>?_
 by_cases h1 : n < 1
 ·refine j_nf [_,_] rfl (j_run it 1 rfl (by simp) ?_)
  refine j_nf [_,_,_] rfl (j_run it 3 rfl (by simp) ?_)
  refine j_split_dec (t:=5) rfl (fun h2=>?_) (fun h2=>by exfalso;omega)
  refine j_run it 3 rfl (by simp) ?_
  refine j_nf [_,_] rfl ?_
  refine j_true rfl rfl ?_
  refine j_nf [_,_,_] rfl (j_run it 1 rfl (by simp) ?_)
  refine j_nf [_,_] rfl ?_
  refine j_giv [] rfl rfl rfl ⟨by rw [shapeOf,if_pos (.inl h1)];rfl,rfl,rfl⟩
 by_cases h2 : 65 < n
 ·refine j_nf [_,_] rfl (j_run it 1 rfl (by simp) ?_)
  refine j_nf [_,_,_] rfl (j_run it 3 rfl (by simp) ?_)
  refine j_split_dec (t:=5) rfl (fun h3=>by exfalso;omega) (fun h3=>?_)
  refine j_run it 3 rfl (by simp) ?_
  refine j_nf [_,_] rfl (j_if rfl rfl (fun h4=>?_) (fun h4=>by exfalso;omega))
  refine j_nf [_,_,_] rfl (j_run it 1 rfl (by simp) ?_)
  refine j_nf [_,_] rfl ?_
  refine j_giv [] rfl rfl rfl ⟨by rw [shapeOf,if_pos (.inr h2)];rfl,rfl,rfl⟩
 ·refine j_nf [_,_] rfl (j_run it 1 rfl (by simp) ?_)
  refine j_nf [_,_,_] rfl (j_run it 3 rfl (by simp) ?_)
  refine j_split_dec (t:=5) rfl (fun h3=>by exfalso;omega) (fun h3=>?_)
  refine j_run it 3 rfl (by simp) ?_
  refine j_nf [_,_] rfl (j_if rfl rfl (fun h4=>by exfalso;omega) (fun h4=>?_))
  refine j_nf [_,_] rfl (j_run it 1 rfl (by simp) ?_)
  refine j_nf [_] rfl ?_
  refine j_giv [] rfl rfl rfl ⟨by rw [shapeOf,if_neg (by omega)];rfl,rfl,rfl⟩
abbrev SvN {α : Type} (E : Enc α) (n : Nat) (l : List α) : Value → List Fact → List Blk → Prop:=fun v Φ β=>∃ pa ca,v = .slice pa n ca ∧ Φ = [slF E pa n ca l] ∧ β = []
theorem enz_eq (a : Zs) : (a.1,limbs a.2) = enz a:=rfl
def wrongOf (q : Int) (n : Nat) : Int:=if q < 2 ∨ 256 < q then 6 else shapeOf n
theorem S_macwilliams_wrong {q : Int} {n : Nat} : Ctr Tryz.prog 78 [.int .i64 q,.int .i64 n] [] [] (Rv (.int .i64 (wrongOf q n)) []):=by
 refine Ctr_of_j' (F:=F_macwilliams_wrong) rfl fun C=>?_
 by_cases h1 : q < 2
 ·rw [wrongOf,if_pos (.inl h1)]
  refine j_nf [_,_] rfl (j_run it 1 rfl (by simp) ?_)
  refine j_nf [_,_,_] rfl (j_run it 3 rfl (by simp) ?_)
  refine j_split_dec (t:=7) rfl (fun h2=>?_) (fun h2=>by exfalso;omega)
  refine j_run it 3 rfl (by simp) ?_
  refine j_nf [_,_] rfl ?_
  refine j_true rfl rfl ?_
  refine j_nf [_,_,_] rfl (j_run it 1 rfl (by simp) ?_)
  refine j_nf [_,_] rfl ?_
  refine j_giv [] rfl rfl rfl ⟨rfl,rfl,rfl⟩
 by_cases h2 : 256 < q
 ·rw [wrongOf,if_pos (.inr h2)]
  refine j_nf [_,_] rfl (j_run it 1 rfl (by simp) ?_)
  refine j_nf [_,_,_] rfl (j_run it 3 rfl (by simp) ?_)
  refine j_split_dec (t:=7) rfl (fun h3=>by exfalso;omega) (fun h3=>?_)
  refine j_run it 3 rfl (by simp) ?_
  refine j_nf [_,_] rfl (j_if rfl rfl (fun h4=>?_) (fun h4=>by exfalso;omega))
  refine j_nf [_,_,_] rfl (j_run it 1 rfl (by simp) ?_)
  refine j_nf [_,_] rfl ?_
  refine j_giv [] rfl rfl rfl ⟨rfl,rfl,rfl⟩
 ·rw [wrongOf,if_neg (by omega)]
  refine j_nf [_,_] rfl (j_run it 1 rfl (by simp) ?_)
  refine j_nf [_,_,_] rfl (j_run it 3 rfl (by simp) ?_)
  refine j_split_dec (t:=7) rfl (fun h3=>by exfalso;omega) (fun h3=>?_)
  refine j_run it 3 rfl (by simp) ?_
  refine j_nf [_,_] rfl (j_if rfl rfl (fun h4=>by exfalso;omega) (fun h4=>?_))
  refine j_nf [_,_] rfl (j_run it 1 rfl (by simp) ?_)
  refine j_step rfl (x_call [] rfl (S_macwilliams_shape) rfl ?_)
  rintro _ _ _ ⟨rfl,rfl,rfl⟩
  simp only [List.cons_append,List.nil_append]
  refine j_run it 1 rfl (by simp) ?_
  refine j_nf [_] rfl ?_
  refine j_giv [] rfl rfl rfl ⟨rfl,rfl,rfl⟩
theorem S_macwilliams_sums {q n m : Nat} {pa : Option Addr} {ca : Nat} {f : Nat → Zs} (hq : 2 ≤ q) (hq2 : q ≤ 256) (hn : n ≤ 64) (hm : m ≤ 10000000) (hf : ∀ i,i < n + 1 → (f i).2 < 4294967296 ^ m) :
  Ctr Tryz.prog 82 [.int .i64 q,.slice pa (n + 1) ca] [] [slF IntE pa (n + 1) ca ((List.range (n + 1)).map fun i=>enz (f i))] (SvN IntE (n + 1) ((List.range (n + 1)).map fun j=>enz (szP f (fun i=>tz q n i j) (n + 1)))):=by
 refine Ctr_of_j' (F:=F_macwilliams_sums) rfl fun C=>?_
 have ht:=tabT_len q n
 have hW : ((List.range (n + 1)).map fun i=>enz (f i)).length = n + 1:=by simp
 refine j_nf [_,_] rfl ?_
 refine j_run it 1 rfl (by simp) ?_
 refine j_nf [_,_] rfl ?_
 refine j_run it 2 rfl (by simp) ?_
 refine j_step rfl (x_len sl103 rfl ?_)
 refine j_run it 1 rfl ⟨⟨by omega,by omega⟩,trivial⟩ ?_
 refine j_recast (t:=13) ((((n + 1) - 1) : Nat) : Int) rfl (by omega) ?_
 refine j_step rfl (x_call [] rfl (S_macwilliams_table (by omega) (by omega) (by omega)) rfl ?_)
 rintro _ _ _ ⟨pa1,ca1,rfl,rfl,rfl⟩
 simp only [List.cons_append,List.nil_append]
 refine j_run it 1 rfl (by simp) ?_
 refine j_nf [_,_] rfl ?_
 refine j_run it 1 rfl (by simp) ?_
 refine j_step rfl (x_len sl103 rfl ?_)
 refine j_step rfl (x_makeR IntE default (n + 1) _ rfl rfl sl103 zo103e rfl rfl by103e (by omega) (by omega) (by omega) rz105 fun b1 cs1=>?_)
 refine j_run it 1 rfl (by simp) ?_
 refine j_nf [_,_,_] rfl ?_
 refine j_run it 1 rfl (by simp) ?_
 refine j_step rfl (x_len sl103 rfl ?_)
 refine j_run it 1 rfl (by simp) ?_
 refine j_nf [_,_,_] rfl ?_
 rw [Nat.add_sub_cancel]
 rw [← mapTo_zero (fun j=>enz (szP f (fun i=>tz q n i j) (n + 1)))]
 refine j_loopG (X:=Nat × List Value) [1,4,5,6,19] [2,1] (fun x=>[(20,.int .i64 x.1)]) (fun x=>[(some b1,105,x.2)]) (fun x=>[rowF IntE ⟨some b1,n + 1,x.2⟩ (n + 1) (mapTo (fun j=>enz (szP f (fun i=>tz q n i j) (n + 1))) default (n + 1) x.1)])
  (fun x=>x.1 ≤ n + 1) (fun x=>n + 1 - x.1) (0,cs1) [0] rfl rfl rfl (Nat.zero_le _) (by repeat (first | exact Fr.sub_nil _ | refine Fr.sub_cons rfl ?_)) rfl rfl ?_
 rintro ⟨j,cs⟩ hj ih
 simp only [List.cons_append,List.nil_append] at hj ih ⊢
 by_cases hjl : j < n + 1
 ·refine j_nf [_,_,_,_,_] rfl ?_
  refine j_run it 1 rfl (by simp) ?_
  refine j_nf [_,_,_,_,_] rfl ?_
  refine j_if rfl rfl (fun h1=>?_) (fun h1=>by exfalso;omega)
  refine j_nf [_,_,_,_,_,_,_] rfl ?_
  refine j_run it 2 rfl (by simp) ?_
  refine j_nf [_,_,_,_,_,_,_] rfl ?_
  refine j_run it 1 rfl (by simp) ?_
  refine j_step rfl (x_len sl103 rfl ?_)
  refine j_run it 1 rfl (by simp) ?_
  refine j_nf [_,_,_,_,_,_,_] rfl ?_
  have e0 : enz (szP f (fun i=>tz q n i j) 0) = default:=by simp only [szP,enz,limbs_zero];rfl
  rw [show mapTo (fun j=>enz (szP f (fun i=>tz q n i j) (n + 1))) default (n + 1) j = (mapTo (fun j=>enz (szP f (fun i=>tz q n i j) (n + 1))) default (n + 1) j).set j (enz (szP f (fun i=>tz q n i j) 0)) by rw [e0,mapTo_keep]]
  refine j_loopG (X:=Nat × List Value) [1,4,5,6,7,19,20,21,22,23,24] [1,2] (fun x=>[(25,.int .i64 x.1)]) (fun x=>[(some b1,105,x.2)])
   (fun x=>[rowF IntE ⟨some b1,n + 1,x.2⟩ (n + 1) ((mapTo (fun j=>enz (szP f (fun i=>tz q n i j) (n + 1))) default (n + 1) j).set j (enz (szP f (fun i=>tz q n i j) x.1)))])
   (fun x=>x.1 ≤ n + 1) (fun x=>n + 1 - x.1) (0,cs) [0] rfl rfl rfl (Nat.zero_le _) (by repeat (first | exact Fr.sub_nil _ | refine Fr.sub_cons rfl ?_)) rfl rfl ?_
  rintro ⟨i,cs⟩ hi ihi
  simp only [List.cons_append,List.nil_append] at hi ihi ⊢
  by_cases hil : i < n + 1
  ·refine j_nf [_,_,_,_,_,_,_,_,_] rfl ?_
   refine j_run it 1 rfl (by simp) ?_
   refine j_nf [_,_,_,_,_,_,_,_,_] rfl ?_
   refine j_if rfl rfl (fun h2=>?_) (fun h2=>by exfalso;omega)
   refine j_nf [_,_,_,_,_,_,_,_,_,_,_] rfl ?_
   refine j_run it 1 rfl (by simp) ?_
   refine j_step rfl (x_idx 1 (i) rfl rfl rfl sl103 rfl (by omega) fun z1 hz1 b2 o1=>?_)
   refine j_step rfl (x_ld_vw vw_IntE 0 rfl rfl ld105 fun g1=>?_)
   dsimp only [vw_IntE,List.cons_append,List.nil_append,List.map_cons,List.map_nil]
   refine j_step rfl (x_alloc zo105 fun b3=>?_)
   refine j_run it 1 rfl (by simp) ?_
   refine j_step rfl (x_bst_all 0 rfl rfl rfl ld105 rfl rfl (by simp [Value.oneCell']) ?_)
   refine j_nf [_,_,_,_,_,_,_,_,_,_,_] rfl ?_
   refine j_step rfl (x_field rfl fd105_1 ?_)
   refine j_step rfl (x_bld 0 rfl rfl ld24 rfl ?_)
   refine j_step rfl (x_len sl24 rfl ?_)
   refine j_run it 1 rfl (by simp) ?_
   refine j_nf [_,_,_,_,_,_,_,_,_,_] rfl ?_
   refine j_if rfl rfl (fun h3=>?_) (fun h3=>?_)
   ·rw [range_get _ hil] at hz1
    obtain rfl:=Option.some.inj hz1
    have hne : ¬ (f i).2 = 0:=fun h=>by
     have h2 : (0 : Int) < ((limbs (f i).2).length : Int):=by assumption
     rw [h,limbs_zero] at h2
     simp at h2
    have eS : szP f (fun i=>tz q n i j) (i + 1) = plusZ (szP f (fun i=>tz q n i j) i) (timesZ (f i) (tz q n i j)):=by rw [szP,if_neg hne]
    have hrow:=mapTo_setget (fun j=>enz (szP f (fun i=>tz q n i j) (n + 1))) default (enz (szP f (fun i=>tz q n i j) i)) hjl
    have eT1 : (tabT q n).getD i default = rowT q n i:=range_getD _ _ hil
    have hTl : ((tabT q n).getD i default).length = n + 1:=by rw [eT1,rowT_len]
    have eT2 : ((tabT q n).getD i default).getD j default = enz (tz q n i j):=by rw [eT1];exact range_getD _ _ hjl
    have k1 : (enz (f i)).2.length ≤ m:=limbs_length_le (hf i hil)
    have k2 : (((tabT q n).getD i default).getD j default).2.length ≤ 17:=by rw [eT2];exact tz_len hq hq2 hn (by omega) j
    have k3 : (enz (szP f (fun i=>tz q n i j) i)).2.length ≤ m + 18:=limbs_length_le (szP_lt (show n + 1 ≤ 65 by omega) (by omega) hf fun i hi=>tz_lt hq hq2 hn (by omega) j (Nat.le_refl 17))
    have k4 : (limbs (timesZ ((enz (f i)).1,val (enz (f i)).2) ((((tabT q n).getD i default).getD j default).1,val (((tabT q n).getD i default).getD j default).2)).2).length ≤ m + 17:=by
     rw [eT2,val_enz,val_enz]
     exact limbs_length_le (mul_pow (hf i hil) (tz_lt hq hq2 hn (by omega) j (Nat.le_refl 17)))
    (apply j_drawK it mx 16;(· rfl);(· rfl))
    (apply lxk_run 4;(· rfl);(· simp))
    (apply lxk_eq;(· rfl);(· exact d_x fun _=>x_idx_own (j) _ rfl rfl sl103 rfl (by omega) rfl dk_eq))
    (apply lxk_vw vw_IntE;(· rfl);(· exact d_ldR_vw vw_IntE 1 2 (j) rfl rfl rfl ld105 rfl (by assumption));intro g2)
    dsimp only [vw_IntE,List.cons_append,List.nil_append,List.map_cons,List.map_nil]
    (apply lxk_eq;(· rfl);(· exact d_bld_all 0 rfl rfl ld105 rfl))
    (apply lxk_run 2;(· rfl);(· simp))
    (apply lxk_pt;(· rfl);(· exact d_x fun _=>x_idx 4 (i) rfl rfl rfl sl118 rfl (by omega) fun z1 hz2 b4 o2=>(dk_ptD default hz2 0 rfl));intro b4 o2)
    (apply lxk_sl;(· rfl);(· exact d_x fun _=>x_ld_sl 0 rfl rfl ld103 fun pa2 ca2=>(dk_sl 0 rfl));intro pa2 ca2)
    (apply lxk_run 1;(· rfl);(· simp))
    (apply lxk_pt;(· rfl);(· exact d_x fun _=>x_idx 0 (j) rfl rfl rfl sl103 rfl (by omega) fun z1 hz2 b5 o3=>(dk_ptD default hz2 0 rfl));intro b5 o3)
    (apply lxk_vw vw_IntE;(· rfl);(· exact d_x fun _=>x_ld_vw vw_IntE 0 rfl rfl ld105 fun _=>dk_vw _);intro g3)
    dsimp only [vw_IntE,List.cons_append,List.nil_append,List.map_cons,List.map_nil]
    (apply lxk_fa (val:=(fun g=>Value.agg #[Value.bool (timesZ ((enz (f i)).fst,val (enz (f i)).snd) ((((tabT q n).getD i default).getD j default).fst,val (((tabT q n).getD i default).getD j default).snd)).fst,Value.slice (g 0).fst (limbs (timesZ ((enz (f i)).fst,val (enz (f i)).snd) ((((tabT q n).getD i default).getD j default).fst,val (((tabT q n).getD i default).getD j default).snd)).snd).length (g 1).snd.fst])) (f:=(fun g=>[slF U32 (g 0).fst (limbs (timesZ ((enz (f i)).fst,val (enz (f i)).snd) ((((tabT q n).getD i default).getD j default).fst,val (((tabT q n).getD i default).getD j default).snd)).snd).length (g 1).snd.fst (limbs (timesZ ((enz (f i)).fst,val (enz (f i)).snd) ((((tabT q n).getD i default).getD j default).fst,val (((tabT q n).getD i default).getD j default).snd)).snd)]));(· rfl);(· exact d_x fun _=>x_call [4,0] rfl (S_macwilliams_times (by omega) (by omega)) rfl (by rintro _ _ _ ⟨pag0,cag1,rfl,rfl,rfl⟩;exact fun _ _ _ hG=>⟨(fun | 0=>(pag0,0,0,[]) | 1=>(none,cag1,0,[]) | _=>default),rfl,fun g hg=>drop_own (hG _ (List.mem_append_left _ hg))⟩));intro g4;dsimp only [List.map_cons,List.map_nil])
    (apply lxk_fa (val:=(fun g=>Value.agg #[Value.bool (plusZ ((enz (szP f (fun i=>tz q n i j) i)).fst,val (enz (szP f (fun i=>tz q n i j) i)).snd) ((timesZ ((enz (f i)).fst,val (enz (f i)).snd) ((((tabT q n).getD i default).getD j default).fst,val (((tabT q n).getD i default).getD j default).snd)).fst,val (limbs (timesZ ((enz (f i)).fst,val (enz (f i)).snd) ((((tabT q n).getD i default).getD j default).fst,val (((tabT q n).getD i default).getD j default).snd)).snd))).fst,Value.slice (g 0).fst (limbs (plusZ ((enz (szP f (fun i=>tz q n i j) i)).fst,val (enz (szP f (fun i=>tz q n i j) i)).snd) ((timesZ ((enz (f i)).fst,val (enz (f i)).snd) ((((tabT q n).getD i default).getD j default).fst,val (((tabT q n).getD i default).getD j default).snd)).fst,val (limbs (timesZ ((enz (f i)).fst,val (enz (f i)).snd) ((((tabT q n).getD i default).getD j default).fst,val (((tabT q n).getD i default).getD j default).snd)).snd))).snd).length (g 1).snd.fst])) (f:=(fun g=>[slF U32 (g 0).fst (limbs (plusZ ((enz (szP f (fun i=>tz q n i j) i)).fst,val (enz (szP f (fun i=>tz q n i j) i)).snd) ((timesZ ((enz (f i)).fst,val (enz (f i)).snd) ((((tabT q n).getD i default).getD j default).fst,val (((tabT q n).getD i default).getD j default).snd)).fst,val (limbs (timesZ ((enz (f i)).fst,val (enz (f i)).snd) ((((tabT q n).getD i default).getD j default).fst,val (((tabT q n).getD i default).getD j default).snd)).snd))).snd).length (g 1).snd.fst (limbs (plusZ ((enz (szP f (fun i=>tz q n i j) i)).fst,val (enz (szP f (fun i=>tz q n i j) i)).snd) ((timesZ ((enz (f i)).fst,val (enz (f i)).snd) ((((tabT q n).getD i default).getD j default).fst,val (((tabT q n).getD i default).getD j default).snd)).fst,val (limbs (timesZ ((enz (f i)).fst,val (enz (f i)).snd) ((((tabT q n).getD i default).getD j default).fst,val (((tabT q n).getD i default).getD j default).snd)).snd))).snd)]));(· rfl);(· exact d_x fun _=>x_call [5,0] rfl (S_macwilliams_plus (by omega) (by omega)) rfl (by rintro _ _ _ ⟨pag0,cag1,rfl,rfl,rfl⟩;exact fun _ _ _ hG=>⟨(fun | 0=>(pag0,0,0,[]) | 1=>(none,cag1,0,[]) | _=>default),rfl,fun g hg=>drop_own (hG _ (List.mem_append_left _ hg))⟩));intro g5;dsimp only [List.map_cons,List.map_nil])
    refine lxk_end rfl ?_
    simp only [List.map_cons,List.map_nil,List.cons_append,List.nil_append]
    refine j_step rfl (x_idx_own (j) _ rfl rfl sl103 rfl (by omega) rfl ?_)
    refine j_step rfl (x_stR (vs:=[Value.bool (plusZ ((enz (szP f (fun i=>tz q n i j) i)).fst,val (enz (szP f (fun i=>tz q n i j) i)).snd) ((timesZ ((enz (f i)).fst,val (enz (f i)).snd) ((((tabT q n).getD i default).getD j default).fst,val (((tabT q n).getD i default).getD j default).snd)).fst,val (limbs (timesZ ((enz (f i)).fst,val (enz (f i)).snd) ((((tabT q n).getD i default).getD j default).fst,val (((tabT q n).getD i default).getD j default).snd)).snd))).fst,Value.slice (g5 0).fst (limbs (plusZ ((enz (szP f (fun i=>tz q n i j) i)).fst,val (enz (szP f (fun i=>tz q n i j) i)).snd) ((timesZ ((enz (f i)).fst,val (enz (f i)).snd) ((((tabT q n).getD i default).getD j default).fst,val (((tabT q n).getD i default).getD j default).snd)).fst,val (limbs (timesZ ((enz (f i)).fst,val (enz (f i)).snd) ((((tabT q n).getD i default).getD j default).fst,val (((tabT q n).getD i default).getD j default).snd)).snd))).snd).length (g5 1).snd.fst]) (z:=((plusZ ((enz (szP f (fun i=>tz q n i j) i)).fst,val (enz (szP f (fun i=>tz q n i j) i)).snd) ((timesZ ((enz (f i)).fst,val (enz (f i)).snd) ((((tabT q n).getD i default).getD j default).fst,val (((tabT q n).getD i default).getD j default).snd)).fst,val (limbs (timesZ ((enz (f i)).fst,val (enz (f i)).snd) ((((tabT q n).getD i default).getD j default).fst,val (((tabT q n).getD i default).getD j default).snd)).snd))).fst,limbs (plusZ ((enz (szP f (fun i=>tz q n i j) i)).fst,val (enz (szP f (fun i=>tz q n i j) i)).snd) ((timesZ ((enz (f i)).fst,val (enz (f i)).snd) ((((tabT q n).getD i default).getD j default).fst,val (((tabT q n).getD i default).getD j default).snd)).fst,val (limbs (timesZ ((enz (f i)).fst,val (enz (f i)).snd) ((((tabT q n).getD i default).getD j default).fst,val (((tabT q n).getD i default).getD j default).snd)).snd))).snd)) 1 9 (j) rfl rfl rfl rfl rfl ld105 rfl (by omega) (fun w A hG=>(rd_pair (v1:=[Value.bool (plusZ ((enz (szP f (fun i=>tz q n i j) i)).fst,val (enz (szP f (fun i=>tz q n i j) i)).snd) ((timesZ ((enz (f i)).fst,val (enz (f i)).snd) ((((tabT q n).getD i default).getD j default).fst,val (((tabT q n).getD i default).getD j default).snd)).fst,val (limbs (timesZ ((enz (f i)).fst,val (enz (f i)).snd) ((((tabT q n).getD i default).getD j default).fst,val (((tabT q n).getD i default).getD j default).snd)).snd))).fst]) (rd_bool _) (rd_of_slF (hG _ (fact_mem (n:=0) rfl))))) fun cs2=>?_)
    refine j_nf [_,_,_,_,_,_,_,_] rfl ?_
    refine j_run it 2 rfl ⟨trivial,⟨by omega,by omega⟩,trivial⟩ ?_
    refine j_nfn 1 [.lp (pL 62668),.blk 2,.blk 1,.c (pL 1959),.lp (pL 244),.blk 0,.c [1,1,1,1]] rfl ?_
    simp only [eT2,val_enz,val_limbs,zs_eta,List.set_set]
    rw [← eS,enz_eq]
    refine j_toM [false,true] [0,11,12] (by exact fra rfl) rfl rfl (ihi (i + 1,cs2) (by dsimp only;omega) (by dsimp only;omega))
   ·rw [range_get _ hil] at hz1
    obtain rfl:=Option.some.inj hz1
    have hze : (f i).2 = 0:=by
     have h2 : ¬ (0 : Int) < ((limbs (f i).2).length : Int):=by assumption
     exact limbs_nil.1 (List.eq_nil_of_length_eq_zero (by omega))
    have eS : szP f (fun i=>tz q n i j) (i + 1) = szP f (fun i=>tz q n i j) i:=by rw [szP,if_pos hze]
    refine j_nf [_,_,_,_,_,_,_,_] rfl ?_
    refine j_run it 2 rfl ⟨trivial,⟨by omega,by omega⟩,trivial⟩ ?_
    refine j_nfn 1 [.lp (pL 62668),.blk 2,.blk 1,.c (pL 1959),.lp (pL 244),.blk 0,.c [1,1,1,1]] rfl ?_
    have ih':=ihi (i + 1,cs) (by dsimp only;omega) (by dsimp only;omega)
    rw [eS] at ih'
    refine j_toM [false,true] [2,3,4] (by exact fra rfl) rfl rfl (ih')
  ·obtain rfl : n + 1 = i:=by omega
   rw [mapTo_set (fun j=>enz (szP f (fun i=>tz q n i j) (n + 1)))]
   refine j_nf [_,_,_,_,_,_,_,_,_] rfl ?_
   refine j_run it 1 rfl (by simp) ?_
   refine j_nf [_,_,_,_,_,_,_,_,_] rfl ?_
   refine j_if rfl rfl (fun h2=>by exfalso;omega) (fun h2=>?_)
   refine j_nf [_,_,_,_] rfl ?_
   refine j_run it 2 rfl ⟨trivial,⟨by omega,by omega⟩,trivial⟩ ?_
   refine j_nfn 1 [.lp (pL 244),.blk 0,.c [1,1,1,1]] rfl ?_
   refine j_to [0,1,2] (by exact fra rfl) rfl rfl (ih (j + 1,cs) (by dsimp only;omega) (by dsimp only;omega))
 ·obtain rfl : n + 1 = j:=by omega
  rw [mapTo_all]
  refine j_nf [_,_,_,_,_] rfl ?_
  refine j_run it 1 rfl (by simp) ?_
  refine j_nf [_,_,_,_,_] rfl ?_
  refine j_if rfl rfl (fun h1=>by exfalso;omega) (fun h1=>?_)
  refine j_nf [_,_] rfl ?_
  refine j_run it 2 rfl (by simp) ?_
  refine j_nf [_] rfl ?_
  refine j_pubR 0 0 rfl rfl (by show (n + 1) * 32 ≤ 140737488355328;omega) ?_
  refine j_giv [0] rfl rfl rfl ⟨_,_,rfl,rfl,rfl⟩
abbrev SvE {α : Type} (E : Enc α) (n : Nat) (l : List α) (e : Int) : Value → List Fact → List Blk → Prop:=fun v Φ β=>∃ pa ca,v = .tuple #[.slice pa n ca,.int .i64 e] ∧ Φ = [slF E pa n ca l] ∧ β = []
def trL (q n : Nat) (L : List Rt) : List Rt:=(List.range (n + 1)).map fun j=>rt (trP L (fun i=>kr ((q : Int) - 1) n j i) (n + 1))
theorem S_macwilliams_Transform {q n K : Nat} {pa : Option Addr} {ca : Nat} {L : List Rt} (hq : 2 ≤ q) (hq2 : q ≤ 256) (hn : n ≤ 64) (hl : L.length = n + 1) (hK1 : 1 ≤ K) (hK : K ≤ 10000) (hL : ∀ r ∈ L,okR K r) :
  Ctr Tryz.prog 52 [.int .i64 q,.slice pa (n + 1) ca] [] [slF RatE pa (n + 1) ca L] (SvE RatE (n + 1) (trL q n L) 0):=by
 refine Ctr_of_j' (F:=F_macwilliams_Transform) rfl fun C=>?_
 have hw : wrongOf (q : Int) (n + 1) = 0:=by rw [wrongOf,if_neg (by omega),shapeOf,if_neg (by omega)]
 have hg : ∀ i,i < n + 1 → okR K (L.getD i default):=fun i hi=>hL _ (by rw [List.getD,List.getElem?_eq_getElem (by omega)];exact List.getElem_mem _)
 have hb : ∀ i,i < n + 1 → bd K (qAt L i):=fun i hi=>okR_bd (hg i hi) hK1
 refine j_nf [_,_] rfl ?_
 refine j_run it 2 rfl (by simp) ?_
 refine j_nf [_,_,_] rfl ?_
 refine j_run it 2 rfl (by simp) ?_
 refine j_step rfl (x_len sl27 rfl ?_)
 refine j_step rfl (x_call [] rfl (S_macwilliams_wrong) rfl ?_)
 rintro _ _ _ ⟨rfl,rfl,rfl⟩
 simp only [List.cons_append,List.nil_append]
 refine j_run it 1 rfl (by simp) ?_
 refine j_nf [_,_,_] rfl ?_
 refine j_run it 2 rfl (by simp) ?_
 refine j_nf [_,_] rfl ?_
 refine j_ifn rfl rfl (fun h1=>by exfalso;omega) (fun h1=>?_)
 refine j_nf [_,_] rfl ?_
 refine j_step rfl (x_lit sl24 zo24e rfl rfl rfl rfl (by decide) (by decide) rfl fun b1=>?_)
 refine j_run it 1 rfl (by simp) ?_
 refine j_nf [_,_] rfl ?_
 refine j_run it 1 rfl (by simp) ?_
 refine j_nf [_,_,_] rfl ?_
 refine j_run it 1 rfl (by simp) ?_
 refine j_step rfl (x_len sl27 rfl ?_)
 refine j_run it 1 rfl (by simp) ?_
 refine j_nf [_,_,_] rfl ?_
 refine j_pub_made (n:=1) (kd:=.u32) 4 [1] 0 rfl rfl (by simp [InR]) (by decide) (by decide) ?_
 have el : limbs (lcmP L 0) = [1]:=limbs_one
 refine j_add (slF U32 (some ⟨b1,0,none⟩) (limbs (lcmP L 0)).length 1 (limbs (lcmP L 0))) (fun w A hG=>by rw [el];exact hG _ (fact_mem (n:=0) rfl)) ?_
 refine j_row0 RatE 26 ?_
 refine j_loopG (X:=Nat × (Option Addr × Nat) × Row) [0,4,5,31,32] [3] (fun x=>[(33,.int .i64 x.1),(7,.slice x.2.1.1 (limbs (lcmP L x.1)).length x.2.1.2),(8,.slice (ad x.2.2.bo) x.1 x.2.2.cap)])
  (fun x=>[(x.2.2.bo,26,x.2.2.cs)])
  (fun x=>[rowF RatE x.2.2 x.1 ((List.range x.1).map fun k=>rt (qAt L k)),slF U32 x.2.1.1 (limbs (lcmP L x.1)).length x.2.1.2 (limbs (lcmP L x.1))])
  (fun x=>x.1 ≤ n + 1) (fun x=>n + 1 - x.1) (0,(some ⟨b1,0,none⟩,1),⟨none,0,[]⟩) [0,1] rfl rfl rfl (Nat.zero_le _) (by
   rw [show (limbs (lcmP L (0,((some ⟨b1,0,none⟩ : Option Addr),1),(⟨none,0,[]⟩ : Row)).1)).length = 1 by rw [show limbs (lcmP L (0,((some ⟨b1,0,none⟩ : Option Addr),1),(⟨none,0,[]⟩ : Row)).1) = [1] from el];rfl]
   repeat (first | exact Fr.sub_nil _ | refine Fr.sub_cons rfl ?_)) rfl rfl ?_
 rintro ⟨i,⟨pd,cd⟩,r⟩ hi ih
 simp only [List.cons_append,List.nil_append] at hi ih ⊢
 by_cases hil : i < n + 1
 ·refine j_nf [_,_,_,_,_] rfl ?_
  refine j_run it 1 rfl (by simp) ?_
  refine j_nf [_,_,_,_,_] rfl ?_
  refine j_if rfl rfl (fun h2=>?_) (fun h2=>by exfalso;omega)
  refine j_nf [_,_,_,_,_,_,_] rfl ?_
  refine j_step rfl (x_idx 2 (i) rfl rfl rfl sl27 rfl (by omega) fun z1 hz1 b2 o1=>?_)
  refine j_step rfl (x_ld_rt 0 rfl rfl ld26 fun pa1 ca1 pa2 ca2=>?_)
  refine j_step rfl (x_alloc zo26 fun b3=>?_)
  refine j_step rfl (x_bst_all 0 rfl rfl rfl ld26 rfl rfl (by simp [Value.oneCell']) ?_)
  refine j_nf [_,_,_,_,_,_,_] rfl ?_
  refine j_step rfl (x_bld_all 0 rfl rfl ld26 rfl ?_) --ok
  have hz : L.getD i default = z1:=by rw [List.getD,hz1];rfl
  obtain ⟨o1,o2,o3,o4⟩:=hg i hil
  rw [hz] at o1 o2 o3 o4
  have eq : vq (z1.1,z1.2.1,z1.2.2) = qAt L i:=by rw [qAt,hz]
  refine j_step rfl (x_call [0,1] rfl (S_rational_Trim (by omega) (by omega)) rfl ?_)
  rintro _ _ _ ⟨pn1,cn1,pd1,cd1,rfl,rfl,rfl⟩
  simp only [List.cons_append,List.nil_append]
  refine j_step rfl (x_bst_all 0 rfl rfl rfl ld26 rfl rfl (by simp [Value.oneCell']) ?_)
  rw [eq]
  obtain ⟨m1,m2⟩:=bd_len (hb i hil)
  have hKi : K * i ≤ 10000 * 65:=Nat.mul_le_mul hK (by omega)
  have m3 : (limbs (lcmP L i)).length ≤ K * i + 1:=limbs_length_le (lcmP_lt fun j hj=>(hb j (by omega)).2)
  have hg0 : val (limbs (Nat.gcd (val (rt (qAt L i)).2.2) (val (limbs (lcmP L i))))) ≠ 0:=by
   rw [val_limbs,val_limbs]
   exact Nat.ne_of_gt (Nat.gcd_pos_of_pos_right _ (lcmP_pos L i))
  have m4 : (limbs (val (rt (qAt L i)).2.2 / val (limbs (Nat.gcd (val (rt (qAt L i)).2.2) (val (limbs (lcmP L i))))))).length ≤ K:=by
   refine limbs_length_le (Nat.lt_of_le_of_lt (Nat.div_le_self _ _) ?_)
   rw [den_rt];exact (hb i hil).2
  have m5 : lenS [limbs (lcmP L i),limbs (val (rt (qAt L i)).2.2 / val (limbs (Nat.gcd (val (rt (qAt L i)).2.2) (val (limbs (lcmP L i))))))] ≤ 1073741824:=by simp [lenS];omega
  have eD : limbs (prodV [limbs (lcmP L i),limbs (val (rt (qAt L i)).2.2 / val (limbs (Nat.gcd (val (rt (qAt L i)).2.2) (val (limbs (lcmP L i))))))]) = limbs (lcmP L (i + 1)):=by
   simp [prodV,val_limbs,lcmP,den_rt]
  refine j_nf [_,_,_,_,_,_,_] rfl ?_
  refine j_run it 1 rfl (by simp) ?_
  refine j_step rfl (x_bld_all 0 rfl rfl ld26 rfl ?_)
  refine j_step rfl (x_lit sl27 zo27e rfl rfl rfl rfl (by decide) (by decide) rfl fun b4=>?_)
  refine j_step rfl (x_appR (z:=((rt (qAt L i)).fst,((rt (qAt L i)).snd.fst,(rt (qAt L i)).snd.snd))) 2 0 5 rfl rfl rfl rfl rfl sl27 zo27e rfl (fun w A hG=>(rd_pair (v1:=[Value.bool (rt (qAt L i)).fst]) (rd_bool _) (rd_pair (v1:=[Value.slice pn1 (rt (qAt L i)).snd.fst.length cn1]) (rd_of_slF (hG _ (fact_mem (n:=0) rfl))) (rd_of_slF (hG _ (fact_mem (n:=1) rfl)))))) (by omega) _ by27e (by omega) fun r1=>?_)
  refine j_run it 1 rfl (by simp) ?_
  refine j_nf [_,_,_,_,_,_,_] rfl ?_
  (apply j_drawK it mx 13;(· rfl);(· rfl))
  (apply lxk_eq;(· rfl);(· exact d_x fun _=>x_field rfl fd26_2 dk_eq))
  (apply lxk_eq;(· rfl);(· exact d_bld 2 rfl rfl ld24 rfl))
  (apply lxk_eq;(· rfl);(· exact d_x fun _=>x_field rfl fd26_2 dk_eq))
  (apply lxk_eq;(· rfl);(· exact d_bld 2 rfl rfl ld24 rfl))
  (apply lxk_run 1;(· rfl);(· simp))
  (apply lxk_sl;(· rfl);(· exact d_x fun _=>x_call [2,7] rfl (S_nat_Gcd (by omega) (by omega)) rfl (by rintro _ _ _ ⟨pa3,ca3,rfl,rfl,rfl⟩;exact (dk_sl 0 rfl)));intro pa3 ca3)
  (apply lxk_fa (val:=(fun g=>Value.tuple #[Value.slice (g 0).fst (limbs (val (rt (qAt L i)).snd.snd / val (limbs ((val (rt (qAt L i)).snd.snd).gcd (val (limbs (lcmP L i))))))).length (g 1).snd.fst,Value.slice (g 2).fst (limbs (val (rt (qAt L i)).snd.snd % val (limbs ((val (rt (qAt L i)).snd.snd).gcd (val (limbs (lcmP L i))))))).length (g 3).snd.fst,Value.int IntKind.i64 0])) (f:=(fun g=>[slF U32 (g 0).fst (limbs (val (rt (qAt L i)).snd.snd / val (limbs ((val (rt (qAt L i)).snd.snd).gcd (val (limbs (lcmP L i))))))).length (g 1).snd.fst (limbs (val (rt (qAt L i)).snd.snd / val (limbs ((val (rt (qAt L i)).snd.snd).gcd (val (limbs (lcmP L i))))))),slF U32 (g 2).fst (limbs (val (rt (qAt L i)).snd.snd % val (limbs ((val (rt (qAt L i)).snd.snd).gcd (val (limbs (lcmP L i))))))).length (g 3).snd.fst (limbs (val (rt (qAt L i)).snd.snd % val (limbs ((val (rt (qAt L i)).snd.snd).gcd (val (limbs (lcmP L i)))))))]));(· rfl);(· exact d_x fun _=>x_call [3,0] rfl (S_nat_DivMod (by omega) (by omega)) rfl (by rintro _ _ _ ⟨p1g0,c1g1,p2g2,c2g3,rfl,rfl,rfl⟩;exact fun _ _ _ hG=>⟨(fun | 0=>(p1g0,0,0,[]) | 1=>(none,c1g1,0,[]) | 2=>(p2g2,0,0,[]) | 3=>(none,c2g3,0,[]) | _=>default),rfl,fun g hg=>drop_own (hG _ (List.mem_append_left _ hg))⟩));intro g1;dsimp only [List.map_cons,List.map_nil])
  (apply lxk_fa (val:=fun g=>Value.tuple #[Value.slice (g 0).1 ((limbs (val (rt (qAt L i)).snd.snd / val (limbs ((val (rt (qAt L i)).snd.snd).gcd (val (limbs (lcmP L i))))))).length) (g 0).2.1,Value.slice (g 1).1 ((limbs (val (rt (qAt L i)).snd.snd % val (limbs ((val (rt (qAt L i)).snd.snd).gcd (val (limbs (lcmP L i))))))).length) (g 1).2.1,Value.int IntKind.i64 0]) (f:=fun g=>[slF (U32) (g 0).1 ((limbs (val (rt (qAt L i)).snd.snd / val (limbs ((val (rt (qAt L i)).snd.snd).gcd (val (limbs (lcmP L i))))))).length) (g 0).2.1 (limbs (val (rt (qAt L i)).snd.snd / val (limbs ((val (rt (qAt L i)).snd.snd).gcd (val (limbs (lcmP L i))))))),slF (U32) (g 1).1 ((limbs (val (rt (qAt L i)).snd.snd % val (limbs ((val (rt (qAt L i)).snd.snd).gcd (val (limbs (lcmP L i))))))).length) (g 1).2.1 (limbs (val (rt (qAt L i)).snd.snd % val (limbs ((val (rt (qAt L i)).snd.snd).gcd (val (limbs (lcmP L i)))))))]);(· rfl);(· exact d_x fun _=>x_pv it rfl (by trivial) (fun _ _ _ hG=>⟨(fun | 0=>((g1 0).fst,(g1 1).snd.fst,0,[]) | 1=>((g1 2).fst,(g1 3).snd.fst,0,[]) | _=>default),rfl,fun g hg=>by (simp only [List.mem_cons,List.not_mem_nil,or_false] at hg;rcases hg with rfl | rfl;(· exact drop_own (hG _ (fact_mem (n:=0) rfl)));(· exact drop_own (hG _ (fact_mem (n:=1) rfl))))⟩));intro g2;dsimp only [List.map_cons,List.map_nil,List.cons_append,List.nil_append])
  (apply lxk_fa (val:=fun g=>Value.slice (g 0).1 ((limbs (val (rt (qAt L i)).snd.snd / val (limbs ((val (rt (qAt L i)).snd.snd).gcd (val (limbs (lcmP L i))))))).length) (g 0).2.1) (f:=fun g=>[slF (U32) (g 0).1 ((limbs (val (rt (qAt L i)).snd.snd / val (limbs ((val (rt (qAt L i)).snd.snd).gcd (val (limbs (lcmP L i))))))).length) (g 0).2.1 (limbs (val (rt (qAt L i)).snd.snd / val (limbs ((val (rt (qAt L i)).snd.snd).gcd (val (limbs (lcmP L i)))))))]);(· rfl);(· exact d_x fun _=>x_pv it rfl (by trivial) (fun _ _ _ hG=>⟨(fun | 0=>((g2 0).fst,(g2 0).snd.fst,0,[]) | _=>default),rfl,fun g hg=>by (simp only [List.mem_cons,List.not_mem_nil,or_false] at hg;rcases hg with rfl;(· exact drop_own (hG _ (fact_mem (n:=0) rfl))))⟩));intro g3;dsimp only [List.map_cons,List.map_nil,List.cons_append,List.nil_append])
  (apply lxk_fa (val:=fun g=>Value.slice (g 0).1 ((limbs (val (rt (qAt L i)).snd.snd % val (limbs ((val (rt (qAt L i)).snd.snd).gcd (val (limbs (lcmP L i))))))).length) (g 0).2.1) (f:=fun g=>[slF (U32) (g 0).1 ((limbs (val (rt (qAt L i)).snd.snd % val (limbs ((val (rt (qAt L i)).snd.snd).gcd (val (limbs (lcmP L i))))))).length) (g 0).2.1 (limbs (val (rt (qAt L i)).snd.snd % val (limbs ((val (rt (qAt L i)).snd.snd).gcd (val (limbs (lcmP L i)))))))]);(· rfl);(· exact d_x fun _=>x_pv it rfl (by trivial) (fun _ _ _ hG=>⟨(fun | 0=>((g2 1).fst,(g2 1).snd.fst,0,[]) | _=>default),rfl,fun g hg=>by (simp only [List.mem_cons,List.not_mem_nil,or_false] at hg;rcases hg with rfl;(· exact drop_own (hG _ (fact_mem (n:=1) rfl))))⟩));intro g4;dsimp only [List.map_cons,List.map_nil,List.cons_append,List.nil_append])
  (apply lxk_eq;(· rfl);(· exact d_x fun _=>x_pv it rfl (by trivial) dk_eq))
  (apply lxk_fa (val:=fun g=>Value.slice (g 0).1 ((limbs (val (rt (qAt L i)).snd.snd / val (limbs ((val (rt (qAt L i)).snd.snd).gcd (val (limbs (lcmP L i))))))).length) (g 0).2.1) (f:=fun g=>[slF (U32) (g 0).1 ((limbs (val (rt (qAt L i)).snd.snd / val (limbs ((val (rt (qAt L i)).snd.snd).gcd (val (limbs (lcmP L i))))))).length) (g 0).2.1 (limbs (val (rt (qAt L i)).snd.snd / val (limbs ((val (rt (qAt L i)).snd.snd).gcd (val (limbs (lcmP L i)))))))]);(· rfl);(· exact d_x fun _=>x_pv it rfl (by trivial) (fun _ _ _ hG=>⟨(fun | 0=>((g3 0).fst,(g3 0).snd.fst,0,[]) | _=>default),rfl,fun g hg=>by (simp only [List.mem_cons,List.not_mem_nil,or_false] at hg;rcases hg with rfl;(· exact drop_own (hG _ (fact_mem (n:=0) rfl))))⟩));intro g5;dsimp only [List.map_cons,List.map_nil,List.cons_append,List.nil_append])
  (apply lxk_fa (val:=fun g=>Value.slice (g 0).1 ((limbs (val (rt (qAt L i)).snd.snd % val (limbs ((val (rt (qAt L i)).snd.snd).gcd (val (limbs (lcmP L i))))))).length) (g 0).2.1) (f:=fun g=>[slF (U32) (g 0).1 ((limbs (val (rt (qAt L i)).snd.snd % val (limbs ((val (rt (qAt L i)).snd.snd).gcd (val (limbs (lcmP L i))))))).length) (g 0).2.1 (limbs (val (rt (qAt L i)).snd.snd % val (limbs ((val (rt (qAt L i)).snd.snd).gcd (val (limbs (lcmP L i)))))))]);(· rfl);(· exact d_x fun _=>x_pv it rfl (by trivial) (fun _ _ _ hG=>⟨(fun | 0=>((g4 0).fst,(g4 0).snd.fst,0,[]) | _=>default),rfl,fun g hg=>by (simp only [List.mem_cons,List.not_mem_nil,or_false] at hg;rcases hg with rfl;(· exact drop_own (hG _ (fact_mem (n:=1) rfl))))⟩));intro g6;dsimp only [List.map_cons,List.map_nil,List.cons_append,List.nil_append])
  refine lxk_end rfl ?_
  simp only [List.map_cons,List.map_nil,List.cons_append,List.nil_append]
  refine j_run it 1 rfl (by simp) ?_
  refine j_nf [_,_,_,_,_,_] rfl ?_
  refine j_run it 2 rfl (by simp) ?_
  refine j_step rfl (x_lit sl117 zo117e rfl rfl rfl rfl (by decide) (by decide) rfl fun b5=>?_)
  refine j_pub_all (E:=(encSl U32)) (n:=2) [[Value.slice pd (limbs (lcmP L i)).length cd],[Value.slice (g5 0).fst (limbs (val (rt (qAt L i)).snd.snd / val (limbs ((val (rt (qAt L i)).snd.snd).gcd (val (limbs (lcmP L i))))))).length (g5 0).snd.fst]] [limbs (lcmP L i),limbs (val (rt (qAt L i)).snd.snd / val (limbs ((val (rt (qAt L i)).snd.snd).gcd (val (limbs (lcmP L i))))))] 0 (fun w A hG=>(allrd_cons (rd_of_slF (hG _ (fact_mem (n:=16) rfl))) (allrd_cons (rd_of_slF (hG _ (fact_mem (n:=1) rfl))) allrd_nil))) rfl rfl rfl rfl (by first | decide | exact Nat.le_of_ble_eq_true rfl) (by first | decide | exact Nat.le_of_ble_eq_true rfl) ?_
  refine j_step rfl (x_call [0] rfl (S_nat_Mul (by omega)) rfl ?_)
  rintro _ _ _ ⟨pa4,ca4,rfl,rfl,rfl⟩
  simp only [List.cons_append,List.nil_append]
  refine j_run it 1 rfl (by simp) ?_
  refine j_nf [_,_,_,_] rfl ?_
  refine j_run it 2 rfl ⟨trivial,⟨by omega,by omega⟩,trivial⟩ ?_
  refine j_nfn 1 [.lp (pL 500),.blk 0,.c [1,1,1,1,1]] rfl ?_
  rw [eD,show ((rt (qAt L i)).1,(rt (qAt L i)).2.1,(rt (qAt L i)).2.2) = rt (qAt L i) from rfl,← range_snoc fun k=>rt (qAt L k)]
  refine j_toM [true,false,false] [11,0,19] (by exact fra rfl) rfl rfl (ih (i + 1,(pa4,ca4),r1) (by dsimp only;omega) (by dsimp only;omega))
 ·obtain rfl : n + 1 = i:=by omega
  have hKn : K * (n + 1) ≤ 10000 * 65:=Nat.mul_le_mul hK (by omega)
  have hD : lcmP L (n + 1) < 4294967296 ^ (K * (n + 1) + 1):=lcmP_lt fun j hj=>(hb j (by omega)).2
  have m3 : (limbs (lcmP L (n + 1))).length ≤ K * (n + 1) + 1:=limbs_length_le hD
  have hwz : ∀ i,i < n + 1 → (wz L (lcmP L (n + 1)) i).2 < 4294967296 ^ (K + (K * (n + 1) + 1)):=fun i hi=>wz_lt (hb i hi).1 hD
  have hM : K + (K * (n + 1) + 1) ≤ 10000000:=by omega
  refine j_nf [_,_,_,_,_] rfl ?_
  refine j_run it 1 rfl (by simp) ?_
  refine j_nf [_,_,_,_,_] rfl ?_
  refine j_if rfl rfl (fun h2=>by exfalso;omega) (fun h2=>?_)
  refine j_nf [_,_] rfl ?_
  refine j_run it 1 rfl (by simp) ?_
  refine j_nf [_,_,_] rfl ?_
  refine j_run it 1 rfl (by simp) ?_
  refine j_step rfl (x_len sl27 rfl ?_)
  refine j_run it 1 rfl (by simp) ?_
  refine j_nf [_,_,_] rfl ?_
  refine j_pubR 0 0 rfl rfl (by show (n + 1) * 56 ≤ 140737488355328;omega) ?_
  refine j_row0 IntE 105 ?_
  refine j_loopG (X:=Nat × Row) [0,4,5,7,59,60] [1,3] (fun x=>[(61,.int .i64 x.1),(14,.slice (ad x.2.bo) x.1 x.2.cap)])
   (fun x=>[(x.2.bo,105,x.2.cs)])
   (fun x=>[rowF IntE x.2 x.1 ((List.range x.1).map fun i=>enz (wz L (lcmP L (n + 1)) i))])
   (fun x=>x.1 ≤ n + 1) (fun x=>n + 1 - x.1) (0,⟨none,0,[]⟩) [0] rfl rfl rfl (Nat.zero_le _) (by repeat (first | exact Fr.sub_nil _ | refine Fr.sub_cons rfl ?_)) rfl rfl ?_
  rintro ⟨i,r2⟩ hi ih2
  simp only [List.cons_append,List.nil_append] at hi ih2 ⊢
  by_cases hil : i < n + 1
  ·refine j_nf [_,_,_,_,_] rfl ?_
   refine j_run it 1 rfl (by simp) ?_
   refine j_nf [_,_,_,_,_] rfl ?_
   refine j_if rfl rfl (fun h3=>?_) (fun h3=>by exfalso;omega)
   refine j_nf [_,_,_,_,_,_,_] rfl ?_
   refine j_step rfl (x_idx 1 (i) rfl rfl rfl sl27 rfl (by omega) fun z1 hz1 b2 o1=>?_)
   refine j_step rfl (x_ld_rt 0 rfl rfl ld26 fun pa1 ca1 pa2 ca2=>?_)
   refine j_step rfl (x_alloc zo26 fun b3=>?_)
   refine j_step rfl (x_bst_all 0 rfl rfl rfl ld26 rfl rfl (by simp [Value.oneCell']) ?_)
   refine j_nf [_,_,_,_,_,_,_] rfl ?_
   refine j_run it 1 rfl (by simp) ?_
   refine j_step rfl (x_field rfl fd26_2 ?_)
   refine j_step rfl (x_bld 0 rfl rfl ld24 rfl ?_) --ok
   rw [range_get _ hil] at hz1
   obtain rfl:=Option.some.inj hz1
   obtain ⟨m1,m2⟩:=bd_len (hb i hil)
   have hd0:=den_ne (qAt L i)
   have m4 : (limbs (val (limbs (lcmP L (n + 1))) / val (rt (qAt L i)).2.2)).length ≤ K * (n + 1) + 1:=by
    rw [val_limbs]
    exact limbs_length_le (Nat.lt_of_le_of_lt (Nat.div_le_self _ _) hD)
   have m5 : lenS [(rt (qAt L i)).2.1,limbs (val (limbs (lcmP L (n + 1))) / val (rt (qAt L i)).2.2)] ≤ 1073741824:=by simp [lenS];omega
   have eW : ((rt (qAt L i)).1,limbs (prodV [(rt (qAt L i)).2.1,limbs (val (limbs (lcmP L (n + 1))) / val (rt (qAt L i)).2.2)])) = enz (wz L (lcmP L (n + 1)) i):=by
    simp [prodV,val_limbs,num_rt,den_rt,enz,wz,neg_rt]
   refine j_step rfl (x_call [5,1] rfl (S_nat_DivMod (by omega) (by omega)) rfl ?_)
   rintro _ _ _ ⟨p11,c11,p21,c21,rfl,rfl,rfl⟩
   simp only [List.cons_append,List.nil_append]
   refine j_run it 7 rfl (by simp) ?_
   refine j_nf [_,_,_,_,_,_] rfl ?_
   (apply j_drawK it mx 10;(· rfl);(· rfl))
   (apply lxk_run 1;(· rfl);(· simp))
   (apply lxk_eq;(· rfl);(· exact d_x fun _=>x_field rfl fd26_0 dk_eq))
   (apply lxk_eq;(· rfl);(· exact d_bld 0 rfl rfl ld4 rfl))
   (apply lxk_eq;(· rfl);(· exact d_x fun _=>x_field rfl fd26_1 dk_eq))
   (apply lxk_eq;(· rfl);(· exact d_bld 0 rfl rfl ld24 rfl))
   (apply lxk_run 1;(· rfl);(· simp))
   (apply lxk_sl;(· rfl);(· exact d_x fun _=>x_lit sl117 zo117e rfl rfl rfl rfl (by decide) (by decide) rfl fun b4=>dk_all (E:=(encSl U32)) [[Value.slice pa1 (rt (qAt L i)).snd.fst.length ca1],[Value.slice p11 (limbs (val (limbs (lcmP L (n + 1))) / val (rt (qAt L i)).snd.snd)).length c11]] [(rt (qAt L i)).snd.fst,limbs (val (limbs (lcmP L (n + 1))) / val (rt (qAt L i)).snd.snd)] (fun w A hG=>(allrd_cons (rd_of_slF (hG _ (fact_mem (n:=2) rfl))) (allrd_cons (rd_of_slF (hG _ (fact_mem (n:=0) rfl))) allrd_nil))) rfl rfl rfl (by first | decide | exact Nat.le_of_ble_eq_true rfl));intro pa3 ca3)
   (apply lxk_sl;(· rfl);(· exact d_x fun _=>x_call [0] rfl (S_nat_Mul (by omega)) rfl (by rintro _ _ _ ⟨pa4,ca4,rfl,rfl,rfl⟩;exact (dk_sl 0 rfl)));intro pa4 ca4)
   (apply lxk_fa (val:=fun g=>Value.agg #[Value.bool (rt (qAt L i)).fst,Value.slice (g 1).1 ((limbs (prodV [(rt (qAt L i)).snd.fst,limbs (val (limbs (lcmP L (n + 1))) / val (rt (qAt L i)).snd.snd)])).length) (g 1).2.1]) (f:=fun g=>[slF (U32) (g 1).1 ((limbs (prodV [(rt (qAt L i)).snd.fst,limbs (val (limbs (lcmP L (n + 1))) / val (rt (qAt L i)).snd.snd)])).length) (g 1).2.1 (limbs (prodV [(rt (qAt L i)).snd.fst,limbs (val (limbs (lcmP L (n + 1))) / val (rt (qAt L i)).snd.snd)]))]);(· rfl);(· exact d_x fun _=>x_build (cs:=[Value.bool (rt (qAt L i)).fst,Value.slice pa4 (limbs (prodV [(rt (qAt L i)).snd.fst,limbs (val (limbs (lcmP L (n + 1))) / val (rt (qAt L i)).snd.snd)])).length ca4]) st105 zo105 rfl rfl (fun _ _ _ hG=>⟨(fun | 1=>(pa4,ca4,0,[]) | _=>default),rfl,fun g hg=>by (simp only [List.mem_cons,List.not_mem_nil,or_false] at hg;rcases hg with rfl;(· exact drop_own (hG _ (fact_mem (n:=0) rfl))))⟩));intro g1;dsimp only [List.map_cons,List.map_nil])
   (apply lxk_sl;(· rfl);(· exact d_x fun _=>x_lit sl103 zo103e rfl rfl rfl rfl (by decide) (by decide) rfl fun b4=>dk_all (E:=IntE) [[Value.bool (rt (qAt L i)).fst,Value.slice (g1 1).fst (limbs (prodV [(rt (qAt L i)).snd.fst,limbs (val (limbs (lcmP L (n + 1))) / val (rt (qAt L i)).snd.snd)])).length (g1 1).snd.fst]] [((rt (qAt L i)).fst,limbs (prodV [(rt (qAt L i)).snd.fst,limbs (val (limbs (lcmP L (n + 1))) / val (rt (qAt L i)).snd.snd)]))] (fun w A hG=>(allrd_cons (rd_pair (v1:=[Value.bool (rt (qAt L i)).fst]) (rd_bool _) (rd_of_slF (hG _ (fact_mem (n:=0) rfl)))) allrd_nil)) rfl rfl rfl (by first | decide | exact Nat.le_of_ble_eq_true rfl));intro pa5 ca5)
   refine lxk_end rfl ?_
   simp only [List.map_cons,List.map_nil,List.cons_append,List.nil_append]
   refine j_step rfl (x_appS 1 9 0 rfl rfl rfl rfl rfl sl103 zo103e rfl (by omega) _ by103e (by omega) fun r1=>?_)
   refine j_run it 1 rfl (by simp) ?_
   refine j_nf [_,_,_,_] rfl ?_
   refine j_run it 2 rfl ⟨trivial,⟨by omega,by omega⟩,trivial⟩ ?_
   refine j_nfn 1 [.lp (pL 2036),.blk 2,.c (pL 255)] rfl ?_
   rw [eW,← range_snoc fun i=>enz (wz L (lcmP L (n + 1)) i)]
   refine j_toM [true,false] [0,11,12] (by exact fra rfl) rfl rfl (ih2 (i + 1,r1) (by dsimp only;omega) (by dsimp only;omega))
  ·obtain rfl : n + 1 = i:=by omega
   refine j_nf [_,_,_,_,_] rfl ?_
   refine j_run it 1 rfl (by simp) ?_
   refine j_nf [_,_,_,_,_] rfl ?_
   refine j_if rfl rfl (fun h3=>by exfalso;omega) (fun h3=>?_)
   refine j_nf [_,_] rfl ?_
   refine j_run it 1 rfl (by simp) ?_
   refine j_nf [_,_,_] rfl ?_
   refine j_run it 2 rfl (by simp) ?_
   refine j_pubR 0 0 rfl rfl (by show (n + 1) * 32 ≤ 140737488355328;omega) ?_
   refine j_step rfl (x_call [0] rfl (S_macwilliams_sums (by omega) (by omega) (by omega) (by omega) (by omega)) rfl ?_)
   rintro _ _ _ ⟨pa1,ca1,rfl,rfl,rfl⟩
   simp only [List.cons_append,List.nil_append]
   refine j_step rfl (x_len sl103 rfl ?_)
   refine j_run it 1 rfl (by simp) ?_
   refine j_nf [_,_,_] rfl ?_
   refine j_row0 RatE 26 ?_
   refine j_loopG (X:=Nat × Row) [4,5,7,87,88] [0,1,2,3,4,5] (fun x=>[(89,.int .i64 x.1),(20,.slice (ad x.2.bo) x.1 x.2.cap)])
    (fun x=>[(x.2.bo,26,x.2.cs)])
    (fun x=>[rowF RatE x.2 x.1 ((List.range x.1).map fun j=>rt (trP L (fun i=>kr ((q : Int) - 1) n j i) (n + 1)))])
    (fun x=>x.1 ≤ n + 1) (fun x=>n + 1 - x.1) (0,⟨none,0,[]⟩) [0] rfl rfl rfl (Nat.zero_le _) (by repeat (first | exact Fr.sub_nil _ | refine Fr.sub_cons rfl ?_)) rfl rfl ?_
   rintro ⟨j,r3⟩ hj ih3
   simp only [List.cons_append,List.nil_append] at hj ih3 ⊢
   by_cases hjl : j < n + 1
   ·refine j_nf [_,_,_,_,_] rfl ?_
    refine j_run it 1 rfl (by simp) ?_
    refine j_nf [_,_,_,_,_] rfl ?_
    refine j_if rfl rfl (fun h4=>?_) (fun h4=>by exfalso;omega)
    refine j_nf [_,_,_,_,_,_,_] rfl ?_
    refine j_step rfl (x_idx 2 (j) rfl rfl rfl sl103 rfl (by omega) fun z1 hz1 b2 o1=>?_)
    refine j_step rfl (x_ld_vw vw_IntE 0 rfl rfl ld105 fun g1=>?_)
    dsimp only [vw_IntE,List.cons_append,List.nil_append,List.map_cons,List.map_nil]
    refine j_step rfl (x_alloc zo105 fun b3=>?_)
    refine j_step rfl (x_bst_all 0 rfl rfl rfl ld105 rfl rfl (by simp [Value.oneCell']) ?_)
    refine j_nf [_,_,_,_,_,_] rfl ?_
    refine j_run it 1 rfl (by simp) ?_
    refine j_step rfl (x_bld_all 0 rfl rfl ld105 rfl ?_)
    refine j_run it 1 rfl (by simp) ?_ --ok
    rw [range_get _ hjl] at hz1
    obtain rfl:=Option.some.inj hz1
    have m6 : (enz (szP (wz L (lcmP L (n + 1))) (fun i=>tz q n i j) (n + 1))).2.length ≤ K + (K * (n + 1) + 1) + 18:=limbs_length_le (szP_lt (show n + 1 ≤ 65 by omega) (Nat.le_refl _) hwz fun i hi=>tz_lt hq hq2 hn (by omega) j (Nat.le_refl 17))
    refine j_step rfl (x_call [0,8] rfl (S_macwilliams_ratio (by omega) (by omega)) rfl ?_)
    rintro _ _ _ ⟨pn1,cn1,pd1,cd1,rfl,rfl,rfl⟩
    simp only [List.cons_append,List.nil_append]
    refine j_step rfl (x_lit sl27 zo27e rfl rfl rfl rfl (by decide) (by decide) rfl fun b4=>?_)
    refine j_step rfl (x_appR (z:=((rt (vq ((enz (szP (wz L (lcmP L (n + 1))) (fun i=>tz q n i j) (n + 1))).fst,(enz (szP (wz L (lcmP L (n + 1))) (fun i=>tz q n i j) (n + 1))).snd,limbs (lcmP L (n + 1))))).fst,((rt (vq ((enz (szP (wz L (lcmP L (n + 1))) (fun i=>tz q n i j) (n + 1))).fst,(enz (szP (wz L (lcmP L (n + 1))) (fun i=>tz q n i j) (n + 1))).snd,limbs (lcmP L (n + 1))))).snd.fst,(rt (vq ((enz (szP (wz L (lcmP L (n + 1))) (fun i=>tz q n i j) (n + 1))).fst,(enz (szP (wz L (lcmP L (n + 1))) (fun i=>tz q n i j) (n + 1))).snd,limbs (lcmP L (n + 1))))).snd.snd))) 2 0 4 rfl rfl rfl rfl rfl sl27 zo27e rfl (fun w A hG=>(rd_pair (v1:=[Value.bool (rt (vq ((enz (szP (wz L (lcmP L (n + 1))) (fun i=>tz q n i j) (n + 1))).fst,(enz (szP (wz L (lcmP L (n + 1))) (fun i=>tz q n i j) (n + 1))).snd,limbs (lcmP L (n + 1))))).fst]) (rd_bool _) (rd_pair (v1:=[Value.slice pn1 (rt (vq ((enz (szP (wz L (lcmP L (n + 1))) (fun i=>tz q n i j) (n + 1))).fst,(enz (szP (wz L (lcmP L (n + 1))) (fun i=>tz q n i j) (n + 1))).snd,limbs (lcmP L (n + 1))))).snd.fst.length cn1]) (rd_of_slF (hG _ (fact_mem (n:=0) rfl))) (rd_of_slF (hG _ (fact_mem (n:=1) rfl)))))) (by omega) _ by27e (by omega) fun r1=>?_)
    refine j_run it 1 rfl (by simp) ?_
    refine j_nf [_,_,_,_] rfl ?_
    refine j_run it 2 rfl ⟨trivial,⟨by omega,by omega⟩,trivial⟩ ?_
    refine j_nfn 1 [.lp (pL 8180),.blk 4,.c (pL 1023)] rfl ?_
    rw [trP_vq (by omega)]
    rw [show ((rt (trP L (fun i=>kr ((q : Int) - 1) n j i) (n + 1))).1,(rt (trP L (fun i=>kr ((q : Int) - 1) n j i) (n + 1))).2.1,(rt (trP L (fun i=>kr ((q : Int) - 1) n j i) (n + 1))).2.2) = rt (trP L (fun i=>kr ((q : Int) - 1) n j i) (n + 1)) from rfl,← range_snoc fun j=>rt (trP L (fun i=>kr ((q : Int) - 1) n j i) (n + 1))]
    refine j_toM [true,false,false] [0,6,7,8,9,10,11] (by exact fra rfl) rfl rfl (ih3 (j + 1,r1) (by dsimp only;omega) (by dsimp only;omega))
   ·obtain rfl : n + 1 = j:=by omega
    refine j_nf [_,_,_,_,_] rfl ?_
    refine j_run it 1 rfl (by simp) ?_
    refine j_nf [_,_,_,_,_] rfl ?_
    refine j_if rfl rfl (fun h4=>by exfalso;omega) (fun h4=>?_)
    refine j_nf [_,_] rfl ?_
    refine j_run it 3 rfl (by simp) ?_
    refine j_nf [_] rfl ?_
    refine j_pubR 0 0 rfl rfl (by show (n + 1) * 56 ≤ 140737488355328;omega) ?_
    refine j_giv [0] rfl rfl rfl ⟨_,_,rfl,rfl,rfl⟩
theorem pos_step {x : List Rt} {k : Nat} {z : Rt} (hz : x[k]? = some z) (h : posB (x.take k) = true) (hs : ¬ (vq z).num.sign < 0) : posB (x.take (k + 1)) = true:=by
 rw [posB,List.take_add_one,hz,List.all_append]
 have h1 : (x.take k).all (fun r=>decide (0 ≤ vq r)) = true:=h
 have h2 : 0 ≤ vq z:=Rat.not_lt.1 fun h=>hs (sign_neg.2 h)
 simp [h1,h2]
theorem pos_stop {x : List Rt} {k : Nat} {z : Rt} (hz : x[k]? = some z) (hs : (vq z).num.sign < 0) : posB x = false:=by
 rw [posB,List.all_eq_false]
 exact ⟨z,List.mem_of_getElem? hz,by have:=sign_neg.1 hs;simpa using Rat.not_le.2 this⟩
theorem S_simplex_positive {pa : Option Addr} {n ca : Nat} {x : List Rt} : Ctr Tryz.prog 32 [.slice pa n ca] [] [slF RatE pa n ca x] (Rv (.bool (posB x)) []):=by
 refine Ctr_of_j' (F:=F_simplex_positive) rfl fun C=>?_
 refine j_len 0 rfl fun ea hb _=>?_
 have hb' : x.length * 56 ≤ 140737488355328:=hb
 subst ea
 refine j_nf [_,_] rfl (j_run it 1 rfl (by simp) ?_)
 refine j_nf [_,_,_] rfl (j_run it 1 rfl (by simp) ?_)
 refine j_step rfl (x_len sl27 rfl ?_)
 refine j_run it 1 rfl (by simp) ?_
 refine j_nf [_,_,_] rfl ?_
 refine j_loopG (X:=Nat) [5,6] [0] (fun k=>[(7,.int .i64 k)]) (fun _=>[]) (fun _=>[]) (fun k=>k ≤ x.length ∧ posB (x.take k) = true) (fun k=>x.length - k) 0 [] rfl rfl rfl ⟨Nat.zero_le _,rfl⟩ (by repeat (first | exact Fr.sub_nil _ | refine Fr.sub_cons rfl ?_)) rfl rfl ?_
 rintro k ⟨hk,hp⟩ ih
 simp only [List.cons_append,List.nil_append] at hk hp ih ⊢
 by_cases hkl : k < x.length
 ·have hz:=get_some (l:=x) (i:=k) (dflt:=default) hkl
  have hs : vq (x.getD k default) = vq (x.getD k default):=rfl
  refine j_nf [_,_,_,_,_] rfl (j_run it 1 rfl (by simp) ?_)
  refine j_nf [_,_,_,_,_] rfl (j_if rfl rfl (fun h1=>?_) (fun h1=>by exfalso;omega))
  refine j_nf [_,_,_,_,_,_,_] rfl (j_step rfl (x_idx 0 (k) rfl rfl rfl sl27 rfl (by omega) fun z1 hz1 b1 o1=>?_))
  refine j_step rfl (x_ld_rt 0 rfl rfl ld26 fun pa1 ca1 pa2 ca2=>?_)
  refine j_step rfl (x_alloc zo26 fun b2=>?_)
  refine j_step rfl (x_bst_all 0 rfl rfl rfl ld26 rfl rfl (by simp [Value.oneCell']) ?_)
  refine j_nf [_,_,_,_,_,_,_] rfl (j_step rfl (x_bld_all 0 rfl rfl ld26 rfl ?_))
  refine j_step rfl (x_call [0,1] rfl (S_rational_Sign) rfl ?_)
  rintro _ _ _ ⟨rfl,rfl,rfl⟩
  simp only [List.cons_append,List.nil_append]
  refine j_run it 1 rfl (by simp) ?_
  refine j_nf [_,_,_,_,_,_] rfl (j_if rfl rfl (fun h2=>?_) (fun h2=>?_))
  ·rw [pos_stop hz1 (by assumption)]
   refine j_nf [_,_,_,_,_,_,_] rfl (j_run it 1 rfl (by simp) ?_)
   refine j_nf [_,_,_,_,_,_] rfl ?_
   refine j_giv [] rfl rfl rfl ⟨rfl,rfl,rfl⟩
  ·refine j_nf [_,_,_,_] rfl (j_run it 2 rfl ⟨trivial,⟨by omega,by omega⟩,trivial⟩ ?_)
   refine j_nfn 1 [.lp [1,0,1,0,0],.blk 0,.c [1,1]] rfl ?_
   refine j_toM [false] [3] (by exact fra rfl) rfl rfl (ih (k + 1) (by omega) ⟨by omega,pos_step hz1 hp (by assumption)⟩)
 ·obtain rfl : x.length = k:=by omega
  rw [List.take_length] at hp
  rw [hp]
  refine j_nf [_,_,_,_,_] rfl (j_run it 1 rfl (by simp) ?_)
  refine j_nf [_,_,_,_,_] rfl (j_if rfl rfl (fun h1=>by exfalso;omega) (fun h1=>?_))
  refine j_nf [_,_] rfl (j_run it 1 rfl (by simp) ?_)
  refine j_nf [_] rfl ?_
  refine j_giv [] rfl rfl rfl ⟨rfl,rfl,rfl⟩
abbrev SvM {α : Type} (E : Enc α) (n : Nat) (l : List α) : Value → List Fact → List Blk → Prop:=fun v Φ β=>∃ pa ca,v = .slice pa n ca ∧ Φ = [slF E pa n ca l] ∧ β = []
theorem S_delsarte_one : Ctr Tryz.prog 16 [] [] [] (RtV (false,[1],[1])):=by
 refine Ctr_of_j' (F:=F_delsarte_one) rfl fun C=>?_
 refine j_nf [_,_] rfl (j_step rfl (x_alloc zo26 fun b1=>?_))
 refine j_nf [_,_] rfl (j_step rfl (x_lit sl24 zo24e rfl rfl rfl rfl (by decide) (by decide) rfl fun b2=>?_))
 refine j_step rfl (x_lit sl24 zo24e rfl rfl rfl rfl (by decide) (by decide) rfl fun b3=>?_)
 refine j_step rfl (x_build (cs:=[Value.bool false,Value.slice (some { block:=b2,off:=0 }) 1 1,Value.slice (some { block:=b3,off:=0 }) 1 1]) st26 zo26 rfl rfl ?_)
 refine j_step rfl (x_bst_all 2 rfl rfl rfl ld26 rfl rfl (by simp [Value.oneCell']) ?_)
 refine j_nf [_] rfl ?_
 refine j_pub_made (n:=1) (kd:=.u32) 4 [1] 0 rfl rfl (by simp [InR]) (by decide) (by decide) ?_
 refine j_pub_made (n:=1) (kd:=.u32) 4 [1] 0 rfl rfl (by simp [InR]) (by decide) (by decide) ?_
 refine j_givC [0,1] rfl (.agg 0 rfl rfl ld26 rfl .nil) rfl ⟨_,_,_,_,rfl,rfl,rfl⟩
theorem S_delsarte_column {q n i : Nat} (hq : 2 ≤ q) (hq2 : q ≤ 256) (hn : n ≤ 64) (hi : i ≤ n) : Ctr Tryz.prog 28 [.int .i64 q,.int .i64 n,.int .i64 i] [] [] (SvM RatE (n + 1) (colK q n i)):=by
 refine Ctr_of_j' (F:=F_delsarte_column) rfl fun C=>?_
 have hul:=unit_len n i
 have huo:=unit_ok n i
 have h1 : (1 : Nat) ≤ 1:=Nat.le_refl 1
 have et : trL q n (unitL n i) = colK q n i:=by
  rw [trL,colK]
  exact List.map_congr_left fun k _=>by rw [trP_unit (by omega)]
 refine j_nf [_,_] rfl (j_run it 1 rfl (by simp) ?_)
 refine j_nf [_,_] rfl (j_run it 2 rfl ⟨⟨by omega,by omega⟩,trivial,trivial⟩ ?_)
 refine j_step rfl (x_makeR RatE default ((n) + 1) _ rfl rfl sl27 zo27e rfl rfl by27e (by omega) (by omega) (by omega) rz26 fun b1 cs1=>?_)
 refine j_run it 1 rfl (by simp) ?_
 refine j_nf [_,_] rfl (j_run it 2 rfl (by simp) ?_)
 refine j_step rfl (x_call [] rfl (S_delsarte_one) rfl ?_)
 rintro _ _ _ ⟨pn1,cn1,pd1,cd1,rfl,rfl,rfl⟩
 simp only [List.cons_append,List.nil_append]
 refine j_step rfl (x_idx_own (i) _ rfl rfl sl27 rfl (by omega) rfl ?_)
 refine j_step rfl (x_stR (vs:=[Value.bool false,Value.slice pn1 [1].length cn1,Value.slice pd1 [1].length cd1]) (z:=(false,([1],[1]))) 0 2 (i) rfl rfl rfl rfl rfl ld26 rfl (by omega) (fun w A hG=>(rd_pair (v1:=[Value.bool false]) (rd_bool _) (rd_pair (v1:=[Value.slice pn1 [1].length cn1]) (rd_of_slF (hG _ (fact_mem (n:=0) rfl))) (rd_of_slF (hG _ (fact_mem (n:=1) rfl)))))) fun cs2=>?_)
 refine j_nf [_,_] rfl (j_run it 2 rfl (by simp) ?_)
 refine j_pubRb 0 0 rfl rfl (by show (n + 1) * 56 ≤ 140737488355328;omega) ?_
 refine j_step rfl (x_call [0] rfl (S_macwilliams_Transform (by omega) (by omega) (by omega) (by assumption) (by omega) (by omega) (by assumption)) rfl ?_)
 rintro _ _ _ ⟨pa1,ca1,rfl,rfl,rfl⟩
 simp only [List.cons_append,List.nil_append]
 refine j_run it 5 rfl (by simp) ?_
 refine j_nf [_,_] rfl (j_run it 2 rfl (by simp) ?_)
 refine j_nf [_] rfl ?_
 rw [show ((List.replicate (n + 1) (default : Rt)).set i (false,[1],[1])) = unitL n i from rfl,et]
 refine j_giv [0] rfl rfl rfl ⟨_,_,rfl,rfl,rfl⟩
open Classical in
noncomputable def dacE (q n d : Int) (f : List Rt) : Int:=if rangeP q n d then accDE q.toNat n.toNat d.toNat f else 6
open Classical in
noncomputable def dacR (q n d : Int) (f : List Rt) : Rt:=if rangeP q n d then accDR q.toNat n.toNat d.toNat f else (false,[],[])
theorem range_nat {q n d : Int} (h : rangeP q n d) : ∃ (p m k : Nat),q = p ∧ n = m ∧ d = k ∧ 2 ≤ p ∧ p ≤ 256 ∧ 1 ≤ m ∧ m ≤ 64 ∧ 1 ≤ k ∧ k ≤ m:=by
 unfold rangeP at h
 exact ⟨q.toNat,n.toNat,d.toNat,by omega,by omega,by omega,by omega,by omega,by omega,by omega,by omega,by omega⟩
theorem dac_nat {q n d : Nat} (h : rangeP q n d) (f : List Rt) : dacE q n d f = accDE q n d f ∧ dacR q n d f = accDR q n d f:=⟨if_pos h,if_pos h⟩
theorem dac_bad {q n d : Int} (h : ¬ rangeP q n d) (f : List Rt) : dacE q n d f = 6 ∧ dacR q n d f = (false,[],[]):=⟨if_neg h,if_neg h⟩
theorem S_delsarte_AcceptN {q n d : Int} {pa : Option Addr} {nf ca K : Nat} {f : List Rt} (hK17 : 17 ≤ K) (hK2 : K ≤ 1000000) (hKn : n ≤ 64 → (2 * K + 1) * (n.toNat + 1) + 1 ≤ 16000081) (hf : ∀ r ∈ f,okR K r) {vr : Rt} {ve : Int} (hvr : dacR q n d f = vr) (hve : dacE q n d f = ve) :
  Ctr Tryz.prog 17 [.int .i64 q,.int .i64 n,.int .i64 d,.slice pa nf ca] [] [slF RatE pa nf ca f] (RtErr vr ve):=by
 subst hvr;subst hve
 refine Ctr_of_j' (F:=F_delsarte_Accept) rfl fun C=>?_
 refine j_len 0 rfl fun hn hb _=>?_
 have hb' : f.length * 56 ≤ 140737488355328:=hb
 subst hn
 by_cases hr : rangeP q n d
 ·have hw : decide (rangeP q n d) = !false:=by rw [decide_eq_true hr];rfl
  obtain ⟨p,m,k,rfl,rfl,rfl,h1,h2,h3,h4,h5,h6⟩:=range_nat hr
  obtain ⟨eE,eR⟩:=dac_nat hr f
  rw [eE,eR]
  have no : ¬ accP p m k f → accDE p m k f = 13 ∧ accDR p m k f = (false,[],[]):=accD_no
  by_cases hl : f.length = m + 1
  ·have hZ : (2 * K + 1) * (m + 1) + 1 ≤ 16000081:=by have:=hKn (by omega);rwa [Int.toNat_natCast] at this
   have c_rational_Dot:=fun {pa pb : Option Addr} {ca cb : Nat} {b : List Rt} (hb : ∀ r ∈ b,okR K r)=>S_rational_DotN (pa:=pa) (pb:=pb) (n:=f.length) (m:=m + 1) (ca:=ca) (cb:=cb) (K:=K) (a:=f) (b:=b) (m + 1) (by omega) hK2 hZ (by omega) hf hb hl
   have z0:=okR_at hf (show 0 < f.length by omega)
   obtain ⟨y1,y2⟩:=z0.2.2
   have e0 : vq ((f.getD 0 default).1,(f.getD 0 default).2.1,(f.getD 0 default).2.2) = fQ f 0:=rfl
   by_cases h0 : fQ f 0 = 1
   ·have hs : (vq ((f.getD 0 default).1,(f.getD 0 default).2.1,(f.getD 0 default).2.2) - vq (false,[1],[1])).num.sign = 0:=cmp_zero.2 (by rw [e0,h0,vq_oneL])
    refine j_nf [_,_] rfl ?_
    refine j_step rfl (x_alloc zo26 fun b1=>?_)
    refine j_run it 1 rfl (by simp) ?_
    refine j_nf [_,_,_] rfl ?_
    refine j_run it 3 rfl (by simp) ?_
    refine j_step rfl (x_call [] rfl (S_delsarte_wrong (by omega)) rfl ?_)
    rintro _ _ _ ⟨rfl,rfl,rfl⟩
    simp only [List.cons_append,List.nil_append]
    refine j_nf [_,_] rfl ?_
    refine j_false rfl rfl ?_
    refine j_nf [_,_,_] rfl ?_
    (apply j_drawK it mx 13;(· rfl);(· rfl))
    (apply lxk_run 1;(· rfl);(· simp))
    (apply lxk_eq;(· rfl);(· exact d_x fun _=>x_len sl27 rfl dk_eq))
    (apply lxk_run 2;(· rfl);(· exact ⟨⟨by omega,by omega⟩,trivial,trivial⟩))
    (apply lxk_eq;(· rfl);(· exact d_x fun _=>x_falseN it rfl (by trivial) (by omega) dk_eq))
    (apply lxk_run 2;(· rfl);(· simp))
    (apply lxk_pt;(· rfl);(· exact d_x fun _=>x_idx 0 0 rfl rfl rfl sl27 (by omega) (by omega) fun z1 hz1 b2 o1=>(dk_ptD default hz1 0 rfl));intro b2 o1)
    (apply lxk_rq;(· rfl);(· exact d_x fun _=>x_ld_rt 0 rfl rfl ld26 fun pa1 ca1 pa2 ca2=>(dk_rq 0 1 rfl rfl));intro pn1 cn1 pd1 cd1)
    (apply lxk_rq;(· rfl);(· exact d_x fun _=>x_call [] rfl (S_delsarte_one) rfl (by rintro _ _ _ ⟨pn2,cn2,pd2,cd2,rfl,rfl,rfl⟩;exact (dk_rq 0 1 rfl rfl)));intro pn2 cn2 pd2 cd2)
    (apply lxk_eq;(· rfl);(· exact d_x fun _=>x_call [2,3,0,1] rfl (S_rational_Cmp (by omega) (by omega) (by simp) (by simp)) rfl (by rintro _ _ _ ⟨rfl,rfl,rfl⟩;exact dk_eq)))
    simp only [vq_rt']
    (apply lxk_eq;(· rfl);(· exact d_x fun _=>x_falseN it rfl (by trivial) (by omega) dk_eq))
    (apply lxk_run 1;(· rfl);(· simp))
    refine lxk_end rfl ?_
    simp only [List.map_cons,List.map_nil,List.cons_append,List.nil_append]
    refine j_nf [_,_] rfl ?_
    refine j_false rfl rfl ?_
    refine j_nf [_,_,_] rfl ?_
    refine j_run it 1 rfl (by simp) ?_
    refine j_step rfl (x_len sl27 rfl ?_)
    refine j_run it 1 rfl (by simp) ?_
    refine j_nf [_,_,_] rfl ?_
    refine j_loopG (X:=Nat) [0,1,2,3,8,34,35] [0,1,2,3,4,5] (fun k=>[(36,.int .i64 k)]) (fun _=>[(some b1,26,[.bool false,.slice none 0 0,.slice none 0 0])]) (fun _=>[]) (fun k=>k ≤ f.length ∧ posB (f.take k) = true) (fun k=>f.length - k) 0 [] rfl rfl rfl ⟨Nat.zero_le _,rfl⟩ (by repeat (first | exact Fr.sub_nil _ | refine Fr.sub_cons rfl ?_)) rfl rfl ?_
    rintro j ⟨hj,hp⟩ ih
    simp only [List.cons_append,List.nil_append] at hj hp ih ⊢
    by_cases hjl : j < f.length
    ·refine j_nf [_,_,_,_,_] rfl ?_
     refine j_run it 1 rfl (by simp) ?_
     refine j_nf [_,_,_,_,_] rfl ?_
     refine j_if rfl rfl (fun h7=>?_) (fun h7=>by exfalso;omega)
     refine j_nf [_,_,_,_,_,_,_] rfl ?_
     refine j_step rfl (x_idx 5 (j) rfl rfl rfl sl27 rfl (by omega) fun z1 hz1 b3 o2=>?_)
     refine j_step rfl (x_ld_rt 0 rfl rfl ld26 fun pa1 ca1 pa2 ca2=>?_)
     refine j_step rfl (x_alloc zo26 fun b4=>?_)
     refine j_step rfl (x_bst_all 0 rfl rfl rfl ld26 rfl rfl (by simp [Value.oneCell']) ?_)
     refine j_nf [_,_,_,_,_,_,_] rfl ?_
     refine j_step rfl (x_bld_all 0 rfl rfl ld26 rfl ?_)
     refine j_step rfl (x_call [0,1] rfl (S_rational_Sign) rfl ?_)
     rintro _ _ _ ⟨rfl,rfl,rfl⟩
     simp only [List.cons_append,List.nil_append]
     refine j_run it 1 rfl (by simp) ?_
     refine j_nf [_,_,_,_,_,_] rfl ?_
     refine j_if rfl rfl (fun h8=>?_) (fun h8=>?_)
     ·obtain ⟨e1,e2⟩:=no fun h=>by have:=h.2.2.1;rw [pos_stop hz1 (by assumption)] at this;cases this
      rw [e1,e2]
      refine j_nf [_,_,_,_,_,_,_] rfl ?_
      refine j_step rfl (x_build (cs:=[Value.bool false,Value.slice none 0 0,Value.slice none 0 0]) st26 zo26 rfl rfl ?_)
      refine j_step rfl (x_bst_all 1 rfl rfl rfl ld26 rfl rfl (by simp [Value.oneCell']) ?_)
      refine j_run it 1 rfl (by simp) ?_
      refine j_nf [_,_,_,_,_,_] rfl ?_
      refine j_add (slF U32 none 0 0 []) (fun w A _=>slF_nil _ _ _ _ _) ?_
      refine j_givC [0,0] rfl (.agg 1 rfl rfl ld26 rfl (.tmp rfl .nil)) rfl ⟨_,_,_,_,rfl,rfl,rfl⟩
     ·refine j_nf [_,_,_,_] rfl ?_
      refine j_run it 2 rfl ⟨trivial,⟨by omega,by omega⟩,trivial⟩ ?_
      refine j_nfn 1 [.lp (pL 244),.blk 0,.c [1,1,1,1]] rfl ?_
      refine j_toM [false,true] [3,4,5,6,7,8] (by exact fra rfl) rfl rfl (ih (j + 1) (by omega) ⟨by omega,pos_step hz1 hp (by assumption)⟩)
    ·obtain rfl : f.length = j:=by omega
     rw [List.take_length] at hp
     clear ih
     refine j_nf [_,_,_,_,_] rfl ?_
     refine j_run it 1 rfl (by simp) ?_
     refine j_nf [_,_,_,_,_] rfl ?_
     refine j_if rfl rfl (fun h7=>by exfalso;omega) (fun h7=>?_)
     refine j_nf [_,_,_] rfl ?_
     refine j_run it 2 rfl (by simp) ?_
     refine j_nf [_,_,_] rfl ?_
     refine j_loopG (X:=Nat) [0,1,3,8] [0,1,2,3,4,5] (fun i=>[(12,.int .i64 i)]) (fun _=>[(some b1,26,[.bool false,.slice none 0 0,.slice none 0 0])]) (fun _=>[]) (fun i=>k ≤ i ∧ i ≤ m + 1 ∧ ∀ i',k ≤ i' → i' < i → valF p m (fQ f) i' ≤ 0) (fun i=>m + 1 - i) k [] rfl rfl rfl ⟨Nat.le_refl _,by omega,fun i' h h'=>by omega⟩ (by repeat (first | exact Fr.sub_nil _ | refine Fr.sub_cons rfl ?_)) rfl rfl ?_
     rintro i ⟨hi1,hi2,hi3⟩ ih
     simp only [List.cons_append,List.nil_append] at hi1 hi2 hi3 ih ⊢
     by_cases hil : i ≤ m
     ·have oc:=fun r hr=>ok_mono (colK_ok h1 h2 h4 hil r hr) hK17
      have lc:=colK_len p m i
      have ed:=dot_col (q:=p) hl i
      refine j_nf [_,_,_,_,_,_] rfl ?_
      refine j_run it 3 rfl (by simp) ?_
      refine j_nf [_,_,_,_,_] rfl ?_
      refine j_if rfl rfl (fun h8=>?_) (fun h8=>by exfalso;omega)
      refine j_nf [_,_,_,_,_,_,_] rfl ?_
      refine j_run it 4 rfl (by simp) ?_
      refine j_step rfl (x_call [] rfl (S_delsarte_column (by omega) (by omega) (by omega) (by omega)) rfl ?_)
      rintro _ _ _ ⟨pa1,ca1,rfl,rfl,rfl⟩
      simp only [List.cons_append,List.nil_append]
      refine j_step rfl (x_call [6,0] rfl (c_rational_Dot (by omega)) rfl ?_)
      rintro _ _ _ ⟨pn3,cn3,pd3,cd3,rfl,rfl,rfl⟩
      simp only [List.cons_append,List.nil_append]
      refine j_run it 3 rfl (by simp) ?_
      refine j_step rfl (x_alloc zo26 fun b3=>?_)
      refine j_step rfl (x_bst_all 0 rfl rfl rfl ld26 rfl rfl (by simp [Value.oneCell']) ?_)
      refine j_run it 1 rfl (by simp) ?_
      refine j_nf [_,_,_,_,_,_,_] rfl ?_
      refine j_step rfl (x_bld_all 0 rfl rfl ld26 rfl ?_)
      refine j_step rfl (x_call [0,1] rfl (S_rational_Sign) rfl ?_)
      rintro _ _ _ ⟨rfl,rfl,rfl⟩
      simp only [List.cons_append,List.nil_append]
      simp only [vq_rt']
      refine j_run it 1 rfl (by simp) ?_
      refine j_nf [_,_,_,_,_,_] rfl ?_
      refine j_if rfl rfl (fun h9=>?_) (fun h9=>?_)
      ·have hp2 : 0 < dotR f (colK p m i):=sign_pos.1 (by assumption)
       obtain ⟨e1,e2⟩:=no fun h=>by have:=h.2.2.2 i hi1 hil;rw [← ed] at this;exact Rat.not_lt.2 this hp2
       rw [e1,e2]
       refine j_nf [_,_,_,_,_,_,_] rfl ?_
       refine j_step rfl (x_build (cs:=[Value.bool false,Value.slice none 0 0,Value.slice none 0 0]) st26 zo26 rfl rfl ?_)
       refine j_step rfl (x_bst_all 1 rfl rfl rfl ld26 rfl rfl (by simp [Value.oneCell']) ?_)
       refine j_run it 1 rfl (by simp) ?_
       refine j_nf [_,_,_,_,_,_] rfl ?_
       refine j_add (slF U32 none 0 0 []) (fun w A _=>slF_nil _ _ _ _ _) ?_
       refine j_givC [0,0] rfl (.agg 1 rfl rfl ld26 rfl (.tmp rfl .nil)) rfl ⟨_,_,_,_,rfl,rfl,rfl⟩
      ·have hp2 : ¬ 0 < dotR f (colK p m i):=fun h=>absurd (sign_pos.2 h) (by assumption)
       refine j_nf [_,_,_,_] rfl ?_
       refine j_run it 3 rfl ⟨trivial,⟨by omega,by omega⟩,trivial,trivial⟩ ?_
       refine j_nfn 1 [.lp (pL 500),.blk 2,.c [1,1,1,1,1]] rfl ?_
       refine j_toM [false,true] [3,4,5,6,7,8] (by exact fra rfl) rfl rfl (ih (i + 1) (by omega) ⟨by omega,by omega,fun i' a b=>by
        rcases Nat.lt_succ_iff_lt_or_eq.1 b with b | rfl
        ·exact hi3 i' a b
        ·rw [← ed];exact Rat.not_lt.1 hp2⟩)
     ·obtain rfl : i = m + 1:=by omega
      have oc:=fun r hr=>ok_mono (colK_ok (i:=0) h1 h2 h4 (Nat.zero_le _) r hr) hK17
      have ed:=dot_col (q:=p) hl 0
      obtain ⟨e1,e2⟩:=accD_yes (q:=p) (n:=m) (d:=k) (f:=f) ⟨hl,h0,hp,fun i' a b=>hi3 i' a (by omega)⟩
      rw [e1,e2,← ed]
      refine j_nf [_,_,_,_,_,_] rfl ?_
      refine j_run it 3 rfl (by simp) ?_
      refine j_nf [_,_,_,_,_] rfl ?_
      refine j_if rfl rfl (fun h8=>by exfalso;omega) (fun h8=>?_)
      refine j_nf [_,_] rfl ?_
      refine j_run it 3 rfl (by simp) ?_
      refine j_step rfl (x_call [] rfl (S_delsarte_column (by omega) (by omega) (by omega) (by simp)) rfl ?_)
      rintro _ _ _ ⟨pa1,ca1,rfl,rfl,rfl⟩
      simp only [List.cons_append,List.nil_append]
      refine j_step rfl (x_call [6,0] rfl (c_rational_Dot (by omega)) rfl ?_)
      rintro _ _ _ ⟨pn3,cn3,pd3,cd3,rfl,rfl,rfl⟩
      simp only [List.cons_append,List.nil_append]
      refine j_run it 2 rfl (by simp) ?_
      refine j_step rfl (x_bst_all 0 rfl rfl rfl ld26 rfl rfl (by simp [Value.oneCell']) ?_)
      refine j_run it 1 rfl (by simp) ?_
      refine j_nf [_] rfl ?_
      refine j_givC [0,1] rfl (.agg 0 rfl rfl ld26 rfl (.tmp rfl .nil)) rfl ⟨_,_,_,_,rfl,rfl,rfl⟩
   ·have hs : ¬ (vq ((f.getD 0 default).1,(f.getD 0 default).2.1,(f.getD 0 default).2.2) - vq (false,[1],[1])).num.sign = 0:=fun e=>h0 (by have:=cmp_zero.1 e;rw [e0,vq_oneL] at this;exact this)
    obtain ⟨e1,e2⟩:=no fun h=>h0 h.2.1
    rw [e1,e2]
    refine j_nf [_,_] rfl ?_
    refine j_step rfl (x_alloc zo26 fun b1=>?_)
    refine j_run it 1 rfl (by simp) ?_
    refine j_nf [_,_,_] rfl ?_
    refine j_run it 3 rfl (by simp) ?_
    refine j_step rfl (x_call [] rfl (S_delsarte_wrong (by omega)) rfl ?_)
    rintro _ _ _ ⟨rfl,rfl,rfl⟩
    simp only [List.cons_append,List.nil_append]
    refine j_nf [_,_] rfl ?_
    refine j_false rfl rfl ?_
    refine j_nf [_,_,_] rfl ?_
    (apply j_drawK it mx 13;(· rfl);(· rfl))
    (apply lxk_run 1;(· rfl);(· simp))
    (apply lxk_eq;(· rfl);(· exact d_x fun _=>x_len sl27 rfl dk_eq))
    (apply lxk_run 2;(· rfl);(· exact ⟨⟨by omega,by omega⟩,trivial,trivial⟩))
    (apply lxk_eq;(· rfl);(· exact d_x fun _=>x_falseN it rfl (by trivial) (by omega) dk_eq))
    (apply lxk_run 2;(· rfl);(· simp))
    (apply lxk_pt;(· rfl);(· exact d_x fun _=>x_idx 0 0 rfl rfl rfl sl27 (by omega) (by omega) fun z1 hz1 b2 o1=>(dk_ptD default hz1 0 rfl));intro b2 o1)
    (apply lxk_rq;(· rfl);(· exact d_x fun _=>x_ld_rt 0 rfl rfl ld26 fun pa1 ca1 pa2 ca2=>(dk_rq 0 1 rfl rfl));intro pn1 cn1 pd1 cd1)
    (apply lxk_rq;(· rfl);(· exact d_x fun _=>x_call [] rfl (S_delsarte_one) rfl (by rintro _ _ _ ⟨pn2,cn2,pd2,cd2,rfl,rfl,rfl⟩;exact (dk_rq 0 1 rfl rfl)));intro pn2 cn2 pd2 cd2)
    (apply lxk_eq;(· rfl);(· exact d_x fun _=>x_call [2,3,0,1] rfl (S_rational_Cmp (by omega) (by omega) (by simp) (by simp)) rfl (by rintro _ _ _ ⟨rfl,rfl,rfl⟩;exact dk_eq)))
    simp only [vq_rt']
    (apply lxk_eq;(· rfl);(· exact d_x fun _=>x_trueN it rfl (by trivial) (by omega) dk_eq))
    (apply lxk_run 1;(· rfl);(· simp))
    refine lxk_end rfl ?_
    simp only [List.map_cons,List.map_nil,List.cons_append,List.nil_append]
    refine j_nf [_,_] rfl ?_
    refine j_true rfl rfl ?_
    refine j_nf [_,_,_] rfl ?_
    refine j_step rfl (x_build (cs:=[Value.bool false,Value.slice none 0 0,Value.slice none 0 0]) st26 zo26 rfl rfl ?_)
    refine j_step rfl (x_bst_all 0 rfl rfl rfl ld26 rfl rfl (by simp [Value.oneCell']) ?_)
    refine j_run it 1 rfl (by simp) ?_
    refine j_nf [_,_] rfl ?_
    refine j_add (slF U32 none 0 0 []) (fun w A _=>slF_nil _ _ _ _ _) ?_
    refine j_givC [0,0] rfl (.agg 0 rfl rfl ld26 rfl (.tmp rfl .nil)) rfl ⟨_,_,_,_,rfl,rfl,rfl⟩
  ·obtain ⟨e1,e2⟩:=no fun h=>hl h.1
   rw [e1,e2]
   refine j_nf [_,_] rfl ?_
   refine j_step rfl (x_alloc zo26 fun b1=>?_)
   refine j_run it 1 rfl (by simp) ?_
   refine j_nf [_,_,_] rfl ?_
   refine j_run it 3 rfl (by simp) ?_
   refine j_step rfl (x_call [] rfl (S_delsarte_wrong (by omega)) rfl ?_)
   rintro _ _ _ ⟨rfl,rfl,rfl⟩
   simp only [List.cons_append,List.nil_append]
   refine j_nf [_,_] rfl ?_
   refine j_false rfl rfl ?_
   refine j_nf [_,_,_] rfl ?_
   (apply j_drawK it mx 13;(· rfl);(· rfl))
   (apply lxk_run 1;(· rfl);(· simp))
   (apply lxk_eq;(· rfl);(· exact d_x fun _=>x_len sl27 rfl dk_eq))
   (apply lxk_run 2;(· rfl);(· exact ⟨⟨by omega,by omega⟩,trivial,trivial⟩))
   (apply lxk_eq;(· rfl);(· exact d_x fun _=>x_trueN it rfl (by trivial) (by omega) dk_eq))
   (apply lxk_run 6;(· rfl);(· simp))
   (apply lxk_run 2;(· rfl);(· simp))
   refine lxk_end rfl ?_
   simp only [List.map_cons,List.map_nil,List.cons_append,List.nil_append]
   refine j_nf [_,_] rfl ?_
   refine j_true rfl rfl ?_
   refine j_nf [_,_,_] rfl ?_
   refine j_step rfl (x_build (cs:=[Value.bool false,Value.slice none 0 0,Value.slice none 0 0]) st26 zo26 rfl rfl ?_)
   refine j_step rfl (x_bst_all 0 rfl rfl rfl ld26 rfl rfl (by simp [Value.oneCell']) ?_)
   refine j_run it 1 rfl (by simp) ?_
   refine j_nf [_,_] rfl ?_
   refine j_add (slF U32 none 0 0 []) (fun w A _=>slF_nil _ _ _ _ _) ?_
   refine j_givC [0,0] rfl (.agg 0 rfl rfl ld26 rfl (.tmp rfl .nil)) rfl ⟨_,_,_,_,rfl,rfl,rfl⟩
 ·have hw : decide (rangeP q n d) = !true:=by rw [decide_eq_false hr];rfl
  obtain ⟨eE,eR⟩:=dac_bad hr f
  rw [eE,eR]
  refine j_nf [_,_] rfl ?_
  refine j_step rfl (x_alloc zo26 fun b1=>?_)
  refine j_run it 1 rfl (by simp) ?_
  refine j_nf [_,_,_] rfl ?_
  refine j_run it 3 rfl (by simp) ?_
  refine j_step rfl (x_call [] rfl (S_delsarte_wrong (by omega)) rfl ?_)
  rintro _ _ _ ⟨rfl,rfl,rfl⟩
  simp only [List.cons_append,List.nil_append]
  refine j_nf [_,_] rfl ?_
  refine j_true rfl rfl ?_
  refine j_nf [_,_,_] rfl ?_
  refine j_step rfl (x_build (cs:=[Value.bool false,Value.slice none 0 0,Value.slice none 0 0]) st26 zo26 rfl rfl ?_)
  refine j_step rfl (x_bst_all 0 rfl rfl rfl ld26 rfl rfl (by simp [Value.oneCell']) ?_)
  refine j_run it 1 rfl (by simp) ?_
  refine j_nf [_,_] rfl ?_
  refine j_add (slF U32 none 0 0 []) (fun w A _=>slF_nil _ _ _ _ _) ?_
  refine j_givC [0,0] rfl (.agg 0 rfl rfl ld26 rfl (.tmp rfl .nil)) rfl ⟨_,_,_,_,rfl,rfl,rfl⟩
theorem val_part_bd {q n K : Nat} {f : List Rt} {x : Nat} (hq : 2 ≤ q) (hq2 : q ≤ 256) (hn : n ≤ 64) (hx : x ≤ n) (hK : 1 ≤ K) (hf : ∀ r ∈ f,okR K r) (hl : f.length = n + 1) : ∀ k,k ≤ n + 1 → bd ((K + 18) * k + 1) (rs k (fun k=>fQ f k * ((kr ((q : Int) - 1) n k x : Int) : Rat)))
 | 0,_=>bd_zero (by omega)
 | k + 1,hk=>by
  have h1:=val_part_bd hq hq2 hn hx hK hf hl k (by omega)
  have h2:=okR_bd (kr_ok (k:=k) hq hq2 hn hx) (by decide)
  rw [vq_rt] at h2
  have h3:=bd_mul (okR_bd (okR_at hf (show k < f.length by omega)) hK) h2 (by omega)
  exact bd_mono (bd_add h1 h3) (by rw [Nat.mul_succ];omega)
theorem S_codewrightref36_valueN {q n x K : Nat} {pa : Option Addr} {nf ca : Nat} {f : List Rt} (hq : 2 ≤ q) (hq2 : q ≤ 256) (hn : n ≤ 64) (hx : x ≤ n) (hK : 1 ≤ K) (hK2 : K ≤ 1000000) (hKn : (K + 18) * (n + 1) + 1 ≤ 16000081) (hf : ∀ r ∈ f,okR K r) (hl : f.length = n + 1) :
  Ctr Tryz.prog 20 [.int .i64 q,.int .i64 n,.slice pa nf ca,.int .i64 x] [] [slF RatE pa nf ca f] (RtV (rt (valF q n (fQ f) x))):=by
 refine Ctr_of_j' (F:=F_codewrightref36_value) rfl fun C=>?_
 refine j_len 0 rfl fun hn' _ _=>?_
 subst hn'
 have hi0 : InR .i64 (0 : Int):=by simp [InR]
 refine j_nf [_,_] rfl ?_
 refine j_step rfl (x_alloc zo26 fun b1=>?_)
 refine j_nf [_,_] rfl ?_
 refine j_step rfl (x_call [] rfl (S_codewrightref02_Int (by omega)) rfl ?_)
 rintro _ _ _ ⟨pn1,cn1,pd1,cd1,rfl,rfl,rfl⟩
 simp only [List.cons_append,List.nil_append]
 refine j_step rfl (x_alloc zo26 fun b2=>?_)
 refine j_step rfl (x_bst_all 0 rfl rfl rfl ld26 rfl rfl (by simp [Value.oneCell']) ?_)
 refine j_nf [_,_,_] rfl ?_
 refine j_run it 1 rfl (by simp) ?_
 refine j_nf [_,_,_] rfl ?_
 rw [show ((0 : Int) : Rat) = 0 from rfl]
 refine j_loopG (X:=Nat × Rat × (Option Addr × Nat) × (Option Addr × Nat)) [0,1,2,3,8,9] [0,1,2] (fun x=>[(10,.int .i64 x.1)])
  (fun x=>[(some b2,26,[.bool (rt x.2.1).1,.slice x.2.2.1.1 (rt x.2.1).2.1.length x.2.2.1.2,.slice x.2.2.2.1 (rt x.2.1).2.2.length x.2.2.2.2]),(some b1,26,[.bool false,.slice none 0 0,.slice none 0 0])])
  (fun x=>[slF U32 x.2.2.1.1 (rt x.2.1).2.1.length x.2.2.1.2 (rt x.2.1).2.1,slF U32 x.2.2.2.1 (rt x.2.1).2.2.length x.2.2.2.2 (rt x.2.1).2.2])
  (fun y=>y.1 ≤ n + 1 ∧ y.2.1 = rs y.1 (fun k=>fQ f k * ((kr ((q : Int) - 1) n k x : Int) : Rat))) (fun x=>n + 1 - x.1) (0,0,(pn1,cn1),(pd1,cd1)) [0,1] rfl rfl rfl ⟨Nat.zero_le _,rfl⟩ (by repeat (first | exact Fr.sub_nil _ | refine Fr.sub_cons rfl ?_)) rfl rfl ?_
 rintro ⟨k,s,⟨pn,cn⟩,⟨pd,cd⟩⟩ ⟨hk,hs⟩ ih
 simp only [List.cons_append,List.nil_append] at hk hs ih ⊢
 have b1:=val_part_bd hq hq2 hn hx hK hf hl k hk
 rw [← hs] at b1
 have hkk : (K + 18) * k ≤ (K + 18) * (n + 1):=Nat.mul_le_mul_left _ hk
 obtain ⟨w1,w2⟩:=bd_len (bd_mono b1 (show (K + 18) * k + 1 ≤ 16000081 by omega))
 by_cases hkl : k ≤ n
 ·have z1:=okR_at hf (show k < f.length by omega)
  obtain ⟨y1,y2⟩:=z1.2.2
  have z2:=kr_ok (k:=k) hq hq2 hn hx
  obtain ⟨y3,y4⟩:=z2.2.2
  have h2:=okR_bd z2 (by decide)
  rw [vq_rt] at h2
  have b2:=bd_mul (okR_bd z1 hK) h2 (by omega)
  have ef : vq ((f.getD k default).1,(f.getD k default).2.1,(f.getD k default).2.2) = fQ f k:=rfl
  have b2 : bd (K + 17) (fQ f k * ((kr ((q : Int) - 1) n k x : Int) : Rat)):=b2
  rw [← ef] at b2
  obtain ⟨w3,w4⟩:=bd_len b2
  refine j_nf [_,_,_,_,_,_] rfl ?_
  refine j_run it 3 rfl (by simp) ?_
  refine j_nf [_,_,_,_,_] rfl ?_
  refine j_if rfl rfl (fun h1=>?_) (fun h1=>by exfalso;omega)
  refine j_nf [_,_,_,_,_,_] rfl ?_
  (apply j_drawK it mx 12;(· rfl);(· rfl))
  (apply lxk_eq;(· rfl);(· exact d_bld_all 0 rfl rfl ld26 rfl))
  (apply lxk_run 2;(· rfl);(· simp))
  (apply lxk_pt;(· rfl);(· exact d_x fun _=>x_idx 4 (k) rfl rfl rfl sl27 rfl (by omega) fun z3 hz1 b3 o1=>(dk_ptD default hz1 0 rfl));intro b3 o1)
  (apply lxk_rq;(· rfl);(· exact d_x fun _=>x_ld_rt 0 rfl rfl ld26 fun pa1 ca1 pa2 ca2=>(dk_rq 0 1 rfl rfl));intro pn2 cn2 pd2 cd2)
  (apply lxk_run 4;(· rfl);(· simp))
  (apply lxk_rq;(· rfl);(· exact d_x fun _=>x_call [] rfl (S_codewrightref24_Krawtchouk (by omega) (by omega) (by omega) (by omega) (by omega)) rfl (by rintro _ _ _ ⟨pn3,cn3,pd3,cd3,rfl,rfl,rfl⟩;exact (dk_rq 0 1 rfl rfl)));intro pn3 cn3 pd3 cd3)
  (apply lxk_rq;(· rfl);(· exact d_x fun _=>x_call [2,3,0,1] rfl (S_codewrightref02_Mul (by omega) (by omega) (by omega) (by omega)) rfl (by rintro _ _ _ ⟨pn4,cn4,pd4,cd4,rfl,rfl,rfl⟩;exact (dk_rq 0 1 rfl rfl)));intro pn4 cn4 pd4 cd4)
  simp only [vq_rt']
  (apply lxk_rq;(· rfl);(· exact d_x fun _=>x_call [7,8,0,1] rfl (S_codewrightref02_Add (by omega) (by omega) (by omega) (by omega)) rfl (by rintro _ _ _ ⟨pn5,cn5,pd5,cd5,rfl,rfl,rfl⟩;exact (dk_rq 0 1 rfl rfl)));intro pn5 cn5 pd5 cd5)
  simp only [vq_rt']
  refine lxk_end rfl ?_
  simp only [List.map_cons,List.map_nil,List.cons_append,List.nil_append]
  refine j_step rfl (x_bst_all 0 rfl rfl rfl ld26 rfl rfl (by simp [Value.oneCell']) ?_)
  refine j_nf [_,_,_,_] rfl ?_
  refine j_run it 3 rfl ⟨trivial,⟨by omega,by omega⟩,trivial,trivial⟩ ?_
  refine j_nfn 1 [.lp (pL 116),.blk 0,.c [1,1,1]] rfl ?_
  rw [ef]
  refine j_to [0,1,11,12,13] (by exact fra rfl) rfl rfl (ih (k + 1,s + fQ f k * ((kr ((q : Int) - 1) n k x : Int) : Rat),(pn5,cn5),(pd5,cd5)) (by dsimp only;omega) ⟨by dsimp only;omega,by dsimp only;rw [hs];rfl⟩)
 ·obtain rfl : k = n + 1:=by omega
  rw [show s = valF q n (fQ f) x from hs]
  refine j_nf [_,_,_,_,_,_] rfl ?_
  refine j_run it 3 rfl (by simp) ?_
  refine j_nf [_,_,_,_,_] rfl ?_
  refine j_if rfl rfl (fun h1=>by exfalso;omega) (fun h1=>?_)
  refine j_nf [_,_] rfl ?_
  refine j_step rfl (x_bld_all 0 rfl rfl ld26 rfl ?_)
  refine j_step rfl (x_bst_all 1 rfl rfl rfl ld26 rfl rfl (by simp [Value.oneCell']) ?_)
  refine j_nf [_] rfl ?_
  refine j_givC [0,1] rfl (.agg 1 rfl rfl ld26 rfl .nil) rfl ⟨_,_,_,_,rfl,rfl,rfl⟩
end Go.Proofs.YthahejfpdhcpiaaGreat
