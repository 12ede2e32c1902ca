/-
The document's fractions: Make, Trim, Sign, Neg, Mul.
-/
import Derived.Test.YtpoonnjaobjdgaaFuns
import Derived.Test.YtpoonnjaobjdgaaNatMath
import Derived.Test.YtpoonnjaobjdgaaNatMath2
import Derived.Test.YtpoonnjaobjdgaaNatMath3
import Derived.Test.YtpoonnjaobjdgaaNatMath5
import Derived.Test.YtpoonnjaobjdgaaRatMath
import Derived.Test.YtpoonnjaobjdgaaA1
import Derived.Test.YtpoonnjaobjdgaaB1
import Derived.Test.YtpoonnjaobjdgaaA2
import Derived.Test.YtpoonnjaobjdgaaA3
import Derived.Test.YtpoonnjaobjdgaaA4
import Derived.Test.YtpoonnjaobjdgaaB10
import Derived.Test.YtpoonnjaobjdgaaD1
import Derived.Test.YtpoonnjaobjdgaaD2
import Derived.Test.YtpoonnjaobjdgaaD3
namespace Go.Proofs.Ytpoonnjaobjdgaa
open Go Go.Fw
set_option maxRecDepth 100000
set_option linter.unusedVariables false
set_option maxHeartbeats 2000000
theorem S_codewrightref02_Make {neg : Bool} {pn pd : Option Addr} {n m cn cd : Nat} {N D : List Nat} (hN : N.length ≤ 1073741824) (hD : D.length ≤ 1073741824) :
    Ctr Try.prog 21 [.bool neg, .slice pn n cn, .slice pd m cd] [] [slF U32 pn n cn N, slF U32 pd m cd D] (RtV (rt (vq (neg, N, D)))) := by
  refine Ctr_of_j' (F := F_codewrightref02_Make) rfl fun C => ?_
  refine j_len 0 rfl fun hn hba _ => ?_
  refine j_len 1 rfl fun hm hbb _ => ?_
  subst hn; subst hm
  refine j_range 0 rfl fun hra => ?_
  refine j_range 1 rfl fun hrb => ?_
  have ha := lim hra
  have hb := lim hrb
  have ea := trim_eq ha
  have eb := trim_eq hb
  have za : (trim N).length = 0 ↔ val N = 0 := by rw [ea]; exact ⟨fun h => limbs_nil.1 (List.eq_nil_of_length_eq_zero h), fun h => by rw [h, limbs_zero]; rfl⟩
  have zb : (trim D).length = 0 ↔ val D = 0 := by rw [eb]; exact ⟨fun h => limbs_nil.1 (List.eq_nil_of_length_eq_zero h), fun h => by rw [h, limbs_zero]; rfl⟩
  have zero : val N = 0 ∨ val D = 0 → rt (vq (neg, N, D)) = (false, [], [1]) := fun h => by rw [vq_eq, mk_zero h, rt_zero]
  by_cases h1 : (trim N).length = 0
  · have e := zero (.inl (za.1 h1))
    refine j_nf [.o [0] 0, .c [1]] rfl ?_
    refine j_step rfl (x_alloc zo37 fun b1 => ?_)
    refine j_nf [.o [1, 0, 0] 0, .c [1, 0, 1], .c [1, 1]] rfl ?_
    refine j_run it 1 rfl (by simp) ?_
    refine j_step rfl (x_call [0] rfl (S_codewrightref01_Zero) rfl ?_)
    rintro _ _ _ ⟨rfl, rfl, rfl⟩
    simp only [List.cons_append, List.nil_append]
    refine j_run it 1 rfl (by simp) ?_
    refine j_split_dec (t := 14) rfl (fun h2 => ?_) (fun h2 => by exfalso; omega)
    refine j_run it 3 rfl (by simp) ?_
    refine j_nf [.c [1, 0, 1], .c [1, 1]] rfl ?_
    refine j_true rfl rfl ?_
    refine j_nf [.o [1, 0, 1, 0, 0] 0, .c [1, 0, 1, 0, 1], .c [1, 1]] rfl ?_
    refine j_step rfl (x_lit0 sl35 fun b2 => ?_)
    refine j_step rfl (x_lit sl35 zo35e rfl rfl rfl rfl (by decide) (by decide) rfl fun b3 => ?_)
    refine j_step rfl (x_build (cs := [Value.bool false, Value.slice (some { block := b2, off := 0 }) 0 0, Value.slice (some { block := b3, off := 0 }) 1 1]) st37 zo37 rfl rfl ?_)
    refine j_step rfl (x_bst_all 2 rfl rfl rfl ld37 rfl rfl (by simp [Value.oneCell']) ?_)
    refine j_nf [.c [1, 0, 1, 0, 1], .c [1, 1]] rfl ?_
    refine j_pub_made (n := 1) (kd := .u32) 4 [1] 0 rfl rfl (by simp [InR]) (by decide) (by decide) ?_
    refine j_add (slF U32 (some ⟨b2, 0, none⟩) 0 0 []) (fun w A _ => slF_nil _ _ _ _ _) ?_
    refine j_givC [0, 1] rfl (.agg 1 rfl rfl ld37 rfl .nil) rfl ⟨_, _, _, _, by rw [e]; rfl, by rw [e]; rfl, rfl⟩
  by_cases h2 : (trim D).length = 0
  · have e := zero (.inr (zb.1 h2))
    refine j_nf [.o [0] 0, .c [1]] rfl ?_
    refine j_step rfl (x_alloc zo37 fun b1 => ?_)
    refine j_nf [.o [1, 0, 0] 0, .c [1, 0, 1], .c [1, 1]] rfl ?_
    refine j_run it 1 rfl (by simp) ?_
    refine j_step rfl (x_call [0] rfl (S_codewrightref01_Zero) rfl ?_)
    rintro _ _ _ ⟨rfl, rfl, rfl⟩
    simp only [List.cons_append, List.nil_append]
    refine j_run it 1 rfl (by simp) ?_
    refine j_split_dec (t := 14) rfl (fun h3 => by exfalso; omega) (fun h3 => ?_)
    refine j_run it 1 rfl (by simp) ?_
    refine j_gstep rfl rfl (x_call [1] rfl (S_codewrightref01_Zero) rfl ?_)
    rintro _ _ _ ⟨rfl, rfl, rfl⟩
    simp only [List.cons_append, List.nil_append]
    refine j_run it 1 rfl (by simp) ?_
    refine j_nf [.c [1, 0, 1], .c [1, 1]] rfl ?_
    refine j_if rfl rfl (fun h4 => ?_) (fun h4 => by exfalso; omega)
    refine j_nf [.o [1, 0, 1, 0, 0] 0, .c [1, 0, 1, 0, 1], .c [1, 1]] rfl ?_
    refine j_step rfl (x_lit0 sl35 fun b2 => ?_)
    refine j_step rfl (x_lit sl35 zo35e rfl rfl rfl rfl (by decide) (by decide) rfl fun b3 => ?_)
    refine j_step rfl (x_build (cs := [Value.bool false, Value.slice (some { block := b2, off := 0 }) 0 0, Value.slice (some { block := b3, off := 0 }) 1 1]) st37 zo37 rfl rfl ?_)
    refine j_step rfl (x_bst_all 2 rfl rfl rfl ld37 rfl rfl (by simp [Value.oneCell']) ?_)
    refine j_nf [.c [1, 0, 1, 0, 1], .c [1, 1]] rfl ?_
    refine j_pub_made (n := 1) (kd := .u32) 4 [1] 0 rfl rfl (by simp [InR]) (by decide) (by decide) ?_
    refine j_add (slF U32 (some ⟨b2, 0, none⟩) 0 0 []) (fun w A _ => slF_nil _ _ _ _ _) ?_
    refine j_givC [0, 1] rfl (.agg 1 rfl rfl ld37 rfl .nil) rfl ⟨_, _, _, _, by rw [e]; rfl, by rw [e]; rfl, rfl⟩
  · have v1 : val N ≠ 0 := fun h => h1 (za.2 h)
    have v2 : val D ≠ 0 := fun h => h2 (zb.2 h)
    have hg : val (limbs (Nat.gcd (val N) (val D))) ≠ 0 := by
      rw [val_limbs]
      have := Nat.gcd_pos_of_pos_left (val D) (Nat.pos_of_ne_zero v1)
      omega
    have e : rt (vq (neg, N, D)) = (neg, limbs (val N / val (limbs (Nat.gcd (val N) (val D)))), limbs (val D / val (limbs (Nat.gcd (val N) (val D))))) := by
      rw [vq_eq, rt_mk v1 v2, val_limbs]
    have hgl : (limbs (Nat.gcd (val N) (val D))).length ≤ 1073741824 := limbs_mono (Nat.le_trans (by rw [← ea]; exact trim_length_le N) hN) (Nat.gcd_le_left _ (Nat.pos_of_ne_zero v1))
    refine j_nf [.o [0] 0, .c [1]] rfl ?_
    refine j_step rfl (x_alloc zo37 fun b1 => ?_)
    refine j_nf [.o [1, 0, 0] 0, .c [1, 0, 1], .c [1, 1]] rfl ?_
    refine j_run it 1 rfl (by simp) ?_
    refine j_step rfl (x_call [0] rfl (S_codewrightref01_Zero) rfl ?_)
    rintro _ _ _ ⟨rfl, rfl, rfl⟩
    simp only [List.cons_append, List.nil_append]
    refine j_run it 1 rfl (by simp) ?_
    refine j_split_dec (t := 14) rfl (fun h3 => by exfalso; omega) (fun h3 => ?_)
    refine j_run it 1 rfl (by simp) ?_
    refine j_gstep rfl rfl (x_call [1] rfl (S_codewrightref01_Zero) rfl ?_)
    rintro _ _ _ ⟨rfl, rfl, rfl⟩
    simp only [List.cons_append, List.nil_append]
    refine j_run it 1 rfl (by simp) ?_
    refine j_nf [.c [1, 0, 1], .c [1, 1]] rfl ?_
    refine j_if rfl rfl (fun h4 => by exfalso; omega) (fun h4 => ?_)
    refine j_nf [.o [1, 1, 0] 0, .c [1, 1, 1]] rfl ?_
    refine j_run it 2 rfl (by simp) ?_
    refine j_step rfl (x_call [0, 1] rfl (S_codewrightref01_Gcd (by first | omega | exact side _ (by assumption) | assumption | rfl | (simp; done) | (simp; omega)) (by first | omega | exact side _ (by assumption) | assumption | rfl | (simp; done) | (simp; omega))) rfl ?_)
    rintro _ _ _ ⟨pa1, ca1, rfl, rfl, rfl⟩
    simp only [List.cons_append, List.nil_append]
    refine j_run it 1 rfl (by simp) ?_
    refine j_nf [.o [1, 1, 1, 0] 0, .c [1, 1, 1, 1]] rfl ?_
    refine j_run it 2 rfl (by simp) ?_
    refine j_step rfl (x_call [1, 0] rfl (S_codewrightref01_DivMod (by first | omega | exact side _ (by assumption) | assumption | rfl | (simp; done) | (simp; omega)) (by first | omega | exact side _ (by assumption) | assumption | rfl | (simp; done) | (simp; omega)) (by first | omega | exact side _ (by assumption) | assumption | rfl | (simp; done) | (simp; omega))) rfl ?_)
    rintro _ _ _ ⟨p11, c11, p21, c21, rfl, rfl, rfl⟩
    simp only [List.cons_append, List.nil_append]
    refine j_run it 5 rfl (by simp) ?_
    refine j_nf [.o [1, 1, 1, 1, 0] 0, .c [1, 1, 1, 1, 1]] rfl ?_
    refine j_run it 2 rfl (by simp) ?_
    refine j_step rfl (x_call [4, 2] rfl (S_codewrightref01_DivMod (by first | omega | exact side _ (by assumption) | assumption | rfl | (simp; done) | (simp; omega)) (by first | omega | exact side _ (by assumption) | assumption | rfl | (simp; done) | (simp; omega)) (by first | omega | exact side _ (by assumption) | assumption | rfl | (simp; done) | (simp; omega))) rfl ?_)
    rintro _ _ _ ⟨p12, c12, p22, c22, rfl, rfl, rfl⟩
    simp only [List.cons_append, List.nil_append]
    refine j_run it 5 rfl (by simp) ?_
    refine j_nf [.o [1, 1, 1, 1, 1, 0] 0, .c [1, 1, 1, 1, 1, 1]] rfl ?_
    refine j_run it 3 rfl (by simp) ?_
    refine j_step rfl (x_build (cs := [Value.bool neg, Value.slice p11 (limbs (val N / val (limbs ((val N).gcd (val D))))).length c11, Value.slice p12 (limbs (val D / val (limbs ((val N).gcd (val D))))).length c12]) st37 zo37 rfl rfl ?_)
    refine j_step rfl (x_bst_all 0 rfl rfl rfl ld37 rfl rfl (by simp [Value.oneCell']) ?_)
    refine j_nf [.c [1, 1, 1, 1, 1, 1]] rfl ?_
    refine j_givC [2, 0] rfl (.agg 0 rfl rfl ld37 rfl .nil) rfl ⟨p11, c11, p12, c12, by rw [e]; rfl, by rw [e], rfl⟩

theorem S_codewrightref02_Trim {neg : Bool} {pn pd : Option Addr} {n m cn cd : Nat} {N D : List Nat} (hN : N.length ≤ 1073741824) (hD : D.length ≤ 1073741824) :
    Ctr Try.prog 20 [.agg #[.bool neg, .slice pn n cn, .slice pd m cd]] [] [slF U32 pn n cn N, slF U32 pd m cd D] (RtV (rt (vq (neg, N, D)))) := by
  refine Ctr_of_j' (F := F_codewrightref02_Trim) rfl fun C => ?_
  refine j_nf [.o [0] 0, .c [1]] rfl ?_
  refine j_step rfl (x_box_agg rfl fun b1 => ?_)
  refine j_step rfl (x_alloc zo37 fun b2 => ?_)
  refine j_nf [.o [1, 0] 0, .c [1, 1]] rfl ?_
  refine j_step rfl (x_field rfl fd37_0 ?_)
  refine j_step rfl (x_bld 1 rfl rfl ld4 rfl ?_)
  refine j_step rfl (x_field rfl fd37_1 ?_)
  refine j_step rfl (x_bld 1 rfl rfl ld35 rfl ?_)
  refine j_step rfl (x_field rfl fd37_2 ?_)
  refine j_step rfl (x_bld 1 rfl rfl ld35 rfl ?_)
  refine j_step rfl (x_call [0, 1] rfl (S_codewrightref02_Make (by first | omega | exact side _ (by assumption) | assumption | rfl | (simp; done) | (simp; omega)) (by first | omega | exact side _ (by assumption) | assumption | rfl | (simp; done) | (simp; omega))) rfl ?_)
  rintro _ _ _ ⟨pn1, cn1, pd1, cd1, rfl, rfl, rfl⟩
  simp only [List.cons_append, List.nil_append]
  refine j_step rfl (x_bst_all 0 rfl rfl rfl ld37 rfl rfl (by simp [Value.oneCell']) ?_)
  refine j_nf [.c [1, 1]] rfl ?_
  refine j_givC [0, 1] rfl (.agg 0 rfl rfl ld37 rfl .nil) rfl ⟨_, _, _, _, rfl, rfl, rfl⟩

theorem S_codewrightref02_Neg {neg : Bool} {pn pd : Option Addr} {n m cn cd : Nat} {N D : List Nat} (hN : N.length ≤ 1073741824) (hD : D.length ≤ 1073741824) :
    Ctr Try.prog 16 [.agg #[.bool neg, .slice pn n cn, .slice pd m cd]] [] [slF U32 pn n cn N, slF U32 pd m cd D] (RtV (rt (-vq (neg, N, D)))) := by
  refine Ctr_of_j' (F := F_codewrightref02_Neg) rfl fun C => ?_
  refine j_len 0 rfl fun hn _ _ => ?_
  refine j_len 1 rfl fun hm _ _ => ?_
  subst hn; subst hm
  refine j_range 0 rfl fun hra => ?_
  refine j_range 1 rfl fun hrb => ?_
  obtain ⟨k1, k2⟩ := rt_len (g := neg) (lim hra) (lim hrb) hN hD (by decide)
  have e : vq (!(rt (vq (neg, N, D))).1, (rt (vq (neg, N, D))).2.1, (rt (vq (neg, N, D))).2.2) = -vq (neg, N, D) := by
    rw [vq_eq, neg_mk]; congr 1; exact vq_rt _
  refine j_nf [.o [0] 0, .c [1]] rfl ?_
  refine j_step rfl (x_box_agg rfl fun b1 => ?_)
  refine j_step rfl (x_alloc zo37 fun b2 => ?_)
  refine j_nf [.o [1, 0] 0, .c [1, 1]] rfl ?_
  refine j_step rfl (x_bld_all 1 rfl rfl ld37 rfl ?_)
  refine j_step rfl (x_call [0, 1] rfl (S_codewrightref02_Trim (by first | omega | exact side _ (by assumption) | assumption | rfl | (simp; done) | (simp; omega)) (by first | omega | exact side _ (by assumption) | assumption | rfl | (simp; done) | (simp; omega))) rfl ?_)
  rintro _ _ _ ⟨pn1, cn1, pd1, cd1, rfl, rfl, rfl⟩
  simp only [List.cons_append, List.nil_append]
  refine j_step rfl (x_bst_all 1 rfl rfl rfl ld37 rfl rfl (by simp [Value.oneCell']) ?_)
  refine j_nf [.o [1, 1, 0] 0, .c [1, 1, 1]] rfl ?_
  refine j_step rfl (x_field rfl fd37_0 ?_)
  refine j_step rfl (x_bld 1 rfl rfl ld4 rfl ?_)
  refine j_run it 1 rfl (by simp) ?_
  refine j_step rfl (x_field rfl fd37_1 ?_)
  refine j_step rfl (x_bld 1 rfl rfl ld35 rfl ?_)
  refine j_step rfl (x_field rfl fd37_2 ?_)
  refine j_step rfl (x_bld 1 rfl rfl ld35 rfl ?_)
  refine j_step rfl (x_call [0, 1] rfl (S_codewrightref02_Make (by first | omega | exact side _ (by assumption) | assumption | rfl | (simp; done) | (simp; omega)) (by first | omega | exact side _ (by assumption) | assumption | rfl | (simp; done) | (simp; omega))) rfl ?_)
  rintro _ _ _ ⟨pn2, cn2, pd2, cd2, rfl, rfl, rfl⟩
  simp only [List.cons_append, List.nil_append]
  refine j_step rfl (x_bst_all 0 rfl rfl rfl ld37 rfl rfl (by simp [Value.oneCell']) ?_)
  refine j_nf [.c [1, 1, 1]] rfl ?_
  rw [e]
  refine j_givC [0, 1] rfl (.agg 0 rfl rfl ld37 rfl .nil) rfl ⟨_, _, _, _, rfl, rfl, rfl⟩

theorem mul_rt (p q : Rat) : vq ((rt p).1 != (rt q).1, limbs (val (rt p).2.1 * val (rt q).2.1), limbs (val (rt p).2.2 * val (rt q).2.2)) = p * q := by
  rw [vq_eq]
  simp only [val_limbs, num_rt, den_rt, neg_rt]
  exact mul_mk _ _
theorem limbs_of {l : List Nat} {k : Nat} {x : Nat} (h : l = limbs x) (hl : l.length ≤ k) : (limbs (val l)).length ≤ k := by subst h; rw [val_limbs]; exact hl
end Go.Proofs.Ytpoonnjaobjdgaa
