/-
The contracts of rational.one, canonical, Trim, Neg, Sign.
-/
import Derived.Test.YtpoonnjaobjdgaaFuns
import Derived.Test.YtpoonnjaobjdgaaNatMath
import Derived.Test.YtpoonnjaobjdgaaNatMath2
import Derived.Test.YtpoonnjaobjdgaaNatMath3
import Derived.Test.YtpoonnjaobjdgaaNatMath5
import Derived.Test.YtpoonnjaobjdgaaRatMath
import Derived.Test.YtpoonnjaobjdgaaA1
import Derived.Test.YtpoonnjaobjdgaaA2
import Derived.Test.YtpoonnjaobjdgaaA6
import Derived.Test.YtpoonnjaobjdgaaA13
namespace Go.Proofs.Ytpoonnjaobjdgaa
open Go Go.Fw
set_option maxRecDepth 100000
set_option linter.unusedVariables false
set_option maxHeartbeats 2000000
theorem S_rational_one : Ctr Try.prog 23 [] [] [] (Sv U32 [1]) := by
  refine Ctr_of_j' (F := F_rational_one) rfl fun C => ?_
  refine j_nf [.o [0] 0, .c [1]] rfl ?_
  refine j_run it 1 rfl (by simp) ?_
  refine j_nf [.o [1, 0] 0, .c [1, 1]] rfl ?_
  refine j_step rfl (x_lit sl35 zo35e rfl rfl rfl rfl (by decide) (by decide) rfl fun b1 => ?_)
  refine j_run it 1 rfl (by simp) ?_
  refine j_nf [.c [1, 1]] rfl ?_
  refine j_pub_made (n := 1) (kd := .u32) 4 [1] 0 rfl rfl (by simp [InR]) (by decide) (by decide) ?_
  refine j_giv [0] rfl rfl rfl ⟨_, _, rfl, rfl, rfl⟩

theorem bitsL_zero {l : List Nat} (h : ∀ x ∈ l, x < 4294967296) : bitsL l = 0 ↔ val l = 0 := by
  have ht := trim_eq h
  constructor
  · intro h0
    rcases Nat.eq_zero_or_pos (trim l).length with h1 | h1
    · have := List.eq_nil_of_length_eq_zero h1
      rw [ht, limbs_nil] at this; exact this
    · obtain ⟨k, hk⟩ : ∃ k, (trim l).length = k + 1 := ⟨(trim l).length - 1, by omega⟩
      obtain ⟨t, hz, hz0⟩ := limbs_top (n := val l) (k := k) (by rw [← ht]; exact hk)
      rw [← ht] at hz
      have h3 := bitsL_top (z := t) (by rw [hk]; exact hz)
      have := blen_pos hz0
      omega
  · intro h0
    exact bitsL_nil (by rw [ht, h0, limbs_zero]; rfl)

theorem lim {l : List Nat} (h : ∀ x ∈ l, InR .u32 x) : ∀ x ∈ l, x < 4294967296 := fun x hx => by have := h x hx; simp only [InR] at this; omega

theorem S_rational_canonical {neg : Bool} {pn pd : Option Addr} {n m cn cd : Nat} {N D : List Nat} (hN : N.length ≤ 1073741824) (hD : D.length ≤ 1073741824) :
    Ctr Try.prog 18 [.bool neg, .slice pn n cn, .slice pd m cd] [] [slF U32 pn n cn N, slF U32 pd m cd D] (RtV (rt (vq (neg, N, D)))) := by
  refine Ctr_of_j' (F := F_rational_canonical) rfl fun C => ?_
  refine j_len 0 rfl fun hn hba _ => ?_
  refine j_len 1 rfl fun hm hbb _ => ?_
  subst hn; subst hm
  refine j_range 0 rfl fun hra => ?_
  refine j_range 1 rfl fun hrb => ?_
  have ha := lim hra
  have hb := lim hrb
  have za := bitsL_zero ha
  have zb := bitsL_zero hb
  have zero : val N = 0 ∨ val D = 0 → rt (vq (neg, N, D)) = (false, [], [1]) := fun h => by rw [vq_eq, mk_zero h, rt_zero]
  by_cases h1 : bitsL N = 0
  · have e := zero (.inl (za.1 h1))
    refine j_nf [.o [0] 0, .c [1]] rfl ?_
    refine j_step rfl (x_alloc zo37 fun b1 => ?_)
    refine j_nf [.o [1, 0, 0] 0, .c [1, 0, 1], .c [1, 1]] rfl ?_
    refine j_run it 1 rfl (by simp) ?_
    refine j_step rfl (x_call [0] rfl (S_nat_Bits) rfl ?_)
    rintro _ _ _ ⟨rfl, rfl, rfl⟩
    simp only [List.cons_append, List.nil_append]
    refine j_run it 2 rfl (by simp) ?_
    refine j_split_dec (t := 11) rfl (fun h2 => ?_) (fun h2 => by exfalso; omega)
    refine j_run it 4 rfl (by simp) ?_
    refine j_nf [.c [1, 0, 1], .c [1, 1]] rfl ?_
    refine j_true rfl rfl ?_
    refine j_nf [.o [1, 0, 1, 0, 0] 0, .c [1, 0, 1, 0, 1], .c [1, 1]] rfl ?_
    refine j_step rfl (x_call [] rfl (S_rational_one) rfl ?_)
    rintro _ _ _ ⟨pa1, ca1, rfl, rfl, rfl⟩
    simp only [List.cons_append, List.nil_append]
    refine j_step rfl (x_build (cs := [Value.bool false, Value.slice none 0 0, Value.slice pa1 [1].length ca1]) st37 zo37 rfl rfl ?_)
    refine j_step rfl (x_bst_all 0 rfl rfl rfl ld37 rfl rfl (by simp [Value.oneCell']) ?_)
    refine j_nf [.c [1, 0, 1, 0, 1], .c [1, 1]] rfl ?_
    refine j_add (slF U32 none 0 0 []) (fun w A _ => slF_nil _ _ _ _ _) ?_
    refine j_givC [0, 1] rfl (.agg 0 rfl rfl ld37 rfl .nil) rfl ⟨none, 0, pa1, ca1, by rw [e]; rfl, by rw [e]; rfl, rfl⟩
  by_cases h2 : bitsL D = 0
  · have e := zero (.inr (zb.1 h2))
    refine j_nf [.o [0] 0, .c [1]] rfl ?_
    refine j_step rfl (x_alloc zo37 fun b1 => ?_)
    refine j_nf [.o [1, 0, 0] 0, .c [1, 0, 1], .c [1, 1]] rfl ?_
    refine j_run it 1 rfl (by simp) ?_
    refine j_step rfl (x_call [0] rfl (S_nat_Bits) rfl ?_)
    rintro _ _ _ ⟨rfl, rfl, rfl⟩
    simp only [List.cons_append, List.nil_append]
    refine j_run it 2 rfl (by simp) ?_
    refine j_split_dec (t := 11) rfl (fun h3 => by exfalso; omega) (fun h3 => ?_)
    refine j_run it 1 rfl (by simp) ?_
    refine j_gstep rfl rfl (x_call [1] rfl (S_nat_Bits) rfl ?_)
    rintro _ _ _ ⟨rfl, rfl, rfl⟩
    simp only [List.cons_append, List.nil_append]
    refine j_run it 2 rfl (by simp) ?_
    refine j_nf [.c [1, 0, 1], .c [1, 1]] rfl ?_
    refine j_if rfl rfl (fun h4 => ?_) (fun h4 => by exfalso; omega)
    refine j_nf [.o [1, 0, 1, 0, 0] 0, .c [1, 0, 1, 0, 1], .c [1, 1]] rfl ?_
    refine j_step rfl (x_call [] rfl (S_rational_one) rfl ?_)
    rintro _ _ _ ⟨pa1, ca1, rfl, rfl, rfl⟩
    simp only [List.cons_append, List.nil_append]
    refine j_step rfl (x_build (cs := [Value.bool false, Value.slice none 0 0, Value.slice pa1 [1].length ca1]) st37 zo37 rfl rfl ?_)
    refine j_step rfl (x_bst_all 0 rfl rfl rfl ld37 rfl rfl (by simp [Value.oneCell']) ?_)
    refine j_nf [.c [1, 0, 1, 0, 1], .c [1, 1]] rfl ?_
    refine j_add (slF U32 none 0 0 []) (fun w A _ => slF_nil _ _ _ _ _) ?_
    refine j_givC [0, 1] rfl (.agg 0 rfl rfl ld37 rfl .nil) rfl ⟨none, 0, pa1, ca1, by rw [e]; rfl, by rw [e]; rfl, rfl⟩
  · have v1 : val N ≠ 0 := fun h => h1 (za.2 h)
    have v2 : val D ≠ 0 := fun h => h2 (zb.2 h)
    have hg : val (limbs (Nat.gcd (val N) (val D))) ≠ 0 := by
      rw [val_limbs]
      have := Nat.gcd_pos_of_pos_left (val D) (Nat.pos_of_ne_zero v1)
      omega
    have e : rt (vq (neg, N, D)) = (neg, limbs (val N / val (limbs (Nat.gcd (val N) (val D)))), limbs (val D / val (limbs (Nat.gcd (val N) (val D))))) := by
      rw [vq_eq, rt_mk v1 v2, val_limbs]
    refine j_nf [.o [0] 0, .c [1]] rfl ?_
    refine j_step rfl (x_alloc zo37 fun b1 => ?_)
    refine j_nf [.o [1, 0, 0] 0, .c [1, 0, 1], .c [1, 1]] rfl ?_
    refine j_run it 1 rfl (by simp) ?_
    refine j_step rfl (x_call [0] rfl (S_nat_Bits) rfl ?_)
    rintro _ _ _ ⟨rfl, rfl, rfl⟩
    simp only [List.cons_append, List.nil_append]
    refine j_run it 2 rfl (by simp) ?_
    refine j_split_dec (t := 11) rfl (fun h3 => by exfalso; omega) (fun h3 => ?_)
    refine j_run it 1 rfl (by simp) ?_
    refine j_gstep rfl rfl (x_call [1] rfl (S_nat_Bits) rfl ?_)
    rintro _ _ _ ⟨rfl, rfl, rfl⟩
    simp only [List.cons_append, List.nil_append]
    refine j_run it 2 rfl (by simp) ?_
    refine j_nf [.c [1, 0, 1], .c [1, 1]] rfl ?_
    refine j_if rfl rfl (fun h4 => by exfalso; omega) (fun h4 => ?_)
    refine j_nf [.o [1, 1, 0] 0, .c [1, 1, 1]] rfl ?_
    refine j_run it 2 rfl (by simp) ?_
    refine j_step rfl (x_call [0, 1] rfl (S_nat_Gcd (by first | omega | exact side _ (by assumption) | assumption | rfl | (simp; done) | (simp; omega)) (by first | omega | exact side _ (by assumption) | assumption | rfl | (simp; done) | (simp; omega))) rfl ?_)
    rintro _ _ _ ⟨pa1, ca1, rfl, rfl, rfl⟩
    simp only [List.cons_append, List.nil_append]
    refine j_run it 1 rfl (by simp) ?_
    refine j_nf [.o [1, 1, 1, 0] 0, .c [1, 1, 1, 1]] rfl ?_
    refine j_run it 2 rfl (by simp) ?_
    refine j_step rfl (x_call [1, 0] rfl (S_nat_DivMod (by first | omega | exact side _ (by assumption) | assumption | rfl | (simp; done) | (simp; omega)) (by first | omega | exact side _ (by assumption) | assumption | rfl | (simp; done) | (simp; omega))) rfl ?_)
    rintro _ _ _ ⟨p11, c11, p21, c21, rfl, rfl, rfl⟩
    simp only [List.cons_append, List.nil_append]
    refine j_run it 5 rfl (by simp) ?_
    refine j_nf [.o [1, 1, 1, 1, 0] 0, .c [1, 1, 1, 1, 1]] rfl ?_
    refine j_run it 2 rfl (by simp) ?_
    refine j_step rfl (x_call [4, 2] rfl (S_nat_DivMod (by first | omega | exact side _ (by assumption) | assumption | rfl | (simp; done) | (simp; omega)) (by first | omega | exact side _ (by assumption) | assumption | rfl | (simp; done) | (simp; omega))) rfl ?_)
    rintro _ _ _ ⟨p12, c12, p22, c22, rfl, rfl, rfl⟩
    simp only [List.cons_append, List.nil_append]
    refine j_run it 5 rfl (by simp) ?_
    refine j_nf [.o [1, 1, 1, 1, 1, 0] 0, .c [1, 1, 1, 1, 1, 1]] rfl ?_
    refine j_run it 3 rfl (by simp) ?_
    refine j_step rfl (x_build (cs := [Value.bool neg, Value.slice p11 (limbs (val N / val (limbs ((val N).gcd (val D))))).length c11, Value.slice p12 (limbs (val D / val (limbs ((val N).gcd (val D))))).length c12]) st37 zo37 rfl rfl ?_)
    refine j_step rfl (x_bst_all 0 rfl rfl rfl ld37 rfl rfl (by simp [Value.oneCell']) ?_)
    refine j_nf [.c [1, 1, 1, 1, 1, 1]] rfl ?_
    refine j_givC [2, 0] rfl (.agg 0 rfl rfl ld37 rfl .nil) rfl ⟨p11, c11, p12, c12, by rw [e]; rfl, by rw [e], rfl⟩

theorem S_rational_Neg {neg : Bool} {pn pd : Option Addr} {n m cn cd : Nat} {N D : List Nat} (hN : N.length ≤ 1073741824) (hD : D.length ≤ 1073741824) :
    Ctr Try.prog 13 [.agg #[.bool neg, .slice pn n cn, .slice pd m cd]] [] [slF U32 pn n cn N, slF U32 pd m cd D] (RtV (rt (-vq (neg, N, D)))) := by
  refine Ctr_of_j' (F := F_rational_Neg) rfl fun C => ?_
  refine j_len 0 rfl fun hn _ _ => ?_
  refine j_len 1 rfl fun hm _ _ => ?_
  subst hn; subst hm
  refine j_nf [.o [0] 0, .c [1]] rfl ?_
  refine j_step rfl (x_box_agg rfl fun b1 => ?_)
  refine j_step rfl (x_alloc zo37 fun b2 => ?_)
  refine j_nf [.o [1, 0] 0, .c [1, 1]] rfl ?_
  refine j_step rfl (x_field rfl fd37_0 ?_)
  refine j_step rfl (x_bld 1 rfl rfl ld4 rfl ?_)
  refine j_run it 1 rfl (by simp) ?_
  refine j_step rfl (x_field rfl fd37_1 ?_)
  refine j_step rfl (x_bld 1 rfl rfl ld35 rfl ?_)
  refine j_step rfl (x_field rfl fd37_2 ?_)
  refine j_step rfl (x_bld 1 rfl rfl ld35 rfl ?_)
  refine j_step rfl (x_call [0, 1] rfl (S_rational_canonical (by first | omega | exact side _ (by assumption) | assumption | rfl | (simp; done) | (simp; omega)) (by first | omega | exact side _ (by assumption) | assumption | rfl | (simp; done) | (simp; omega))) rfl ?_)
  rintro _ _ _ ⟨pn1, cn1, pd1, cd1, rfl, rfl, rfl⟩
  simp only [List.cons_append, List.nil_append]
  refine j_step rfl (x_bst_all 0 rfl rfl rfl ld37 rfl rfl (by simp [Value.oneCell']) ?_)
  refine j_nf [.c [1, 1]] rfl ?_
  have e : vq (!neg, N, D) = -vq (neg, N, D) := neg_mk _ _ _
  rw [e]
  refine j_givC [0, 1] rfl (.agg 0 rfl rfl ld37 rfl .nil) rfl ⟨_, _, _, _, rfl, rfl, rfl⟩
end Go.Proofs.Ytpoonnjaobjdgaa
