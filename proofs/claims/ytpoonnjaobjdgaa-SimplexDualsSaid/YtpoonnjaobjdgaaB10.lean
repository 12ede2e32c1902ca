/-
The document's DivMod and Gcd.
-/
import Derived.Test.YtpoonnjaobjdgaaFuns
import Derived.Test.YtpoonnjaobjdgaaNatMath
import Derived.Test.YtpoonnjaobjdgaaNatMath2
import Derived.Test.YtpoonnjaobjdgaaNatMath3
import Derived.Test.YtpoonnjaobjdgaaNatMath5
import Derived.Test.YtpoonnjaobjdgaaNatMath6
import Derived.Test.YtpoonnjaobjdgaaNatMath7
import Derived.Test.YtpoonnjaobjdgaaA1
import Derived.Test.YtpoonnjaobjdgaaA10
import Derived.Test.YtpoonnjaobjdgaaB1
import Derived.Test.YtpoonnjaobjdgaaB3
import Derived.Test.YtpoonnjaobjdgaaB6
import Derived.Test.YtpoonnjaobjdgaaB8
import Derived.Test.YtpoonnjaobjdgaaB9
namespace Go.Proofs.Ytpoonnjaobjdgaa
open Go Go.Fw
set_option maxRecDepth 100000
set_option linter.unusedVariables false
set_option maxHeartbeats 2000000
/-- A quotient and a remainder. -/
abbrev DivR (A B : Nat) : Value → List Fact → List Blk → Prop := fun v Φ β => ∃ p1 c1 p2 c2, v = .tuple #[.slice p1 (limbs (A / B)).length c1, .slice p2 (limbs (A % B)).length c2] ∧ Φ = [slF U32 p1 (limbs (A / B)).length c1 (limbs (A / B)), slF U32 p2 (limbs (A % B)).length c2 (limbs (A % B))] ∧ β = []

theorem bitsL_blen {l : List Nat} (h : ∀ x ∈ l, x < 4294967296) : bitsL l = blen (val l) := by
  have ht := trim_eq h
  rcases Nat.eq_zero_or_pos (trim l).length with h1 | h1
  · rw [bitsL_nil h1]
    have := List.eq_nil_of_length_eq_zero h1
    rw [ht, limbs_nil] at this
    rw [this, blen_zero]
  · obtain ⟨k, hk⟩ : ∃ k, (trim l).length = k + 1 := ⟨(trim l).length - 1, by omega⟩
    obtain ⟨t, hz, hz0⟩ := limbs_top (n := val l) (k := k) (by rw [← ht]; exact hk)
    have hs := top_split (by rw [← ht]; exact hk) hz
    rw [val_limbs] at hs
    rw [← ht] at hz hs
    rw [bitsL_top (z := t) (by rw [hk]; exact hz), hk, Nat.add_sub_cancel]
    have hlow := take_lt (l := trim l) (k := k) (by rw [ht]; exact limbs_lt _) (by omega)
    have e : (4294967296 : Nat) ^ k = 2 ^ (32 * k) := by rw [Nat.pow_mul]
    rw [e] at hs hlow
    rw [hs, blen_div (32 * k) (val ((trim l).take k) + 2 ^ (32 * k) * t) (Nat.le_trans (Nat.le_mul_of_pos_right _ (Nat.pos_of_ne_zero hz0)) (Nat.le_add_left _ _)), Nat.add_mul_div_left _ _ (Nat.pow_pos (by decide)), Nat.div_eq_of_lt hlow, Nat.zero_add, Nat.add_comm]

theorem bits_le {l : List Nat} (h : ∀ x ∈ l, x < 4294967296) : bitsL l ≤ 32 * l.length := by
  rw [bitsL_blen h]
  have := val_lt h
  exact blen_le (by rw [Nat.pow_mul]; exact this)

/-- One bit of the quotient. -/
theorem bit_step {A B Q R s i : Nat} (h : A = Q * B + R) (hR : R < B * 2 ^ (i + 1)) (hs : s = 2 ^ i) (hge : B * s ≤ R) : A = (Q + s) * B + (R - B * s) ∧ R - B * s < B * 2 ^ i := by
  subst hs
  rw [Nat.pow_succ, ← Nat.mul_assoc] at hR
  constructor
  · rw [Nat.add_mul, Nat.mul_comm (2 ^ i) B]; omega
  · omega

theorem S_codewrightref01_DivMod {pa pb : Option Addr} {n m ca cb : Nat} {a b : List Nat} (hal : a.length ≤ 1073741824) (hbl : b.length ≤ 1073741824) (hb0 : val b ≠ 0) :
    Ctr Try.prog 29 [.slice pa n ca, .slice pb m cb] [] [slF U32 pa n ca a, slF U32 pb m cb b] (DivR (val a) (val b)) := by
  refine Ctr_of_j' (F := F_codewrightref01_DivMod) rfl fun C => ?_
  refine j_len 0 rfl fun hn hba _ => ?_
  refine j_len 1 rfl fun hm hbb _ => ?_
  subst hn; subst hm
  refine j_range 0 rfl fun hra => ?_
  refine j_range 1 rfl fun hrb => ?_
  have ha : ∀ x ∈ a, x < 4294967296 := fun x hx => by have := hra x hx; simp only [InR] at this; omega
  have hb : ∀ x ∈ b, x < 4294967296 := fun x hx => by have := hrb x hx; simp only [InR] at this; omega
  have ea := trim_eq ha
  have lla := trim_length_le a
  have ba := bits_le ha
  have bb := bits_le hb
  have eba := bitsL_blen ha
  have ebb := bitsL_blen hb
  have hst : val a < val b * 2 ^ ((bitsL a : Int) - bitsL b + 1).toNat := by
    have h1 := blen_lt (val a)
    have h2 := blen_ge hb0
    rw [eba, ebb]
    have h3 : 2 ^ (blen (val b) - 1) * 2 ^ ((blen (val a) : Int) - blen (val b) + 1).toNat ≤ val b * 2 ^ ((blen (val a) : Int) - blen (val b) + 1).toNat := Nat.mul_le_mul_right _ h2
    rw [← Nat.pow_add] at h3
    have h4 : 2 ^ blen (val a) ≤ 2 ^ (blen (val b) - 1 + ((blen (val a) : Int) - blen (val b) + 1).toNat) := Nat.pow_le_pow_right (by decide) (by omega)
    omega
  refine j_nf [.o [0] 0, .c [1]] rfl ?_
  refine j_run it 2 rfl (by simp) ?_
  refine j_nf [.o [1, 0] 0, .c [1, 1]] rfl ?_
  refine j_run it 1 rfl (by simp) ?_
  refine j_step rfl (x_call [0] rfl (S_codewrightref01_Trim) rfl ?_)
  rintro _ _ _ ⟨pa1, ca1, rfl, rfl, rfl⟩
  simp only [List.cons_append, List.nil_append]
  refine j_run it 1 rfl (by simp) ?_
  refine j_nf [.o [1, 1, 0] 0, .c [1, 1, 1]] rfl ?_
  refine j_run it 1 rfl (by simp) ?_
  refine j_step rfl (x_call [1] rfl (S_codewrightref01_Bits) rfl ?_)
  rintro _ _ _ ⟨rfl, rfl, rfl⟩
  simp only [List.cons_append, List.nil_append]
  refine j_run it 1 rfl (by simp) ?_
  refine j_step rfl (x_call [2] rfl (S_codewrightref01_Bits) rfl ?_)
  rintro _ _ _ ⟨rfl, rfl, rfl⟩
  simp only [List.cons_append, List.nil_append]
  refine j_run it 2 rfl (by repeat' first | exact trivial | apply And.intro | omega) ?_
  refine j_nf [.o [1, 1, 1, 0, 0] 0, .c [1, 1, 1, 0, 1], .c [1, 1, 1, 1]] rfl ?_
  refine j_run it 2 rfl (by simp) ?_
  refine j_nf [.c [1, 1, 1, 0, 1, 0], .blk 0, .c [1, 1, 1, 1]] rfl ?_
  rw [ea]
  rw [ea] at lla
  refine j_add (slF U32 none (limbs 0).length 0 (limbs 0)) (fun w A _ => by rw [limbs_zero]; exact slF_nil _ _ _ _ _) ?_
  refine j_loopG (X := Int × Nat × Nat × (Option Addr × Nat) × (Option Addr × Nat)) [1] [3] (fun x => [(4, .slice x.2.2.2.1.1 (limbs x.2.1).length x.2.2.2.1.2), (5, .slice x.2.2.2.2.1 (limbs x.2.2.1).length x.2.2.2.2.2), (7, .int .i64 (x.1 - 1))]) (fun _ => [])
    (fun x => [slF U32 x.2.2.2.1.1 (limbs x.2.1).length x.2.2.2.1.2 (limbs x.2.1), slF U32 x.2.2.2.2.1 (limbs x.2.2.1).length x.2.2.2.2.2 (limbs x.2.2.1)])
    (fun x => x.1 ≤ (bitsL a : Int) - bitsL b + 1 ∧ val a = x.2.1 * val b + x.2.2.1 ∧ x.2.2.1 < val b * 2 ^ x.1.toNat ∧ -34359738368 ≤ x.1)
    (fun x => x.1.toNat) ((bitsL a : Int) - bitsL b + 1, 0, val a, (none, 0), (pa1, ca1)) [0, 1] rfl rfl rfl ⟨Int.le_refl _, by simp, hst, by dsimp only; omega⟩ (by rw [limbs_zero]; repeat (first | exact Fr.sub_nil _ | refine Fr.sub_cons rfl ?_ | refine Fr.sub_consI rfl (by dsimp only; omega) ?_)) rfl rfl ?_
  rintro ⟨i, Q, R, ⟨pq, cq⟩, ⟨pr, cr⟩⟩ ⟨hi, hA, hR, hi2⟩ ih
  simp only [List.cons_append, List.nil_append] at hi hA hR hi2 ih ⊢
  by_cases hi0 : 0 < i
  · obtain ⟨j, rfl⟩ : ∃ j : Nat, i = (j : Int) + 1 := ⟨(i - 1).toNat, by omega⟩
    rw [show ((j : Int) + 1 - 1) = (j : Int) by omega]
    rw [show ((j : Int) + 1).toNat = j + 1 by omega] at hR
    have hjn : j ≤ 1099511627776 := by omega
    have hRa : R ≤ val a := by rw [hA]; exact Nat.le_add_left _ _
    have hQa : Q ≤ val a := by
      have : Q * 1 ≤ Q * val b := Nat.mul_le_mul_left _ (Nat.pos_of_ne_zero hb0)
      omega
    have lQ := limbs_mono lla hQa
    by_cases hc : val b * 2 ^ j ≤ R
    · have hcc : 0 ≤ cmpN (val (limbs R)) (val (limbs (val b * 2 ^ j))) := by rw [val_limbs, val_limbs]; unfold cmpN; split <;> (try split) <;> omega
      have hle : val (limbs (val b * 2 ^ j)) ≤ val (limbs R) := by rw [val_limbs, val_limbs]; exact hc
      obtain ⟨hA', hR'⟩ := bit_step hA hR rfl hc
      have lQ2 : (limbs (2 ^ j)).length ≤ 1073741824 := limbs_mono (Nat.le_trans lla hal) (by
        have : 1 * 2 ^ j ≤ val b * 2 ^ j := Nat.mul_le_mul_right _ (Nat.pos_of_ne_zero hb0)
        omega)
      have e1 : val [1] * 2 ^ j = 2 ^ j := by simp [val]
      refine j_nf [.o [1, 1, 1, 0, 1, 0, 0, 0, 0] 0, .c [1, 1, 1, 0, 1, 0, 0, 0, 1], .c [1, 1, 1, 0, 1, 0, 0, 1], .lp [1, 1, 1, 0, 1, 0, 0], .blk 0, .c [1, 1, 1, 1]] rfl ?_
      refine j_run it 2 rfl (by simp) ?_
      refine j_nf [.c [1, 1, 1, 0, 1, 0, 0, 0, 1], .c [1, 1, 1, 0, 1, 0, 0, 1], .lp [1, 1, 1, 0, 1, 0, 0], .blk 0, .c [1, 1, 1, 1]] rfl ?_
      refine j_if rfl rfl (fun h1 => ?_) (fun h1 => by exfalso; omega)
      refine j_nf [.o [1, 1, 1, 0, 1, 0, 0, 1, 0, 0, 0] 0, .c [1, 1, 1, 0, 1, 0, 0, 1, 0, 0, 1], .blk 1, .c [1, 1, 1, 0, 1, 0, 0, 1, 1], .lp [1, 1, 1, 0, 1, 0, 0], .blk 0, .c [1, 1, 1, 1]] rfl ?_
      refine j_run it 2 rfl (by simp) ?_
      refine j_step rfl (x_call [2] rfl (S_codewrightref01_shift (by first | omega | exact side _ (by assumption) | assumption | rfl | (simp; done) | (simp; omega)) (by first | omega | exact side _ (by assumption) | assumption | rfl | (simp; done) | (simp; omega))) rfl ?_)
      rintro _ _ _ ⟨pa2, ca2, rfl, rfl, rfl⟩
      simp only [List.cons_append, List.nil_append]
      refine j_run it 1 rfl (by simp) ?_
      refine j_nf [.o [1, 1, 1, 0, 1, 0, 0, 1, 0, 0, 1, 0] 0, .c [1, 1, 1, 0, 1, 0, 0, 1, 0, 0, 1, 1], .blk 1, .c [1, 1, 1, 0, 1, 0, 0, 1, 1], .lp [1, 1, 1, 0, 1, 0, 0], .blk 0, .c [1, 1, 1, 1]] rfl ?_
      refine j_run it 2 rfl (by simp) ?_
      refine j_step rfl (x_call [2, 0] rfl (S_codewrightref01_Cmp) rfl ?_)
      rintro _ _ _ ⟨rfl, rfl, rfl⟩
      simp only [List.cons_append, List.nil_append]
      refine j_run it 1 rfl (by simp) ?_
      refine j_nf [.c [1, 1, 1, 0, 1, 0, 0, 1, 0, 0, 1, 1], .blk 1, .c [1, 1, 1, 0, 1, 0, 0, 1, 1], .lp [1, 1, 1, 0, 1, 0, 0], .blk 0, .c [1, 1, 1, 1]] rfl ?_
      refine j_if rfl rfl (fun h2 => ?_) (fun h2 => by exfalso; omega)
      refine j_nf [.o [1, 1, 1, 0, 1, 0, 0, 1, 0, 0, 1, 1, 0, 0] 0, .c [1, 1, 1, 0, 1, 0, 0, 1, 0, 0, 1, 1, 0, 1], .blk 1, .c [1, 1, 1, 0, 1, 0, 0, 1, 1], .lp [1, 1, 1, 0, 1, 0, 0], .blk 0, .c [1, 1, 1, 1]] rfl ?_
      refine j_run it 2 rfl (by simp) ?_
      refine j_step rfl (x_call [2, 0] rfl (S_codewrightref01_Sub (by first | omega | exact side _ (by assumption) | assumption | rfl | (simp; done) | (simp; omega))) rfl ?_)
      rintro _ _ _ ⟨pa3, ca3, rfl, rfl, rfl⟩
      simp only [List.cons_append, List.nil_append]
      refine j_run it 1 rfl (by simp) ?_
      refine j_nf [.o [1, 1, 1, 0, 1, 0, 0, 1, 0, 0, 1, 1, 0, 1] 0, .blk 1, .c [1, 1, 1, 0, 1, 0, 0, 1, 1], .lp [1, 1, 1, 0, 1, 0, 0], .blk 0, .c [1, 1, 1, 1]] rfl ?_
      refine j_run it 1 rfl (by simp) ?_
      refine j_step rfl (x_lit sl35 zo35e rfl rfl rfl rfl (by decide) (by decide) rfl fun b1 => ?_)
      refine j_run it 1 rfl (by simp) ?_
      refine j_pub_made (n := 1) (kd := IntKind.u32) 4 [1] 0 rfl rfl (by first | (simp [InR]; done) | (simp only [InR, List.mem_cons, List.not_mem_nil, or_false, forall_eq_or_imp, forall_eq]; omega)) (by decide) (by decide) ?_
      refine j_step rfl (x_call [0] rfl (S_codewrightref01_shift (by first | omega | exact side _ (by assumption) | assumption | rfl | (simp; done) | (simp; omega)) (by first | omega | exact side _ (by assumption) | assumption | rfl | (simp; done) | (simp; omega))) rfl ?_)
      rintro _ _ _ ⟨pa4, ca4, rfl, rfl, rfl⟩
      simp only [List.cons_append, List.nil_append] --ok
      rw [e1]
      refine j_step rfl (x_call [4, 0] rfl (S_codewrightref01_Add (by first | omega | exact side _ (by assumption) | assumption | rfl | (simp; done) | (simp; omega)) (by first | omega | exact side _ (by assumption) | assumption | rfl | (simp; done) | (simp; omega))) rfl ?_)
      rintro _ _ _ ⟨pa5, ca5, rfl, rfl, rfl⟩
      simp only [List.cons_append, List.nil_append]
      refine j_run it 1 rfl (by simp) ?_
      refine j_nf [.o [1, 1, 1, 0, 1, 0, 0, 1, 1] 0, .lp [1, 1, 1, 0, 1, 0, 0], .blk 0, .c [1, 1, 1, 1]] rfl ?_
      refine j_run it 3 rfl (by repeat' first | exact trivial | apply And.intro | omega) ?_
      refine j_nfn 1 [.lp [1, 1, 1, 0, 1, 0, 0], .blk 0, .c [1, 1, 1, 1]] rfl ?_
      simp only [val_limbs]
      refine j_to [0, 3, 7] (by repeat (first | exact Fr.sub_nil _ | refine Fr.sub_cons rfl ?_ | refine Fr.sub_consI rfl (by first | omega | (dsimp only; omega)) ?_ | refine Fr.sub_consS rfl (by first | omega | (dsimp only; omega)) (by first | omega | (dsimp only; omega)) ?_)) rfl rfl (ih ((j : Int), Q + 2 ^ j, R - val b * 2 ^ j, (pa5, ca5), (pa3, ca3)) (by dsimp only; omega) ⟨by dsimp only; omega, hA', by dsimp only; rw [Int.toNat_natCast]; exact hR', by dsimp only; omega⟩)
    · have hcc : ¬ 0 ≤ cmpN (val (limbs R)) (val (limbs (val b * 2 ^ j))) := by rw [val_limbs, val_limbs, cmpN_lt (by omega)]; decide
      refine j_nf [.o [1, 1, 1, 0, 1, 0, 0, 0, 0] 0, .c [1, 1, 1, 0, 1, 0, 0, 0, 1], .c [1, 1, 1, 0, 1, 0, 0, 1], .lp [1, 1, 1, 0, 1, 0, 0], .blk 0, .c [1, 1, 1, 1]] rfl ?_
      refine j_run it 2 rfl (by simp) ?_
      refine j_nf [.c [1, 1, 1, 0, 1, 0, 0, 0, 1], .c [1, 1, 1, 0, 1, 0, 0, 1], .lp [1, 1, 1, 0, 1, 0, 0], .blk 0, .c [1, 1, 1, 1]] rfl ?_
      refine j_if rfl rfl (fun h1 => ?_) (fun h1 => by exfalso; omega)
      refine j_nf [.o [1, 1, 1, 0, 1, 0, 0, 1, 0, 0, 0] 0, .c [1, 1, 1, 0, 1, 0, 0, 1, 0, 0, 1], .blk 1, .c [1, 1, 1, 0, 1, 0, 0, 1, 1], .lp [1, 1, 1, 0, 1, 0, 0], .blk 0, .c [1, 1, 1, 1]] rfl ?_
      refine j_run it 2 rfl (by simp) ?_
      refine j_step rfl (x_call [2] rfl (S_codewrightref01_shift (by first | omega | exact side _ (by assumption) | assumption | rfl | (simp; done) | (simp; omega)) (by first | omega | exact side _ (by assumption) | assumption | rfl | (simp; done) | (simp; omega))) rfl ?_)
      rintro _ _ _ ⟨pa2, ca2, rfl, rfl, rfl⟩
      simp only [List.cons_append, List.nil_append]
      refine j_run it 1 rfl (by simp) ?_
      refine j_nf [.o [1, 1, 1, 0, 1, 0, 0, 1, 0, 0, 1, 0] 0, .c [1, 1, 1, 0, 1, 0, 0, 1, 0, 0, 1, 1], .blk 1, .c [1, 1, 1, 0, 1, 0, 0, 1, 1], .lp [1, 1, 1, 0, 1, 0, 0], .blk 0, .c [1, 1, 1, 1]] rfl ?_
      refine j_run it 2 rfl (by simp) ?_
      refine j_step rfl (x_call [2, 0] rfl (S_codewrightref01_Cmp) rfl ?_)
      rintro _ _ _ ⟨rfl, rfl, rfl⟩
      simp only [List.cons_append, List.nil_append]
      refine j_run it 1 rfl (by simp) ?_
      refine j_nf [.c [1, 1, 1, 0, 1, 0, 0, 1, 0, 0, 1, 1], .blk 1, .c [1, 1, 1, 0, 1, 0, 0, 1, 1], .lp [1, 1, 1, 0, 1, 0, 0], .blk 0, .c [1, 1, 1, 1]] rfl ?_
      refine j_if rfl rfl (fun h2 => by exfalso; omega) (fun h2 => ?_)
      refine j_nf [.o [1, 1, 1, 0, 1, 0, 0, 1, 1] 0, .lp [1, 1, 1, 0, 1, 0, 0], .blk 0, .c [1, 1, 1, 1]] rfl ?_
      refine j_run it 3 rfl (by repeat' first | exact trivial | apply And.intro | omega) ?_
      refine j_nfn 1 [.lp [1, 1, 1, 0, 1, 0, 0], .blk 0, .c [1, 1, 1, 1]] rfl ?_
      refine j_to [1, 2, 3] (by repeat (first | exact Fr.sub_nil _ | refine Fr.sub_cons rfl ?_ | refine Fr.sub_consI rfl (by first | omega | (dsimp only; omega)) ?_ | refine Fr.sub_consS rfl (by first | omega | (dsimp only; omega)) (by first | omega | (dsimp only; omega)) ?_)) rfl rfl (ih ((j : Int), Q, R, (pq, cq), (pr, cr)) (by dsimp only; omega) ⟨by dsimp only; omega, hA, by dsimp only; rw [Int.toNat_natCast]; omega, by dsimp only; omega⟩)
  · have e0 : i.toNat = 0 := by omega
    rw [e0, Nat.pow_zero, Nat.mul_one] at hR
    have hQ : Q = val a / val b := by
      rw [hA, Nat.mul_comm, Nat.mul_add_div (Nat.pos_of_ne_zero hb0), Nat.div_eq_of_lt hR, Nat.add_zero]
    have hRR : R = val a % val b := by
      rw [hA, Nat.mul_comm, Nat.mul_add_mod, Nat.mod_eq_of_lt hR]
    refine j_nf [.o [1, 1, 1, 0, 1, 0, 0, 0, 0] 0, .c [1, 1, 1, 0, 1, 0, 0, 0, 1], .c [1, 1, 1, 0, 1, 0, 0, 1], .lp [1, 1, 1, 0, 1, 0, 0], .blk 0, .c [1, 1, 1, 1]] rfl ?_
    refine j_run it 2 rfl (by simp) ?_
    refine j_nf [.c [1, 1, 1, 0, 1, 0, 0, 0, 1], .c [1, 1, 1, 0, 1, 0, 0, 1], .lp [1, 1, 1, 0, 1, 0, 0], .blk 0, .c [1, 1, 1, 1]] rfl ?_
    refine j_if rfl rfl (fun h1 => by exfalso; omega) (fun h1 => ?_)
    refine j_nf [.o [1, 1, 1, 1, 0] 0, .c [1, 1, 1, 1, 1]] rfl ?_
    refine j_run it 1 rfl (by simp) ?_
    refine j_step rfl (x_call [0] rfl (S_codewrightref01_Trim) rfl ?_)
    rintro _ _ _ ⟨pa2, ca2, rfl, rfl, rfl⟩
    simp only [List.cons_append, List.nil_append]
    refine j_run it 3 rfl (by simp) ?_
    refine j_nf [.c [1, 1, 1, 1, 1]] rfl ?_
    rw [trim_limbs, hQ, hRR]
    refine j_giv [0, 2] rfl rfl rfl ⟨_, _, _, _, rfl, rfl, rfl⟩

theorem S_codewrightref01_Gcd {pa pb : Option Addr} {n m ca cb : Nat} {a b : List Nat} (hal : a.length ≤ 1073741824) (hbl : b.length ≤ 1073741824) :
    Ctr Try.prog 28 [.slice pa n ca, .slice pb m cb] [] [slF U32 pa n ca a, slF U32 pb m cb b] (Sv U32 (limbs (Nat.gcd (val a) (val b)))) := by
  refine Ctr_of_j' (F := F_codewrightref01_Gcd) rfl fun C => ?_
  refine j_len 0 rfl fun hn hba _ => ?_
  refine j_len 1 rfl fun hm hbb _ => ?_
  subst hn; subst hm
  refine j_nf [.o [0] 0, .c [1]] rfl ?_
  refine j_run it 1 rfl (by simp) ?_
  refine j_nf [.c [1, 0, 0], .blk 0, .c [1, 1]] rfl ?_
  refine j_loopG (X := List Nat × List Nat × (Option Addr × Nat) × (Option Addr × Nat)) [4] [] (fun x => [(0, .slice x.2.2.1.1 x.1.length x.2.2.1.2), (1, .slice x.2.2.2.1 x.2.1.length x.2.2.2.2)]) (fun _ => []) (fun x => [slF U32 x.2.2.1.1 x.1.length x.2.2.1.2 x.1, slF U32 x.2.2.2.1 x.2.1.length x.2.2.2.2 x.2.1])
    (fun x => x.1.length ≤ 1073741824 ∧ x.2.1.length ≤ 1073741824 ∧ Nat.gcd (val x.1) (val x.2.1) = Nat.gcd (val a) (val b)) (fun x => val x.2.1) (a, b, (pa, ca), (pb, cb)) [0, 1] rfl rfl rfl ⟨hal, hbl, rfl⟩ (by repeat (first | exact Fr.sub_nil _ | refine Fr.sub_cons rfl ?_)) rfl rfl ?_
  rintro ⟨x, y, ⟨px, cx⟩, ⟨py, cy⟩⟩ ⟨hx, hy, hg⟩ ih
  simp only [List.cons_append, List.nil_append] at hx hy hg ih ⊢
  refine j_range 0 rfl fun hrx => ?_
  refine j_range 1 rfl fun hry => ?_
  have hxB : ∀ z ∈ x, z < 4294967296 := fun z hz => by have := hrx z hz; simp only [InR] at this; omega
  have hyB : ∀ z ∈ y, z < 4294967296 := fun z hz => by have := hry z hz; simp only [InR] at this; omega
  have ey := trim_eq hyB
  have ex := trim_eq hxB
  have ly := trim_length_le y
  by_cases hy0 : val y = 0
  · have e0 : (trim y).length = 0 := by rw [ey, hy0, limbs_zero]; rfl
    refine j_nf [.o [1, 0, 0, 0, 0, 0] 0, .c [1, 0, 0, 0, 0, 1], .c [1, 0, 0, 0, 1], .lp [1, 0, 0, 0], .blk 0, .c [1, 1]] rfl ?_
    refine j_run it 1 rfl (by simp) ?_
    refine j_step rfl (x_call [1] rfl (S_codewrightref01_Zero) rfl ?_)
    rintro _ _ _ ⟨rfl, rfl, rfl⟩
    simp only [List.cons_append, List.nil_append]
    refine j_run it 1 rfl (by simp) ?_
    refine j_nf [.c [1, 0, 0, 0, 0, 1], .c [1, 0, 0, 0, 1], .lp [1, 0, 0, 0], .blk 0, .c [1, 1]] rfl ?_
    refine j_ifn rfl rfl (fun h1 => by exfalso; omega) (fun h1 => ?_)
    refine j_nf [.o [1, 1, 0] 0, .c [1, 1, 1]] rfl ?_
    refine j_run it 1 rfl (by simp) ?_
    refine j_step rfl (x_call [0] rfl (S_codewrightref01_Trim) rfl ?_)
    rintro _ _ _ ⟨pa1, ca1, rfl, rfl, rfl⟩
    simp only [List.cons_append, List.nil_append]
    refine j_run it 1 rfl (by simp) ?_
    refine j_nf [.c [1, 1, 1]] rfl ?_
    rw [ex, show val x = Nat.gcd (val a) (val b) by rw [← hg, hy0, Nat.gcd_zero_right]]
    refine j_giv [0] rfl rfl rfl ⟨_, _, rfl, rfl, rfl⟩
  · have e0 : 0 < (trim y).length := by rw [ey]; exact List.length_pos_iff.2 (fun h => hy0 (limbs_nil.1 h))
    have hm : val x % val y < val y := Nat.mod_lt _ (Nat.pos_of_ne_zero hy0)
    refine j_nf [.o [1, 0, 0, 0, 0, 0] 0, .c [1, 0, 0, 0, 0, 1], .c [1, 0, 0, 0, 1], .lp [1, 0, 0, 0], .blk 0, .c [1, 1]] rfl ?_
    refine j_run it 1 rfl (by simp) ?_
    refine j_step rfl (x_call [1] rfl (S_codewrightref01_Zero) rfl ?_)
    rintro _ _ _ ⟨rfl, rfl, rfl⟩
    simp only [List.cons_append, List.nil_append]
    refine j_run it 1 rfl (by simp) ?_
    refine j_nf [.c [1, 0, 0, 0, 0, 1], .c [1, 0, 0, 0, 1], .lp [1, 0, 0, 0], .blk 0, .c [1, 1]] rfl ?_
    refine j_ifn rfl rfl (fun h1 => ?_) (fun h1 => by exfalso; omega)
    refine j_nf [.o [1, 0, 0, 0, 1, 0, 0] 0, .c [1, 0, 0, 0, 1, 0, 1], .blk 1, .lp [1, 0, 0, 0], .blk 0, .c [1, 1]] rfl ?_
    refine j_run it 2 rfl (by simp) ?_
    refine j_step rfl (x_call [0, 1] rfl (S_codewrightref01_DivMod (by first | omega | exact side _ (by assumption) | assumption | rfl | (simp; done) | (simp; omega)) (by first | omega | exact side _ (by assumption) | assumption | rfl | (simp; done) | (simp; omega)) (by first | omega | exact side _ (by assumption) | assumption | rfl | (simp; done) | (simp; omega))) rfl ?_)
    rintro _ _ _ ⟨p11, c11, p21, c21, rfl, rfl, rfl⟩
    simp only [List.cons_append, List.nil_append]
    refine j_run it 5 rfl (by simp) ?_
    refine j_nf [.o [1, 0, 0, 0, 1, 0, 1, 0] 0, .c [1, 0, 0, 0, 1, 0, 1, 1], .blk 1, .lp [1, 0, 0, 0], .blk 0, .c [1, 1]] rfl ?_
    refine j_run it 2 rfl (by simp) ?_
    refine j_nf [.o [1, 0, 0, 0, 1, 0, 1, 1] 0, .blk 1, .lp [1, 0, 0, 0], .blk 0, .c [1, 1]] rfl ?_
    refine j_run it 2 rfl (by simp) ?_
    refine j_nfn 2 [.lp [1, 0, 0, 0], .blk 0, .c [1, 1]] rfl ?_
    refine j_to [3, 1] (by repeat (first | exact Fr.sub_nil _ | refine Fr.sub_cons rfl ?_ | refine Fr.sub_consI rfl (by first | omega | (dsimp only; omega)) ?_ | refine Fr.sub_consS rfl (by first | omega | (dsimp only; omega)) (by first | omega | (dsimp only; omega)) ?_)) rfl rfl (ih (y, limbs (val x % val y), (py, cy), (p21, c21)) (by dsimp only; rw [val_limbs]; exact hm) ⟨hy, by
      dsimp only
      rw [ey] at ly
      exact limbs_mono (Nat.le_trans ly hy) (Nat.le_of_lt hm), by dsimp only; rw [val_limbs, ← hg]; exact (Nat.gcd_comm _ _).trans ((Nat.gcd_rec (val y) (val x)).symm.trans (Nat.gcd_comm _ _))⟩)
end Go.Proofs.Ytpoonnjaobjdgaa
