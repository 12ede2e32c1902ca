/-
Binary digits; powers by squaring; binomial coefficients.
-/
import Derived.Test.YtpoonnjaobjdgaaNatMath
import Derived.Test.YtpoonnjaobjdgaaNatMath2
namespace Go.Proofs.Ytpoonnjaobjdgaa
set_option maxRecDepth 100000
set_option linter.unusedVariables false
--plain
def blen (n : Nat) : Nat := if _h : n = 0 then 0 else blen (n / 2) + 1
termination_by n
decreasing_by omega

theorem blen_zero : blen 0 = 0 := by rw [blen]; rfl
theorem blen_pos {n : Nat} (h : n ≠ 0) : blen n = blen (n / 2) + 1 := by rw [blen, dif_neg h]

theorem blen_div (k : Nat) : ∀ n, 2 ^ k ≤ n → blen n = blen (n / 2 ^ k) + k := by
  induction k with
  | zero => intro n _; simp
  | succ k ih =>
    intro n h
    have h0 : 0 < 2 ^ k := Nat.pow_pos (by omega)
    rw [Nat.pow_succ] at h
    rw [blen_pos (by omega), ih (n / 2) (by omega), Nat.div_div_eq_div_mul, Nat.pow_succ, Nat.mul_comm 2]; omega

def blenF : Nat → Nat → Nat
  | 0, _ => 0
  | f + 1, n => if n = 0 then 0 else blenF f (n / 2) + 1

theorem blenF_eq (f : Nat) : ∀ n, n < 2 ^ f → blenF f n = blen n := by
  induction f with
  | zero => intro n h; have : n = 0 := by simpa using h
            subst this; rw [blen_zero]; rfl
  | succ f ih =>
    intro n h
    rw [blenF]
    by_cases h0 : n = 0
    · subst h0; rw [if_pos rfl, blen_zero]
    · rw [if_neg h0, blen_pos h0, ih _ (by rw [Nat.pow_succ] at h; omega)]

theorem blen_le {n k : Nat} (h : n < 2 ^ k) : blen n ≤ k := by
  induction k generalizing n with
  | zero => have : n = 0 := by simpa using h
            subst this; rw [blen_zero]; omega
  | succ k ih =>
    by_cases h0 : n = 0
    · subst h0; rw [blen_zero]; omega
    · rw [blen_pos h0]; have := ih (n := n / 2) (by rw [Nat.pow_succ] at h; omega); omega

theorem blen_eq_zero {n : Nat} : blen n = 0 ↔ n = 0 := by
  constructor
  · intro h
    by_cases h0 : n = 0
    · exact h0
    · rw [blen_pos h0] at h; omega
  · rintro rfl; exact blen_zero

theorem blen_eq_one {n : Nat} : blen n = 1 ↔ n = 1 := by
  constructor
  · intro h
    by_cases h0 : n = 0
    · subst h0; rw [blen_zero] at h; omega
    · rw [blen_pos h0] at h
      have := blen_eq_zero.1 (show blen (n / 2) = 0 by omega)
      omega
  · rintro rfl; rw [blen_pos (by omega)]; simp [blen_zero]

/-- The check of a table of bit lengths, and what it gives. -/
def tabOk (s : ByteArray) : Bool := (List.range 256).all fun n => match s[n]? with
  | some b => b.toNat == blenF 8 n
  | none => false

theorem tab_get {s : ByteArray} (h : tabOk s = true) {n : Nat} (hn : n < 256) : s[n]? = some (UInt8.ofNat (blen n)) := by
  unfold tabOk at h
  have := List.all_eq_true.1 h n (List.mem_range.2 hn)
  cases hs : s[n]? with
  | none => rw [hs] at this; simp at this
  | some b =>
    rw [hs] at this
    simp only [beq_iff_eq] at this
    rw [blenF_eq 8 n (by simpa using hn)] at this
    rw [← this]; simp

/-- The digits of a list, counted. -/
def bitsL (l : List Nat) : Nat := match (trim l).getLast? with
  | none => 0
  | some x => 32 * ((trim l).length - 1) + blen x

theorem bitsL_nil {l : List Nat} (h : (trim l).length = 0) : bitsL l = 0 := by
  have : trim l = [] := List.length_eq_zero_iff.1 h
  unfold bitsL; rw [this]; rfl

theorem bitsL_top {l : List Nat} {z : Nat} (h : (trim l)[(trim l).length - 1]? = some z) : bitsL l = 32 * ((trim l).length - 1) + blen z := by
  unfold bitsL
  rw [List.getLast?_eq_getElem?, h]

/-- One limb. -/
theorem bitsL_small {l : List Nat} {n : Nat} (h : trim l = limbs n) (hn : n < 4294967296) : bitsL l = blen n := by
  unfold bitsL
  rw [h]
  by_cases h0 : n = 0
  · subst h0; rw [limbs_zero, blen_zero]; rfl
  · rw [limbs_small h0 hn]; simp

theorem pow_half (s n : Nat) : s ^ n = s ^ (n % 2) * (s * s) ^ (n / 2) := by
  have h : n = n % 2 + 2 * (n / 2) := by omega
  have h2 : (s * s) ^ (n / 2) = s ^ (2 * (n / 2)) := by rw [Nat.pow_mul, Nat.pow_two]
  rw [h2, ← Nat.pow_add, ← h]

theorem pow_odd {o s n W : Nat} (h : o * s ^ n = W) (hn : n % 2 = 1) : o * s * (s * s) ^ (n / 2) = W := by
  rw [← h, pow_half s n, hn, Nat.pow_one, Nat.mul_assoc]

theorem pow_even {o s n W : Nat} (h : o * s ^ n = W) (hn : n % 2 = 0) : o * (s * s) ^ (n / 2) = W := by
  rw [← h, pow_half s n, hn, Nat.pow_zero, Nat.one_mul]

theorem pow_bounds {o s n W : Nat} (h : o * s ^ n = W) (ho : 1 ≤ o) (hs : 1 ≤ s) (hn : 1 ≤ n) : o ≤ W ∧ s ≤ W ∧ o * s ≤ W := by
  have h1 : 1 ≤ s ^ n := Nat.pow_pos hs
  have h2 : s ≤ s ^ n := by
    have := Nat.pow_le_pow_right hs hn
    rwa [Nat.pow_one] at this
  refine ⟨?_, ?_, ?_⟩
  · rw [← h]; exact Nat.le_mul_of_pos_right _ h1
  · rw [← h]; exact Nat.le_trans h2 (Nat.le_mul_of_pos_left _ ho)
  · rw [← h]; exact Nat.mul_le_mul_left _ h2

theorem limbs_mono {x W k : Nat} (h : (limbs W).length ≤ k) (hx : x ≤ W) : (limbs x).length ≤ k :=
  limbs_length_le (Nat.lt_of_le_of_lt hx (limbs_le_length h))
end Go.Proofs.Ytpoonnjaobjdgaa
