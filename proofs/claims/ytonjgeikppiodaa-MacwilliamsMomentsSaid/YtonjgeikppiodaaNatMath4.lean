/-
Binomial coefficients.
-/
import Derived.Test.YtonjgeikppiodaaNatMath
import Derived.Test.YtonjgeikppiodaaNatMath2
namespace Go.Proofs.Ytonjgeikppiodaa
set_option maxRecDepth 100000
set_option linter.unusedVariables false
--plain
def binom : Nat → Nat → Nat
  | _, 0 => 1
  | 0, _ + 1 => 0
  | n + 1, k + 1 => binom n k + binom n (k + 1)

theorem binom_zero (n : Nat) : binom n 0 = 1 := by cases n <;> rfl
theorem binom_succ (n k : Nat) : binom (n + 1) (k + 1) = binom n k + binom n (k + 1) := rfl

theorem binom_gt : ∀ (n k : Nat), n < k → binom n k = 0 := by
  intro n
  induction n with
  | zero => intro k h; cases k with
    | zero => omega
    | succ k => rfl
  | succ n ih => intro k h; cases k with
    | zero => omega
    | succ k => rw [binom_succ, ih k (by omega), ih (k + 1) (by omega)]

theorem binom_self (n : Nat) : binom n n = 1 := by
  induction n with
  | zero => rfl
  | succ n ih => rw [binom_succ, ih, binom_gt n (n + 1) (by omega)]

theorem binom_symm : ∀ (n a b : Nat), a + b = n → binom n a = binom n b := by
  intro n
  induction n with
  | zero => intro a b h; have : a = 0 := by omega
            have : b = 0 := by omega
            subst_vars; rfl
  | succ n ih =>
    intro a b h
    cases a with
    | zero => have : b = n + 1 := by omega
              subst this; rw [binom_self, binom_zero]
    | succ a => cases b with
      | zero => have : a = n := by omega
                subst this; rw [binom_self, binom_zero]
      | succ b => rw [binom_succ, binom_succ, ih a (b + 1) (by omega), ih (a + 1) b (by omega), Nat.add_comm]

theorem binom_le (n : Nat) : ∀ k, binom n k ≤ 2 ^ n := by
  induction n with
  | zero => intro k; cases k <;> simp [binom]
  | succ n ih => intro k; cases k with
    | zero => rw [binom_zero]; exact Nat.pow_pos (by omega)
    | succ k => rw [binom_succ, Nat.pow_succ]; have := ih k; have := ih (k + 1); omega

theorem binom_step : ∀ (n k m : Nat), n = k + m → (k + 1) * binom n (k + 1) = m * binom n k := by
  intro n
  induction n with
  | zero => intro k m h; have : k = 0 := by omega
            have : m = 0 := by omega
            subst_vars; rfl
  | succ n ih =>
    intro k m h
    cases k with
    | zero =>
      have hm : m = n + 1 := by omega
      subst hm
      have := ih 0 n (by omega)
      rw [binom_succ, binom_zero, binom_zero] at *
      simp only [Nat.zero_add, Nat.one_mul, Nat.mul_one] at this ⊢
      omega
    | succ j =>
      cases m with
      | zero => rw [Nat.zero_mul, binom_gt (n + 1) (j + 1 + 1) (by omega), Nat.mul_zero]
      | succ m =>
        have h1 := ih j (m + 1) (by omega)
        have h2 := ih (j + 1) m (by omega)
        rw [binom_succ, binom_succ]
        have h3 : (j + 1 + 1) * (binom n (j + 1) + binom n (j + 1 + 1)) = (j + 1) * binom n (j + 1) + binom n (j + 1) + (j + 1 + 1) * binom n (j + 1 + 1) := by rw [Nat.mul_add, Nat.add_mul (j + 1) 1, Nat.one_mul]
        rw [h3, h2, h1, Nat.mul_add, Nat.add_mul m 1 (binom n (j + 1)), Nat.one_mul]
        omega

/-- From one to the next. -/
theorem binom_next {n k : Nat} (h : k ≤ n) : binom n k * (n - k) / (k + 1) = binom n (k + 1) := by
  have := binom_step n k (n - k) (by omega)
  rw [Nat.mul_comm, ← this]
  exact Nat.mul_div_cancel_left _ (by omega)

theorem binom_min {n k : Nat} (h : k ≤ n) : binom n (if n - k < k then n - k else k) = binom n k := by
  split
  · exact binom_symm n (n - k) k (by omega)
  · rfl

theorem pow_chain {x n m k : Nat} (h : x ≤ 2 ^ n) (hn : n ≤ m) (hm : m < 32 * k) : x < 4294967296 ^ k := by
  have e : (4294967296 : Nat) ^ k = 2 ^ (32 * k) := by rw [Nat.pow_mul]
  rw [e]
  exact Nat.lt_of_le_of_lt h (Nat.pow_lt_pow_right (by decide) (by omega))

theorem binom_len {n : Nat} (h : n ≤ 4096) (k : Nat) : (limbs (binom n k)).length ≤ 129 :=
  limbs_length_le (pow_chain (binom_le n k) h (by decide))
end Go.Proofs.Ytonjgeikppiodaa
