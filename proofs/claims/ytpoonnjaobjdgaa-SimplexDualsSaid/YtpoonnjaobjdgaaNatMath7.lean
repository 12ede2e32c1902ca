/-
The division of long numbers: how many digits a shifted number has, and what the whole division comes to.
-/
import Derived.Test.YtpoonnjaobjdgaaNatMath
import Derived.Test.YtpoonnjaobjdgaaNatMath2
import Derived.Test.YtpoonnjaobjdgaaNatMath3
import Derived.Test.YtpoonnjaobjdgaaNatMath5
import Derived.Test.YtpoonnjaobjdgaaNatMath6
namespace Go.Proofs.Ytpoonnjaobjdgaa
set_option maxRecDepth 100000
set_option linter.unusedVariables false
--plain
theorem blen_lt (n : Nat) : n < 2 ^ blen n := by
  induction n using Nat.strongRecOn with
  | _ n ih =>
    by_cases h : n = 0
    · subst h; rw [blen_zero]; decide
    · rw [blen_pos h, Nat.pow_succ]
      have := ih (n / 2) (by omega)
      omega

theorem blen_ge {n : Nat} (h : n ≠ 0) : 2 ^ (blen n - 1) ≤ n := by
  induction n using Nat.strongRecOn with
  | _ n ih =>
    rw [blen_pos h, Nat.add_sub_cancel]
    by_cases h1 : n / 2 = 0
    · rw [h1, blen_zero]; show 1 ≤ n; omega
    · have := ih (n / 2) (by omega) h1
      have e : blen (n / 2) = (blen (n / 2) - 1) + 1 := by have := blen_pos h1; omega
      rw [e, Nat.pow_succ]
      omega

/-- Shifted so far that its top bit is the limb's top bit. -/
theorem norm_limb {t : Nat} (h0 : t ≠ 0) (ht : t < 4294967296) : 2147483648 ≤ t * 2 ^ (32 - blen t) ∧ (t + 1) * 2 ^ (32 - blen t) ≤ 4294967296 := by
  have h1 := blen_lt t
  have h2 := blen_ge h0
  have h3 : blen t ≤ 32 := blen_le (by simpa using ht)
  have h4 : 1 ≤ blen t := by have := blen_pos h0; omega
  constructor
  · have := Nat.mul_le_mul_right (2 ^ (32 - blen t)) h2
    rw [← Nat.pow_add, show blen t - 1 + (32 - blen t) = 31 by omega] at this
    exact this
  · have := Nat.mul_le_mul_right (2 ^ (32 - blen t)) (show t + 1 ≤ 2 ^ blen t from h1)
    rw [← Nat.pow_add, show blen t + (32 - blen t) = 32 by omega] at this
    exact this

theorem top_split {l : List Nat} {k t : Nat} (hl : l.length = k + 1) (ht : l[k]? = some t) : val l = val (l.take k) + 4294967296 ^ k * t := by
  have h := val_take_succ ht
  rwa [List.take_of_length_le (by omega)] at h

/-- The shifted divisor: as many limbs, and its top limb is great. -/
theorem norm_div {b : List Nat} {k t : Nat} (hb : ∀ x ∈ b, x < 4294967296) (hl : b.length = k + 1) (ht : b[k]? = some t) (h0 : t ≠ 0) :
    (limbs (val b * 2 ^ (32 - blen t))).length = k + 1 ∧ ∃ w, (limbs (val b * 2 ^ (32 - blen t)))[k]? = some w ∧ 2147483648 ≤ w := by
  have htl := hb t (List.mem_of_getElem? ht)
  obtain ⟨h1, h2⟩ := norm_limb h0 htl
  have hv := top_split hl ht
  have hlow := take_lt (k := k) hb (by omega)
  generalize hS : 2 ^ (32 - blen t) = s at *
  have hup : val b * s < 4294967296 ^ (k + 1) := by
    have h3 : val b < 4294967296 ^ k * (t + 1) := by rw [Nat.mul_succ]; omega
    have h4 : 4294967296 ^ k * (t + 1) * s ≤ 4294967296 ^ k * 4294967296 := by rw [Nat.mul_assoc]; exact Nat.mul_le_mul_left _ h2
    have hs : 0 < s := by rw [← hS]; exact Nat.pow_pos (by decide)
    have h5 : val b * s < 4294967296 ^ k * (t + 1) * s := Nat.mul_lt_mul_of_pos_right h3 hs
    rw [Nat.pow_succ]
    omega
  have hdn : 4294967296 ^ k * 2147483648 ≤ val b * s := by
    have h3 : 4294967296 ^ k * (t * s) ≤ val b * s := by rw [← Nat.mul_assoc]; exact Nat.mul_le_mul_right _ (by omega)
    exact Nat.le_trans (Nat.mul_le_mul_left _ h1) h3
  have hle := limbs_length_le hup
  have hge : k + 1 ≤ (limbs (val b * s)).length := by
    rcases Nat.lt_or_ge (limbs (val b * s)).length (k + 1) with h | h
    · have h3 := limbs_le_length (n := val b * s) (k := k) (by omega)
      have : 4294967296 ^ k * 1 ≤ 4294967296 ^ k * 2147483648 := Nat.mul_le_mul_left _ (by decide)
      omega
    · exact h
  have hlen : (limbs (val b * s)).length = k + 1 := by omega
  refine ⟨hlen, (limbs (val b * s))[k], by simp [hlen], ?_⟩
  have hx : (limbs (val b * s))[k]? = some (limbs (val b * s))[k] := by simp [hlen]
  have h3 := top_split hlen hx
  rw [val_limbs] at h3
  have h4 := take_lt (k := k) (limbs_lt (val b * s)) (by omega)
  generalize (limbs (val b * s))[k] = w at *
  rcases Nat.lt_or_ge w 2147483648 with h | h
  · have : 4294967296 ^ k * (w + 1) ≤ 4294967296 ^ k * 2147483648 := Nat.mul_le_mul_left _ h
    rw [Nat.mul_succ] at this
    omega
  · exact h

/-- What is above a number's digits is nothing. -/
theorem drop_zero {l : List Nat} {k : Nat} (h : val l < 4294967296 ^ k) : val (l.drop k) = 0 := by
  rcases Nat.le_total l.length k with h1 | h1
  · rw [List.drop_of_length_le h1]; rfl
  · have e := val_take_drop l k h1
    rcases Nat.eq_zero_or_pos (val (l.drop k)) with h2 | h2
    · exact h2
    · have : 4294967296 ^ k * 1 ≤ 4294967296 ^ k * val (l.drop k) := Nat.mul_le_mul_left _ h2
      omega

theorem drop_div {l : List Nat} (hl : ∀ x ∈ l, x < 4294967296) (k : Nat) (hk : k ≤ l.length) : val (l.drop k) = val l / 4294967296 ^ k := by
  have e := val_take_drop l k hk
  have h := take_lt hl hk
  rw [e, Nat.add_mul_div_left _ _ (Nat.pow_pos (by decide)), Nat.div_eq_of_lt h, Nat.zero_add]

/-- At the start the part above is less than the divisor. -/
theorem long_start {A V n la k m : Nat} {uu : List Nat} (huu : ∀ x ∈ uu, x < 4294967296) (hlen : uu.length = la + 1) (hU : val uu = A * 2 ^ n) (hA : A < 4294967296 ^ la) (hV : 4294967296 ^ k * 2 ^ n ≤ V) (hm : m + k = la) (hml : m ≤ uu.length) : val (uu.drop m) < V := by
  rw [drop_div huu m hml, hU]
  refine Nat.lt_of_lt_of_le ?_ hV
  rw [Nat.div_lt_iff_lt_mul (Nat.pow_pos (by decide))]
  have h1 : A * 2 ^ n < 4294967296 ^ la * 2 ^ n := Nat.mul_lt_mul_of_pos_right hA (Nat.pow_pos (by decide))
  have e : 4294967296 ^ k * 2 ^ n * 4294967296 ^ m = 4294967296 ^ la * 2 ^ n := by rw [← hm, Nat.pow_add]; simp only [Nat.mul_comm, Nat.mul_left_comm, Nat.mul_assoc]
  rw [e]; exact h1

/-- One limb of the quotient. -/
theorem long_step {P V pre mid Q N q r : Nat} (he : pre + P * mid + P * 4294967296 * V * Q = N) (hq : q = mid / V) (hr : r = mid % V) : pre + P * r + P * V * (q + 4294967296 * Q) = N := by
  have h := Nat.div_add_mod mid V
  rw [← hq, ← hr] at h
  rw [← h] at he
  rw [← he, Nat.mul_add, Nat.mul_add]
  simp only [Nat.mul_comm, Nat.mul_left_comm, Nat.mul_assoc]
  omega

/-- And the last. -/
theorem long_end {U V Q A B s : Nat} (h : U + V * Q = A * s) (hV : V = B * s) (hU : U < V) (hs : 0 < s) : Q = A / B ∧ U = (A % B) * s := by
  have e1 : A * s / V = Q := by
    rw [← h, Nat.add_mul_div_left _ _ (by omega), Nat.div_eq_of_lt hU, Nat.zero_add]
  have e2 : A * s % V = U := by
    rw [← h, Nat.add_mul_mod_self_left, Nat.mod_eq_of_lt hU]
  subst hV
  rw [Nat.mul_div_mul_right _ _ hs] at e1
  rw [Nat.mul_mod_mul_right] at e2
  exact ⟨e1.symm, e2.symm⟩

/-- A digit of what is shifted back. -/
theorem rem_digit {l : List Nat} {i x y n : Nat} (hl : ∀ z ∈ l, z < 4294967296) (hx : l[i]? = some x) (hy : l[i + 1]? = some y) (hn : n < 32) : val l / 2 ^ n % 4294967296 ^ (i + 1) = val l / 2 ^ n % 4294967296 ^ i + 4294967296 ^ i * ((x + 4294967296 * y) / 2 ^ n % 4294967296) := by
  have hi : i < l.length := (List.getElem?_eq_some_iff.1 hx).1
  have e : val l / 2 ^ n / 4294967296 ^ i = (x + 4294967296 * (y + 4294967296 * val (l.drop (i + 2)))) / 2 ^ n := by
    rw [Nat.div_div_eq_div_mul, Nat.mul_comm, ← Nat.div_div_eq_div_mul, ← drop_div hl i (by omega), val_drop hx, val_drop hy]
  rw [Nat.pow_succ, Nat.mod_mul, e, shr_digit hn]

/-- The top limb of a number is not zero. -/
theorem limbs_top {n k : Nat} (h : (limbs n).length = k + 1) : ∃ t, (limbs n)[k]? = some t ∧ t ≠ 0 := by
  have ht : (limbs n)[k]? = some (limbs n)[k] := by simp [h]
  refine ⟨_, ht, fun h0 => ?_⟩
  have h3 := top_split h ht
  rw [h0, Nat.mul_zero, Nat.add_zero, val_limbs] at h3
  have h4 := take_lt (k := k) (limbs_lt n) (by omega)
  have := limbs_length_le (n := n) (k := k) (by omega)
  omega
end Go.Proofs.Ytpoonnjaobjdgaa
