/-
The division of long numbers, limb by limb (Knuth's algorithm D): the arithmetic of one step.
-/
import Derived.Test.YtpoonnjaobjdgaaNatMath
import Derived.Test.YtpoonnjaobjdgaaNatMath2
import Derived.Test.YtpoonnjaobjdgaaNatMath3
import Derived.Test.YtpoonnjaobjdgaaNatMath5
namespace Go.Proofs.Ytpoonnjaobjdgaa
set_option maxRecDepth 100000
set_option linter.unusedVariables false
--plain
/-- Three limbs at the top. -/
theorem val_top3 {l : List Nat} {k x y z : Nat} (hl : l.length = k + 3) (hx : l[k]? = some x) (hy : l[k + 1]? = some y) (hz : l[k + 2]? = some z) : val l = val (l.take k) + 4294967296 ^ k * (x + 4294967296 * (y + 4294967296 * z)) := by
  rw [val_take_drop l k (by omega), val_drop hx, val_drop hy, val_drop hz, List.drop_of_length_le (by omega)]
  rfl
theorem val_top2 {l : List Nat} {k x y : Nat} (hl : l.length = k + 2) (hx : l[k]? = some x) (hy : l[k + 1]? = some y) : val l = val (l.take k) + 4294967296 ^ k * (x + 4294967296 * y) := by
  rw [val_take_drop l k (by omega), val_drop hx, val_drop hy, List.drop_of_length_le (by omega)]
  rfl

section
variable {P U V ul vl U0 U1 U2 V1 V2 q r : Nat}

theorem kn_low (hU : U = ul + P * (U2 + 4294967296 * (U1 + 4294967296 * U0))) (hul : ul < P) : U < P * (U2 + 4294967296 * (U1 + 4294967296 * U0) + 1) := by
  rw [Nat.mul_succ]; omega

theorem kn_high (hV : V = vl + P * (V2 + 4294967296 * V1)) (hvl : vl < P) : V ≤ P * (V2 + 4294967296 * V1 + 1) := by
  rw [Nat.mul_succ]; omega

theorem kn_mul (hU : U = ul + P * (U2 + 4294967296 * (U1 + 4294967296 * U0))) (hul : ul < P) (hV : V = vl + P * (V2 + 4294967296 * V1)) (h : q * V ≤ U) : q * (V2 + 4294967296 * V1) ≤ U2 + 4294967296 * (U1 + 4294967296 * U0) := by
  have h1 := kn_low hU hul
  have h2 : P * (q * (V2 + 4294967296 * V1)) ≤ q * V := by rw [hV, ← Nat.mul_assoc, Nat.mul_comm P q, Nat.mul_assoc]; exact Nat.mul_le_mul_left _ (Nat.le_add_left _ _)
  have h3 : P * (q * (V2 + 4294967296 * V1)) < P * (U2 + 4294967296 * (U1 + 4294967296 * U0) + 1) := Nat.lt_of_le_of_lt (Nat.le_trans h2 h) h1
  have := Nat.lt_of_mul_lt_mul_left h3
  omega

/-- The first guess is not too small. -/
theorem kn_first (hU : U = ul + P * (U2 + 4294967296 * (U1 + 4294967296 * U0))) (hul : ul < P) (hV : V = vl + P * (V2 + 4294967296 * V1)) (hV1 : 0 < V1) (hU2 : U2 < 4294967296) (hq : q * V ≤ U) : q ≤ (U1 + 4294967296 * U0) / V1 := by
  have h := kn_mul hU hul hV hq
  rw [Nat.le_div_iff_mul_le hV1]
  have e : q * (V2 + 4294967296 * V1) = q * V2 + 4294967296 * (q * V1) := by rw [Nat.mul_add, Nat.mul_left_comm]
  rw [e] at h
  have : 4294967296 * (q * V1) < 4294967296 * (U1 + 4294967296 * U0 + 1) := by omega
  have := Nat.lt_of_mul_lt_mul_left this
  omega

/-- Where the test says so, the guess is too great. -/
theorem kn_less (hU : U = ul + P * (U2 + 4294967296 * (U1 + 4294967296 * U0))) (hul : ul < P) (hV : V = vl + P * (V2 + 4294967296 * V1)) (htop : q * V1 + r = U1 + 4294967296 * U0) (hq : q * V ≤ U) : q * V2 ≤ r * 4294967296 + U2 := by
  have h := kn_mul hU hul hV hq
  have e : q * (V2 + 4294967296 * V1) = q * V2 + 4294967296 * (q * V1) := by rw [Nat.mul_add, Nat.mul_left_comm]
  rw [e, ← htop] at h
  omega

/-- Behind the loop it is too great by one at most. -/
theorem kn_end (hU : U = ul + P * (U2 + 4294967296 * (U1 + 4294967296 * U0))) (hV : V = vl + P * (V2 + 4294967296 * V1)) (hvl : vl < P) (htop : (q + 1) * V1 + r = U1 + 4294967296 * U0) (hq : q + 1 < 4294967296) (hV1 : 1 ≤ V1) (h : (q + 1) * V2 ≤ r * 4294967296 + U2) : q * V ≤ U := by
  have h1 : q * V ≤ P * (q * (V2 + 4294967296 * V1 + 1)) := by
    rw [← Nat.mul_assoc, Nat.mul_comm P q, Nat.mul_assoc]; exact Nat.mul_le_mul_left _ (kn_high hV hvl)
  have e2 : q * (V2 + 4294967296 * V1 + 1) = q * V2 + 4294967296 * (q * V1) + q := by rw [Nat.mul_succ, Nat.mul_add, Nat.mul_left_comm]
  have e3 : (q + 1) * V2 = q * V2 + V2 := Nat.succ_mul _ _
  have e4 : (q + 1) * V1 = q * V1 + V1 := Nat.succ_mul _ _
  rw [e3] at h
  rw [e4] at htop
  have h3 : q * (V2 + 4294967296 * V1 + 1) ≤ U2 + 4294967296 * (U1 + 4294967296 * U0) := by rw [e2]; omega
  have h4 := Nat.mul_le_mul_left P h3
  omega

theorem kn_top (hU : U = ul + P * (U2 + 4294967296 * (U1 + 4294967296 * U0))) (hV : V = vl + P * (V2 + 4294967296 * V1)) (hvl : vl < P) (hV2 : V2 < 4294967296) (h : U < 4294967296 * V) : U0 ≤ V1 := by
  rcases Nat.lt_or_ge V1 U0 with h1 | h1
  · exfalso
    have h2 := kn_high hV hvl
    have h3 : P * (V2 + 4294967296 * V1 + 1) ≤ P * (4294967296 * U0) := Nat.mul_le_mul_left _ (by omega)
    have h4 : P * (4294967296 * (4294967296 * U0)) ≤ P * (U2 + 4294967296 * (U1 + 4294967296 * U0)) := Nat.mul_le_mul_left _ (by omega)
    have h5 : P * (4294967296 * (4294967296 * U0)) = 4294967296 * (P * (4294967296 * U0)) := Nat.mul_left_comm _ _ _
    omega
  · exact h1

end

/-- Multiplied and taken away, a limb further. -/
theorem mulsub_step {A U P c b q y u p d : Nat} {W : Nat} (h : A + q * W = U + P * (c + b)) (hb : b ≤ 1) (hu : u < 4294967296) (hp : p = q * y + c) (hd : d = ((u + 18446744073709551616 - p % 4294967296) % 18446744073709551616 + 18446744073709551616 - b) % 18446744073709551616) :
    A + P * (d % 4294967296) + q * (W + P * y) = U + P * u + P * 4294967296 * (p / 4294967296 + d / 9223372036854775808) ∧ d / 9223372036854775808 ≤ 1 := by
  have e : d % 4294967296 + p % 4294967296 + b = u + 4294967296 * (d / 9223372036854775808) ∧ d / 9223372036854775808 ≤ 1 := by omega
  refine ⟨?_, e.2⟩
  have e1 := e.1
  have e2 : P * (d % 4294967296) + P * (q * y) + P * (c + b) = P * u + P * 4294967296 * (p / 4294967296 + d / 9223372036854775808) := by
    have e3 : d % 4294967296 + q * y + (c + b) = u + 4294967296 * (p / 4294967296 + d / 9223372036854775808) := by clear hd h; omega
    rw [Nat.mul_assoc, ← Nat.mul_add, ← Nat.mul_add, ← Nat.mul_add, e3]
  have e4 : q * (W + P * y) = q * W + P * (q * y) := by rw [Nat.mul_add, Nat.mul_left_comm]
  have e5 : P * (c + b) = P * c + P * b := Nat.mul_add _ _ _
  rw [e4]
  clear hd hp e1 e
  omega

/-- What the step leaves if the guess was right. -/
theorem kn_right {u V q R Q U P uk c b : Nat} (hU : U = u + P * uk) (h : R + q * V = u + P * (c + b)) (hle : c + b ≤ uk) (hQ : Q = U / V) (hQq : Q ≤ q) (hV : 0 < V) : q = Q ∧ R + P * (uk - (c + b)) = U % V := by
  have e : R + P * (uk - (c + b)) + q * V = U := by
    have : P * uk = P * (uk - (c + b)) + P * (c + b) := by rw [← Nat.mul_add]; congr 1; omega
    omega
  have hq : q ≤ Q := by rw [hQ, Nat.le_div_iff_mul_le hV]; omega
  have hqQ : q = Q := by omega
  refine ⟨hqQ, ?_⟩
  have h2 := Nat.div_add_mod U V
  rw [← hQ, ← hqQ, Nat.mul_comm] at h2
  omega

/-- And if it was too great. -/
theorem kn_wrong {u V q R Q U P uk c b : Nat} (hU : U = u + P * uk) (h : R + q * V = u + P * (c + b)) (hlt : uk < c + b) (hR : R < P) (hQ : Q = U / V) (hQ1 : q ≤ Q + 1) (hV : 0 < V) : q = Q + 1 ∧ R + V + P * uk = U % V + P * (c + b) := by
  have e : R + q * V + P * uk = U + P * (c + b) := by omega
  have h1 : P * (uk + 1) ≤ P * (c + b) := Nat.mul_le_mul_left _ hlt
  have hgt : U < q * V := by rw [Nat.mul_succ] at h1; omega
  have h2 := Nat.div_add_mod U V
  rw [← hQ, Nat.mul_comm] at h2
  have hq : q = Q + 1 := by
    rcases Nat.lt_or_ge Q q with h | h
    · omega
    · have := Nat.mul_le_mul_right V h
      omega
  refine ⟨hq, ?_⟩
  rw [hq, Nat.succ_mul] at e
  omega

/-- Two limbs of a shifted number. -/
theorem shr_digit {x y z n : Nat} (hn : n < 32) : ((x + 4294967296 * (y + 4294967296 * z)) / 2 ^ n) % 4294967296 = ((x + 4294967296 * y) / 2 ^ n) % 4294967296 := by
  have hB : (4294967296 : Nat) = 2 ^ n * 2 ^ (32 - n) := by rw [← Nat.pow_add, show n + (32 - n) = 32 by omega]
  have e : x + 4294967296 * (y + 4294967296 * z) = (x + 4294967296 * y) + 2 ^ n * (4294967296 * (2 ^ (32 - n) * z)) := by
    have : 2 ^ n * (4294967296 * (2 ^ (32 - n) * z)) = 4294967296 * (4294967296 * z) := by
      rw [Nat.mul_left_comm, ← Nat.mul_assoc (2 ^ n), ← hB]
    rw [this]; omega
  rw [e, Nat.add_mul_div_left _ _ (Nat.pow_pos (by decide)), Nat.add_mul_mod_self_left]

/-- Two numbers, each the sum of something small and a multiple. -/
theorem two_parts {a b P x y : Nat} (h : a + P * x = b + P * y) (ha : a < P) (hb : b < P) : a = b ∧ x = y := by
  have hP : 0 < P := by omega
  have e1 : (a + P * x) % P = a := by rw [Nat.add_mul_mod_self_left, Nat.mod_eq_of_lt ha]
  have e2 : (b + P * y) % P = b := by rw [Nat.add_mul_mod_self_left, Nat.mod_eq_of_lt hb]
  have e3 : a = b := by rw [← e1, h, e2]
  refine ⟨e3, ?_⟩
  have : P * x = P * y := by omega
  exact Nat.eq_of_mul_eq_mul_left hP this

/-- The row is put back. -/
theorem kn_back {w R V U P uk c b cy : Nat} (h1 : w + P * cy = R + V) (h2 : R + V + P * uk = U % V + P * (c + b)) (hw : w < P) (hV : V ≤ P) (hV0 : 0 < V) : w = U % V ∧ cy + uk = c + b := by
  have h3 : w + P * (cy + uk) = U % V + P * (c + b) := by rw [Nat.mul_add]; omega
  exact two_parts h3 hw (Nat.lt_of_lt_of_le (Nat.mod_lt _ hV0) hV)

theorem prod_fits {q z c : Nat} (hq : q < 4294967296) (hz : z < 4294967296) (hc : c < 4294967296) : (q * z + c) / 4294967296 < 4294967296 ∧ q * z + c < 18446744073709551616 := by
  have h : q * z ≤ 4294967295 * 4294967295 := Nat.mul_le_mul (by omega) (by omega)
  omega
end Go.Proofs.Ytpoonnjaobjdgaa
