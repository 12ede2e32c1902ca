/-
Numbers in limbs, compared and taken from each other.
-/
import Derived.Test.YtpoonnjaobjdgaaNatMath
import Derived.Test.YtpoonnjaobjdgaaNatMath2
import Derived.Test.YtpoonnjaobjdgaaNatMath3
namespace Go.Proofs.Ytpoonnjaobjdgaa
set_option maxRecDepth 100000
set_option linter.unusedVariables false
--plain
/-- The sign of a comparison. -/
def cmpN (a b : Nat) : Int := if a < b then -1 else if b < a then 1 else 0

theorem cmpN_lt {a b : Nat} (h : a < b) : cmpN a b = -1 := by rw [cmpN, if_pos h]
theorem cmpN_gt {a b : Nat} (h : b < a) : cmpN a b = 1 := by rw [cmpN, if_neg (by omega), if_pos h]
theorem cmpN_eq {a b : Nat} (h : a = b) : cmpN a b = 0 := by rw [cmpN, if_neg (by omega), if_neg (by omega)]

theorem val_take_drop (l : List Nat) (k : Nat) (hk : k ≤ l.length) : val l = val (l.take k) + 4294967296 ^ k * val (l.drop k) := by
  have h := val_append (l.take k) (l.drop k)
  rw [List.take_append_drop, List.length_take, Nat.min_eq_left hk] at h
  exact h

theorem take_lt {l : List Nat} (h : ∀ x ∈ l, x < 4294967296) {k : Nat} (hk : k ≤ l.length) : val (l.take k) < 4294967296 ^ k := by
  have := val_lt (l := l.take k) (fun x hx => h x (List.mem_of_mem_take hx))
  rwa [List.length_take, Nat.min_eq_left hk] at this

theorem lt_of_len {x y : Nat} (h : (limbs x).length < (limbs y).length) : x < y := by
  rcases Nat.lt_or_ge x y with h1 | h1
  · exact h1
  · have := limbs_mono (x := y) (W := x) (Nat.le_refl _) h1
    omega

/-- The most significant limb that differs decides. -/
theorem lt_of_top {l m : List Nat} {k x y : Nat} (hl : ∀ z ∈ l, z < 4294967296) (hd : val (l.drop (k + 1)) = val (m.drop (k + 1))) (hx : l[k]? = some x) (hy : m[k]? = some y) (h : x < y) : val l < val m := by
  have hkl : k < l.length := (List.getElem?_eq_some_iff.1 hx).1
  have hkm : k < m.length := (List.getElem?_eq_some_iff.1 hy).1
  rw [val_take_drop l k (by omega), val_take_drop m k (by omega), val_drop hx, val_drop hy, hd]
  have h1 := take_lt hl (Nat.le_of_lt hkl)
  generalize 4294967296 ^ k = P at *
  generalize val (m.drop (k + 1)) = V at *
  have e : P * (x + 4294967296 * V) + P = P * ((x + 1) + 4294967296 * V) := by rw [← Nat.mul_succ]; congr 1; omega
  have h2 : P * ((x + 1) + 4294967296 * V) ≤ P * (y + 4294967296 * V) := Nat.mul_le_mul_left _ (by omega)
  omega

theorem drop_step {l m : List Nat} {k x : Nat} (hd : l.drop (k + 1) = m.drop (k + 1)) (hx : l[k]? = some x) (hy : m[k]? = some x) : l.drop k = m.drop k := by
  obtain ⟨h1, rfl⟩ := List.getElem?_eq_some_iff.1 hx
  obtain ⟨h2, e⟩ := List.getElem?_eq_some_iff.1 hy
  rw [List.drop_eq_getElem_cons h1, List.drop_eq_getElem_cons h2, hd, e]

/-- A limb less another and a borrow, in a word. -/
theorem borrow_word {b x y d : Nat} (hb : b ≤ 1) (hx : x < 4294967296) (hy : y < 4294967296) (hd : d = ((x + 18446744073709551616 - b) % 18446744073709551616 + 18446744073709551616 - y) % 18446744073709551616) :
    d % 4294967296 + y + b = x + 4294967296 * (d / 9223372036854775808) ∧ d / 9223372036854775808 ≤ 1 := by omega

theorem borrow_step {V P b A c x y d : Nat} (h : V + c = A + P * b) (hb : b ≤ 1) (hx : x < 4294967296) (hy : y < 4294967296) (hd : d = ((x + 18446744073709551616 - b) % 18446744073709551616 + 18446744073709551616 - y) % 18446744073709551616) :
    V + P * (d % 4294967296) + (c + P * y) = A + P * x + P * 4294967296 * (d / 9223372036854775808) := by
  have e := (borrow_word hb hx hy hd).1
  have e2 : P * (d % 4294967296) + P * y + P * b = P * x + P * 4294967296 * (d / 9223372036854775808) := by
    rw [Nat.mul_assoc, ← Nat.mul_add, ← Nat.mul_add, ← Nat.mul_add, e]
  omega

theorem get_some {α : Type} {l : List α} {i : Nat} {dflt : α} (h : i < l.length) : l[i]? = some (l.getD i dflt) := by
  rw [List.getD, List.getElem?_eq_getElem h]; rfl

/-- Behind the last limb nothing is borrowed. -/
theorem sub_end {out b : List Nat} {A n c : Nat} (ho : ∀ x ∈ out, x < 4294967296) (hl : out.length = n) (hc : c ≤ 1) (hab : val b ≤ A) (he : val out + val (b.take n) = A + 4294967296 ^ n * c) : c = 0 ∧ val out = A - val b := by
  have h1 := val_lt ho
  rw [hl] at h1
  have hA : val b = val (b.take n) + 4294967296 ^ n * val (b.drop n) := by
    rcases Nat.le_total b.length n with h | h
    · rw [List.take_of_length_le h, List.drop_of_length_le h]; simp [val]
    · exact val_take_drop b _ h
  generalize 4294967296 ^ n = P at *
  have hD : val (b.drop n) = 0 := by
    rcases Nat.eq_zero_or_pos (val (b.drop n)) with h | h
    · exact h
    · have : P * 1 ≤ P * val (b.drop n) := Nat.mul_le_mul_left _ h
      have : P * c ≤ P * 1 := Nat.mul_le_mul_left _ hc
      omega
  rw [hD, Nat.mul_zero, Nat.add_zero] at hA
  have hc0 : c = 0 := by
    rcases Nat.eq_zero_or_pos c with h | h
    · exact h
    · have : P * 1 ≤ P * c := Nat.mul_le_mul_left _ h
      omega
  subst hc0
  exact ⟨rfl, by omega⟩

theorem sub_word {x y c w : Nat} (hx : x < 4294967296) (hy : y < 4294967296) (hc : c ≤ 1) (hw : w = x + 4294967296 - y - c) : w % 4294967296 + y + c = x + 4294967296 * (1 - w / 4294967296) ∧ 1 - w / 4294967296 ≤ 1 := by omega

theorem sub_step {V P b A c x y w : Nat} (h : V + b = A + P * c) (hc : c ≤ 1) (hx : x < 4294967296) (hy : y < 4294967296) (hw : w = x + 4294967296 - y - c) : V + P * (w % 4294967296) + (b + P * y) = A + P * x + P * 4294967296 * (1 - w / 4294967296) := by
  have e := (sub_word hx hy hc hw).1
  have e2 : P * (w % 4294967296) + P * y + P * c = P * x + P * 4294967296 * (1 - w / 4294967296) := by
    rw [Nat.mul_assoc, ← Nat.mul_add, ← Nat.mul_add, ← Nat.mul_add, e]
  omega
end Go.Proofs.Ytpoonnjaobjdgaa
