/-
Numbers as lists of limbs to the base 2^32: their values, the canonical lists, and how lists are cut.
-/
import Derived.Calls
namespace Go.Proofs.Ytpoonnjaobjdgaa
set_option maxRecDepth 100000
set_option linter.unusedVariables false
--plain
def B32 : Nat := 4294967296

def val : List Nat → Nat
  | [] => 0
  | x :: l => x + 4294967296 * val l

/-- Without the zeros at the end. -/
def trim : List Nat → List Nat
  | [] => []
  | x :: l => match trim l with
    | [] => if x = 0 then [] else [x]
    | y :: l' => x :: y :: l'

theorem val_trim : ∀ l, val (trim l) = val l := by
  intro l
  induction l with
  | nil => rfl
  | cons x l ih =>
    simp only [trim]
    cases h : trim l with
    | nil =>
      rw [h] at ih
      simp only [val] at ih ⊢
      split
      · subst_vars; simp [val, ← ih]
      · simp [val, ← ih]
    | cons y l' => rw [h] at ih; simp only [val] at ih ⊢; omega

theorem trim_length_le : ∀ l, (trim l).length ≤ l.length := by
  intro l
  induction l with
  | nil => exact Nat.le_refl _
  | cons x l ih =>
    simp only [trim]
    cases h : trim l with
    | nil => by_cases hx : x = 0 <;> simp [hx]
    | cons y l' => rw [h] at ih; simp at ih ⊢; omega

theorem trim_eq_take : ∀ l, trim l = l.take (trim l).length := by
  intro l
  induction l with
  | nil => rfl
  | cons x l ih =>
    simp only [trim]
    cases h : trim l with
    | nil => by_cases hx : x = 0 <;> simp [hx]
    | cons y l' => rw [h] at ih; simp at ih ⊢; exact ih

theorem trim_nil_iff : ∀ l, trim l = [] ↔ ∀ x ∈ l, x = 0 := by
  intro l
  induction l with
  | nil => simp [trim]
  | cons x l ih =>
    simp only [trim]
    cases h : trim l with
    | nil =>
      have := ih.1 h
      by_cases hx : x = 0
      · simp only [hx, if_true, true_iff]
        intro z hz
        rcases List.mem_cons.1 hz with rfl | hz
        · rfl
        · exact this z hz
      · simp [hx]
    | cons y l' =>
      simp only [reduceCtorEq, false_iff]
      intro hh
      have := ih.2 fun z hz => hh z (.tail _ hz)
      rw [h] at this; cases this

theorem trim_append_zero (l : List Nat) : trim (l ++ [0]) = trim l := by
  induction l with
  | nil => simp [trim]
  | cons x l ih => simp only [List.cons_append, trim, ih]

theorem trim_append_ne (l : List Nat) (x : Nat) (hx : x ≠ 0) : trim (l ++ [x]) = l ++ [x] := by
  induction l with
  | nil => simp [trim, hx]
  | cons y l ih =>
    simp only [List.cons_append, trim, ih]
    cases l <;> simp

/-- Cut at n: the zero before it goes too. -/
theorem trim_take_zero {l : List Nat} {n : Nat} (hn : l[n]? = some 0) : trim (l.take (n + 1)) = trim (l.take n) := by
  have : l.take (n + 1) = l.take n ++ [0] := by rw [List.take_add_one, hn]; rfl
  rw [this, trim_append_zero]

theorem trim_take_ne {l : List Nat} {n z : Nat} (hn : l[n]? = some z) (hz : z ≠ 0) : trim (l.take (n + 1)) = l.take (n + 1) := by
  have : l.take (n + 1) = l.take n ++ [z] := by rw [List.take_add_one, hn]; rfl
  rw [this, trim_append_ne _ _ hz]

theorem mem_trim {l : List Nat} {x : Nat} (h : x ∈ trim l) : x ∈ l := by
  rw [trim_eq_take] at h; exact List.mem_of_mem_take h

theorem trim_trim (l : List Nat) : trim (trim l) = trim l := by
  induction l with
  | nil => rfl
  | cons x l ih =>
    simp only [trim]
    cases h : trim l with
    | nil => by_cases hx : x = 0 <;> simp [hx, trim]
    | cons y l' => rw [h] at ih; simp only [trim] at ih ⊢; rw [ih]
end Go.Proofs.Ytpoonnjaobjdgaa
