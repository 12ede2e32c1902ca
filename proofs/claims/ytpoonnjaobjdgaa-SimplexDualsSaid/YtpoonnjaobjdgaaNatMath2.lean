/-
The canonical list of limbs of a number, and how it goes with values.
-/
import Derived.Test.YtpoonnjaobjdgaaNatMath
namespace Go.Proofs.Ytpoonnjaobjdgaa
set_option maxRecDepth 100000
set_option linter.unusedVariables false
--plain
def limbs (n : Nat) : List Nat := if _h : n = 0 then [] else n % 4294967296 :: limbs (n / 4294967296)
termination_by n
decreasing_by omega

theorem limbs_zero : limbs 0 = [] := by rw [limbs]; rfl
theorem limbs_pos {n : Nat} (h : n ≠ 0) : limbs n = n % 4294967296 :: limbs (n / 4294967296) := by rw [limbs, dif_neg h]

theorem val_limbs (n : Nat) : val (limbs n) = n := by
  induction n using Nat.strongRecOn with
  | ind n ih =>
    by_cases h : n = 0
    · subst h; rw [limbs_zero]; rfl
    · rw [limbs_pos h, val, ih _ (by omega)]; omega

theorem limbs_lt (n : Nat) : ∀ x ∈ limbs n, x < 4294967296 := by
  induction n using Nat.strongRecOn with
  | ind n ih =>
    intro x hx
    by_cases h : n = 0
    · subst h; rw [limbs_zero] at hx; cases hx
    · rw [limbs_pos h] at hx
      rcases List.mem_cons.1 hx with rfl | hx
      · omega
      · exact ih _ (by omega) x hx

theorem limbs_inj {a b : Nat} (h : limbs a = limbs b) : a = b := by rw [← val_limbs a, h, val_limbs]

theorem limbs_nil {n : Nat} : limbs n = [] ↔ n = 0 := by
  constructor
  · intro h; have := val_limbs n; rw [h] at this; exact this.symm
  · rintro rfl; exact limbs_zero

theorem trim_eq {l : List Nat} (h : ∀ x ∈ l, x < 4294967296) : trim l = limbs (val l) := by
  induction l with
  | nil => exact limbs_zero.symm
  | cons x l ih =>
    have ih := ih fun y hy => h y (.tail _ hy)
    have hx := h x (.head _)
    simp only [trim, val]
    rw [ih]
    by_cases hv : val l = 0
    · rw [hv, limbs_zero]
      by_cases h0 : x = 0
      · subst h0; simp [limbs_zero]
      · simp only [if_neg h0]
        rw [limbs_pos (by omega), show (x + 4294967296 * 0) / 4294967296 = 0 by omega, limbs_zero, show (x + 4294967296 * 0) % 4294967296 = x by omega]
    · rw [limbs_pos (show x + 4294967296 * val l ≠ 0 by omega), show (x + 4294967296 * val l) / 4294967296 = val l by omega, show (x + 4294967296 * val l) % 4294967296 = x by omega]
      rw [limbs_pos hv]

theorem trim_limbs (n : Nat) : trim (limbs n) = limbs n := by rw [trim_eq (limbs_lt n), val_limbs]

theorem val_append (l m : List Nat) : val (l ++ m) = val l + 4294967296 ^ l.length * val m := by
  induction l with
  | nil => simp [val]
  | cons x l ih =>
    simp only [List.cons_append, val, ih, List.length_cons, Nat.pow_succ]
    rw [Nat.mul_add, Nat.mul_comm (4294967296 ^ l.length) 4294967296, Nat.mul_assoc]; omega

theorem val_lt {l : List Nat} (h : ∀ x ∈ l, x < 4294967296) : val l < 4294967296 ^ l.length := by
  induction l with
  | nil => simp [val]
  | cons x l ih =>
    have ih := ih fun y hy => h y (.tail _ hy)
    have hx := h x (.head _)
    simp only [val, List.length_cons, Nat.pow_succ]
    have : val l + 1 ≤ 4294967296 ^ l.length := ih
    have := Nat.mul_le_mul_right 4294967296 this
    omega

theorem limbs_length_le {n k : Nat} (h : n < 4294967296 ^ k) : (limbs n).length ≤ k := by
  induction k generalizing n with
  | zero => have : n = 0 := by simpa using h
            subst this; rw [limbs_zero]; exact Nat.le_refl _
  | succ k ih =>
    by_cases h0 : n = 0
    · subst h0; rw [limbs_zero]; exact Nat.zero_le _
    · rw [limbs_pos h0, List.length_cons]
      have := ih (n := n / 4294967296) (by rw [Nat.pow_succ] at h; exact Nat.div_lt_of_lt_mul (by rw [Nat.mul_comm]; exact h))
      omega

theorem limbs_le_length {n k : Nat} (h : (limbs n).length ≤ k) : n < 4294967296 ^ k := by
  have := val_lt (limbs_lt n)
  rw [val_limbs] at this
  exact Nat.lt_of_lt_of_le this (Nat.pow_le_pow_right (by omega) h)

theorem val_take_succ {l : List Nat} {i x : Nat} (h : l[i]? = some x) : val (l.take (i + 1)) = val (l.take i) + 4294967296 ^ i * x := by
  have hi : i < l.length := (List.getElem?_eq_some_iff.1 h).1
  rw [List.take_add_one, h, val_append]
  simp [val, List.length_take, Nat.min_eq_left (Nat.le_of_lt hi)]

theorem val_replicate (n : Nat) : val (List.replicate n 0) = 0 := by
  induction n with
  | zero => rfl
  | succ n ih => rw [List.replicate_succ, val, ih]

theorem val_trim' {l : List Nat} {n : Nat} (h : trim l = limbs n) : val l = n := by rw [← val_trim, h, val_limbs]

theorem val_set_take {l : List Nat} {k z : Nat} (h : k < l.length) : val ((l.set k z).take (k + 1)) = val (l.take k) + 4294967296 ^ k * z := by
  rw [val_take_succ (x := z) (by simp [h]), List.take_set_of_le (Nat.le_refl k)]

theorem take_ge {l : List Nat} {k : Nat} (h : l.length ≤ k) : l.take (k + 1) = l.take k := by rw [List.take_of_length_le h, List.take_of_length_le (by omega)]

theorem set_lt {l : List Nat} {k z m : Nat} (h : ∀ x ∈ l, x < m) (hz : z < m) : ∀ x ∈ l.set k z, x < m := fun x hx => by
  rcases List.mem_or_eq_of_mem_set hx with h1 | rfl
  · exact h x h1
  · exact hz

theorem carry_step {V P c A b x y s : Nat} (h : V + P * c = A + b) (hs : s = x + c + y) : V + P * (s % 4294967296) + P * 4294967296 * (s / 4294967296) = A + P * x + (b + P * y) := by
  have h1 : P * (s % 4294967296) + P * 4294967296 * (s / 4294967296) = P * s := by rw [Nat.mul_assoc, ← Nat.mul_add, Nat.mod_add_div]
  rw [Nat.add_assoc, h1, hs, Nat.mul_add, Nat.mul_add]; omega

theorem rep_lt {n m : Nat} (h : 0 < m) : ∀ x ∈ List.replicate n 0, x < m := fun x hx => by rw [(List.mem_replicate.1 hx).2]; exact h

def sumV (ls : List (List Nat)) : Nat := (ls.map val).sum
def prodV : List (List Nat) → Nat
  | [] => 1
  | l :: ls => val l * prodV ls
def lenS (ls : List (List Nat)) : Nat := (ls.map List.length).sum

theorem sumV_take_succ {ls : List (List Nat)} {k : Nat} {z : List Nat} (h : ls[k]? = some z) : sumV (ls.take (k + 1)) = sumV (ls.take k) + val z := by
  rw [List.take_add_one, h]; simp [sumV]

theorem sumV_le {ls : List (List Nat)} {m : Nat} (h : ∀ l ∈ ls, val l ≤ m) : sumV ls ≤ ls.length * m := by
  induction ls with
  | nil => simp [sumV]
  | cons l ls ih =>
    have h1 := ih fun x hx => h x (.tail _ hx)
    have h2 := h l (.head _)
    have e : sumV (l :: ls) = val l + sumV ls := by simp [sumV]
    rw [e, List.length_cons, Nat.succ_mul]; omega

/-- Few numbers that are not long have a sum that is not long. -/
theorem sum_len {ls : List (List Nat)} {L : Nat} (hr : ∀ l ∈ ls, ∀ x ∈ l, x < 4294967296) (hL : ∀ l ∈ ls, l.length ≤ L) (hn : ls.length ≤ 65536) (k : Nat) : (limbs (sumV (ls.take k))).length ≤ L + 1 := by
  refine limbs_length_le ?_
  have h1 : sumV (ls.take k) ≤ (ls.take k).length * 4294967296 ^ L := sumV_le fun l hl => by
    have hl' := List.mem_of_mem_take hl
    exact Nat.le_trans (Nat.le_of_lt (val_lt (hr l hl'))) (Nat.pow_le_pow_right (by omega) (hL l hl'))
  have h2 : (ls.take k).length * 4294967296 ^ L ≤ 65536 * 4294967296 ^ L := Nat.mul_le_mul_right _ (by rw [List.length_take]; omega)
  have h3 : 0 < 4294967296 ^ L := Nat.pow_pos (by omega)
  rw [Nat.pow_succ]; omega

theorem prodV_append (ls : List (List Nat)) (z : List Nat) : prodV (ls ++ [z]) = prodV ls * val z := by
  induction ls with
  | nil => simp [prodV]
  | cons l ls ih => rw [List.cons_append, prodV, ih, prodV, Nat.mul_assoc]

theorem prodV_take_succ {ls : List (List Nat)} {k : Nat} {z : List Nat} (h : ls[k]? = some z) : prodV (ls.take (k + 1)) = prodV (ls.take k) * val z := by
  rw [List.take_add_one, h]; exact prodV_append _ _

theorem lenS_cons (l : List Nat) (ls : List (List Nat)) : lenS (l :: ls) = l.length + lenS ls := by simp [lenS]

theorem prodV_le {ls : List (List Nat)} (hr : ∀ l ∈ ls, ∀ x ∈ l, x < 4294967296) : prodV ls ≤ 4294967296 ^ lenS ls := by
  induction ls with
  | nil => simp [prodV, lenS]
  | cons l ls ih =>
    rw [prodV, lenS_cons, Nat.pow_add]
    exact Nat.mul_le_mul (Nat.le_of_lt (val_lt (hr l (.head _)))) (ih fun x hx => hr x (.tail _ hx))

theorem lenS_take (ls : List (List Nat)) (k : Nat) : lenS (ls.take k) ≤ lenS ls := by
  induction ls generalizing k with
  | nil => simp
  | cons l ls ih =>
    cases k with
    | zero => simp [lenS]
    | succ k => rw [List.take_succ_cons, lenS_cons, lenS_cons]; have := ih k; omega

theorem lenS_mem {ls : List (List Nat)} {l : List Nat} (h : l ∈ ls) : l.length ≤ lenS ls := by
  induction ls with
  | nil => cases h
  | cons y ls ih =>
    rw [lenS_cons]
    rcases List.mem_cons.1 h with rfl | h
    · omega
    · have := ih h; omega

theorem prod_len {ls : List (List Nat)} (hr : ∀ l ∈ ls, ∀ x ∈ l, x < 4294967296) (k : Nat) : (limbs (prodV (ls.take k))).length ≤ lenS ls + 1 := by
  refine limbs_length_le ?_
  have h1 := prodV_le (ls := ls.take k) fun l hl => hr l (List.mem_of_mem_take hl)
  have h2 : 4294967296 ^ lenS (ls.take k) ≤ 4294967296 ^ lenS ls := Nat.pow_le_pow_right (by omega) (lenS_take ls k)
  have h3 : 0 < 4294967296 ^ lenS ls := Nat.pow_pos (by omega)
  rw [Nat.pow_succ]; omega

theorem limbs_one : limbs 1 = [1] := by rw [limbs_pos (by omega)]; simp [limbs_zero]
theorem limbs_small {n : Nat} (h : n ≠ 0) (h' : n < 4294967296) : limbs n = [n] := by
  rw [limbs_pos h, show n / 4294967296 = 0 by omega, limbs_zero, show n % 4294967296 = n by omega]

theorem val_drop {l : List Nat} {k x : Nat} (h : l[k]? = some x) : val (l.drop k) = x + 4294967296 * val (l.drop (k + 1)) := by
  have hk : k < l.length := (List.getElem?_eq_some_iff.1 h).1
  rw [List.drop_eq_getElem_cons hk, val]
  rw [List.getElem?_eq_getElem hk] at h
  rw [Option.some.inj h]

theorem val_set_drop {l : List Nat} {k z : Nat} (h : k < l.length) : val ((l.set k z).drop k) = z + 4294967296 * val (l.drop (k + 1)) := by
  rw [val_drop (x := z) (by simp [h]), List.drop_set_of_lt (by omega)]

theorem div_step {A Q b r x : Nat} (h : A = Q * b + r) (hb : 0 < b) : x + 4294967296 * A = ((r * 4294967296 + x) / b + 4294967296 * Q) * b + (r * 4294967296 + x) % b := by
  have h1 := Nat.div_add_mod (r * 4294967296 + x) b
  rw [Nat.add_mul, Nat.mul_comm _ b]
  rw [h, Nat.mul_add, Nat.mul_assoc]
  omega

theorem div_lt' {r x b : Nat} (hr : r < b) (hx : x < 4294967296) : (r * 4294967296 + x) / b < 4294967296 := by
  refine Nat.div_lt_of_lt_mul ?_
  have := Nat.mul_le_mul_right 4294967296 (show r + 1 ≤ b from hr)
  omega

theorem val_take_getD (l : List Nat) (k : Nat) : val (l.take (k + 1)) = val (l.take k) + 4294967296 ^ k * l.getD k 0 := by
  by_cases h : k < l.length
  · rw [val_take_succ (List.getElem?_eq_getElem h), List.getD, List.getElem?_eq_getElem h]; rfl
  · rw [take_ge (by omega), List.getD, List.getElem?_eq_none (by omega)]; rfl

theorem getD_lt {l : List Nat} {k m : Nat} (h : ∀ x ∈ l, x < m) (hm : 0 < m) : l.getD k 0 < m := by
  by_cases hk : k < l.length
  · rw [List.getD, List.getElem?_eq_getElem hk]; exact h _ (List.getElem_mem hk)
  · rw [List.getD, List.getElem?_eq_none (by omega)]; exact hm

theorem getD_ge {l : List Nat} {k : Nat} (h : l.length ≤ k) : l.getD k 0 = 0 := by rw [List.getD, List.getElem?_eq_none h]; rfl

theorem val_snoc {l : List Nat} {x : Nat} : val (l ++ [x]) = val l + 4294967296 ^ l.length * x := by rw [val_append]; simp [val]

theorem snoc_lt {l : List Nat} {z m : Nat} (h : ∀ x ∈ l, x < m) (hz : z < m) : ∀ x ∈ l ++ [z], x < m := fun x hx => by
  rcases List.mem_append.1 hx with h1 | h1
  · exact h x h1
  · rw [List.mem_singleton.1 h1]; exact hz
end Go.Proofs.Ytpoonnjaobjdgaa
