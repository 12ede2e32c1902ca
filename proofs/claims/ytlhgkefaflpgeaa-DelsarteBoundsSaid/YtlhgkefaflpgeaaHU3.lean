/-
The canonical list of limbs of a number, and how it goes with values. Binomial coefficients. Binary digits; powers by squaring; binomial coefficients. Numbers in limbs, compared and taken from each other. Fractions: what a sign, a numerator and a denominator in limbs say, and the canonical form. Krawtchouk numbers: the coefficients of (1 + a z)^m (1 - z)^x, and their laws. Numbers with a sign, as the program has them; the program's table of Krawtchouk numbers. Integers among the fractions. The transform of a distribution, as the program reckons it. Sums of fractions; the transform of the transform. Linear programs over the fractions: weak duality, the lemma of Farkas, rays, complementary slackness. Sums of products of two rows of fractions: bounds, steps; what is feasible, as a test. Delsarte's inequalities, the linear programming bound, the certificate of Singleton. Columns of Krawtchouk numbers as rows of fractions; certificates as they are handed in. Lists of words: their first error; how their distances are counted. Contracts of nat.short. Ranges of the layer delsarte; the document's Range and Words; distances of words. Contracts of nat.Trim, nat.Of. Contracts of nat.plus and nat.Add.
-/
import Derived.Test.YtlhgkefaflpgeaaHU2
set_option linter.unusedVariables false
set_option linter.unusedSimpArgs false

namespace Go.Proofs.Ytlhgkefaflpgeaa
set_option maxRecDepth 100000
set_option linter.unusedVariables false
set_option linter.unusedSimpArgs false
--plain
def limbs (n : Nat) : List Nat := if _h : n = 0 then [] else n % 4294967296 :: limbs (n / 4294967296)
termination_by n
decreasing_by omega

theorem limbs_zero : limbs 0 = [] := by rw [limbs]; rfl
theorem limbs_pos {n : Nat} (h : n ≠ 0) : limbs n = n % 4294967296 :: limbs (n / 4294967296) := by rw [limbs, dif_neg h]

theorem val_limbs (n : Nat) : val (limbs n) = n := by
  induction n using Nat.strongRecOn with
  | ind n ih =>
    by_cases h : n = 0
    · subst h; rw [limbs_zero]; rfl
    · rw [limbs_pos h, val, ih _ (by omega)]; omega

theorem limbs_lt (n : Nat) : ∀ x ∈ limbs n, x < 4294967296 := by
  induction n using Nat.strongRecOn with
  | ind n ih =>
    intro x hx
    by_cases h : n = 0
    · subst h; rw [limbs_zero] at hx; cases hx
    · rw [limbs_pos h] at hx
      rcases List.mem_cons.1 hx with rfl | hx
      · omega
      · exact ih _ (by omega) x hx

theorem limbs_inj {a b : Nat} (h : limbs a = limbs b) : a = b := by rw [← val_limbs a, h, val_limbs]

theorem limbs_nil {n : Nat} : limbs n = [] ↔ n = 0 := by
  constructor
  · intro h; have := val_limbs n; rw [h] at this; exact this.symm
  · rintro rfl; exact limbs_zero

theorem trim_eq {l : List Nat} (h : ∀ x ∈ l, x < 4294967296) : trim l = limbs (val l) := by
  induction l with
  | nil => exact limbs_zero.symm
  | cons x l ih =>
    have ih := ih fun y hy => h y (.tail _ hy)
    have hx := h x (.head _)
    simp only [trim, val]
    rw [ih]
    by_cases hv : val l = 0
    · rw [hv, limbs_zero]
      by_cases h0 : x = 0
      · subst h0; simp [limbs_zero]
      · simp only [if_neg h0]
        rw [limbs_pos (by omega), show (x + 4294967296 * 0) / 4294967296 = 0 by omega, limbs_zero, show (x + 4294967296 * 0) % 4294967296 = x by omega]
    · rw [limbs_pos (show x + 4294967296 * val l ≠ 0 by omega), show (x + 4294967296 * val l) / 4294967296 = val l by omega, show (x + 4294967296 * val l) % 4294967296 = x by omega]
      rw [limbs_pos hv]

theorem trim_limbs (n : Nat) : trim (limbs n) = limbs n := by rw [trim_eq (limbs_lt n), val_limbs]

theorem val_append (l m : List Nat) : val (l ++ m) = val l + 4294967296 ^ l.length * val m := by
  induction l with
  | nil => simp [val]
  | cons x l ih =>
    simp only [List.cons_append, val, ih, List.length_cons, Nat.pow_succ]
    rw [Nat.mul_add, Nat.mul_comm (4294967296 ^ l.length) 4294967296, Nat.mul_assoc]; omega

theorem val_lt {l : List Nat} (h : ∀ x ∈ l, x < 4294967296) : val l < 4294967296 ^ l.length := by
  induction l with
  | nil => simp [val]
  | cons x l ih =>
    have ih := ih fun y hy => h y (.tail _ hy)
    have hx := h x (.head _)
    simp only [val, List.length_cons, Nat.pow_succ]
    have : val l + 1 ≤ 4294967296 ^ l.length := ih
    have := Nat.mul_le_mul_right 4294967296 this
    omega

theorem limbs_length_le {n k : Nat} (h : n < 4294967296 ^ k) : (limbs n).length ≤ k := by
  induction k generalizing n with
  | zero => have : n = 0 := by simpa using h
            subst this; rw [limbs_zero]; exact Nat.le_refl _
  | succ k ih =>
    by_cases h0 : n = 0
    · subst h0; rw [limbs_zero]; exact Nat.zero_le _
    · rw [limbs_pos h0, List.length_cons]
      have := ih (n := n / 4294967296) (by rw [Nat.pow_succ] at h; exact Nat.div_lt_of_lt_mul (by rw [Nat.mul_comm]; exact h))
      omega

theorem limbs_le_length {n k : Nat} (h : (limbs n).length ≤ k) : n < 4294967296 ^ k := by
  have := val_lt (limbs_lt n)
  rw [val_limbs] at this
  exact Nat.lt_of_lt_of_le this (Nat.pow_le_pow_right (by omega) h)

theorem val_take_succ {l : List Nat} {i x : Nat} (h : l[i]? = some x) : val (l.take (i + 1)) = val (l.take i) + 4294967296 ^ i * x := by
  have hi : i < l.length := (List.getElem?_eq_some_iff.1 h).1
  rw [List.take_add_one, h, val_append]
  simp [val, List.length_take, Nat.min_eq_left (Nat.le_of_lt hi)]

theorem val_replicate (n : Nat) : val (List.replicate n 0) = 0 := by
  induction n with
  | zero => rfl
  | succ n ih => rw [List.replicate_succ, val, ih]

theorem val_trim' {l : List Nat} {n : Nat} (h : trim l = limbs n) : val l = n := by rw [← val_trim, h, val_limbs]

theorem val_set_take {l : List Nat} {k z : Nat} (h : k < l.length) : val ((l.set k z).take (k + 1)) = val (l.take k) + 4294967296 ^ k * z := by
  rw [val_take_succ (x := z) (by simp [h]), List.take_set_of_le (Nat.le_refl k)]

theorem take_ge {l : List Nat} {k : Nat} (h : l.length ≤ k) : l.take (k + 1) = l.take k := by rw [List.take_of_length_le h, List.take_of_length_le (by omega)]

theorem set_lt {l : List Nat} {k z m : Nat} (h : ∀ x ∈ l, x < m) (hz : z < m) : ∀ x ∈ l.set k z, x < m := fun x hx => by
  rcases List.mem_or_eq_of_mem_set hx with h1 | rfl
  · exact h x h1
  · exact hz

theorem carry_step {V P c A b x y s : Nat} (h : V + P * c = A + b) (hs : s = x + c + y) : V + P * (s % 4294967296) + P * 4294967296 * (s / 4294967296) = A + P * x + (b + P * y) := by
  have h1 : P * (s % 4294967296) + P * 4294967296 * (s / 4294967296) = P * s := by rw [Nat.mul_assoc, ← Nat.mul_add, Nat.mod_add_div]
  rw [Nat.add_assoc, h1, hs, Nat.mul_add, Nat.mul_add]; omega

theorem rep_lt {n m : Nat} (h : 0 < m) : ∀ x ∈ List.replicate n 0, x < m := fun x hx => by rw [(List.mem_replicate.1 hx).2]; exact h

def sumV (ls : List (List Nat)) : Nat := (ls.map val).sum
def prodV : List (List Nat) → Nat
  | [] => 1
  | l :: ls => val l * prodV ls
def lenS (ls : List (List Nat)) : Nat := (ls.map List.length).sum

theorem sumV_take_succ {ls : List (List Nat)} {k : Nat} {z : List Nat} (h : ls[k]? = some z) : sumV (ls.take (k + 1)) = sumV (ls.take k) + val z := by
  rw [List.take_add_one, h]; simp [sumV]

theorem sumV_le {ls : List (List Nat)} {m : Nat} (h : ∀ l ∈ ls, val l ≤ m) : sumV ls ≤ ls.length * m := by
  induction ls with
  | nil => simp [sumV]
  | cons l ls ih =>
    have h1 := ih fun x hx => h x (.tail _ hx)
    have h2 := h l (.head _)
    have e : sumV (l :: ls) = val l + sumV ls := by simp [sumV]
    rw [e, List.length_cons, Nat.succ_mul]; omega

/-- Few numbers that are not long have a sum that is not long. -/
theorem sum_len {ls : List (List Nat)} {L : Nat} (hr : ∀ l ∈ ls, ∀ x ∈ l, x < 4294967296) (hL : ∀ l ∈ ls, l.length ≤ L) (hn : ls.length ≤ 65536) (k : Nat) : (limbs (sumV (ls.take k))).length ≤ L + 1 := by
  refine limbs_length_le ?_
  have h1 : sumV (ls.take k) ≤ (ls.take k).length * 4294967296 ^ L := sumV_le fun l hl => by
    have hl' := List.mem_of_mem_take hl
    exact Nat.le_trans (Nat.le_of_lt (val_lt (hr l hl'))) (Nat.pow_le_pow_right (by omega) (hL l hl'))
  have h2 : (ls.take k).length * 4294967296 ^ L ≤ 65536 * 4294967296 ^ L := Nat.mul_le_mul_right _ (by rw [List.length_take]; omega)
  have h3 : 0 < 4294967296 ^ L := Nat.pow_pos (by omega)
  rw [Nat.pow_succ]; omega

theorem prodV_append (ls : List (List Nat)) (z : List Nat) : prodV (ls ++ [z]) = prodV ls * val z := by
  induction ls with
  | nil => simp [prodV]
  | cons l ls ih => rw [List.cons_append, prodV, ih, prodV, Nat.mul_assoc]

theorem prodV_take_succ {ls : List (List Nat)} {k : Nat} {z : List Nat} (h : ls[k]? = some z) : prodV (ls.take (k + 1)) = prodV (ls.take k) * val z := by
  rw [List.take_add_one, h]; exact prodV_append _ _

theorem lenS_cons (l : List Nat) (ls : List (List Nat)) : lenS (l :: ls) = l.length + lenS ls := by simp [lenS]

theorem prodV_le {ls : List (List Nat)} (hr : ∀ l ∈ ls, ∀ x ∈ l, x < 4294967296) : prodV ls ≤ 4294967296 ^ lenS ls := by
  induction ls with
  | nil => simp [prodV, lenS]
  | cons l ls ih =>
    rw [prodV, lenS_cons, Nat.pow_add]
    exact Nat.mul_le_mul (Nat.le_of_lt (val_lt (hr l (.head _)))) (ih fun x hx => hr x (.tail _ hx))

theorem lenS_take (ls : List (List Nat)) (k : Nat) : lenS (ls.take k) ≤ lenS ls := by
  induction ls generalizing k with
  | nil => simp
  | cons l ls ih =>
    cases k with
    | zero => simp [lenS]
    | succ k => rw [List.take_succ_cons, lenS_cons, lenS_cons]; have := ih k; omega

theorem lenS_mem {ls : List (List Nat)} {l : List Nat} (h : l ∈ ls) : l.length ≤ lenS ls := by
  induction ls with
  | nil => cases h
  | cons y ls ih =>
    rw [lenS_cons]
    rcases List.mem_cons.1 h with rfl | h
    · omega
    · have := ih h; omega

theorem prod_len {ls : List (List Nat)} (hr : ∀ l ∈ ls, ∀ x ∈ l, x < 4294967296) (k : Nat) : (limbs (prodV (ls.take k))).length ≤ lenS ls + 1 := by
  refine limbs_length_le ?_
  have h1 := prodV_le (ls := ls.take k) fun l hl => hr l (List.mem_of_mem_take hl)
  have h2 : 4294967296 ^ lenS (ls.take k) ≤ 4294967296 ^ lenS ls := Nat.pow_le_pow_right (by omega) (lenS_take ls k)
  have h3 : 0 < 4294967296 ^ lenS ls := Nat.pow_pos (by omega)
  rw [Nat.pow_succ]; omega

theorem limbs_one : limbs 1 = [1] := by rw [limbs_pos (by omega)]; simp [limbs_zero]
theorem limbs_small {n : Nat} (h : n ≠ 0) (h' : n < 4294967296) : limbs n = [n] := by
  rw [limbs_pos h, show n / 4294967296 = 0 by omega, limbs_zero, show n % 4294967296 = n by omega]

theorem val_drop {l : List Nat} {k x : Nat} (h : l[k]? = some x) : val (l.drop k) = x + 4294967296 * val (l.drop (k + 1)) := by
  have hk : k < l.length := (List.getElem?_eq_some_iff.1 h).1
  rw [List.drop_eq_getElem_cons hk, val]
  rw [List.getElem?_eq_getElem hk] at h
  rw [Option.some.inj h]

theorem val_set_drop {l : List Nat} {k z : Nat} (h : k < l.length) : val ((l.set k z).drop k) = z + 4294967296 * val (l.drop (k + 1)) := by
  rw [val_drop (x := z) (by simp [h]), List.drop_set_of_lt (by omega)]

theorem div_step {A Q b r x : Nat} (h : A = Q * b + r) (hb : 0 < b) : x + 4294967296 * A = ((r * 4294967296 + x) / b + 4294967296 * Q) * b + (r * 4294967296 + x) % b := by
  have h1 := Nat.div_add_mod (r * 4294967296 + x) b
  rw [Nat.add_mul, Nat.mul_comm _ b]
  rw [h, Nat.mul_add, Nat.mul_assoc]
  omega

theorem div_lt' {r x b : Nat} (hr : r < b) (hx : x < 4294967296) : (r * 4294967296 + x) / b < 4294967296 := by
  refine Nat.div_lt_of_lt_mul ?_
  have := Nat.mul_le_mul_right 4294967296 (show r + 1 ≤ b from hr)
  omega

theorem val_take_getD (l : List Nat) (k : Nat) : val (l.take (k + 1)) = val (l.take k) + 4294967296 ^ k * l.getD k 0 := by
  by_cases h : k < l.length
  · rw [val_take_succ (List.getElem?_eq_getElem h), List.getD, List.getElem?_eq_getElem h]; rfl
  · rw [take_ge (by omega), List.getD, List.getElem?_eq_none (by omega)]; rfl

theorem getD_lt {l : List Nat} {k m : Nat} (h : ∀ x ∈ l, x < m) (hm : 0 < m) : l.getD k 0 < m := by
  by_cases hk : k < l.length
  · rw [List.getD, List.getElem?_eq_getElem hk]; exact h _ (List.getElem_mem hk)
  · rw [List.getD, List.getElem?_eq_none (by omega)]; exact hm

theorem getD_ge {l : List Nat} {k : Nat} (h : l.length ≤ k) : l.getD k 0 = 0 := by rw [List.getD, List.getElem?_eq_none h]; rfl

theorem val_snoc {l : List Nat} {x : Nat} : val (l ++ [x]) = val l + 4294967296 ^ l.length * x := by rw [val_append]; simp [val]

theorem snoc_lt {l : List Nat} {z m : Nat} (h : ∀ x ∈ l, x < m) (hz : z < m) : ∀ x ∈ l ++ [z], x < m := fun x hx => by
  rcases List.mem_append.1 hx with h1 | h1
  · exact h x h1
  · rw [List.mem_singleton.1 h1]; exact hz
end Go.Proofs.Ytlhgkefaflpgeaa

namespace Go.Proofs.Ytlhgkefaflpgeaa
set_option maxRecDepth 100000
set_option linter.unusedVariables false
set_option linter.unusedSimpArgs false
--plain
def binom : Nat → Nat → Nat
  | _, 0 => 1
  | 0, _ + 1 => 0
  | n + 1, k + 1 => binom n k + binom n (k + 1)

theorem binom_zero (n : Nat) : binom n 0 = 1 := by cases n <;> rfl
theorem binom_succ (n k : Nat) : binom (n + 1) (k + 1) = binom n k + binom n (k + 1) := rfl

theorem binom_gt : ∀ (n k : Nat), n < k → binom n k = 0 := by
  intro n
  induction n with
  | zero => intro k h; cases k with
    | zero => omega
    | succ k => rfl
  | succ n ih => intro k h; cases k with
    | zero => omega
    | succ k => rw [binom_succ, ih k (by omega), ih (k + 1) (by omega)]

theorem binom_self (n : Nat) : binom n n = 1 := by
  induction n with
  | zero => rfl
  | succ n ih => rw [binom_succ, ih, binom_gt n (n + 1) (by omega)]

theorem binom_symm : ∀ (n a b : Nat), a + b = n → binom n a = binom n b := by
  intro n
  induction n with
  | zero => intro a b h; have : a = 0 := by omega
            have : b = 0 := by omega
            subst_vars; rfl
  | succ n ih =>
    intro a b h
    cases a with
    | zero => have : b = n + 1 := by omega
              subst this; rw [binom_self, binom_zero]
    | succ a => cases b with
      | zero => have : a = n := by omega
                subst this; rw [binom_self, binom_zero]
      | succ b => rw [binom_succ, binom_succ, ih a (b + 1) (by omega), ih (a + 1) b (by omega), Nat.add_comm]

theorem binom_le (n : Nat) : ∀ k, binom n k ≤ 2 ^ n := by
  induction n with
  | zero => intro k; cases k <;> simp [binom]
  | succ n ih => intro k; cases k with
    | zero => rw [binom_zero]; exact Nat.pow_pos (by omega)
    | succ k => rw [binom_succ, Nat.pow_succ]; have := ih k; have := ih (k + 1); omega

theorem binom_step : ∀ (n k m : Nat), n = k + m → (k + 1) * binom n (k + 1) = m * binom n k := by
  intro n
  induction n with
  | zero => intro k m h; have : k = 0 := by omega
            have : m = 0 := by omega
            subst_vars; rfl
  | succ n ih =>
    intro k m h
    cases k with
    | zero =>
      have hm : m = n + 1 := by omega
      subst hm
      have := ih 0 n (by omega)
      rw [binom_succ, binom_zero, binom_zero] at *
      simp only [Nat.zero_add, Nat.one_mul, Nat.mul_one] at this ⊢
      omega
    | succ j =>
      cases m with
      | zero => rw [Nat.zero_mul, binom_gt (n + 1) (j + 1 + 1) (by omega), Nat.mul_zero]
      | succ m =>
        have h1 := ih j (m + 1) (by omega)
        have h2 := ih (j + 1) m (by omega)
        rw [binom_succ, binom_succ]
        have h3 : (j + 1 + 1) * (binom n (j + 1) + binom n (j + 1 + 1)) = (j + 1) * binom n (j + 1) + binom n (j + 1) + (j + 1 + 1) * binom n (j + 1 + 1) := by rw [Nat.mul_add, Nat.add_mul (j + 1) 1, Nat.one_mul]
        rw [h3, h2, h1, Nat.mul_add, Nat.add_mul m 1 (binom n (j + 1)), Nat.one_mul]
        omega

/-- From one to the next. -/
theorem binom_next {n k : Nat} (h : k ≤ n) : binom n k * (n - k) / (k + 1) = binom n (k + 1) := by
  have := binom_step n k (n - k) (by omega)
  rw [Nat.mul_comm, ← this]
  exact Nat.mul_div_cancel_left _ (by omega)

theorem binom_min {n k : Nat} (h : k ≤ n) : binom n (if n - k < k then n - k else k) = binom n k := by
  split
  · exact binom_symm n (n - k) k (by omega)
  · rfl

theorem pow_chain {x n m k : Nat} (h : x ≤ 2 ^ n) (hn : n ≤ m) (hm : m < 32 * k) : x < 4294967296 ^ k := by
  have e : (4294967296 : Nat) ^ k = 2 ^ (32 * k) := by rw [Nat.pow_mul]
  rw [e]
  exact Nat.lt_of_le_of_lt h (Nat.pow_lt_pow_right (by decide) (by omega))

theorem binom_len {n : Nat} (h : n ≤ 4096) (k : Nat) : (limbs (binom n k)).length ≤ 129 :=
  limbs_length_le (pow_chain (binom_le n k) h (by decide))
end Go.Proofs.Ytlhgkefaflpgeaa

namespace Go.Proofs.Ytlhgkefaflpgeaa
set_option maxRecDepth 100000
set_option linter.unusedVariables false
set_option linter.unusedSimpArgs false
--plain
def blen (n : Nat) : Nat := if _h : n = 0 then 0 else blen (n / 2) + 1
termination_by n
decreasing_by omega

theorem blen_zero : blen 0 = 0 := by rw [blen]; rfl
theorem blen_pos {n : Nat} (h : n ≠ 0) : blen n = blen (n / 2) + 1 := by rw [blen, dif_neg h]

theorem blen_div (k : Nat) : ∀ n, 2 ^ k ≤ n → blen n = blen (n / 2 ^ k) + k := by
  induction k with
  | zero => intro n _; simp
  | succ k ih =>
    intro n h
    have h0 : 0 < 2 ^ k := Nat.pow_pos (by omega)
    rw [Nat.pow_succ] at h
    rw [blen_pos (by omega), ih (n / 2) (by omega), Nat.div_div_eq_div_mul, Nat.pow_succ, Nat.mul_comm 2]; omega

def blenF : Nat → Nat → Nat
  | 0, _ => 0
  | f + 1, n => if n = 0 then 0 else blenF f (n / 2) + 1

theorem blenF_eq (f : Nat) : ∀ n, n < 2 ^ f → blenF f n = blen n := by
  induction f with
  | zero => intro n h; have : n = 0 := by simpa using h
            subst this; rw [blen_zero]; rfl
  | succ f ih =>
    intro n h
    rw [blenF]
    by_cases h0 : n = 0
    · subst h0; rw [if_pos rfl, blen_zero]
    · rw [if_neg h0, blen_pos h0, ih _ (by rw [Nat.pow_succ] at h; omega)]

theorem blen_le {n k : Nat} (h : n < 2 ^ k) : blen n ≤ k := by
  induction k generalizing n with
  | zero => have : n = 0 := by simpa using h
            subst this; rw [blen_zero]; omega
  | succ k ih =>
    by_cases h0 : n = 0
    · subst h0; rw [blen_zero]; omega
    · rw [blen_pos h0]; have := ih (n := n / 2) (by rw [Nat.pow_succ] at h; omega); omega

theorem blen_eq_zero {n : Nat} : blen n = 0 ↔ n = 0 := by
  constructor
  · intro h
    by_cases h0 : n = 0
    · exact h0
    · rw [blen_pos h0] at h; omega
  · rintro rfl; exact blen_zero

theorem blen_eq_one {n : Nat} : blen n = 1 ↔ n = 1 := by
  constructor
  · intro h
    by_cases h0 : n = 0
    · subst h0; rw [blen_zero] at h; omega
    · rw [blen_pos h0] at h
      have := blen_eq_zero.1 (show blen (n / 2) = 0 by omega)
      omega
  · rintro rfl; rw [blen_pos (by omega)]; simp [blen_zero]

/-- The check of a table of bit lengths, and what it gives. -/
def tabOk (s : ByteArray) : Bool := (List.range 256).all fun n => match s[n]? with
  | some b => b.toNat == blenF 8 n
  | none => false

theorem tab_get {s : ByteArray} (h : tabOk s = true) {n : Nat} (hn : n < 256) : s[n]? = some (UInt8.ofNat (blen n)) := by
  unfold tabOk at h
  have := List.all_eq_true.1 h n (List.mem_range.2 hn)
  cases hs : s[n]? with
  | none => rw [hs] at this; simp at this
  | some b =>
    rw [hs] at this
    simp only [beq_iff_eq] at this
    rw [blenF_eq 8 n (by simpa using hn)] at this
    rw [← this]; simp

/-- The digits of a list, counted. -/
def bitsL (l : List Nat) : Nat := match (trim l).getLast? with
  | none => 0
  | some x => 32 * ((trim l).length - 1) + blen x

theorem bitsL_nil {l : List Nat} (h : (trim l).length = 0) : bitsL l = 0 := by
  have : trim l = [] := List.length_eq_zero_iff.1 h
  unfold bitsL; rw [this]; rfl

theorem bitsL_top {l : List Nat} {z : Nat} (h : (trim l)[(trim l).length - 1]? = some z) : bitsL l = 32 * ((trim l).length - 1) + blen z := by
  unfold bitsL
  rw [List.getLast?_eq_getElem?, h]

/-- One limb. -/
theorem bitsL_small {l : List Nat} {n : Nat} (h : trim l = limbs n) (hn : n < 4294967296) : bitsL l = blen n := by
  unfold bitsL
  rw [h]
  by_cases h0 : n = 0
  · subst h0; rw [limbs_zero, blen_zero]; rfl
  · rw [limbs_small h0 hn]; simp

theorem pow_half (s n : Nat) : s ^ n = s ^ (n % 2) * (s * s) ^ (n / 2) := by
  have h : n = n % 2 + 2 * (n / 2) := by omega
  have h2 : (s * s) ^ (n / 2) = s ^ (2 * (n / 2)) := by rw [Nat.pow_mul, Nat.pow_two]
  rw [h2, ← Nat.pow_add, ← h]

theorem pow_odd {o s n W : Nat} (h : o * s ^ n = W) (hn : n % 2 = 1) : o * s * (s * s) ^ (n / 2) = W := by
  rw [← h, pow_half s n, hn, Nat.pow_one, Nat.mul_assoc]

theorem pow_even {o s n W : Nat} (h : o * s ^ n = W) (hn : n % 2 = 0) : o * (s * s) ^ (n / 2) = W := by
  rw [← h, pow_half s n, hn, Nat.pow_zero, Nat.one_mul]

theorem pow_bounds {o s n W : Nat} (h : o * s ^ n = W) (ho : 1 ≤ o) (hs : 1 ≤ s) (hn : 1 ≤ n) : o ≤ W ∧ s ≤ W ∧ o * s ≤ W := by
  have h1 : 1 ≤ s ^ n := Nat.pow_pos hs
  have h2 : s ≤ s ^ n := by
    have := Nat.pow_le_pow_right hs hn
    rwa [Nat.pow_one] at this
  refine ⟨?_, ?_, ?_⟩
  · rw [← h]; exact Nat.le_mul_of_pos_right _ h1
  · rw [← h]; exact Nat.le_trans h2 (Nat.le_mul_of_pos_left _ ho)
  · rw [← h]; exact Nat.mul_le_mul_left _ h2

theorem limbs_mono {x W k : Nat} (h : (limbs W).length ≤ k) (hx : x ≤ W) : (limbs x).length ≤ k :=
  limbs_length_le (Nat.lt_of_le_of_lt hx (limbs_le_length h))
end Go.Proofs.Ytlhgkefaflpgeaa

namespace Go.Proofs.Ytlhgkefaflpgeaa
set_option maxRecDepth 100000
set_option linter.unusedVariables false
set_option linter.unusedSimpArgs false
--plain
/-- The sign of a comparison. -/
def cmpN (a b : Nat) : Int := if a < b then -1 else if b < a then 1 else 0

theorem cmpN_lt {a b : Nat} (h : a < b) : cmpN a b = -1 := by rw [cmpN, if_pos h]
theorem cmpN_gt {a b : Nat} (h : b < a) : cmpN a b = 1 := by rw [cmpN, if_neg (by omega), if_pos h]
theorem cmpN_eq {a b : Nat} (h : a = b) : cmpN a b = 0 := by rw [cmpN, if_neg (by omega), if_neg (by omega)]

theorem val_take_drop (l : List Nat) (k : Nat) (hk : k ≤ l.length) : val l = val (l.take k) + 4294967296 ^ k * val (l.drop k) := by
  have h := val_append (l.take k) (l.drop k)
  rw [List.take_append_drop, List.length_take, Nat.min_eq_left hk] at h
  exact h

theorem take_lt {l : List Nat} (h : ∀ x ∈ l, x < 4294967296) {k : Nat} (hk : k ≤ l.length) : val (l.take k) < 4294967296 ^ k := by
  have := val_lt (l := l.take k) (fun x hx => h x (List.mem_of_mem_take hx))
  rwa [List.length_take, Nat.min_eq_left hk] at this

theorem lt_of_len {x y : Nat} (h : (limbs x).length < (limbs y).length) : x < y := by
  rcases Nat.lt_or_ge x y with h1 | h1
  · exact h1
  · have := limbs_mono (x := y) (W := x) (Nat.le_refl _) h1
    omega

/-- The most significant limb that differs decides. -/
theorem lt_of_top {l m : List Nat} {k x y : Nat} (hl : ∀ z ∈ l, z < 4294967296) (hd : val (l.drop (k + 1)) = val (m.drop (k + 1))) (hx : l[k]? = some x) (hy : m[k]? = some y) (h : x < y) : val l < val m := by
  have hkl : k < l.length := (List.getElem?_eq_some_iff.1 hx).1
  have hkm : k < m.length := (List.getElem?_eq_some_iff.1 hy).1
  rw [val_take_drop l k (by omega), val_take_drop m k (by omega), val_drop hx, val_drop hy, hd]
  have h1 := take_lt hl (Nat.le_of_lt hkl)
  generalize 4294967296 ^ k = P at *
  generalize val (m.drop (k + 1)) = V at *
  have e : P * (x + 4294967296 * V) + P = P * ((x + 1) + 4294967296 * V) := by rw [← Nat.mul_succ]; congr 1; omega
  have h2 : P * ((x + 1) + 4294967296 * V) ≤ P * (y + 4294967296 * V) := Nat.mul_le_mul_left _ (by omega)
  omega

theorem drop_step {l m : List Nat} {k x : Nat} (hd : l.drop (k + 1) = m.drop (k + 1)) (hx : l[k]? = some x) (hy : m[k]? = some x) : l.drop k = m.drop k := by
  obtain ⟨h1, rfl⟩ := List.getElem?_eq_some_iff.1 hx
  obtain ⟨h2, e⟩ := List.getElem?_eq_some_iff.1 hy
  rw [List.drop_eq_getElem_cons h1, List.drop_eq_getElem_cons h2, hd, e]

/-- A limb less another and a borrow, in a word. -/
theorem borrow_word {b x y d : Nat} (hb : b ≤ 1) (hx : x < 4294967296) (hy : y < 4294967296) (hd : d = ((x + 18446744073709551616 - b) % 18446744073709551616 + 18446744073709551616 - y) % 18446744073709551616) :
    d % 4294967296 + y + b = x + 4294967296 * (d / 9223372036854775808) ∧ d / 9223372036854775808 ≤ 1 := by omega

theorem borrow_step {V P b A c x y d : Nat} (h : V + c = A + P * b) (hb : b ≤ 1) (hx : x < 4294967296) (hy : y < 4294967296) (hd : d = ((x + 18446744073709551616 - b) % 18446744073709551616 + 18446744073709551616 - y) % 18446744073709551616) :
    V + P * (d % 4294967296) + (c + P * y) = A + P * x + P * 4294967296 * (d / 9223372036854775808) := by
  have e := (borrow_word hb hx hy hd).1
  have e2 : P * (d % 4294967296) + P * y + P * b = P * x + P * 4294967296 * (d / 9223372036854775808) := by
    rw [Nat.mul_assoc, ← Nat.mul_add, ← Nat.mul_add, ← Nat.mul_add, e]
  omega

theorem get_some {α : Type} {l : List α} {i : Nat} {dflt : α} (h : i < l.length) : l[i]? = some (l.getD i dflt) := by
  rw [List.getD, List.getElem?_eq_getElem h]; rfl

/-- Behind the last limb nothing is borrowed. -/
theorem sub_end {out b : List Nat} {A n c : Nat} (ho : ∀ x ∈ out, x < 4294967296) (hl : out.length = n) (hc : c ≤ 1) (hab : val b ≤ A) (he : val out + val (b.take n) = A + 4294967296 ^ n * c) : c = 0 ∧ val out = A - val b := by
  have h1 := val_lt ho
  rw [hl] at h1
  have hA : val b = val (b.take n) + 4294967296 ^ n * val (b.drop n) := by
    rcases Nat.le_total b.length n with h | h
    · rw [List.take_of_length_le h, List.drop_of_length_le h]; simp [val]
    · exact val_take_drop b _ h
  generalize 4294967296 ^ n = P at *
  have hD : val (b.drop n) = 0 := by
    rcases Nat.eq_zero_or_pos (val (b.drop n)) with h | h
    · exact h
    · have : P * 1 ≤ P * val (b.drop n) := Nat.mul_le_mul_left _ h
      have : P * c ≤ P * 1 := Nat.mul_le_mul_left _ hc
      omega
  rw [hD, Nat.mul_zero, Nat.add_zero] at hA
  have hc0 : c = 0 := by
    rcases Nat.eq_zero_or_pos c with h | h
    · exact h
    · have : P * 1 ≤ P * c := Nat.mul_le_mul_left _ h
      omega
  subst hc0
  exact ⟨rfl, by omega⟩

theorem sub_word {x y c w : Nat} (hx : x < 4294967296) (hy : y < 4294967296) (hc : c ≤ 1) (hw : w = x + 4294967296 - y - c) : w % 4294967296 + y + c = x + 4294967296 * (1 - w / 4294967296) ∧ 1 - w / 4294967296 ≤ 1 := by omega

theorem sub_step {V P b A c x y w : Nat} (h : V + b = A + P * c) (hc : c ≤ 1) (hx : x < 4294967296) (hy : y < 4294967296) (hw : w = x + 4294967296 - y - c) : V + P * (w % 4294967296) + (b + P * y) = A + P * x + P * 4294967296 * (1 - w / 4294967296) := by
  have e := (sub_word hx hy hc hw).1
  have e2 : P * (w % 4294967296) + P * y + P * c = P * x + P * 4294967296 * (1 - w / 4294967296) := by
    rw [Nat.mul_assoc, ← Nat.mul_add, ← Nat.mul_add, ← Nat.mul_add, e]
  omega
end Go.Proofs.Ytlhgkefaflpgeaa

namespace Go.Proofs.Ytlhgkefaflpgeaa
set_option maxRecDepth 100000
set_option linter.unusedVariables false
set_option linter.unusedSimpArgs false
--plain
/-- A sign and a size. -/
def sg (neg : Bool) (n : Nat) : Int := if neg then -(n : Int) else n
/-- A fraction of the program or of the document: its sign, its numerator, its denominator. -/
abbrev Rt3 := Bool × List Nat × List Nat
/-- What it says; 0 if the denominator is. -/
def vq (r : Rt3) : Rat := mkRat (sg r.1 (val r.2.1)) (val r.2.2)
/-- The canonical form. -/
def rt (q : Rat) : Rt3 := (decide (q.num < 0), limbs q.num.natAbs, limbs q.den)

theorem sg_abs (neg : Bool) (n : Nat) : (sg neg n).natAbs = n := by unfold sg; split <;> omega
theorem sg_int (z : Int) : sg (decide (z < 0)) z.natAbs = z := by
  unfold sg
  by_cases h : z < 0
  · rw [decide_eq_true h, if_pos rfl]; omega
  · rw [decide_eq_false h, if_neg (by decide)]; omega
theorem sg_num (q : Rat) : sg (decide (q.num < 0)) q.num.natAbs = q.num := sg_int _
theorem sg_not (neg : Bool) (n : Nat) : sg (!neg) n = -sg neg n := by cases neg <;> simp [sg]
theorem sg_mul (a b : Bool) (m n : Nat) : sg (a != b) (m * n) = sg a m * sg b n := by
  cases a <;> cases b <;> simp [sg, Int.neg_mul, Int.mul_neg]
theorem sg_zero (neg : Bool) : sg neg 0 = 0 := by cases neg <;> rfl
theorem sg_eq_zero {neg : Bool} {n : Nat} : sg neg n = 0 ↔ n = 0 := by unfold sg; split <;> omega
theorem sg_lt {neg : Bool} {n : Nat} (h : n ≠ 0) : decide (sg neg n < 0) = neg := by cases neg <;> simp [sg] <;> omega

theorem vq_rt (q : Rat) : vq (rt q) = q := by
  simp only [vq, rt, val_limbs, sg_num, Rat.mkRat_self]

theorem vq_rt' (q : Rat) : vq ((rt q).1, (rt q).2.1, (rt q).2.2) = q := vq_rt q

theorem rt_inj {a b : Rat} (h : rt a = rt b) : a = b := by rw [← vq_rt a, h, vq_rt]

theorem rt_zero : rt 0 = (false, [], [1]) := by
  show (decide ((0 : Rat).num < 0), limbs (0 : Rat).num.natAbs, limbs (0 : Rat).den) = _
  have e1 : (0 : Rat).num = 0 := rfl
  have e2 : (0 : Rat).den = 1 := rfl
  rw [e1, e2, limbs_one]
  simp [limbs_zero]

theorem rt_one : rt 1 = (false, [1], [1]) := by
  show (decide ((1 : Rat).num < 0), limbs (1 : Rat).num.natAbs, limbs (1 : Rat).den) = _
  have e1 : (1 : Rat).num = 1 := rfl
  have e2 : (1 : Rat).den = 1 := rfl
  rw [e1, e2, limbs_one]
  simp [limbs_one]

/-- Canonical, by dividing by the greatest common divisor. -/
theorem rt_mk {neg : Bool} {n d : Nat} (hn : n ≠ 0) (hd : d ≠ 0) : rt (mkRat (sg neg n) d) = (neg, limbs (n / Nat.gcd n d), limbs (d / Nat.gcd n d)) := by
  have hg : 0 < Nat.gcd n d := Nat.gcd_pos_of_pos_left _ (by omega)
  have e1 : (mkRat (sg neg n) d).num = sg neg (n / Nat.gcd n d) := by
    rw [Rat.num_mkRat, if_neg hd, sg_abs, Nat.gcd_comm]
    have hdv : n / Nat.gcd n d * Nat.gcd n d = n := Nat.div_mul_cancel (Nat.gcd_dvd_left _ _)
    generalize Nat.gcd n d = g at *
    generalize n / g = m at *
    have : sg neg n = sg neg m * (g : Int) := by rw [← hdv]; unfold sg; split <;> simp [Int.neg_mul]
    rw [this, Int.mul_ediv_cancel _ (by omega)]
  have e2 : (mkRat (sg neg n) d).den = d / Nat.gcd n d := by rw [Rat.den_mkRat, if_neg hd, sg_abs, Nat.gcd_comm]
  have hne : n / Nat.gcd n d ≠ 0 := by
    have : Nat.gcd n d ≤ n := Nat.gcd_le_left _ (by omega)
    have := Nat.div_pos this hg
    omega
  simp only [rt, e1, e2, sg_abs, sg_lt hne]

theorem mk_zero {neg : Bool} {n d : Nat} (h : n = 0 ∨ d = 0) : mkRat (sg neg n) d = 0 := by
  rcases h with h | h
  · subst h; rw [sg_zero, Rat.zero_mkRat]
  · subst h; rw [Rat.mkRat_zero]

/-- The parts of a canonical fraction. -/
theorem den_ne (q : Rat) : val (rt q).2.2 ≠ 0 := by show val (limbs q.den) ≠ 0; rw [val_limbs]; exact q.den_nz
theorem vq_sub {q : Rat} : sg (rt q).1 (val (rt q).2.1) = q.num := by show sg _ (val (limbs _)) = _; rw [val_limbs]; exact sg_num q
theorem num_rt (q : Rat) : val (rt q).2.1 = q.num.natAbs := val_limbs _
theorem den_rt (q : Rat) : val (rt q).2.2 = q.den := val_limbs _
theorem neg_rt (q : Rat) : (rt q).1 = decide (q.num < 0) := rfl

theorem vq_eq (r : Rt3) : vq r = mkRat (sg r.1 (val r.2.1)) (val r.2.2) := rfl

/-- The sum of two fractions over the product of the denominators, their signs equal. -/
theorem add_same {p q : Rat} (h : decide (p.num < 0) = decide (q.num < 0)) : mkRat (sg (decide (p.num < 0)) (p.num.natAbs * q.den + q.num.natAbs * p.den)) (p.den * q.den) = p + q := by
  conv => rhs; rw [← Rat.mkRat_self p, ← Rat.mkRat_self q, Rat.mkRat_add_mkRat _ _ p.den_nz q.den_nz]
  congr 1
  generalize p.num = x at h ⊢
  generalize q.num = y at h ⊢
  by_cases hp : x < 0
  · have hq : y < 0 := by simpa [hp] using h
    have e1 : (x.natAbs : Int) = -x := by omega
    have e2 : (y.natAbs : Int) = -y := by omega
    rw [decide_eq_true hp, sg, if_pos rfl, Int.natCast_add, Int.natCast_mul, Int.natCast_mul, e1, e2]
    grind
  · have hq : ¬ y < 0 := by simpa [hp] using h
    have e1 : (x.natAbs : Int) = x := by omega
    have e2 : (y.natAbs : Int) = y := by omega
    rw [decide_eq_false hp, sg, if_neg (by decide), Int.natCast_add, Int.natCast_mul, Int.natCast_mul, e1, e2]

/-- Their signs different. -/
theorem add_diff {p q : Rat} (h : decide (p.num < 0) ≠ decide (q.num < 0)) (hle : q.num.natAbs * p.den ≤ p.num.natAbs * q.den) : mkRat (sg (decide (p.num < 0)) (p.num.natAbs * q.den - q.num.natAbs * p.den)) (p.den * q.den) = p + q := by
  conv => rhs; rw [← Rat.mkRat_self p, ← Rat.mkRat_self q, Rat.mkRat_add_mkRat _ _ p.den_nz q.den_nz]
  congr 1
  have hc : ((p.num.natAbs * q.den - q.num.natAbs * p.den : Nat) : Int) = p.num.natAbs * q.den - q.num.natAbs * p.den := by
    rw [Int.ofNat_sub hle, Int.natCast_mul, Int.natCast_mul]
  generalize p.num.natAbs * q.den - q.num.natAbs * p.den = w at hc ⊢
  generalize p.num = x at h hc ⊢
  generalize q.num = y at h hc ⊢
  by_cases hp : x < 0
  · have hq : ¬ y < 0 := by simpa [hp] using h
    have e1 : (x.natAbs : Int) = -x := by omega
    have e2 : (y.natAbs : Int) = y := by omega
    rw [decide_eq_true hp, sg, if_pos rfl, hc, e1, e2]
    grind
  · have hq : y < 0 := by simpa [hp] using h
    have e1 : (x.natAbs : Int) = x := by omega
    have e2 : (y.natAbs : Int) = -y := by omega
    rw [decide_eq_false hp, sg, if_neg (by decide), hc, e1, e2]
    grind

theorem mul_mk (p q : Rat) : mkRat (sg (decide (p.num < 0) != decide (q.num < 0)) (p.num.natAbs * q.num.natAbs)) (p.den * q.den) = p * q := by
  rw [sg_mul, sg_num, sg_num, ← Rat.mkRat_mul_mkRat, Rat.mkRat_self, Rat.mkRat_self]

theorem neg_mk (n : Bool) (a d : Nat) : mkRat (sg (!n) a) d = -mkRat (sg n a) d := by rw [sg_not, Rat.neg_mkRat]

/-- Both parts of a fraction have at most so many limbs. -/
def bd (k : Nat) (q : Rat) : Prop := q.num.natAbs < 4294967296 ^ k ∧ q.den < 4294967296 ^ k

theorem bd_mk {k : Nat} {n : Bool} {a d : Nat} (hk : 1 ≤ k) (ha : a < 4294967296 ^ k) (hd : d < 4294967296 ^ k) : bd k (mkRat (sg n a) d) := by
  have hp : 1 < 4294967296 ^ k := Nat.one_lt_pow (by omega) (by decide)
  constructor
  · rw [Rat.num_mkRat]
    split
    · simp; omega
    · refine Nat.lt_of_le_of_lt (Int.natAbs_ediv_le_natAbs _ _) ?_
      rw [sg_abs]; exact ha
  · rw [Rat.den_mkRat]
    split
    · exact hp
    · exact Nat.lt_of_le_of_lt (Nat.div_le_self _ _) hd

theorem bd_mono {k m : Nat} {q : Rat} (h : bd k q) (hk : k ≤ m) : bd m q :=
  ⟨Nat.lt_of_lt_of_le h.1 (Nat.pow_le_pow_right (by decide) hk), Nat.lt_of_lt_of_le h.2 (Nat.pow_le_pow_right (by decide) hk)⟩

theorem bd_len {k : Nat} {q : Rat} (h : bd k q) : (rt q).2.1.length ≤ k ∧ (rt q).2.2.length ≤ k := ⟨limbs_length_le h.1, limbs_length_le h.2⟩

theorem bd_neg {k : Nat} {q : Rat} (h : bd k q) : bd k (-q) := by
  refine ⟨?_, by rw [Rat.neg_den]; exact h.2⟩
  rw [Rat.neg_num, Int.natAbs_neg]; exact h.1

theorem mul_pow {a b j k : Nat} (ha : a < 4294967296 ^ j) (hb : b < 4294967296 ^ k) : a * b < 4294967296 ^ (j + k) := by
  rw [Nat.pow_add]
  exact Nat.mul_lt_mul'' ha hb

theorem bd_mul {j k : Nat} {p q : Rat} (hp : bd j p) (hq : bd k q) (h : 1 ≤ j + k) : bd (j + k) (p * q) := by
  rw [← mul_mk]
  exact bd_mk h (mul_pow hp.1 hq.1) (mul_pow hp.2 hq.2)

theorem bd_add {j k : Nat} {p q : Rat} (hp : bd j p) (hq : bd k q) : bd (j + k + 1) (p + q) := by
  conv => rw [← Rat.mkRat_self p, ← Rat.mkRat_self q, Rat.mkRat_add_mkRat _ _ p.den_nz q.den_nz]
  have h1 := mul_pow hp.1 hq.2
  have h2 := mul_pow hq.1 hp.2
  rw [Nat.add_comm k j] at h2
  have h3 := mul_pow hp.2 hq.2
  have e : ∀ z : Int, z = sg (decide (z < 0)) z.natAbs := fun z => (sg_int z).symm
  rw [e (p.num * q.den + q.num * p.den)]
  refine bd_mk (by omega) ?_ (Nat.lt_of_lt_of_le h3 (Nat.pow_le_pow_right (by decide) (by omega)))
  have h4 : (p.num * q.den + q.num * p.den).natAbs ≤ p.num.natAbs * q.den + q.num.natAbs * p.den := by
    refine Nat.le_trans (Int.natAbs_add_le _ _) ?_
    rw [Int.natAbs_mul, Int.natAbs_mul]; simp
  rw [Nat.pow_succ]
  omega

theorem bd_vq {k : Nat} {r : Rt3} (h1 : ∀ x ∈ r.2.1, x < 4294967296) (h2 : ∀ x ∈ r.2.2, x < 4294967296) (l1 : r.2.1.length ≤ k) (l2 : r.2.2.length ≤ k) (hk : 1 ≤ k) : bd k (vq r) :=
  bd_mk hk (Nat.lt_of_lt_of_le (val_lt h1) (Nat.pow_le_pow_right (by decide) l1)) (Nat.lt_of_lt_of_le (val_lt h2) (Nat.pow_le_pow_right (by decide) l2))

theorem mk_sign {neg : Bool} {n d : Nat} (hn : n ≠ 0) (hd : d ≠ 0) : (mkRat (sg neg n) d).num.sign = if neg then -1 else 1 := by
  have h := rt_mk (neg := neg) hn hd
  have h1 : decide ((mkRat (sg neg n) d).num < 0) = neg := congrArg (fun x : Rt3 => x.1) h
  have h2 : limbs (mkRat (sg neg n) d).num.natAbs = limbs (n / Nat.gcd n d) := congrArg (fun x : Rt3 => x.2.1) h
  have h3 := limbs_inj h2
  have hne : n / Nat.gcd n d ≠ 0 := by
    have hg : 0 < Nat.gcd n d := Nat.gcd_pos_of_pos_left _ (by omega)
    have : Nat.gcd n d ≤ n := Nat.gcd_le_left _ (by omega)
    have := Nat.div_pos this hg
    omega
  generalize (mkRat (sg neg n) d).num = z at *
  cases neg with
  | true =>
    have : z < 0 := by simpa using h1
    rw [Int.sign_eq_neg_one_of_neg this]; rfl
  | false =>
    have : ¬ z < 0 := by simpa using h1
    rw [Int.sign_eq_one_of_pos (by omega)]; rfl

/-- The product of a list. -/
def prodQ : List Rt3 → Rat
  | [] => 1
  | r :: ls => vq r * prodQ ls
theorem prodQ_snoc (ls : List Rt3) (r : Rt3) : prodQ (ls ++ [r]) = prodQ ls * vq r := by
  induction ls with
  | nil => simp [prodQ]
  | cons x l ih => rw [List.cons_append, prodQ, prodQ, ih, Rat.mul_assoc]
theorem prodQ_take {ls : List Rt3} {k : Nat} {z : Rt3} (h : ls[k]? = some z) : prodQ (ls.take (k + 1)) = prodQ (ls.take k) * vq z := by
  rw [List.take_add_one, h]; exact prodQ_snoc _ _

/-- The sum of a list. -/
def sumQ : List Rt3 → Rat
  | [] => 0
  | r :: ls => vq r + sumQ ls
theorem sumQ_snoc (ls : List Rt3) (r : Rt3) : sumQ (ls ++ [r]) = sumQ ls + vq r := by
  induction ls with
  | nil => simp [sumQ, Rat.add_zero, Rat.zero_add]
  | cons x l ih => rw [List.cons_append, sumQ, sumQ, ih, Rat.add_assoc]
theorem sumQ_take {ls : List Rt3} {k : Nat} {z : Rt3} (h : ls[k]? = some z) : sumQ (ls.take (k + 1)) = sumQ (ls.take k) + vq z := by
  rw [List.take_add_one, h]; exact sumQ_snoc _ _
theorem prodQ_two (a b : Rt3) : prodQ [a, b] = vq a * vq b := by simp [prodQ]
theorem sumQ_two (a b : Rt3) : sumQ [a, b] = vq a + vq b := by simp [sumQ, Rat.add_zero]

theorem bd_one {k : Nat} (h : 1 ≤ k) : bd k 1 := by
  have hp : 1 < 4294967296 ^ k := Nat.one_lt_pow (by omega) (by decide)
  exact ⟨by show (1 : Rat).num.natAbs < _; exact hp, by show (1 : Rat).den < _; exact hp⟩
theorem bd_zero {k : Nat} (h : 1 ≤ k) : bd k 0 := by
  have hp : 1 < 4294967296 ^ k := Nat.one_lt_pow (by omega) (by decide)
  exact ⟨by show (0 : Rat).num.natAbs < _; exact Nat.lt_trans (by decide) hp, by show (0 : Rat).den < _; exact hp⟩

/-- The numbers of a list are in order, and of so many limbs. -/
def okR (k : Nat) (r : Rt3) : Prop := (∀ x ∈ r.2.1, x < 4294967296) ∧ (∀ x ∈ r.2.2, x < 4294967296) ∧ r.2.1.length ≤ k ∧ r.2.2.length ≤ k
theorem okR_bd {k : Nat} {r : Rt3} (h : okR k r) (hk : 1 ≤ k) : bd k (vq r) := bd_vq h.1 h.2.1 h.2.2.1 h.2.2.2 hk

theorem prodQ_bd {k : Nat} {ls : List Rt3} (hk : 1 ≤ k) (h : ∀ r ∈ ls, okR k r) : bd (k * ls.length + 1) (prodQ ls) := by
  induction ls with
  | nil => exact bd_one (by simp)
  | cons x l ih =>
    have h1 := bd_mul (okR_bd (h x (.head _)) hk) (ih fun r hr => h r (.tail _ hr)) (by omega)
    exact bd_mono h1 (by rw [List.length_cons, Nat.mul_succ]; omega)

theorem sumQ_bd {k : Nat} {ls : List Rt3} (hk : 1 ≤ k) (h : ∀ r ∈ ls, okR k r) : bd ((k + 1) * ls.length + 1) (sumQ ls) := by
  induction ls with
  | nil => exact bd_zero (by simp)
  | cons x l ih =>
    have h1 := bd_add (okR_bd (h x (.head _)) hk) (ih fun r hr => h r (.tail _ hr))
    exact bd_mono h1 (by rw [List.length_cons, Nat.mul_succ]; omega)
end Go.Proofs.Ytlhgkefaflpgeaa

namespace Go.Proofs.Ytlhgkefaflpgeaa
set_option maxRecDepth 100000
set_option linter.unusedVariables false
set_option linter.unusedSimpArgs false
--plain
/-- A series times 1 + a z. -/
def lin (a : Int) (f : Nat → Int) : Nat → Int
  | 0 => f 0
  | k + 1 => f (k + 1) + a * f k
/-- The series 1. -/
def dl : Nat → Int
  | 0 => 1
  | _ + 1 => 0
def iter (a : Int) : Nat → (Nat → Int) → (Nat → Int)
  | 0, f => f
  | n + 1, f => lin a (iter a n f)
/-- (1 + a z)^m (1 - z)^x. -/
def pw (a : Int) (m x : Nat) : Nat → Int := iter a m (iter (-1) x dl)
/-- The value at x of the Krawtchouk polynomial of degree k, for a = q - 1. -/
def kr (a : Int) (n k x : Nat) : Int := pw a (n - x) x k

theorem lin_comm (a b : Int) (f : Nat → Int) : lin a (lin b f) = lin b (lin a f) := by
  funext k
  match k with
  | 0 => rfl
  | 1 => simp only [lin]; grind
  | k + 2 => simp only [lin]; grind

theorem iter_lin (a b : Int) (n : Nat) (f : Nat → Int) : iter a n (lin b f) = lin b (iter a n f) := by
  induction n with
  | zero => rfl
  | succ n ih => rw [iter, ih, lin_comm]; rfl

theorem pw_m (a : Int) (m x : Nat) : pw a (m + 1) x = lin a (pw a m x) := rfl
theorem pw_x (a : Int) (m x : Nat) : pw a m (x + 1) = lin (-1) (pw a m x) := iter_lin a (-1) m _

theorem pw_zero (a : Int) (m x : Nat) : pw a m x 0 = 1 := by
  induction m with
  | zero =>
    induction x with
    | zero => rfl
    | succ x ih => rw [pw_x]; exact ih
  | succ m ih => exact ih

/-- The step from one row of the table to the next. -/
theorem kr_next (a : Int) {n x : Nat} (hx : x < n) (k : Nat) : kr a n (k + 1) (x + 1) = kr a n (k + 1) x - kr a n k x - a * kr a n k (x + 1) := by
  obtain ⟨m, rfl⟩ : ∃ m, n = m + x + 1 := ⟨n - x - 1, by omega⟩
  have e1 : m + x + 1 - x = m + 1 := by omega
  have e2 : m + x + 1 - (x + 1) = m := by omega
  simp only [kr, e1, e2]
  have h1 : lin a (pw a m (x + 1)) = lin (-1) (pw a (m + 1) x) := by rw [pw_x, lin_comm, ← pw_m]
  have h2 := congrFun h1 (k + 1)
  simp only [lin] at h2
  omega
theorem kr_zero (a : Int) (n x : Nat) : kr a n 0 x = 1 := pw_zero a _ _

/-! ### Finite sums -/
def sm : Nat → (Nat → Int) → Int
  | 0, _ => 0
  | n + 1, f => sm n f + f n
theorem sm_congr {n : Nat} {f g : Nat → Int} (h : ∀ i, i < n → f i = g i) : sm n f = sm n g := by
  induction n with
  | zero => rfl
  | succ n ih => rw [sm, sm, ih fun i hi => h i (by omega), h n (by omega)]
theorem sm_add (n : Nat) (f g : Nat → Int) : sm n (fun i => f i + g i) = sm n f + sm n g := by
  induction n with
  | zero => rfl
  | succ n ih => simp only [sm, ih]; omega
theorem sm_sub (n : Nat) (f g : Nat → Int) : sm n (fun i => f i - g i) = sm n f - sm n g := by
  induction n with
  | zero => rfl
  | succ n ih => simp only [sm, ih]; omega
theorem sm_mul (n : Nat) (c : Int) (f : Nat → Int) : sm n (fun i => c * f i) = c * sm n f := by
  induction n with
  | zero => simp [sm]
  | succ n ih => simp only [sm, ih, Int.mul_add]
theorem sm_zero (n : Nat) : sm n (fun _ => 0) = 0 := by
  induction n with
  | zero => rfl
  | succ n ih => simp only [sm, ih]; rfl
theorem sm_head (n : Nat) (f : Nat → Int) : sm (n + 1) f = f 0 + sm n (fun i => f (i + 1)) := by
  induction n with
  | zero => simp [sm]
  | succ n ih => rw [sm, ih]; simp only [sm]; omega
theorem sm_swap (n m : Nat) (f : Nat → Nat → Int) : sm n (fun i => sm m (fun j => f i j)) = sm m (fun j => sm n (fun i => f i j)) := by
  induction n with
  | zero => simp only [sm]; exact (sm_zero m).symm
  | succ n ih => simp only [sm, ih, sm_add]

/-! ### The first row, and the document's sum -/
theorem iter_dl (a : Int) : ∀ (n k : Nat), iter a n dl k = (binom n k : Int) * a ^ k := by
  intro n
  induction n with
  | zero =>
    intro k
    cases k with
    | zero => simp [iter, dl, binom]
    | succ k => simp [iter, dl, binom]
  | succ n ih =>
    intro k
    cases k with
    | zero => show iter a n dl 0 = _; rw [ih, binom_zero, binom_zero]
    | succ k =>
      show iter a n dl (k + 1) + a * iter a n dl k = _
      rw [ih, ih, binom_succ, Int.natCast_add, Int.pow_succ]
      grind
theorem kr_first (a : Int) (n k : Nat) : kr a n k 0 = (binom n k : Int) * a ^ k := iter_dl a n k

def conv (f g : Nat → Int) (k : Nat) : Int := sm (k + 1) (fun j => f j * g (k - j))
theorem conv_lin (a : Int) (f g : Nat → Int) : conv f (lin a g) = lin a (conv f g) := by
  funext k
  cases k with
  | zero => simp [conv, sm, lin]
  | succ k =>
    have h1 : conv f (lin a g) (k + 1) = sm (k + 1) (fun j => f j * g (k + 1 - j) + a * (f j * g (k - j))) + f (k + 1) * g 0 := by
      rw [conv, sm]
      congr 1
      · refine sm_congr fun i hi => ?_
        have e : k + 1 - i = (k - i) + 1 := by omega
        rw [e]
        simp only [lin]
        grind
      · rw [Nat.sub_self]; rfl
    rw [h1, sm_add, sm_mul]
    show _ = conv f g (k + 1) + a * conv f g k
    simp only [conv]
    rw [sm.eq_2 _ (k + 1), Nat.sub_self]
    omega
theorem conv_dl (f : Nat → Int) : conv f dl = f := by
  funext k
  rw [conv, sm, Nat.sub_self]
  have : sm k (fun j => f j * dl (k - j)) = 0 := by
    rw [← sm_zero k]
    refine sm_congr fun i hi => ?_
    obtain ⟨d, hd⟩ : ∃ d, k - i = d + 1 := ⟨k - i - 1, by omega⟩
    rw [hd]; simp [dl]
  rw [this]; simp [dl]
theorem iter_conv (a : Int) (n : Nat) (f : Nat → Int) : iter a n f = conv f (iter a n dl) := by
  induction n with
  | zero => exact (conv_dl f).symm
  | succ n ih => rw [iter, ih]; exact (conv_lin a f _).symm
/-- The document's sum. -/
theorem kr_sum (a : Int) (n k x : Nat) : kr a n k x = sm (k + 1) (fun j => (binom x j : Int) * (-1) ^ j * ((binom (n - x) (k - j) : Int) * a ^ (k - j))) := by
  rw [kr, pw, iter_conv, conv]
  refine sm_congr fun i _ => ?_
  rw [iter_dl, iter_dl]

/-! ### Values of the series -/
theorem pw_deg (a : Int) (m x k : Nat) (h : m + x < k) : pw a m x k = 0 := by
  induction m generalizing k with
  | zero =>
    induction x generalizing k with
    | zero => cases k with
      | zero => omega
      | succ k => rfl
    | succ x ih =>
      rw [pw_x]
      cases k with
      | zero => omega
      | succ k =>
        show pw a 0 x (k + 1) + -1 * pw a 0 x k = 0
        rw [ih _ (by omega), ih _ (by omega)]; rfl
  | succ m ih =>
    cases k with
    | zero => omega
    | succ k =>
      show pw a m x (k + 1) + a * pw a m x k = 0
      rw [ih _ (by omega), ih _ (by omega), Int.mul_zero]; rfl

theorem val_lin (a z : Int) (f : Nat → Int) (n : Nat) (h : f n = 0) : sm (n + 1) (fun j => lin a f j * z ^ j) = (1 + a * z) * sm n (fun j => f j * z ^ j) := by
  have key : ∀ n, sm (n + 1) (fun j => lin a f j * z ^ j) = sm (n + 1) (fun j => f j * z ^ j) + a * z * sm n (fun j => f j * z ^ j) := by
    intro n
    induction n with
    | zero => simp [sm, lin]
    | succ n ih =>
      rw [sm, ih, sm.eq_2 _ (n + 1), sm.eq_2 _ n]
      simp only [lin, Int.pow_succ]
      generalize sm n (fun j => f j * z ^ j) = s
      grind
  rw [key, sm, h]
  grind

/-- The generating series, at z. -/
theorem pw_val (a z : Int) (m x : Nat) : sm (m + x + 1) (fun j => pw a m x j * z ^ j) = (1 + a * z) ^ m * (1 - z) ^ x := by
  induction m with
  | zero =>
    induction x with
    | zero => simp [sm, pw, iter, dl]
    | succ x ih =>
      have e : 0 + (x + 1) + 1 = (0 + x + 1) + 1 := by omega
      rw [e, pw_x, val_lin _ _ _ _ (pw_deg a 0 x _ (by omega)), ih]
      simp only [Int.pow_succ, Int.pow_zero]
      grind
  | succ m ih =>
    have e : m + 1 + x + 1 = (m + x + 1) + 1 := by omega
    rw [e, pw_m, val_lin _ _ _ _ (pw_deg a m x _ (by omega)), ih, Int.pow_succ]
    grind
theorem kr_val (a z : Int) {n x : Nat} (h : x ≤ n) : sm (n + 1) (fun j => kr a n j x * z ^ j) = (1 + a * z) ^ (n - x) * (1 - z) ^ x := by
  have := pw_val a z (n - x) x
  rw [Nat.sub_add_cancel h] at this
  exact this

/-! ### Orthogonality -/
/-- The entry before: 0 for the first one. -/
def bf (f : Nat → Int) : Nat → Int
  | 0 => 0
  | k + 1 => f k
theorem bf_succ (f : Nat → Int) (k : Nat) : bf f (k + 1) = f k := rfl
theorem lin_eq (a : Int) (f : Nat → Int) (k : Nat) : lin a f k = f k + a * bf f k := by
  cases k with
  | zero => simp [lin, bf]
  | succ k => rfl
theorem lin_neg (f : Nat → Int) (k : Nat) : lin (-1) f k = f k - bf f k := by
  rw [lin_eq, Int.neg_mul, Int.one_mul, ← Int.sub_eq_add_neg]
/-- Of n + 1 positions, at i of n. -/
theorem kr_in (a : Int) {n i : Nat} (h : i ≤ n) (k : Nat) : kr a (n + 1) k i = kr a n k i + a * bf (fun j => kr a n j i) k := by
  have e : n + 1 - i = (n - i) + 1 := by omega
  rw [kr, e, pw_m, lin_eq]; rfl
theorem kr_out (a : Int) {n i : Nat} (k : Nat) : kr a (n + 1) k (i + 1) = kr a n k i - bf (fun j => kr a n j i) k := by
  have e : n + 1 - (i + 1) = n - i := by omega
  rw [kr, e, pw_x, lin_neg]; rfl

def orth (a : Int) (n r s : Nat) : Int := sm (n + 1) (fun i => (binom n i : Int) * a ^ i * (kr a n r i * kr a n s i))
/-- A sum with binomial coefficients, split. -/
theorem sm_binom (a : Int) (n : Nat) (f : Nat → Int) : sm (n + 2) (fun i => (binom (n + 1) i : Int) * a ^ i * f i) = sm (n + 1) (fun i => (binom n i : Int) * a ^ i * f i) + sm (n + 1) (fun i => (binom n i : Int) * a ^ i * (a * f (i + 1))) := by
  rw [sm_head (n + 1)]
  have h1 : sm (n + 1) (fun i => (binom (n + 1) (i + 1) : Int) * a ^ (i + 1) * f (i + 1)) = sm (n + 1) (fun i => (binom n i : Int) * a ^ i * (a * f (i + 1))) + sm (n + 1) (fun i => (binom n (i + 1) : Int) * a ^ (i + 1) * f (i + 1)) := by
    rw [← sm_add]
    refine sm_congr fun i _ => ?_
    rw [binom_succ, Int.natCast_add, Int.pow_succ]
    grind
  rw [h1]
  have h2 : sm (n + 1) (fun i => (binom n (i + 1) : Int) * a ^ (i + 1) * f (i + 1)) = sm n (fun i => (binom n (i + 1) : Int) * a ^ (i + 1) * f (i + 1)) := by
    rw [sm, binom_gt n (n + 1) (by omega)]; simp
  rw [h2, sm_head n (fun i => (binom n i : Int) * a ^ i * f i), binom_zero, binom_zero]
  omega
theorem orth_step (a : Int) (n r s : Nat) : orth a (n + 1) r s = (a + 1) * orth a n r s + a * (a + 1) * sm (n + 1) (fun i => (binom n i : Int) * a ^ i * (bf (fun j => kr a n j i) r * bf (fun j => kr a n j i) s)) := by
  rw [orth, sm_binom a n (fun i => kr a (n + 1) r i * kr a (n + 1) s i), orth, ← sm_mul, ← sm_mul, ← sm_add, ← sm_add]
  refine sm_congr fun i hi => ?_
  rw [kr_in a (by omega), kr_in a (by omega), kr_out, kr_out]
  grind
theorem ring1 (a x y c d : Int) : (a + 1) * (x * (y * a * d)) + a * (a + 1) * (x * (y * c)) = x * (a + 1) * (y * a * (c + d)) := by grind
theorem ring2 (a x y c : Int) : (a + 1) * (x * (y * c)) + a * (a + 1) * 0 = x * (a + 1) * (y * c) := by grind
theorem orth_eq (a : Int) : ∀ (n r s : Nat), orth a n r s = if r = s then (a + 1) ^ n * (a ^ r * (binom n r : Int)) else 0 := by
  intro n
  induction n with
  | zero =>
    intro r s
    have e : ∀ k, kr a 0 k 0 = dl k := fun k => rfl
    simp only [orth, sm, e, Int.pow_zero]
    cases r <;> cases s <;> simp [dl, binom]
  | succ n ih =>
    intro r s
    rw [orth_step, ih]
    cases r with
    | zero =>
      have : sm (n + 1) (fun i => (binom n i : Int) * a ^ i * (bf (fun j => kr a n j i) 0 * bf (fun j => kr a n j i) s)) = 0 := by
        rw [← sm_zero (n + 1)]; exact sm_congr fun i _ => by simp [bf]
      rw [this]
      cases s with
      | zero => rw [if_pos rfl, if_pos rfl, binom_zero, binom_zero, Int.pow_succ]; exact ring2 _ _ _ _
      | succ s => simp
    | succ r =>
      cases s with
      | zero =>
        have : sm (n + 1) (fun i => (binom n i : Int) * a ^ i * (bf (fun j => kr a n j i) (r + 1) * bf (fun j => kr a n j i) 0)) = 0 := by
          rw [← sm_zero (n + 1)]; exact sm_congr fun i _ => by simp [bf]
        rw [this]; simp
      | succ s =>
        have : sm (n + 1) (fun i => (binom n i : Int) * a ^ i * (bf (fun j => kr a n j i) (r + 1) * bf (fun j => kr a n j i) (s + 1))) = orth a n r s := rfl
        rw [this, ih]
        by_cases h : r = s
        · subst h
          rw [if_pos rfl, if_pos rfl, if_pos rfl, binom_succ, Int.natCast_add, Int.pow_succ, Int.pow_succ]
          exact ring1 _ _ _ _ _
        · have h' : ¬ r + 1 = s + 1 := by omega
          rw [if_neg h', if_neg h, if_neg h']; simp

/-! ### Degree and argument -/
theorem ring3 (b p k c a : Int) : b * (p * (k + a * c)) = b * (p * k) + a * (b * (p * c)) := by grind
theorem ring4 (b c p a k m k2 m2 : Int) : b * (p * a * (k - m)) + (c * (p * a * k2) + a * (c * (p * a * m2))) = c * (p * a * k2) + a * (c * (p * a * m2)) + a * (b * (p * k)) - a * (b * (p * m)) := by grind
theorem ring5 {c p k c' p' k' : Int} (h : c * (p * k) = c' * (p' * k')) : k * (p * c) = k' * (p' * c') := by
  have e1 : k * (p * c) = c * (p * k) := by clear h; grind
  have e2 : k' * (p' * c') = c' * (p' * k') := by clear h; grind
  rw [e1, e2, h]
theorem recip (a : Int) : ∀ (n i s : Nat), i ≤ n → s ≤ n → kr a n s i * (a ^ i * (binom n i : Int)) = kr a n i s * (a ^ s * (binom n s : Int)) := by
  -- the numbers without their bounds
  have key : ∀ (n i s : Nat), (binom n i : Int) * (a ^ i * kr a n s i) = (binom n s : Int) * (a ^ s * kr a n i s) := by
    have step : ∀ (n i s : Nat), (binom (n + 1) i : Int) * (a ^ i * kr a (n + 1) s i) =
        (binom n i : Int) * (a ^ i * kr a n s i) + a * bf (fun t => (binom n i : Int) * (a ^ i * kr a n t i)) s + a * bf (fun j => (binom n j : Int) * (a ^ j * kr a n s j)) i - a * bf (fun j => bf (fun t => (binom n j : Int) * (a ^ j * kr a n t j)) s) i := by
      intro n i s
      have hbf : ∀ (c : Int) (f : Nat → Int) (s : Nat), bf (fun t => c * f t) s = c * bf f s := by
        intro c f s; cases s <;> simp [bf]
      have h1 : (binom n i : Int) * (a ^ i * kr a (n + 1) s i) = (binom n i : Int) * (a ^ i * kr a n s i) + a * bf (fun t => (binom n i : Int) * (a ^ i * kr a n t i)) s := by
        rw [hbf, hbf]
        by_cases h : i ≤ n
        · rw [kr_in a h]; exact ring3 _ _ _ _ _
        · rw [binom_gt n i (by omega)]; simp
      cases i with
      | zero => rw [binom_zero] at *; rw [binom_zero, h1]; simp [bf]
      | succ i =>
        rw [binom_succ, Int.natCast_add, Int.add_mul, h1, kr_out]
        simp only [bf_succ, hbf, Int.pow_succ]
        exact ring4 _ _ _ _ _ _ _ _
    intro n
    induction n with
    | zero =>
      intro i s
      have e : ∀ k x, kr a 0 k x = iter (-1) x dl k := fun k x => by rw [kr, Nat.zero_sub]; rfl
      cases i <;> cases s <;> simp [binom, e, iter, dl]
    | succ n ih =>
      intro i s
      rw [step, step, ih i s]
      have hb : ∀ i s, bf (fun t => (binom n i : Int) * (a ^ i * kr a n t i)) s = bf (fun j => (binom n j : Int) * (a ^ j * kr a n i j)) s := by
        intro i s
        cases s with
        | zero => rfl
        | succ s => exact ih i s
      rw [hb i s, hb s i]
      have hc : bf (fun j => bf (fun t => (binom n j : Int) * (a ^ j * kr a n t j)) s) i = bf (fun j => bf (fun t => (binom n j : Int) * (a ^ j * kr a n t j)) i) s := by
        cases i with
        | zero => cases s <;> rfl
        | succ i =>
          cases s with
          | zero => rfl
          | succ s => exact ih i s
      rw [hc]
      omega
  intro n i s _ _
  exact ring5 (key n i s)

/-! ### Three degrees -/
theorem ring6 {A J M X p2 p1 p0 pb : Int} (h1 : (J + 1 + 1) * p2 + (A - 1) * (J + 1) * p1 - A * (J + 1 - 1) * p0 = (M * A - X) * p1 - (M * A + X * A) * p0) (h2 : (J + 1) * p1 + (A - 1) * J * p0 - A * (J - 1) * pb = (M * A - X) * p0 - (M * A + X * A) * pb) :
    (J + 1 + 1) * (p2 + A * p1) + (A - 1) * (J + 1) * (p1 + A * p0) - A * (J + 1 - 1) * (p0 + A * pb) = ((M + 1) * A - X) * (p1 + A * p0) - ((M + 1) * A + X * A) * (p0 + A * pb) := by grind
theorem ring7 {A J X p2 p1 p0 pb : Int} (h1 : (J + 1 + 1) * p2 + (A - 1) * (J + 1) * p1 - A * (J + 1 - 1) * p0 = (0 * A - X) * p1 - (0 * A + X * A) * p0) (h2 : (J + 1) * p1 + (A - 1) * J * p0 - A * (J - 1) * pb = (0 * A - X) * p0 - (0 * A + X * A) * pb) :
    (J + 1 + 1) * (p2 + -1 * p1) + (A - 1) * (J + 1) * (p1 + -1 * p0) - A * (J + 1 - 1) * (p0 + -1 * pb) = (0 * A - (X + 1)) * (p1 + -1 * p0) - (0 * A + (X + 1) * A) * (p0 + -1 * pb) := by grind
theorem three (a : Int) : ∀ (m x j : Nat), (j + 1 : Int) * pw a m x (j + 1) + (a - 1) * j * pw a m x j - a * (j - 1) * bf (pw a m x) j = (m * a - x) * pw a m x j - (m * a + x * a) * bf (pw a m x) j := by
  intro m
  induction m with
  | zero =>
    intro x
    induction x with
    | zero =>
      intro j
      cases j with
      | zero => simp [pw, iter, dl, bf]
      | succ j => cases j <;> simp [pw, iter, dl, bf]
    | succ x ih =>
      intro j
      rw [pw_x]
      have h1 := ih j
      cases j with
      | zero => simp only [lin, bf] at *; grind
      | succ j =>
        have h2 := ih j
        have e : bf (lin (-1) (pw a 0 x)) (j + 1) = pw a 0 x j + -1 * bf (pw a 0 x) j := lin_eq _ _ _
        rw [e]
        simp only [lin] at *
        rw [bf_succ] at h1
        simp only [Int.natCast_add, Int.natCast_one, Int.natCast_zero] at h1 h2 ⊢
        exact ring7 h1 h2
  | succ m ih =>
    intro x j
    rw [pw_m]
    have h1 := ih x j
    cases j with
    | zero => simp only [lin, bf] at *; grind
    | succ j =>
      have h2 := ih x j
      have e : bf (lin a (pw a m x)) (j + 1) = pw a m x j + a * bf (pw a m x) j := lin_eq _ _ _
      rw [e]
      simp only [lin] at *
      rw [bf_succ] at h1
      simp only [Int.natCast_add, Int.natCast_one] at h1 h2 ⊢
      exact ring6 h1 h2
theorem kr_three (a : Int) {n j x : Nat} (hx : x ≤ n) (hj : 1 ≤ j) : (j + 1 : Int) * kr a n (j + 1) x = ((n - j) * a + j - (a + 1) * x) * kr a n j x - a * (n - j + 1) * kr a n (j - 1) x := by
  obtain ⟨i, rfl⟩ : ∃ i, j = i + 1 := ⟨j - 1, by omega⟩
  have h := three a (n - x) x (i + 1)
  have e : bf (pw a (n - x) x) (i + 1) = pw a (n - x) x i := rfl
  have hc : ((n - x : Nat) : Int) = n - x := by omega
  rw [e, hc] at h
  show _ * pw a (n - x) x (i + 1 + 1) = _ * pw a (n - x) x (i + 1) - _ * pw a (n - x) x (i + 1 - 1)
  rw [Nat.add_sub_cancel]
  grind

/-! ### The transform of the transform -/
def inv2 (a : Int) (n k i : Nat) : Int := sm (n + 1) (fun j => kr a n j i * kr a n k j)
/-- A sum along a series, against the entries before. -/
theorem sm_bf (n : Nat) (f g : Nat → Int) (h : f n = 0) : sm (n + 1) (fun j => bf f j * g j) = sm n (fun j => f j * g (j + 1)) := by
  rw [sm_head]; simp [bf]
theorem kr_deg (a : Int) {n k i : Nat} (hi : i ≤ n) (h : n < k) : kr a n k i = 0 := pw_deg a _ _ _ (by omega)
theorem inv2_eq (a : Int) : ∀ (n k i : Nat), i ≤ n → inv2 a n k i = if k = i then (a + 1) ^ n else 0 := by
  intro n
  induction n with
  | zero =>
    intro k i hi
    obtain rfl : i = 0 := by omega
    have e : ∀ k, kr a 0 k 0 = dl k := fun k => rfl
    simp only [inv2, sm, e]
    cases k <;> simp [dl]
  | succ n ih =>
    -- sums over n + 2 places of a series of n positions
    have cut : ∀ (f g : Nat → Int), f (n + 1) = 0 → sm (n + 2) (fun j => f j * g j) = sm (n + 1) (fun j => f j * g j) := fun f g h => by rw [sm, h]; simp
    have cutb : ∀ (f g : Nat → Int), sm (n + 2) (fun j => bf f j * g j) = sm (n + 1) (fun j => f j * g (j + 1)) := fun f g => by rw [sm_head]; simp [bf]
    intro k i hi
    by_cases h : i ≤ n
    · have h1 : inv2 a (n + 1) k i = sm (n + 1) (fun j => kr a n j i * kr a (n + 1) k j) + a * sm (n + 1) (fun j => kr a n j i * kr a (n + 1) k (j + 1)) := by
        rw [inv2, ← cut (fun j => kr a n j i) (fun j => kr a (n + 1) k j) (kr_deg a h (by omega)), ← cutb (fun j => kr a n j i) (fun j => kr a (n + 1) k j), ← sm_mul, ← sm_add]
        refine sm_congr fun j _ => ?_
        rw [kr_in a h]; grind
      have h2 : inv2 a (n + 1) k i = (a + 1) * inv2 a n k i := by
        rw [h1, inv2, ← sm_mul, ← sm_mul, ← sm_add]
        refine sm_congr fun j hj => ?_
        rw [kr_in a (by omega), kr_out]; grind
      rw [h2, ih k i h]
      split
      · rw [Int.pow_succ]; grind
      · simp
    · obtain rfl : i = n + 1 := by omega
      have h1 : inv2 a (n + 1) k (n + 1) = sm (n + 1) (fun j => kr a n j n * kr a (n + 1) k j) - sm (n + 1) (fun j => kr a n j n * kr a (n + 1) k (j + 1)) := by
        rw [inv2, ← cut (fun j => kr a n j n) (fun j => kr a (n + 1) k j) (kr_deg a (Nat.le_refl _) (by omega)), ← cutb (fun j => kr a n j n) (fun j => kr a (n + 1) k j), ← sm_sub]
        refine sm_congr fun j _ => ?_
        rw [kr_out]; grind
      have h2 : inv2 a (n + 1) k (n + 1) = (a + 1) * bf (fun t => inv2 a n t n) k := by
        rw [h1, ← sm_sub]
        cases k with
        | zero =>
          simp only [bf]
          rw [Int.mul_zero, ← sm_zero (n + 1)]
          refine sm_congr fun j hj => ?_
          rw [kr_zero, kr_zero]; omega
        | succ k =>
          simp only [bf, inv2]
          rw [← sm_mul]
          refine sm_congr fun j hj => ?_
          rw [kr_in a (by omega), kr_out]; simp only [bf]; grind
      rw [h2]
      cases k with
      | zero => simp [bf]
      | succ k =>
        simp only [bf]
        rw [ih k n (Nat.le_refl _)]
        by_cases hk : k = n
        · rw [if_pos hk, if_pos (by omega), Int.pow_succ]; grind
        · rw [if_neg hk, if_neg (by omega)]; simp

/-! ### Sizes -/
theorem lin_abs {a : Int} {A M : Nat} (ha : a.natAbs ≤ A) {f : Nat → Int} (h : ∀ k, (f k).natAbs ≤ M) : ∀ k, (lin a f k).natAbs ≤ (A + 1) * M := by
  intro k
  rw [lin_eq]
  have h1 : (bf f k).natAbs ≤ M := by
    cases k with
    | zero => simp [bf]
    | succ k => exact h k
  have h2 := Int.natAbs_add_le (f k) (a * bf f k)
  rw [Int.natAbs_mul] at h2
  have h3 := Nat.mul_le_mul ha h1
  have h4 := h k
  rw [Nat.succ_mul]
  omega
theorem pw_abs {a : Int} {A : Nat} (ha : a.natAbs ≤ A) (hA : 1 ≤ A) (m x k : Nat) : (pw a m x k).natAbs ≤ (A + 1) ^ (m + x) := by
  induction m generalizing k with
  | zero =>
    induction x generalizing k with
    | zero => cases k <;> simp [pw, iter, dl]
    | succ x ih =>
      rw [pw_x]
      refine Nat.le_trans (lin_abs (A := A) (a := -1) (by simpa using hA) ih k) ?_
      rw [← Nat.add_assoc, Nat.pow_succ, Nat.mul_comm]
      exact Nat.le_refl _
  | succ m ih =>
    rw [pw_m]
    refine Nat.le_trans (lin_abs ha ih k) ?_
    rw [Nat.add_right_comm, Nat.pow_succ, Nat.mul_comm]
    exact Nat.le_refl _
theorem kr_abs {a : Int} {A : Nat} (ha : a.natAbs ≤ A) (hA : 1 ≤ A) {n x : Nat} (hx : x ≤ n) (k : Nat) : (kr a n k x).natAbs ≤ (A + 1) ^ n := by
  have := pw_abs ha hA (n - x) x k
  rw [Nat.sub_add_cancel hx] at this
  exact this
end Go.Proofs.Ytlhgkefaflpgeaa

namespace Go.Proofs.Ytlhgkefaflpgeaa
set_option maxRecDepth 100000
set_option linter.unusedVariables false
set_option linter.unusedSimpArgs false
--plain
abbrev Zs := Bool × Nat
def plusZ (a b : Zs) : Zs := if a.1 = b.1 then (a.1, a.2 + b.2) else if a.2 < b.2 then (b.1, b.2 - a.2) else (a.1, a.2 - b.2)
def minusZ (a b : Zs) : Zs := plusZ a (!b.1, b.2)
def timesZ (a b : Zs) : Zs := (a.1 != b.1, a.2 * b.2)
/-- What it says. -/
def iv (a : Zs) : Int := sg a.1 a.2
theorem iv_plus (a b : Zs) : iv (plusZ a b) = iv a + iv b := by
  obtain ⟨g, m⟩ := a
  obtain ⟨h, n⟩ := b
  simp only [plusZ, iv]
  cases g <;> cases h <;> simp only [sg] <;> (repeat' split) <;> simp_all <;> omega
theorem iv_neg (g : Bool) (n : Nat) : iv (!g, n) = -iv (g, n) := sg_not g n
theorem iv_minus (a b : Zs) : iv (minusZ a b) = iv a - iv b := by
  rw [minusZ, iv_plus, iv_neg]; rfl
theorem iv_times (a b : Zs) : iv (timesZ a b) = iv a * iv b := sg_mul _ _ _ _
theorem iv_abs (a : Zs) : (iv a).natAbs = a.2 := sg_abs _ _
theorem plusZ_le (a b : Zs) : (plusZ a b).2 ≤ a.2 + b.2 := by
  unfold plusZ; split
  · exact Nat.le_refl _
  · split <;> dsimp only <;> omega
theorem minusZ_le (a b : Zs) : (minusZ a b).2 ≤ a.2 + b.2 := plusZ_le _ _

/-- As the program has it. -/
def enz (a : Zs) : Bool × List Nat := (a.1, limbs a.2)
theorem zs_eta (a : Zs) : (a.1, a.2) = a := rfl
theorem val_enz (a : Zs) : ((enz a).1, val (enz a).2) = a := by simp [enz, val_limbs]

/-- The next row of the table. -/
def nextRow (q : Nat) (f : Nat → Zs) : Nat → Zs
  | 0 => f 0
  | k + 1 => minusZ (minusZ (f (k + 1)) (f k)) (timesZ (false, q - 1) (nextRow q f k))
/-- The table. -/
def tz (q n : Nat) : Nat → Nat → Zs
  | 0 => fun k => (false, binom n k * (q - 1) ^ k)
  | x + 1 => nextRow q (tz q n x)
theorem tz_iv {q n : Nat} (hq : 1 ≤ q) : ∀ x, x ≤ n → ∀ k, iv (tz q n x k) = kr ((q : Int) - 1) n k x := by
  intro x
  induction x with
  | zero =>
    intro _ k
    rw [kr_first]
    show ((binom n k * (q - 1) ^ k : Nat) : Int) = _
    rw [Int.natCast_mul, Int.natCast_pow, Int.ofNat_sub hq]; rfl
  | succ x ih =>
    intro hx k
    induction k with
    | zero =>
      show iv (tz q n x 0) = _
      rw [ih (by omega), kr_zero, kr_zero]
    | succ k ihk =>
      show iv (minusZ (minusZ (tz q n x (k + 1)) (tz q n x k)) (timesZ (false, q - 1) (tz q n (x + 1) k))) = _
      rw [iv_minus, iv_minus, iv_times, ih (by omega), ih (by omega), ihk, kr_next _ (by omega)]
      have : iv (false, q - 1) = (q : Int) - 1 := by show ((q - 1 : Nat) : Int) = _; omega
      rw [this]
theorem tz_le {q n x : Nat} (hq : 2 ≤ q) (hx : x ≤ n) (k : Nat) : (tz q n x k).2 ≤ q ^ n := by
  have h := kr_abs (a := (q : Int) - 1) (A := q - 1) (by omega) (by omega) hx k
  rw [← tz_iv (by omega) x hx k, iv_abs] at h
  have e : q - 1 + 1 = q := by omega
  rwa [e] at h

/-- The program's least limits, q and n. -/
theorem qn_lt {q n : Nat} (hq : q ≤ 256) (hn : n ≤ 64) {k : Nat} (hk : 17 ≤ k) : q ^ n < 4294967296 ^ k := by
  have h1 : q ^ n ≤ 256 ^ n := Nat.pow_le_pow_left hq n
  have h2 : (256 : Nat) ^ n ≤ 256 ^ (4 * 16) := Nat.pow_le_pow_right (by decide) (by omega)
  rw [Nat.pow_mul] at h2
  have e : (256 : Nat) ^ 4 = 4294967296 := by decide
  rw [e] at h2
  have h3 : (4294967296 : Nat) ^ 16 < 4294967296 ^ k := Nat.pow_lt_pow_right (by decide) (by omega)
  omega
theorem tz_lt {q n x : Nat} (hq : 2 ≤ q) (hq2 : q ≤ 256) (hn : n ≤ 64) (hx : x ≤ n) (k : Nat) {m : Nat} (hm : 17 ≤ m) : (tz q n x k).2 < 4294967296 ^ m := Nat.lt_of_le_of_lt (tz_le hq hx k) (qn_lt hq2 hn hm)
theorem tz_len {q n x : Nat} (hq : 2 ≤ q) (hq2 : q ≤ 256) (hn : n ≤ 64) (hx : x ≤ n) (k : Nat) : (enz (tz q n x k)).2.length ≤ 17 := limbs_length_le (tz_lt hq hq2 hn hx k (Nat.le_refl _))

/-! ### Rows that are filled -/
def mapTo {α : Type} (f : Nat → α) (d : α) (N k : Nat) : List α := (List.range N).map fun i => if i < k then f i else d
theorem mapTo_zero {α : Type} (f : Nat → α) (d : α) (N : Nat) : mapTo f d N 0 = List.replicate N d := by
  rw [mapTo]
  refine List.ext_getElem (by simp) fun i h1 h2 => by simp
theorem mapTo_len {α : Type} (f : Nat → α) (d : α) (N k : Nat) : (mapTo f d N k).length = N := by simp [mapTo]
theorem mapTo_set {α : Type} (f : Nat → α) (d : α) (N k : Nat) : (mapTo f d N k).set k (f k) = mapTo f d N (k + 1) := by
  refine List.ext_getElem (by simp [mapTo]) fun i h1 h2 => ?_
  rw [List.getElem_set]
  by_cases h : k = i
  · subst h; simp [mapTo]
  · rw [if_neg h]
    simp only [mapTo, List.getElem_map, List.getElem_range]
    by_cases h3 : i < k
    · rw [if_pos h3, if_pos (by omega)]
    · rw [if_neg h3, if_neg (by omega)]
theorem mapTo_all {α : Type} (f : Nat → α) (d : α) (N : Nat) : mapTo f d N N = (List.range N).map f := by
  refine List.ext_getElem (by simp [mapTo]) fun i h1 h2 => ?_
  simp only [mapTo, List.getElem_map, List.getElem_range]
  rw [if_pos]
  simpa [mapTo] using h1
theorem range_snoc {α : Type} (f : Nat → α) (k : Nat) : (List.range (k + 1)).map f = (List.range k).map f ++ [f k] := by
  rw [List.range_succ, List.map_append]; rfl
theorem range_get {α : Type} (f : Nat → α) {N k : Nat} (h : k < N) : ((List.range N).map f)[k]? = some (f k) := by simp [h]
theorem range_getD {α : Type} (f : Nat → α) (d : α) {N k : Nat} (h : k < N) : ((List.range N).map f).getD k d = f k := by simp [List.getD, h]
end Go.Proofs.Ytlhgkefaflpgeaa

namespace Go.Proofs.Ytlhgkefaflpgeaa
set_option maxRecDepth 100000
set_option linter.unusedVariables false
set_option linter.unusedSimpArgs false
--plain
theorem rt_int (z : Int) : rt (z : Rat) = (decide (z < 0), limbs z.natAbs, [1]) := by
  show (decide ((z : Rat).num < 0), limbs (z : Rat).num.natAbs, limbs (z : Rat).den) = _
  rw [Rat.num_intCast, Rat.den_intCast, limbs_one]
theorem vq_one (g : Bool) (N : List Nat) : vq (g, N, [1]) = ((sg g (val N) : Int) : Rat) := by
  rw [vq_eq]
  have : val [1] = 1 := rfl
  simp only [this]
  rw [Rat.mkRat_one]
theorem vq_nat (n : Nat) : vq (false, limbs n, [1]) = ((n : Int) : Rat) := by
  rw [vq_one, val_limbs]; rfl
theorem rt_int_len {z : Int} {m : Nat} (h : z.natAbs < 4294967296 ^ m) : (rt (z : Rat)).2.1.length ≤ m ∧ (rt (z : Rat)).2.2.length ≤ 1 := by
  rw [rt_int]
  exact ⟨limbs_length_le h, Nat.le_refl _⟩
theorem sm_abs {n M : Nat} {f : Nat → Int} (h : ∀ i, i < n → (f i).natAbs ≤ M) : (sm n f).natAbs ≤ n * M := by
  induction n with
  | zero => simp [sm]
  | succ n ih =>
    have h1 := ih fun i hi => h i (by omega)
    have h2 := h n (by omega)
    rw [sm, Nat.succ_mul]
    omega

/-- A term of the document's sum. -/
def krTerm (q n k x j : Nat) : Int := (binom x j : Int) * (-1) ^ j * ((binom (n - x) (k - j) : Int) * ((q : Int) - 1) ^ (k - j))
theorem krTerm_sum {q n k x : Nat} : kr ((q : Int) - 1) n k x = sm (k + 1) (krTerm q n k x) := kr_sum _ _ _ _
/-- Its size. -/
def krSize (q n k x j : Nat) : Nat := (q - 1) ^ (k - j) * (binom x j * binom (n - x) (k - j))
theorem neg_one_pow (j : Nat) : (-1 : Int) ^ j = if j % 2 = 1 then -1 else 1 := by
  induction j with
  | zero => rfl
  | succ j ih =>
    rw [Int.pow_succ, ih]
    by_cases h : j % 2 = 1
    · rw [if_pos h, if_neg (by omega)]; rfl
    · rw [if_neg h, if_pos (by omega)]; rfl
theorem krTerm_odd {q n k x j : Nat} (hq : 1 ≤ q) (h : j % 2 = 1) : krTerm q n k x j = -(krSize q n k x j : Int) := by
  rw [krTerm, neg_one_pow, if_pos h, krSize, Int.natCast_mul, Int.natCast_pow, Int.natCast_mul, Int.ofNat_sub hq]
  exact ring8 _ _ _
where ring8 (a b c : Int) : a * -1 * (b * c) = -(c * (a * b)) := by grind
theorem krTerm_even {q n k x j : Nat} (hq : 1 ≤ q) (h : ¬ j % 2 = 1) : krTerm q n k x j = (krSize q n k x j : Int) := by
  rw [krTerm, neg_one_pow, if_neg h, krSize, Int.natCast_mul, Int.natCast_pow, Int.natCast_mul, Int.ofNat_sub hq]
  exact ring9 _ _ _
where ring9 (a b c : Int) : a * 1 * (b * c) = c * (a * b) := by grind
theorem krTerm_abs {q n k x j : Nat} (hq : 1 ≤ q) : (krTerm q n k x j).natAbs = krSize q n k x j := by
  by_cases h : j % 2 = 1
  · rw [krTerm_odd hq h]; omega
  · rw [krTerm_even hq h]; omega
theorem pow2_32 (m : Nat) : (2 : Nat) ^ (32 * m) = 4294967296 ^ m := by
  rw [Nat.pow_mul]
theorem binom_lt {n : Nat} (h : n ≤ 64) (k : Nat) : binom n k < 4294967296 ^ 3 := by
  have h1 := binom_le n k
  have h2 : (2 : Nat) ^ n < 2 ^ (32 * 3) := Nat.pow_lt_pow_right (by decide) (by omega)
  rw [pow2_32] at h2
  omega
theorem krSize_lt {q n k x j : Nat} (hq2 : q ≤ 256) (hn : n ≤ 64) (hk : k ≤ n) (hx : x ≤ n) : krSize q n k x j < 4294967296 ^ 23 := by
  have h1 : (q - 1) ^ (k - j) < 4294967296 ^ 17 := qn_lt (by omega) (by omega) (Nat.le_refl _)
  have h2 := mul_pow (binom_lt (n := x) (by omega) j) (binom_lt (n := n - x) (by omega) (k - j))
  exact mul_pow h1 h2
theorem krPart_lt {q n k x j : Nat} (hq : 1 ≤ q) (hq2 : q ≤ 256) (hn : n ≤ 64) (hk : k ≤ n) (hx : x ≤ n) (hj : j ≤ 65) : (sm j (krTerm q n k x)).natAbs < 4294967296 ^ 24 := by
  have h := sm_abs (n := j) (M := 4294967296 ^ 23) (f := krTerm q n k x) fun i _ => by rw [krTerm_abs hq]; exact Nat.le_of_lt (krSize_lt hq2 hn hk hx)
  have e : (4294967296 : Nat) ^ 24 = 4294967296 ^ 23 * 4294967296 := Nat.pow_succ ..
  rw [e]
  have hp : 0 < (4294967296 : Nat) ^ 23 := Nat.pow_pos (by decide)
  generalize (4294967296 : Nat) ^ 23 = P at *
  have := Nat.mul_le_mul_right P hj
  omega
theorem kr_lt {q n k x : Nat} (hq : 2 ≤ q) (hq2 : q ≤ 256) (hn : n ≤ 64) (hx : x ≤ n) : (kr ((q : Int) - 1) n k x).natAbs < 4294967296 ^ 17 := by
  have h := kr_abs (a := (q : Int) - 1) (A := q - 1) (by omega) (by omega) hx k
  have e : q - 1 + 1 = q := by omega
  rw [e] at h
  exact Nat.lt_of_le_of_lt h (qn_lt hq2 hn (Nat.le_refl _))
/-- The program's number, as a fraction. -/
theorem rt_tz {q n x : Nat} (hq : 1 ≤ q) (hx : x ≤ n) (k : Nat) : rt (vq ((enz (tz q n x k)).1, (enz (tz q n x k)).2, [1])) = rt ((kr ((q : Int) - 1) n k x : Int) : Rat) := by
  rw [vq_one]
  have : sg (enz (tz q n x k)).1 (val (enz (tz q n x k)).2) = iv (tz q n x k) := by rw [enz, val_limbs]; rfl
  rw [this, tz_iv hq x hx]

/-- Products of integers, as fractions. -/
theorem rt_mul_len {x y : Int} {j k : Nat} (hx : x.natAbs < 4294967296 ^ j) (hy : y.natAbs < 4294967296 ^ k) : (rt ((x : Rat) * (y : Rat))).2.1.length ≤ j + k ∧ (rt ((x : Rat) * (y : Rat))).2.2.length ≤ 1 := by
  rw [← Rat.intCast_mul]
  exact rt_int_len (by rw [Int.natAbs_mul]; exact mul_pow hx hy)
theorem rt_add_len {x y : Int} {k : Nat} (hx : x.natAbs < 4294967296 ^ k) (hy : y.natAbs < 4294967296 ^ k) : (rt ((x : Rat) + (y : Rat))).2.1.length ≤ k + 1 ∧ (rt ((x : Rat) + (y : Rat))).2.2.length ≤ 1 := by
  rw [← Rat.intCast_add]
  refine rt_int_len ?_
  have := Int.natAbs_add_le x y
  rw [Nat.pow_succ]
  omega
theorem rt_nat_len {x m : Nat} (h : x < 4294967296 ^ m) : (rt ((x : Int) : Rat)).2.1.length ≤ m ∧ (rt ((x : Int) : Rat)).2.2.length ≤ 1 := rt_int_len (by rw [Int.natAbs_natCast]; exact h)
theorem nat_lt {x m : Nat} (h : x < 4294967296 ^ m) : (x : Int).natAbs < 4294967296 ^ m := by rw [Int.natAbs_natCast]; exact h
theorem sub_one_cast {q : Nat} (h : 1 ≤ q) (n : Nat) : (((q - 1) ^ n : Nat) : Int) = ((q : Int) - 1) ^ n := by rw [Int.natCast_pow, Int.ofNat_sub h]; rfl
end Go.Proofs.Ytlhgkefaflpgeaa

namespace Go.Proofs.Ytlhgkefaflpgeaa
set_option maxRecDepth 100000
set_option linter.unusedVariables false
set_option linter.unusedSimpArgs false
--plain
/-- Partial sums of products, of numbers with a sign, as the program has them: what is 0 is passed over. -/
def szP (f g : Nat → Zs) : Nat → Zs
  | 0 => (false, 0)
  | k + 1 => if (f k).2 = 0 then szP f g k else plusZ (szP f g k) (timesZ (f k) (g k))
theorem szP_iv (f g : Nat → Zs) (n : Nat) : iv (szP f g n) = sm n fun i => iv (f i) * iv (g i) := by
  induction n with
  | zero => rfl
  | succ n ih =>
    rw [sm, ← ih, szP]
    split
    · rename_i h
      have : iv (f n) = 0 := by
        have := iv_abs (f n)
        omega
      rw [this]; simp
    · rw [iv_plus, iv_times]
theorem szP_le {f g : Nat → Zs} {A B : Nat} {n : Nat} (hf : ∀ i, i < n → (f i).2 ≤ A) (hg : ∀ i, i < n → (g i).2 ≤ B) : (szP f g n).2 ≤ n * (A * B) := by
  induction n with
  | zero => simp [szP]
  | succ n ih =>
    have h1 := ih (fun i hi => hf i (by omega)) (fun i hi => hg i (by omega))
    have h2 := Nat.mul_le_mul (hf n (by omega)) (hg n (by omega))
    rw [szP, Nat.succ_mul]
    split
    · omega
    · have h3 := plusZ_le (szP f g n) (timesZ (f n) (g n))
      have h4 : (timesZ (f n) (g n)).2 = (f n).2 * (g n).2 := rfl
      omega
theorem szP_lt {f g : Nat → Zs} {m n k : Nat} (hn : n ≤ 65) (hk : k ≤ n) (hf : ∀ i, i < n → (f i).2 < 4294967296 ^ m) (hg : ∀ i, i < n → (g i).2 < 4294967296 ^ 17) : (szP f g k).2 < 4294967296 ^ (m + 18) := by
  have h := szP_le (f := f) (g := g) (n := k) (A := 4294967296 ^ m) (B := 4294967296 ^ 17) (fun i hi => Nat.le_of_lt (hf i (by omega))) (fun i hi => Nat.le_of_lt (hg i (by omega)))
  rw [← Nat.pow_add] at h
  have e : (4294967296 : Nat) ^ (m + 18) = 4294967296 ^ (m + 17) * 4294967296 := Nat.pow_succ ..
  rw [e]
  have hp : 0 < (4294967296 : Nat) ^ (m + 17) := Nat.pow_pos (by decide)
  generalize (4294967296 : Nat) ^ (m + 17) = P at *
  have := Nat.mul_le_mul_right P (show k ≤ 65 by omega)
  omega
theorem mapTo_keep {α : Type} (f : Nat → α) (d : α) (N k : Nat) : (mapTo f d N k).set k d = mapTo f d N k := by
  refine List.ext_getElem (by simp [mapTo]) fun i h1 h2 => ?_
  rw [List.getElem_set]
  by_cases h : k = i
  · subst h; simp [mapTo]
  · rw [if_neg h]
theorem mapTo_setget {α : Type} (f : Nat → α) (d x : α) {N k : Nat} (h : k < N) : ((mapTo f d N k).set k x)[k]? = some x := by
  rw [List.getElem?_set_self (by rw [mapTo_len]; exact h)]

/-! ### A common denominator -/
def qAt (L : List Rt3) (i : Nat) : Rat := vq (L.getD i default)
def lcmP (L : List Rt3) : Nat → Nat
  | 0 => 1
  | k + 1 => lcmP L k * ((qAt L k).den / Nat.gcd (qAt L k).den (lcmP L k))
theorem lcmP_pos (L : List Rt3) (k : Nat) : 0 < lcmP L k := by
  induction k with
  | zero => exact Nat.one_pos
  | succ k ih =>
    have h := (qAt L k).den_pos
    have hg := Nat.gcd_pos_of_pos_left (lcmP L k) h
    exact Nat.mul_pos ih (Nat.div_pos (Nat.le_of_dvd h (Nat.gcd_dvd_left _ _)) hg)
theorem lcmP_step (L : List Rt3) (k : Nat) : lcmP L k ∣ lcmP L (k + 1) ∧ (qAt L k).den ∣ lcmP L (k + 1) := by
  refine ⟨Nat.dvd_mul_right _ _, ?_⟩
  show (qAt L k).den ∣ lcmP L k * ((qAt L k).den / Nat.gcd (qAt L k).den (lcmP L k))
  have h1 : Nat.gcd (qAt L k).den (lcmP L k) ∣ lcmP L k := Nat.gcd_dvd_right _ _
  obtain ⟨c, hc⟩ := h1
  have h2 : (qAt L k).den = Nat.gcd (qAt L k).den (lcmP L k) * ((qAt L k).den / Nat.gcd (qAt L k).den (lcmP L k)) := (Nat.mul_div_cancel' (Nat.gcd_dvd_left _ _)).symm
  generalize Nat.gcd (qAt L k).den (lcmP L k) = g at *
  generalize (qAt L k).den / g = e at *
  rw [h2, hc]
  exact ⟨c, by rw [Nat.mul_assoc, Nat.mul_assoc, Nat.mul_comm c e]⟩
theorem lcmP_dvd (L : List Rt3) {i n : Nat} (h : i < n) : (qAt L i).den ∣ lcmP L n := by
  induction n with
  | zero => omega
  | succ n ih =>
    by_cases e : i = n
    · subst e; exact (lcmP_step L i).2
    · exact Nat.dvd_trans (ih (by omega)) (lcmP_step L n).1
theorem lcmP_lt {L : List Rt3} {K : Nat} {n : Nat} (h : ∀ i, i < n → (qAt L i).den < 4294967296 ^ K) : lcmP L n < 4294967296 ^ (K * n + 1) := by
  induction n with
  | zero => simp [lcmP]
  | succ n ih =>
    have h1 := ih fun i hi => h i (by omega)
    have h2 : (qAt L n).den / Nat.gcd (qAt L n).den (lcmP L n) < 4294967296 ^ K := Nat.lt_of_le_of_lt (Nat.div_le_self _ _) (h n (by omega))
    have e : K * (n + 1) + 1 = (K * n + 1) + K := by rw [Nat.mul_succ]; omega
    rw [e]
    exact mul_pow h1 h2
/-- An entry over the common denominator. -/
def wz (L : List Rt3) (D i : Nat) : Zs := (decide ((qAt L i).num < 0), (qAt L i).num.natAbs * (D / (qAt L i).den))
theorem iv_wz {L : List Rt3} {D i : Nat} (hd : (qAt L i).den ∣ D) : ((iv (wz L D i) : Int) : Rat) = qAt L i * ((D : Int) : Rat) := by
  obtain ⟨c, hc⟩ := hd
  have h0 := (qAt L i).den_pos
  have e1 : D / (qAt L i).den = c := by rw [hc, Nat.mul_div_cancel_left _ h0]
  have e2 : iv (wz L D i) = (qAt L i).num * (c : Int) := by
    show sg (decide ((qAt L i).num < 0)) ((qAt L i).num.natAbs * (D / (qAt L i).den)) = _
    rw [e1]
    have := sg_mul (decide ((qAt L i).num < 0)) false (qAt L i).num.natAbs c
    rw [Bool.bne_false] at this
    rw [this, sg_int]; rfl
  have e3 : ((qAt L i).num : Rat) = qAt L i * (((qAt L i).den : Int) : Rat) := by
    have h := Rat.mul_inv_cancel ((((qAt L i).den : Int)) : Rat) (by
      intro h
      have := congrArg Rat.num h
      rw [Rat.num_intCast] at this
      have h2 : (0 : Rat).num = 0 := rfl
      rw [h2] at this
      omega)
    have h1 : qAt L i = ((qAt L i).num : Rat) * ((((qAt L i).den : Int)) : Rat)⁻¹ := by
      conv => lhs; rw [← Rat.mkRat_self (qAt L i), Rat.mkRat_eq_div, Rat.div_def]
      rfl
    have h2 : qAt L i * ((((qAt L i).den : Int)) : Rat) = ((qAt L i).num : Rat) * ((((qAt L i).den : Int)) : Rat)⁻¹ * ((((qAt L i).den : Int)) : Rat) := congrArg (fun t : Rat => t * ((((qAt L i).den : Int)) : Rat)) h1
    rw [Rat.mul_assoc, Rat.mul_comm (_)⁻¹, h, Rat.mul_one] at h2
    exact h2.symm
  rw [e2, Rat.intCast_mul, e3, hc, Int.natCast_mul, Rat.intCast_mul, Rat.mul_assoc]
theorem wz_lt {L : List Rt3} {D i K M : Nat} (h : (qAt L i).num.natAbs < 4294967296 ^ K) (hD : D < 4294967296 ^ M) : (wz L D i).2 < 4294967296 ^ (K + M) :=
  mul_pow h (Nat.lt_of_le_of_lt (Nat.div_le_self _ _) hD)

/-- Partial sums of the transform. -/
def trP (L : List Rt3) (g : Nat → Int) : Nat → Rat
  | 0 => 0
  | k + 1 => trP L g k + qAt L k * ((g k : Int) : Rat)
theorem trP_int {L : List Rt3} {D n : Nat} {g : Nat → Int} (hd : ∀ i, i < n → (qAt L i).den ∣ D) : ((sm n (fun i => iv (wz L D i) * g i) : Int) : Rat) = trP L g n * ((D : Int) : Rat) := by
  induction n with
  | zero => simp [sm, trP, Rat.zero_mul]
  | succ n ih =>
    rw [sm, trP, Rat.intCast_add, Rat.intCast_mul, ih fun i hi => hd i (by omega), iv_wz (hd n (by omega)), Rat.add_mul, Rat.mul_assoc, Rat.mul_comm ((D : Int) : Rat) _, ← Rat.mul_assoc]
/-- What the program gives for an entry of the transform. -/
theorem trP_vq {L : List Rt3} {q n j : Nat} (hq : 1 ≤ q) : vq ((enz (szP (wz L (lcmP L (n + 1))) (fun i => tz q n i j) (n + 1))).1, (enz (szP (wz L (lcmP L (n + 1))) (fun i => tz q n i j) (n + 1))).2, limbs (lcmP L (n + 1))) = trP L (fun i => kr ((q : Int) - 1) n j i) (n + 1) := by
  rw [vq_eq]
  simp only [enz, val_limbs]
  have e : sg (szP (wz L (lcmP L (n + 1))) (fun i => tz q n i j) (n + 1)).1 (szP (wz L (lcmP L (n + 1))) (fun i => tz q n i j) (n + 1)).2 = sm (n + 1) (fun i => iv (wz L (lcmP L (n + 1)) i) * kr ((q : Int) - 1) n j i) := by
    show iv _ = _
    rw [szP_iv]
    exact sm_congr fun i hi => by rw [tz_iv hq i (by omega)]
  rw [e, Rat.mkRat_eq_div, trP_int (g := fun i => kr ((q : Int) - 1) n j i) (fun i hi => lcmP_dvd L hi)]
  have hD := lcmP_pos L (n + 1)
  generalize lcmP L (n + 1) = D at *
  generalize trP L (fun i => kr ((q : Int) - 1) n j i) (n + 1) = T
  have hne : (((D : Nat) : Int) : Rat) ≠ 0 := by
    intro h
    have := congrArg Rat.num h
    rw [Rat.num_intCast] at this
    have h2 : (0 : Rat).num = 0 := rfl
    rw [h2] at this
    omega
  rw [Rat.div_def]
  have e3 : ((D : Nat) : Rat) = (((D : Nat) : Int) : Rat) := rfl
  rw [Rat.mul_assoc, e3, Rat.mul_inv_cancel _ hne, Rat.mul_one]
/-- Its size. -/
theorem trP_bd {L : List Rt3} {q n j K : Nat} (hq : 2 ≤ q) (hq2 : q ≤ 256) (hn : n ≤ 64) (hL : ∀ i, i ≤ n → bd K (qAt L i)) : ∀ k, k ≤ n + 1 → bd ((K + 18) * k + 1) (trP L (fun i => kr ((q : Int) - 1) n j i) k) := by
  intro k
  induction k with
  | zero => intro _; exact bd_zero (by omega)
  | succ k ih =>
    intro hk
    have h1 := ih (by omega)
    have h2 : bd 17 (((kr ((q : Int) - 1) n j k : Int)) : Rat) := by
      refine ⟨by rw [Rat.num_intCast]; exact kr_lt hq hq2 hn (by omega), ?_⟩
      rw [Rat.den_intCast]
      exact Nat.one_lt_pow (by decide) (by decide)
    have h3 := bd_mul (hL k (by omega)) h2 (by omega)
    have h4 := bd_add h1 h3
    exact bd_mono h4 (by rw [Nat.mul_succ]; omega)
end Go.Proofs.Ytlhgkefaflpgeaa

namespace Go.Proofs.Ytlhgkefaflpgeaa
set_option maxRecDepth 100000
set_option linter.unusedVariables false
set_option linter.unusedSimpArgs false
--plain
def rs : Nat → (Nat → Rat) → Rat
  | 0, _ => 0
  | n + 1, f => rs n f + f n
theorem rs_congr {n : Nat} {f g : Nat → Rat} (h : ∀ i, i < n → f i = g i) : rs n f = rs n g := by
  induction n with
  | zero => rfl
  | succ n ih => rw [rs, rs, ih fun i hi => h i (by omega), h n (by omega)]
theorem rs_zero (n : Nat) : rs n (fun _ => 0) = 0 := by
  induction n with
  | zero => rfl
  | succ n ih => rw [rs, ih, Rat.add_zero]
theorem rs_add (n : Nat) (f g : Nat → Rat) : rs n (fun i => f i + g i) = rs n f + rs n g := by
  induction n with
  | zero => rw [rs, rs, rs, Rat.add_zero]
  | succ n ih => rw [rs, ih, rs, rs]; grind
theorem rs_mul (n : Nat) (c : Rat) (f : Nat → Rat) : rs n (fun i => c * f i) = c * rs n f := by
  induction n with
  | zero => rw [rs, rs, Rat.mul_zero]
  | succ n ih => rw [rs, ih, rs, Rat.mul_add]
theorem rs_swap (n m : Nat) (f : Nat → Nat → Rat) : rs n (fun i => rs m (fun j => f i j)) = rs m (fun j => rs n (fun i => f i j)) := by
  induction n with
  | zero => simp only [rs]; exact (rs_zero m).symm
  | succ n ih => simp only [rs, ih, rs_add]
theorem rs_cast (n : Nat) (f : Nat → Int) : ((sm n f : Int) : Rat) = rs n (fun i => (f i : Rat)) := by
  induction n with
  | zero => rfl
  | succ n ih => rw [sm, rs, ← ih, Rat.intCast_add]
theorem rs_one {n k : Nat} (h : k < n) (f : Nat → Rat) : rs n (fun i => if k = i then f i else 0) = f k := by
  induction n with
  | zero => omega
  | succ n ih =>
    rw [rs]
    by_cases e : k = n
    · subst e
      rw [if_pos rfl]
      have : rs k (fun i => if k = i then f i else 0) = rs k (fun _ => 0) := rs_congr fun i hi => if_neg (show ¬ k = i by omega)
      rw [this, rs_zero, Rat.zero_add]
    · rw [if_neg e, ih (by omega), Rat.add_zero]
theorem trP_rs (L : List Rt3) (g : Nat → Int) (n : Nat) : trP L g n = rs n (fun i => qAt L i * ((g i : Int) : Rat)) := by
  induction n with
  | zero => rfl
  | succ n ih => rw [trP, rs, ih]

/-- The transform of the transform. -/
theorem trP_inv {q n i : Nat} {L M : List Rt3} (hi : i < n + 1) (hM : ∀ j, j < n + 1 → qAt M j = trP L (fun k => kr ((q : Int) - 1) n j k) (n + 1)) :
    trP M (fun j => kr ((q : Int) - 1) n i j) (n + 1) = qAt L i * (((q : Int) ^ n : Int) : Rat) := by
  rw [trP_rs]
  have h1 : rs (n + 1) (fun j => qAt M j * ((kr ((q : Int) - 1) n i j : Int) : Rat)) = rs (n + 1) (fun j => rs (n + 1) (fun k => qAt L k * (((kr ((q : Int) - 1) n j k * kr ((q : Int) - 1) n i j : Int)) : Rat))) := by
    refine rs_congr fun j hj => ?_
    rw [hM j hj, trP_rs, Rat.mul_comm, ← rs_mul]
    refine rs_congr fun k _ => ?_
    rw [Rat.intCast_mul]
    grind
  rw [h1, rs_swap]
  have h2 : rs (n + 1) (fun k => rs (n + 1) (fun j => qAt L k * (((kr ((q : Int) - 1) n j k * kr ((q : Int) - 1) n i j : Int)) : Rat))) = rs (n + 1) (fun k => if i = k then qAt L k * (((q : Int) ^ n : Int) : Rat) else 0) := by
    refine rs_congr fun k hk => ?_
    rw [rs_mul, ← rs_cast]
    have := inv2_eq ((q : Int) - 1) n i k (by omega)
    rw [inv2] at this
    rw [this, Int.sub_add_cancel]
    split
    · rfl
    · rw [show (((0 : Int)) : Rat) = 0 from rfl, Rat.mul_zero]
  rw [h2, rs_one hi]
end Go.Proofs.Ytlhgkefaflpgeaa

namespace Go.Proofs.Ytlhgkefaflpgeaa
set_option maxRecDepth 100000
set_option linter.unusedVariables false
set_option linter.unusedSimpArgs false
--plain
def dot : List Rat → List Rat → Rat
  | a :: l, b :: m => a * b + dot l m
  | _, _ => 0
theorem dot_nil (l : List Rat) : dot l [] = 0 := by cases l <;> rfl
theorem nil_dot (l : List Rat) : dot [] l = 0 := rfl
theorem dot_cons (a b : Rat) (l m : List Rat) : dot (a :: l) (b :: m) = a * b + dot l m := rfl
theorem dot_comm : ∀ (l m : List Rat), dot l m = dot m l := by
  intro l
  induction l with
  | nil => intro m; rw [dot_nil]; rfl
  | cons a l ih =>
    intro m
    cases m with
    | nil => rfl
    | cons b m => rw [dot_cons, dot_cons, ih, Rat.mul_comm]

/-- Entry by entry at most. -/
def leL : List Rat → List Rat → Prop
  | a :: l, b :: m => a ≤ b ∧ leL l m
  | [], [] => True
  | _, _ => False
def nonneg (l : List Rat) : Prop := ∀ x ∈ l, 0 ≤ x

theorem mul_mono {a b x : Rat} (h : a ≤ b) (hx : 0 ≤ x) : a * x ≤ b * x := by
  have := Rat.mul_nonneg (a := b - a) (b := x) (by grind) hx
  grind
theorem dot_mono : ∀ {a b x : List Rat}, leL a b → nonneg x → dot a x ≤ dot b x := by
  intro a
  induction a with
  | nil =>
    intro b x h hx
    cases b with
    | nil => exact Rat.le_refl
    | cons b l => exact h.elim
  | cons a l ih =>
    intro b x h hx
    cases b with
    | nil => exact h.elim
    | cons b m =>
      cases x with
      | nil => rw [dot_nil, dot_nil]; exact Rat.le_refl
      | cons y x =>
        rw [dot_cons, dot_cons]
        have h1 := mul_mono h.1 (hx y (.head _))
        have h2 := ih h.2 (fun z hz => hx z (.tail _ hz))
        grind

theorem leL_get : ∀ {a b : List Rat}, leL a b ↔ a.length = b.length ∧ ∀ (i : Nat) (x y : Rat), a[i]? = some x → b[i]? = some y → x ≤ y := by
  intro a
  induction a with
  | nil =>
    intro b
    cases b with
    | nil => exact ⟨fun _ => ⟨rfl, fun i x y h => by simp at h⟩, fun _ => trivial⟩
    | cons b l => exact ⟨fun h => h.elim, fun h => by simp at h⟩
  | cons a l ih =>
    intro b
    cases b with
    | nil => exact ⟨fun h => h.elim, fun h => by simp at h⟩
    | cons b m =>
      constructor
      · rintro ⟨h1, h2⟩
        obtain ⟨h3, h4⟩ := ih.1 h2
        refine ⟨by simp [h3], fun i x y hx hy => ?_⟩
        cases i with
        | zero => simp at hx hy; subst hx; subst hy; exact h1
        | succ i => simp at hx hy; exact h4 i x y hx hy
      · rintro ⟨h1, h2⟩
        exact ⟨h2 0 a b rfl rfl, ih.2 ⟨by simpa using h1, fun i x y hx hy => h2 (i + 1) x y (by simpa using hx) (by simpa using hy)⟩⟩

/-- The products of y with the columns of A, of which there are n. -/
def colsum (y : List Rat) (A : List (List Rat)) (j : Nat) : Rat := dot y (A.map fun r => r.getD j 0)
def cols (y : List Rat) (A : List (List Rat)) (n : Nat) : List Rat := (List.range n).map (colsum y A)
def rows (A : List (List Rat)) (x : List Rat) : List Rat := A.map fun r => dot r x

theorem ring_a (y F G b P Q : Rat) : (y * F + G) * b + (y * P + Q) = y * (F * b + P) + (G * b + Q) := by grind
theorem dot_lin (y0 : Rat) (f g : Nat → Rat) : ∀ (n : Nat) (s : Nat) (x : List Rat), dot ((List.range' s n).map fun j => y0 * f j + g j) x = y0 * dot ((List.range' s n).map f) x + dot ((List.range' s n).map g) x := by
  intro n
  induction n with
  | zero => intro s x; simp [dot, Rat.mul_zero, Rat.add_zero]
  | succ n ih =>
    intro s x
    rw [List.range'_succ]
    cases x with
    | nil => simp only [dot_nil]; grind
    | cons b x =>
      simp only [List.map_cons, dot_cons]
      rw [ih]
      generalize dot ((List.range' (s + 1) n).map f) x = P
      generalize dot ((List.range' (s + 1) n).map g) x = Q
      generalize f s = F
      generalize g s = G
      exact ring_a _ _ _ _ _ _
theorem map_getD {r : List Rat} {n : Nat} (h : r.length = n) : (List.range n).map (fun j => r.getD j 0) = r := by
  subst h
  refine List.ext_getElem (by simp) fun i h1 h2 => ?_
  simp [List.getD, h2]
theorem dot_zeroL (n : Nat) (x : List Rat) : ∀ s, dot ((List.range' s n).map fun _ => (0 : Rat)) x = 0 := by
  induction n generalizing x with
  | zero => intro s; rfl
  | succ n ih =>
    intro s
    rw [List.range'_succ]
    cases x with
    | nil => rfl
    | cons b x => simp only [List.map_cons, dot_cons]; rw [ih]; grind

/-- Columns first or rows first. -/
theorem swap_dot {n : Nat} {x : List Rat} : ∀ {y : List Rat} {A : List (List Rat)}, (∀ r ∈ A, r.length = n) → dot (cols y A n) x = dot y (rows A x) := by
  intro y
  induction y with
  | nil =>
    intro A _
    show dot ((List.range n).map fun j => dot [] _) x = _
    simp only [nil_dot]
    rw [List.range_eq_range']
    exact dot_zeroL n x 0
  | cons y0 y ih =>
    intro A h
    cases A with
    | nil =>
      show dot ((List.range n).map fun j => dot (y0 :: y) []) x = dot (y0 :: y) []
      rw [dot_nil, List.range_eq_range']
      exact dot_zeroL n x 0
    | cons r A =>
      have h1 := ih (A := A) fun r' hr => h r' (.tail _ hr)
      have hr := h r (.head _)
      show dot ((List.range n).map fun j => y0 * r.getD j 0 + colsum y A j) x = y0 * dot r x + dot y (rows A x)
      rw [← h1, cols]
      conv => rhs; rw [← map_getD hr]
      rw [List.range_eq_range']
      exact dot_lin y0 (fun j => r.getD j 0) (colsum y A) n 0 x

/-- A program: the objective, the rows, the right sides. -/
structure Lp where
  C : List Rat
  A : List (List Rat)
  B : List Rat
structure Lp.Ok (l : Lp) : Prop where
  len : l.A.length = l.B.length
  row : ∀ r ∈ l.A, r.length = l.C.length
structure Feas (l : Lp) (b x : List Rat) : Prop where
  len : x.length = l.C.length
  pos : nonneg x
  le : leL (rows l.A x) b
structure Cov (l : Lp) (c y : List Rat) : Prop where
  len : y.length = l.A.length
  pos : nonneg y
  le : leL c (cols y l.A l.C.length)

theorem weak {l : Lp} (hl : l.Ok) {b c x y : List Rat} (hx : Feas l b x) (hy : Cov l c y) : dot c x ≤ dot b y := by
  have h1 := dot_mono hy.le hx.pos
  rw [swap_dot hl.row, dot_comm y] at h1
  have h2 := dot_mono hx.le hy.pos
  exact Rat.le_trans h1 h2

theorem dot_zero_left (n : Nat) (x : List Rat) : dot (List.replicate n 0) x = 0 := by
  induction n generalizing x with
  | zero => rfl
  | succ n ih =>
    rw [List.replicate_succ]
    cases x with
    | nil => rfl
    | cons b x => rw [dot_cons, ih]; grind

theorem farkas {l : Lp} (hl : l.Ok) {x y : List Rat} (hy : Cov l (List.replicate l.C.length 0) y) (hneg : dot l.B y < 0) (hx : Feas l l.B x) : False := by
  have := weak hl hx hy
  rw [dot_zero_left] at this
  grind

/-- x + t r, entry by entry. -/
def along (t : Rat) : List Rat → List Rat → List Rat
  | a :: l, b :: m => (a + t * b) :: along t l m
  | _, _ => []
theorem along_len (t : Rat) : ∀ {x r : List Rat}, x.length = r.length → (along t x r).length = x.length := by
  intro x
  induction x with
  | nil => intro r _; rfl
  | cons a l ih =>
    intro r h
    cases r with
    | nil => simp at h
    | cons b m => simp only [along, List.length_cons]; rw [ih (by simpa using h)]
theorem along_pos {t : Rat} (ht : 0 ≤ t) : ∀ {x r : List Rat}, nonneg x → nonneg r → nonneg (along t x r) := by
  intro x
  induction x with
  | nil => intro r _ _ z hz; cases hz
  | cons a l ih =>
    intro r h1 h2
    cases r with
    | nil => intro z hz; cases hz
    | cons b m =>
      intro z hz
      rcases List.mem_cons.1 hz with rfl | hz
      · have := Rat.mul_nonneg ht (h2 b (.head _))
        have := h1 a (.head _)
        grind
      · exact ih (fun y hy => h1 y (.tail _ hy)) (fun y hy => h2 y (.tail _ hy)) z hz
theorem ring_b (c b t d P Q : Rat) : c * (b + t * d) + (P + t * Q) = c * b + P + t * (c * d + Q) := by grind
theorem dot_along (t : Rat) : ∀ {a x r : List Rat}, x.length = r.length → dot a (along t x r) = dot a x + t * dot a r := by
  intro a
  induction a with
  | nil => intro x r _; simp only [nil_dot]; grind
  | cons c a ih =>
    intro x r h
    cases x with
    | nil =>
      cases r with
      | nil => simp only [along, dot_nil]; grind
      | cons b m => simp at h
    | cons b x =>
      cases r with
      | nil => simp at h
      | cons d r =>
        simp only [along, dot_cons]
        rw [ih (by simpa using h)]
        generalize dot a x = P
        generalize dot a r = Q
        exact ring_b _ _ _ _ _ _
theorem rows_along {t : Rat} (ht : 0 ≤ t) {x r : List Rat} (h : x.length = r.length) : ∀ {A : List (List Rat)} {b : List Rat}, leL (rows A x) b → leL (rows A r) (List.replicate A.length 0) → leL (rows A (along t x r)) b := by
  intro A
  induction A with
  | nil => intro b h1 _; exact h1
  | cons a A ih =>
    intro b h1 h2
    cases b with
    | nil => exact h1.elim
    | cons b bs =>
      refine ⟨?_, ih h1.2 h2.2⟩
      show dot a (along t x r) ≤ b
      rw [dot_along t h]
      have h3 : dot a r ≤ 0 := h2.1
      have h4 := Rat.mul_nonneg ht (show 0 ≤ -dot a r by grind)
      have h5 : dot a x ≤ b := h1.1
      grind
theorem feas_along {l : Lp} {t : Rat} (ht : 0 ≤ t) {x r : List Rat} (hx : Feas l l.B x) (hr : Feas l (List.replicate l.A.length 0) r) : Feas l l.B (along t x r) := by
  have h : x.length = r.length := by rw [hx.len, hr.len]
  exact ⟨by rw [along_len t h, hx.len], along_pos ht hx.pos hr.pos, rows_along ht h hx.le hr.le⟩

/-- An optimum and a ray do not go together. -/
theorem bounded {l : Lp} (hl : l.Ok) {x y r z : List Rat} (hy : Cov l l.C y) (hx : Feas l l.B x) (hr : Feas l (List.replicate l.A.length 0) r) (hpos : 0 < dot l.C r) : False := by
  have key : ∀ t : Rat, 0 ≤ t → dot l.C x + t * dot l.C r ≤ dot l.B y := fun t ht => by
    have h := weak hl (feas_along ht hx hr) hy
    rwa [dot_along t (by rw [hx.len, hr.len])] at h
  generalize dot l.C x = P at key
  generalize dot l.C r = Q at key hpos
  generalize dot l.B y = M at key
  have h0 := key 0 (by grind)
  have h1 := key ((M - P) * Q⁻¹ + 1) (by
    have h2 : 0 ≤ Q⁻¹ := Rat.le_of_lt (Rat.inv_pos.2 hpos)
    have := Rat.mul_nonneg (show 0 ≤ M - P by grind) h2
    grind)
  have h3 : Q⁻¹ * Q = 1 := Rat.inv_mul_cancel Q (by grind)
  have h4 : ((M - P) * Q⁻¹ + 1) * Q = (M - P) * (Q⁻¹ * Q) + Q := by grind
  rw [h4, h3] at h1
  grind

/-- Where entry-wise at most gives the same sum, each entry is the same, or its factor 0. -/
theorem tight : ∀ {a b x : List Rat}, leL a b → nonneg x → dot a x = dot b x → ∀ (i : Nat) (u v z : Rat), a[i]? = some u → b[i]? = some v → x[i]? = some z → z = 0 ∨ u = v := by
  intro a
  induction a with
  | nil => intro b x _ _ _ i u v z h; simp at h
  | cons a l ih =>
    intro b x h hx he i u v z hu hv hz
    cases b with
    | nil => exact h.elim
    | cons b m =>
      cases x with
      | nil => simp at hz
      | cons y x =>
        rw [dot_cons, dot_cons] at he
        have h1 := mul_mono h.1 (hx y (.head _))
        have h2 := dot_mono h.2 (x := x) (fun z hz => hx z (.tail _ hz))
        have e1 : a * y = b * y := by grind
        have e2 : dot l x = dot m x := by grind
        cases i with
        | zero =>
          simp at hu hv hz
          subst hu; subst hv; subst hz
          by_cases hy : y = 0
          · exact .inl hy
          · refine .inr ?_
            have h3 : y * y⁻¹ = 1 := Rat.mul_inv_cancel y hy
            have h4 : a * (y * y⁻¹) = b * (y * y⁻¹) := by rw [← Rat.mul_assoc, e1, Rat.mul_assoc]
            rw [h3, Rat.mul_one, Rat.mul_one] at h4
            exact h4
        | succ i =>
          simp at hu hv hz
          exact ih h.2 (fun z hz => hx z (.tail _ hz)) e2 i u v z hu hv hz
theorem slack {l : Lp} (hl : l.Ok) {x y : List Rat} (hx : Feas l l.B x) (hy : Cov l l.C y) (he : dot l.C x = dot l.B y) :
    (∀ (i : Nat) (u v z : Rat), (rows l.A x)[i]? = some u → l.B[i]? = some v → y[i]? = some z → z = 0 ∨ u = v) ∧
    ∀ (j : Nat) (u v z : Rat), l.C[j]? = some u → (cols y l.A l.C.length)[j]? = some v → x[j]? = some z → z = 0 ∨ u = v := by
  have h1 := dot_mono hy.le hx.pos
  have h2 := dot_mono hx.le hy.pos
  have h3 : dot (cols y l.A l.C.length) x = dot (rows l.A x) y := by rw [swap_dot hl.row, dot_comm]
  exact ⟨tight hx.le hy.pos (by grind), tight hy.le hx.pos (by grind)⟩
end Go.Proofs.Ytlhgkefaflpgeaa

namespace Go.Proofs.Ytlhgkefaflpgeaa
set_option maxRecDepth 100000
set_option linter.unusedVariables false
set_option linter.unusedSimpArgs false
--plain
/-- The sum of the products. -/
def dotR (a b : List Rt3) : Rat := dot (a.map vq) (b.map vq)
theorem dotR_succ : ∀ {a b : List Rt3} {k : Nat} {x y : Rt3}, a[k]? = some x → b[k]? = some y → dotR (a.take (k + 1)) (b.take (k + 1)) = dotR (a.take k) (b.take k) + vq x * vq y := by
  intro a
  induction a with
  | nil => intro b k x y h; simp at h
  | cons u a ih =>
    intro b k x y hx hy
    cases b with
    | nil => simp at hy
    | cons v b =>
      cases k with
      | zero =>
        simp only [List.getElem?_cons_zero, Option.some.injEq] at hx hy
        subst hx; subst hy
        simp only [dotR, List.take_succ_cons, List.take_zero, List.map_cons, List.map_nil, dot]
        rw [Rat.add_comm]
      | succ k =>
        simp only [List.getElem?_cons_succ] at hx hy
        have h := ih hx hy
        simp only [dotR, List.take_succ_cons, List.map_cons, dot_cons] at h ⊢
        rw [h, Rat.add_assoc]
theorem dotR_bd {K : Nat} (hK : 1 ≤ K) : ∀ {a b : List Rt3}, (∀ r ∈ a, okR K r) → (∀ r ∈ b, okR K r) → bd ((2 * K + 1) * a.length + 1) (dotR a b) := by
  intro a
  induction a with
  | nil => intro b _ _; exact bd_zero (by omega)
  | cons u a ih =>
    intro b ha hb
    cases b with
    | nil => exact bd_zero (by omega)
    | cons v b =>
      have h1 := bd_mul (okR_bd (ha u (.head _)) hK) (okR_bd (hb v (.head _)) hK) (by omega)
      have h2 := ih (b := b) (fun r h => ha r (.tail _ h)) (fun r h => hb r (.tail _ h))
      refine bd_mono (bd_add h1 h2) ?_
      rw [List.length_cons, Nat.mul_succ]
      omega
theorem dotR_min (a b : List Rt3) : dotR (a.take (min a.length b.length)) (b.take (min a.length b.length)) = dotR a b := by
  induction a generalizing b with
  | nil => simp [dotR, nil_dot]
  | cons u a ih =>
    cases b with
    | nil => simp [dotR, dot_nil]
    | cons v b =>
      have h := ih b
      simp only [dotR] at h ⊢
      rw [List.length_cons, List.length_cons, Nat.succ_min_succ, List.take_succ_cons, List.take_succ_cons, List.map_cons, List.map_cons, List.map_cons, List.map_cons, dot_cons, dot_cons, h]
theorem dotR_take_bd {K k n : Nat} (hK : 1 ≤ K) {a b : List Rt3} (ha : ∀ r ∈ a, okR K r) (hb : ∀ r ∈ b, okR K r) (hk : k ≤ n) : bd ((2 * K + 1) * n + 1) (dotR (a.take k) (b.take k)) := by
  refine bd_mono (dotR_bd hK (fun r h => ha r (List.mem_of_mem_take h)) (fun r h => hb r (List.mem_of_mem_take h))) ?_
  have h1 : (a.take k).length ≤ k := by simp; omega
  have := Nat.mul_le_mul_left (2 * K + 1) (Nat.le_trans h1 hk)
  omega
theorem mul_bd2 {K : Nat} (hK : 1 ≤ K) {x y : Rt3} (hx : okR K x) (hy : okR K y) : bd (2 * K) (vq x * vq y) :=
  bd_mono (bd_mul (okR_bd hx hK) (okR_bd hy hK) (by omega)) (by omega)
theorem okR_rt {K : Nat} {q : Rat} (h : bd K q) : okR K (rt q) := ⟨limbs_lt _, limbs_lt _, (bd_len h).1, (bd_len h).2⟩
theorem ok_mono {K M : Nat} {r : Rt3} (h : okR K r) (hm : K ≤ M) : okR M r := ⟨h.1, h.2.1, Nat.le_trans h.2.2.1 hm, Nat.le_trans h.2.2.2 hm⟩

/-- Signs of fractions. -/
theorem sign_neg {q : Rat} : q.num.sign < 0 ↔ q < 0 := by
  have h := Rat.num_nonneg (q := q)
  rw [← Rat.not_le, ← h, Int.not_le]
  constructor
  · intro h1
    exact Int.lt_of_not_ge fun h2 => by have := Int.sign_nonneg_iff.2 h2; omega
  · intro h1; rw [Int.sign_eq_neg_one_of_neg h1]; decide
theorem sign_pos {q : Rat} : 0 < q.num.sign ↔ 0 < q := by
  have h := sign_neg (q := -q)
  rw [Rat.neg_num, Int.sign_neg] at h
  constructor
  · intro h1; have := h.1 (by omega); grind
  · intro h1; have := h.2 (by grind); omega
theorem sign_zero {q : Rat} : q.num.sign = 0 ↔ q = 0 := by
  rw [Int.sign_eq_zero_iff_zero]; exact Rat.num_eq_zero
theorem cmp_neg {x y : Rat} : (x - y).num.sign < 0 ↔ x < y := by rw [sign_neg]; grind
theorem cmp_pos {x y : Rat} : 0 < (x - y).num.sign ↔ y < x := by rw [sign_pos]; grind
theorem cmp_zero {x y : Rat} : (x - y).num.sign = 0 ↔ x = y := by rw [sign_zero]; grind

/-- A program of rows of fractions. -/
def lpOf (C : List Rt3) (A : List (List Rt3)) (B : List Rt3) : Lp := ⟨C.map vq, A.map (List.map vq), B.map vq⟩
/-- No entry is negative. -/
def posB (x : List Rt3) : Bool := x.all fun r => decide (0 ≤ vq r)
/-- The rows are at most the entries of b, where there are k rows. -/
def leB (A : List (List Rt3)) (b x : List Rt3) (k : Nat) : Bool := (List.range k).all fun i => decide (dotR (A.getD i default) x ≤ vq (b.getD i default))
def feasB (n : Nat) (A : List (List Rt3)) (b x : List Rt3) : Bool := decide (x.length = n) && posB x && leB A b x A.length
/-- The product of y with a column. -/
def colR (y : List Rt3) (A : List (List Rt3)) (j : Nat) : Rat := dotR y (A.map fun r => r.getD j default)
def geB (y : List Rt3) (A : List (List Rt3)) (c : List Rt3) (k : Nat) : Bool := (List.range k).all fun j => decide (vq (c.getD j default) ≤ colR y A j)
def covB (n : Nat) (A : List (List Rt3)) (y c : List Rt3) : Bool := decide (y.length = A.length) && posB y && geB y A c n
theorem range_all_succ {f : Nat → Bool} {k : Nat} : (List.range (k + 1)).all f = ((List.range k).all f && f k) := by
  rw [List.range_succ, List.all_append]; simp
theorem range_all_false {f : Nat → Bool} {k n : Nat} (hk : k < n) (h : f k = false) : (List.range n).all f = false := by
  rw [List.all_eq_false]; exact ⟨k, List.mem_range.2 hk, by simp [h]⟩
theorem vq_default : vq (default : Rt3) = 0 := by
  show mkRat (sg false 0) 0 = 0
  exact Rat.mkRat_zero _
theorem nonneg_iff {x : List Rt3} : posB x = true ↔ nonneg (x.map vq) := by
  simp only [posB, List.all_eq_true, decide_eq_true_eq, nonneg, List.mem_map]
  constructor
  · rintro h _ ⟨r, hr, rfl⟩; exact h r hr
  · intro h r hr; exact h _ ⟨r, hr, rfl⟩
theorem getD_at {α : Type} [Inhabited α] {l : List α} {i : Nat} (h : i < l.length) : l[i]? = some (l.getD i default) := by
  rw [List.getD, List.getElem?_eq_getElem h]; rfl
theorem rows_at {A : List (List Rt3)} {x : List Rt3} {i : Nat} (h : i < A.length) : (rows (A.map (List.map vq)) (x.map vq))[i]? = some (dotR (A.getD i default) x) := by
  rw [rows, List.map_map, List.getElem?_map, getD_at h]; rfl
theorem feas_iff {C : List Rt3} {A : List (List Rt3)} {B b x : List Rt3} (hb : A.length = b.length) : feasB C.length A b x = true ↔ Feas (lpOf C A B) (b.map vq) (x.map vq) := by
  rw [feasB, Bool.and_eq_true, Bool.and_eq_true, decide_eq_true_eq, nonneg_iff]
  constructor
  · rintro ⟨⟨h1, h2⟩, h3⟩
    refine ⟨by simp [lpOf, h1], h2, leL_get.2 ⟨by simp [rows, lpOf, hb], fun i u v hu hv => ?_⟩⟩
    have hi : i < A.length := by have := (List.getElem?_eq_some_iff.1 hv).1; simp at this; omega
    have hu' := hu
    rw [show (lpOf C A B).A = A.map (List.map vq) from rfl, rows_at hi] at hu'
    rw [List.getElem?_map, getD_at (by omega)] at hv
    obtain rfl := Option.some.inj hu'
    obtain rfl := Option.some.inj hv
    exact of_decide_eq_true (List.all_eq_true.1 h3 i (List.mem_range.2 hi))
  · rintro ⟨h1, h2, h3⟩
    refine ⟨⟨by simpa [lpOf] using h1, h2⟩, List.all_eq_true.2 fun i hi => decide_eq_true ?_⟩
    have hi' := List.mem_range.1 hi
    exact (leL_get.1 h3).2 i _ _ (rows_at hi') (by rw [List.getElem?_map, getD_at (by omega)]; rfl)
theorem cols_at {A : List (List Rt3)} {y : List Rt3} {n j : Nat} (hA : ∀ r ∈ A, r.length = n) (h : j < n) : (cols (y.map vq) (A.map (List.map vq)) n)[j]? = some (colR y A j) := by
  rw [cols, List.getElem?_map, List.getElem?_range h]
  show some _ = some _
  congr 1
  rw [colsum, colR, dotR, List.map_map, List.map_map]
  congr 1
  refine List.map_congr_left fun r hr => ?_
  show (r.map vq).getD j 0 = vq (r.getD j default)
  rw [List.getD, List.getElem?_map, getD_at (by rw [hA r hr]; exact h)]; rfl
theorem cov_iff {C : List Rt3} {A : List (List Rt3)} {B c y : List Rt3} (hA : ∀ r ∈ A, r.length = C.length) (hc : c.length = C.length) : covB C.length A y c = true ↔ Cov (lpOf C A B) (c.map vq) (y.map vq) := by
  rw [covB, Bool.and_eq_true, Bool.and_eq_true, decide_eq_true_eq, nonneg_iff]
  have e : (lpOf C A B).C.length = C.length := by simp [lpOf]
  constructor
  · rintro ⟨⟨h1, h2⟩, h3⟩
    refine ⟨by simp [lpOf, h1], h2, leL_get.2 ⟨by simp [cols, lpOf, hc], fun j u v hu hv => ?_⟩⟩
    have hj : j < C.length := by have := (List.getElem?_eq_some_iff.1 hu).1; simp at this; omega
    rw [e, show (lpOf C A B).A = A.map (List.map vq) from rfl, cols_at hA hj] at hv
    rw [List.getElem?_map, getD_at (by omega)] at hu
    obtain rfl := Option.some.inj hu
    obtain rfl := Option.some.inj hv
    exact of_decide_eq_true (List.all_eq_true.1 h3 j (List.mem_range.2 hj))
  · rintro ⟨h1, h2, h3⟩
    refine ⟨⟨by simpa [lpOf] using h1, h2⟩, List.all_eq_true.2 fun j hj => decide_eq_true ?_⟩
    have hj' := List.mem_range.1 hj
    rw [e] at h3
    exact (leL_get.1 h3).2 j _ _ (by rw [List.getElem?_map, getD_at (by omega)]; rfl) (cols_at hA hj')
theorem lp_ok {C : List Rt3} {A : List (List Rt3)} {B : List Rt3} (hAB : A.length = B.length) (hA : ∀ r ∈ A, r.length = C.length) : (lpOf C A B).Ok :=
  ⟨by simp [lpOf, hAB], fun r hr => by
    obtain ⟨r', h, rfl⟩ := List.mem_map.1 hr
    simp [lpOf, hA r' h]⟩
/-- Rows of fractions 0. -/
theorem zeros_vq (n : Nat) : (List.replicate n (default : Rt3)).map vq = List.replicate n 0 := by
  rw [List.map_replicate, vq_default]
theorem zero_at (n j : Nat) : vq ((List.replicate n (default : Rt3)).getD j default) = 0 := by
  rw [List.getD, List.getElem?_replicate]
  split <;> exact vq_default

/-- What Accept accepts. -/
def accB (kind : Int) (C : List Rt3) (A : List (List Rt3)) (B X Y R : List Rt3) : Bool :=
  if kind = 0 then decide (R.length = 0) && feasB C.length A B X && covB C.length A Y C && decide (dotR C X = dotR B Y)
  else if kind = 1 then decide (X.length = 0) && decide (R.length = 0) && covB C.length A Y (List.replicate C.length default) && decide (dotR B Y < 0)
  else if kind = 2 then decide (Y.length = 0) && feasB C.length A B X && feasB C.length A (List.replicate B.length default) R && decide (0 < dotR C R)
  else false
end Go.Proofs.Ytlhgkefaflpgeaa

namespace Go.Proofs.Ytlhgkefaflpgeaa
set_option maxRecDepth 100000
set_option linter.unusedVariables false
set_option linter.unusedSimpArgs false
--plain
/-- In how many places two words differ. -/
def dist : List Int → List Int → Nat
  | x :: u, y :: v => (if x = y then 0 else 1) + dist u v
  | _, _ => 0
/-- The product of 1 + a z over the places where they agree, and of 1 - z over the others. -/
def pk (a : Int) : List Int → List Int → (Nat → Int)
  | x :: u, y :: v => lin (if x = y then a else -1) (pk a u v)
  | _, _ => dl
theorem dist_le : ∀ (u v : List Int), dist u v ≤ u.length := by
  intro u
  induction u with
  | nil => intro v; exact Nat.le_refl 0
  | cons x u ih =>
    intro v
    cases v with
    | nil => exact Nat.zero_le _
    | cons y v =>
      have := ih v
      rw [dist, List.length_cons]
      split <;> omega
theorem dist_self (u : List Int) : dist u u = 0 := by
  induction u with
  | nil => rfl
  | cons x u ih => rw [dist, if_pos rfl, ih]
theorem pk_kr (a : Int) : ∀ (u v : List Int), u.length = v.length → ∀ k, pk a u v k = kr a u.length k (dist u v) := by
  intro u
  induction u with
  | nil =>
    intro v h k
    cases v with
    | nil => rfl
    | cons y v => simp at h
  | cons x u ih =>
    intro v h k
    cases v with
    | nil => simp at h
    | cons y v =>
      have h' : u.length = v.length := by simpa using h
      have e : pk a u v = fun j => kr a u.length j (dist u v) := funext (ih v h')
      rw [pk, dist, List.length_cons]
      by_cases hxy : x = y
      · rw [if_pos hxy, if_pos hxy, Nat.zero_add, kr_in a (dist_le u v), lin_eq, e]
      · rw [if_neg hxy, if_neg hxy, Nat.add_comm 1, kr_out, lin_neg, e]

/-- The kernel of one place. -/
def kap (q : Nat) (x y : Int) : Int := if x = y then (q : Int) - 1 else -1
theorem sm_delta {q : Nat} {x : Int} (h0 : 0 ≤ x) (h1 : x < q) (f : Int → Int) : sm q (fun c => if x = (c : Int) then f c else 0) = f x := by
  have key : ∀ m : Nat, sm m (fun c => if x = (c : Int) then f c else 0) = if x < m then f x else 0 := by
    intro m
    induction m with
    | zero => rw [sm, if_neg (by omega)]
    | succ m ih =>
      rw [sm, ih]
      by_cases h : x < m
      · rw [if_pos h, if_neg (by omega), if_pos (by omega)]; omega
      · rw [if_neg h]
        by_cases h2 : x = (m : Int)
        · rw [if_pos h2, if_pos (by omega), ← h2]; omega
        · rw [if_neg h2, if_neg (by omega)]; omega
  rw [key, if_pos h1]
theorem kap_eq (q : Nat) (x y : Int) : kap q x y = (q : Int) * (if x = y then 1 else 0) - 1 := by
  unfold kap; split <;> omega
theorem sm_const (n : Nat) (c : Int) : sm n (fun _ => c) = n * c := by
  induction n with
  | zero => simp [sm]
  | succ n ih => rw [sm, ih]; grind
theorem kap_ring (q a b e : Int) : (q * a - 1) * (q * b - 1) = (q * q) * (a * b) - q * a - (q * b - 1) := by grind
theorem kap_sum {q : Nat} {x y : Int} (hx : 0 ≤ x) (hx1 : x < q) (hy : 0 ≤ y) (hy1 : y < q) : sm q (fun c => kap q x c * kap q y c) = q * kap q x y := by
  have e : sm q (fun c => kap q x c * kap q y c) = sm q (fun c => ((q : Int) * q) * (if x = (c : Int) then (if y = (c : Int) then 1 else 0) else 0) - (q : Int) * (if x = (c : Int) then 1 else 0) - ((q : Int) * (if y = (c : Int) then 1 else 0) - 1)) := by
    refine sm_congr fun c _ => ?_
    rw [kap_eq, kap_eq, kap_ring _ _ _ 0]
    congr 3
    split <;> simp
  rw [e, sm_sub, sm_sub, sm_sub, sm_mul, sm_mul, sm_mul, sm_delta hx hx1 (fun c => if y = c then 1 else 0), sm_delta hx hx1 (fun _ => 1), sm_delta hy hy1 (fun _ => 1), sm_const, kap_eq]
  have e2 : (if y = x then (1 : Int) else 0) = if x = y then 1 else 0 := by
    by_cases h : x = y
    · rw [if_pos h, if_pos h.symm]
    · rw [if_neg h, if_neg fun e => h e.symm]
  rw [e2]
  generalize (if x = y then (1 : Int) else 0) = d
  grind

theorem sm_nonneg {n : Nat} {f : Nat → Int} (h : ∀ i, i < n → 0 ≤ f i) : 0 ≤ sm n f := by
  induction n with
  | zero => exact Int.le_refl 0
  | succ n ih =>
    have h1 := ih fun i hi => h i (by omega)
    have h2 := h n (by omega)
    rw [sm]; omega
theorem sm_sq (n : Nat) (f : Nat → Int) : sm n (fun i => sm n (fun j => f i * f j)) = sm n f * sm n f := by
  have e : ∀ i, sm n (fun j => f i * f j) = sm n f * f i := fun i => by rw [sm_mul, Int.mul_comm]
  rw [sm_congr (g := fun i => sm n f * f i) fun i _ => e i, sm_mul]
theorem ring_p (f g k p0 p1 : Int) : f * g * (p1 + k * p0) = f * g * p1 + f * g * k * p0 := by grind
theorem ring_q (q f g x y p : Int) : f * x * (g * y) * p = f * g * p * (x * y) := by grind
theorem ring_r (q f g k p : Int) : q * (f * g * k * p) = f * g * p * (q * k) := by grind
/-- The kernel is positive: whatever the weights of the words. -/
theorem pk_nonneg {q : Nat} (hq : 1 ≤ q) {N : Nat} : ∀ (n : Nat) (w : Nat → List Int), (∀ i, i < N → (w i).length = n ∧ ∀ x ∈ w i, 0 ≤ x ∧ x < q) → ∀ (f : Nat → Int) (k : Nat), 0 ≤ sm N (fun i => sm N (fun j => f i * f j * pk ((q : Int) - 1) (w i) (w j) k)) := by
  intro n
  induction n with
  | zero =>
    intro w hw f k
    have e : ∀ i j, i < N → j < N → pk ((q : Int) - 1) (w i) (w j) k = dl k := fun i j hi hj => by
      rw [List.eq_nil_of_length_eq_zero (hw i hi).1]; rfl
    rw [sm_congr (g := fun i => sm N (fun j => f i * f j * dl k)) fun i hi => sm_congr fun j hj => by rw [e i j hi hj]]
    cases k with
    | zero =>
      have : sm N (fun i => sm N (fun j => f i * f j * dl 0)) = sm N f * sm N f := by
        rw [← sm_sq]; exact sm_congr fun i _ => sm_congr fun j _ => Int.mul_one _
      rw [this]
      generalize sm N f = z
      rcases Int.le_total 0 z with h | h
      · exact Int.mul_nonneg h h
      · exact Int.mul_nonneg_of_nonpos_of_nonpos h h
    | succ k =>
      refine sm_nonneg fun i _ => sm_nonneg fun j _ => ?_
      show 0 ≤ f i * f j * 0
      omega
  | succ n ih =>
    intro w hw f k
    have hwt : ∀ i, i < N → ((w i).tail).length = n ∧ ∀ x ∈ (w i).tail, 0 ≤ x ∧ x < q := fun i hi => by
      refine ⟨by rw [List.length_tail, (hw i hi).1]; rfl, fun x hx => (hw i hi).2 x (List.mem_of_mem_tail hx)⟩
    have hwh : ∀ i, i < N → 0 ≤ (w i).headD 0 ∧ (w i).headD 0 < q := fun i hi => by
      cases hwi : w i with
      | nil => have := (hw i hi).1; rw [hwi] at this; simp at this
      | cons x u => exact (hw i hi).2 x (by rw [hwi]; exact .head _)
    have hp : ∀ i j, i < N → j < N → pk ((q : Int) - 1) (w i) (w j) = lin (kap q ((w i).headD 0) ((w j).headD 0)) (pk ((q : Int) - 1) (w i).tail (w j).tail) := fun i j hi hj => by
      cases hwi : w i with
      | nil => have := (hw i hi).1; rw [hwi] at this; simp at this
      | cons x u =>
        cases hwj : w j with
        | nil => have := (hw j hj).1; rw [hwj] at this; simp at this
        | cons y v => rfl
    cases k with
    | zero =>
      have e : sm N (fun i => sm N (fun j => f i * f j * pk ((q : Int) - 1) (w i) (w j) 0)) = sm N (fun i => sm N (fun j => f i * f j * pk ((q : Int) - 1) (w i).tail (w j).tail 0)) :=
        sm_congr fun i hi => sm_congr fun j hj => by rw [hp i j hi hj]; rfl
      rw [e]
      exact ih _ hwt f 0
    | succ k =>
      have e : sm N (fun i => sm N (fun j => f i * f j * pk ((q : Int) - 1) (w i) (w j) (k + 1))) =
          sm N (fun i => sm N (fun j => f i * f j * pk ((q : Int) - 1) (w i).tail (w j).tail (k + 1))) + sm N (fun i => sm N (fun j => f i * f j * kap q ((w i).headD 0) ((w j).headD 0) * pk ((q : Int) - 1) (w i).tail (w j).tail k)) := by
        rw [← sm_add]
        refine sm_congr fun i hi => ?_
        rw [← sm_add]
        refine sm_congr fun j hj => ?_
        rw [hp i j hi hj, ← ring_p]; rfl
      rw [e]
      have h1 := ih _ hwt f (k + 1)
      have h2 : 0 ≤ (q : Int) * sm N (fun i => sm N (fun j => f i * f j * kap q ((w i).headD 0) ((w j).headD 0) * pk ((q : Int) - 1) (w i).tail (w j).tail k)) := by
        have e2 : (q : Int) * sm N (fun i => sm N (fun j => f i * f j * kap q ((w i).headD 0) ((w j).headD 0) * pk ((q : Int) - 1) (w i).tail (w j).tail k)) =
            sm q (fun c => sm N (fun i => sm N (fun j => (f i * kap q ((w i).headD 0) c) * (f j * kap q ((w j).headD 0) c) * pk ((q : Int) - 1) (w i).tail (w j).tail k))) := by
          refine Eq.symm ?_
          rw [sm_swap q N, ← sm_mul N (q : Int)]
          refine sm_congr fun i hi => ?_
          rw [sm_swap q N, ← sm_mul N (q : Int)]
          refine sm_congr fun j hj => ?_
          rw [sm_congr (g := fun c : Nat => f i * f j * pk ((q : Int) - 1) (w i).tail (w j).tail k * (kap q ((w i).headD 0) c * kap q ((w j).headD 0) c)) fun c _ => ring_q 0 _ _ _ _ _]
          rw [sm_mul, kap_sum (hwh i hi).1 (hwh i hi).2 (hwh j hj).1 (hwh j hj).2]
          exact (ring_r _ _ _ _ _).symm
        rw [e2]
        exact sm_nonneg fun c _ => ih _ hwt (fun i => f i * kap q ((w i).headD 0) c) k
      have h3 : 0 ≤ sm N (fun i => sm N (fun j => f i * f j * kap q ((w i).headD 0) ((w j).headD 0) * pk ((q : Int) - 1) (w i).tail (w j).tail k)) := by
        refine Int.not_lt.1 fun hneg => ?_
        have := Int.mul_neg_of_pos_of_neg (show (0 : Int) < q by omega) hneg
        omega
      omega

/-- Delsarte: the sum of the Krawtchouk numbers of all distances is not negative. -/
theorem kr_nonneg {q : Nat} (hq : 1 ≤ q) {N n : Nat} {w : Nat → List Int} (hw : ∀ i, i < N → (w i).length = n ∧ ∀ x ∈ w i, 0 ≤ x ∧ x < q) (k : Nat) : 0 ≤ sm N (fun i => sm N (fun j => kr ((q : Int) - 1) n k (dist (w i) (w j)))) := by
  have := pk_nonneg hq n w hw (fun _ => 1) k
  rw [sm_congr (g := fun i => sm N (fun j => kr ((q : Int) - 1) n k (dist (w i) (w j)))) fun i hi => sm_congr fun j hj => by
    rw [pk_kr _ _ _ (by rw [(hw i hi).1, (hw j hj).1]), (hw i hi).1]; omega] at this
  exact this

/-! ### How many pairs of words have each distance -/
def cntD (N : Nat) (w : Nat → List Int) (d : Nat) : Int := sm N (fun i => sm N (fun j => if dist (w i) (w j) = d then 1 else 0))
theorem sm_pick {n x : Nat} (h : x < n) (g : Nat → Int) : sm n (fun d => if x = d then g d else 0) = g x := by
  induction n with
  | zero => omega
  | succ n ih =>
    rw [sm]
    by_cases e : x = n
    · subst e
      rw [if_pos rfl, sm_congr (g := fun _ => 0) fun i hi => if_neg (show ¬ x = i by omega), sm_zero]; omega
    · rw [if_neg e, ih (by omega)]; omega
theorem cnt_sum {N n : Nat} {w : Nat → List Int} (hw : ∀ i, i < N → (w i).length = n) (g : Nat → Int) : sm (n + 1) (fun d => cntD N w d * g d) = sm N (fun i => sm N (fun j => g (dist (w i) (w j)))) := by
  have e : ∀ d, cntD N w d * g d = sm N (fun i => sm N (fun j => if dist (w i) (w j) = d then g d else 0)) := fun d => by
    rw [cntD, Int.mul_comm, ← sm_mul]
    refine sm_congr fun i _ => ?_
    rw [← sm_mul]
    refine sm_congr fun j _ => ?_
    split <;> simp
  rw [sm_congr fun d _ => e d, sm_swap]
  refine sm_congr fun i hi => ?_
  rw [sm_swap]
  refine sm_congr fun j hj => ?_
  exact sm_pick (by have := dist_le (w i) (w j); rw [hw i hi] at this; omega) g
theorem cnt_nonneg (N : Nat) (w : Nat → List Int) (d : Nat) : 0 ≤ cntD N w d := sm_nonneg fun i _ => sm_nonneg fun j _ => by split <;> decide
theorem cnt_le (N : Nat) (w : Nat → List Int) (d : Nat) : cntD N w d ≤ N * N := by
  have key : ∀ {n : Nat} {f g : Nat → Int}, (∀ i, i < n → f i ≤ g i) → sm n f ≤ sm n g := by
    intro n f g h
    induction n with
    | zero => exact Int.le_refl 0
    | succ n ih =>
      have h1 := ih fun i hi => h i (by omega)
      have h2 := h n (by omega)
      rw [sm, sm]; omega
  have h := key (n := N) (f := fun i => sm N (fun j => if dist (w i) (w j) = d then 1 else 0)) (g := fun _ => (N : Int)) fun i _ => by
    have := key (n := N) (f := fun j => if dist (w i) (w j) = d then (1 : Int) else 0) (g := fun _ => 1) fun j _ => by
      show (if dist (w i) (w j) = d then (1 : Int) else 0) ≤ 1
      split <;> decide
    rw [sm_const] at this
    show sm N _ ≤ (N : Int)
    omega
  rw [sm_const] at h
  exact h
theorem sm_rev (n : Nat) (f : Nat → Int) : sm n (fun i => f (n - 1 - i)) = sm n f := by
  induction n generalizing f with
  | zero => rfl
  | succ n ih =>
    rw [sm_head]
    have : sm n (fun i => f (n + 1 - 1 - (i + 1))) = sm n f := by
      rw [← ih f]
      exact sm_congr fun i hi => by congr 1; omega
    rw [this, sm]
    show f (n + 1 - 1 - 0) + _ = _
    rw [show n + 1 - 1 - 0 = n by omega]; omega
theorem cnt_rev (N : Nat) (w : Nat → List Int) (d : Nat) : cntD N (fun i => w (N - 1 - i)) d = cntD N w d := by
  rw [cntD, cntD]
  have h := sm_rev N (fun i => sm N (fun j => if dist (w i) (w (N - 1 - j)) = d then (1 : Int) else 0))
  refine Eq.trans h ?_
  exact sm_congr fun i _ => sm_rev N (fun j => if dist (w i) (w j) = d then (1 : Int) else 0)

/-! ### The linear programming bound -/
theorem rs_le {n : Nat} {f g : Nat → Rat} (h : ∀ i, i < n → f i ≤ g i) : rs n f ≤ rs n g := by
  induction n with
  | zero => exact Rat.le_refl
  | succ n ih =>
    have h1 := ih fun i hi => h i (by omega)
    have h2 := h n (by omega)
    rw [rs, rs]; grind
theorem rs_const (n : Nat) (c : Rat) : rs n (fun _ => c) = n * c := by
  induction n with
  | zero => simp [rs]
  | succ n ih => rw [rs, ih, Rat.natCast_add]; grind
/-- The value of a certificate at x. -/
def valF (q n : Nat) (f : Nat → Rat) (x : Nat) : Rat := rs (n + 1) (fun k => f k * ((kr ((q : Int) - 1) n k x : Int) : Rat))
theorem lp_bound {q N n d : Nat} (hq : 1 ≤ q) (hN : 0 < N) (hd : 1 ≤ d) {w : Nat → List Int} (hw : ∀ i, i < N → (w i).length = n ∧ ∀ x ∈ w i, 0 ≤ x ∧ x < q)
    {f : Nat → Rat} (h0 : f 0 = 1) (hf : ∀ k, k ≤ n → 0 ≤ f k) (hv : ∀ i, d ≤ i → i ≤ n → valF q n f i ≤ 0)
    (ha : ∀ i j, i < N → j < N → i ≠ j → d ≤ dist (w i) (w j)) : (N : Rat) ≤ valF q n f 0 := by
  have hdn : ∀ i j, i < N → dist (w i) (w j) ≤ n := fun i j hi => by have := dist_le (w i) (w j); rw [(hw i hi).1] at this; exact this
  -- from below
  have low : (N : Rat) * N ≤ rs N (fun i => rs N (fun j => valF q n f (dist (w i) (w j)))) := by
    have e : rs N (fun i => rs N (fun j => valF q n f (dist (w i) (w j)))) = rs (n + 1) (fun k => f k * ((sm N (fun i => sm N (fun j => kr ((q : Int) - 1) n k (dist (w i) (w j)))) : Int) : Rat)) := by
      have e1 : ∀ k, f k * ((sm N (fun i => sm N (fun j => kr ((q : Int) - 1) n k (dist (w i) (w j)))) : Int) : Rat) = rs N (fun i => rs N (fun j => f k * ((kr ((q : Int) - 1) n k (dist (w i) (w j)) : Int) : Rat))) := fun k => by
        rw [rs_cast, ← rs_mul]
        exact rs_congr fun i _ => by rw [rs_cast, ← rs_mul]
      rw [rs_congr fun k _ => e1 k, rs_swap (n + 1) N]
      exact rs_congr fun i _ => by rw [rs_swap (n + 1) N]; rfl
    rw [e]
    have e2 : (N : Rat) * N = rs (n + 1) (fun k => if 0 = k then (N : Rat) * N else 0) := (rs_one (Nat.succ_pos n) (fun _ => (N : Rat) * N)).symm
    rw [e2]
    refine rs_le fun k hk => ?_
    have hs := kr_nonneg hq hw k
    by_cases hk0 : 0 = k
    · subst hk0
      rw [if_pos rfl, h0]
      have : sm N (fun i => sm N (fun j => kr ((q : Int) - 1) n 0 (dist (w i) (w j)))) = (N : Int) * N := by
        rw [sm_congr (g := fun _ => (N : Int)) fun i _ => by rw [sm_congr (g := fun _ => 1) fun j _ => kr_zero _ _ _, sm_const]; omega]
        exact sm_const _ _
      rw [this, Rat.intCast_mul, Rat.one_mul]
      exact Rat.le_refl
    · rw [if_neg hk0]
      refine Rat.mul_nonneg (hf k (by omega)) ?_
      exact Rat.intCast_nonneg.2 hs
  -- from above
  have up : rs N (fun i => rs N (fun j => valF q n f (dist (w i) (w j)))) ≤ (N : Rat) * valF q n f 0 := by
    rw [← rs_const]
    refine rs_le fun i hi => ?_
    have := rs_one hi (fun _ => valF q n f 0)
    rw [← this]
    refine rs_le fun j hj => ?_
    by_cases e : i = j
    · subst e; rw [if_pos rfl, dist_self]; exact Rat.le_refl
    · rw [if_neg e]; exact hv _ (ha i j hi hj e) (hdn i j hi)
  have h := Rat.le_trans low up
  have hNp : (0 : Rat) < N := Rat.natCast_pos.2 hN
  exact Rat.le_of_mul_le_mul_left h hNp

/-! ### The certificate of Singleton -/
def gS (q n x m : Nat) : Int := sm (n + 1) (fun k => (binom (n - k) m : Int) * kr ((q : Int) - 1) n k x)
theorem gS_last {q n x : Nat} (hx : x ≤ n) (m : Nat) : sm (n + 2) (fun k => (binom (n + 1 - k) m : Int) * kr ((q : Int) - 1) n k x) = sm (n + 1) (fun k => (binom (n + 1 - k) m : Int) * kr ((q : Int) - 1) n k x) := by
  rw [sm, kr_deg _ hx (Nat.lt_succ_self n), Int.mul_zero, Int.add_zero]
theorem gS_shift (q n x m : Nat) : sm (n + 2) (fun k => (binom (n + 1 - k) m : Int) * bf (fun j => kr ((q : Int) - 1) n j x) k) = gS q n x m := by
  rw [sm_head, gS]
  show _ * 0 + _ = _
  rw [Int.mul_zero, Int.zero_add]
  refine sm_congr fun k _ => ?_
  rw [show n + 1 - (k + 1) = n - k by omega]; rfl
theorem gS_pascal {q n x : Nat} (m : Nat) : sm (n + 1) (fun k => (binom (n + 1 - k) (m + 1) : Int) * kr ((q : Int) - 1) n k x) = gS q n x m + gS q n x (m + 1) := by
  rw [gS, gS, ← sm_add]
  refine sm_congr fun k hk => ?_
  rw [show n + 1 - k = (n - k) + 1 by omega, binom_succ]
  push_cast
  exact Int.add_mul _ _ _
theorem gS_zero (q n x : Nat) : sm (n + 1) (fun k => (binom (n + 1 - k) 0 : Int) * kr ((q : Int) - 1) n k x) = gS q n x 0 := by
  rw [gS]
  exact sm_congr fun k _ => by rw [binom_zero, binom_zero]
theorem gS_out {q n x : Nat} (hx : x ≤ n) (m : Nat) : gS q (n + 1) (x + 1) m = sm (n + 1) (fun k => (binom (n + 1 - k) m : Int) * kr ((q : Int) - 1) n k x) - gS q n x m := by
  rw [gS, sm_congr (g := fun k => (binom (n + 1 - k) m : Int) * kr ((q : Int) - 1) n k x - (binom (n + 1 - k) m : Int) * bf (fun j => kr ((q : Int) - 1) n j x) k) fun k _ => by rw [kr_out]; exact Int.mul_sub _ _ _]
  rw [sm_sub, gS_last hx, gS_shift]
theorem gS_vanish {q : Nat} : ∀ {m n x : Nat}, m < x → x ≤ n → gS q n x m = 0 := by
  intro m
  induction m with
  | zero =>
    intro n x h hx
    obtain ⟨x, rfl⟩ : ∃ y, x = y + 1 := ⟨x - 1, by omega⟩
    obtain ⟨n, rfl⟩ : ∃ y, n = y + 1 := ⟨n - 1, by omega⟩
    rw [gS_out (by omega), gS_zero]; omega
  | succ m ih =>
    intro n x h hx
    obtain ⟨x, rfl⟩ : ∃ y, x = y + 1 := ⟨x - 1, by omega⟩
    obtain ⟨n, rfl⟩ : ∃ y, n = y + 1 := ⟨n - 1, by omega⟩
    rw [gS_out (by omega), gS_pascal, ih (by omega) (by omega)]; omega
theorem gS_in (q n m : Nat) : gS q (n + 1) 0 m = sm (n + 1) (fun k => (binom (n + 1 - k) m : Int) * kr ((q : Int) - 1) n k 0) + ((q : Int) - 1) * gS q n 0 m := by
  rw [gS, sm_congr (g := fun k => (binom (n + 1 - k) m : Int) * kr ((q : Int) - 1) n k 0 + ((q : Int) - 1) * ((binom (n + 1 - k) m : Int) * bf (fun j => kr ((q : Int) - 1) n j 0) k)) fun k _ => by rw [kr_in _ (Nat.zero_le _)]; grind]
  rw [sm_add, sm_mul, gS_last (Nat.zero_le _), gS_shift]
theorem ring_g (q a : Int) : a + (q - 1) * a = q * a := by grind
theorem gS_first {q : Nat} : ∀ {n m : Nat}, m ≤ n → gS q n 0 m = (q : Int) ^ (n - m) * (binom n m : Int) := by
  intro n
  induction n with
  | zero =>
    intro m hm
    obtain rfl : m = 0 := by omega
    simp [gS, sm, kr_zero, binom]
  | succ n ih =>
    intro m hm
    rw [gS_in]
    cases m with
    | zero =>
      rw [gS_zero, ring_g, ih (Nat.zero_le _), binom_zero, binom_zero, Nat.sub_zero, Nat.sub_zero, Int.pow_succ, Int.mul_comm ((q : Int) ^ n) q, Int.mul_assoc]
    | succ m =>
      rw [gS_pascal, Int.add_assoc, ring_g, ih (by omega), binom_succ, show n + 1 - (m + 1) = n - m by omega]
      by_cases h : m + 1 ≤ n
      · rw [ih h, show n - m = (n - (m + 1)) + 1 by omega, Int.pow_succ]
        push_cast
        grind
      · obtain rfl : m = n := by omega
        have h0 : gS q m 0 (m + 1) = 0 := by
          rw [gS, sm_congr (g := fun _ => 0) fun k _ => by rw [binom_gt (m - k) (m + 1) (by omega)]; simp, sm_zero]
        rw [h0, binom_gt m (m + 1) (Nat.lt_succ_self m)]
        simp
end Go.Proofs.Ytlhgkefaflpgeaa

namespace Go.Proofs.Ytlhgkefaflpgeaa
set_option maxRecDepth 100000
set_option linter.unusedVariables false
set_option linter.unusedSimpArgs false
--plain
/-- A row that is 0 but for one entry. -/
def unitL (n i : Nat) : List Rt3 := (List.replicate (n + 1) (default : Rt3)).set i (false, [1], [1])
theorem vq_oneL : vq (false, [1], [1]) = 1 := by rw [← rt_one]; exact vq_rt 1
theorem unit_at {n i k : Nat} (hk : k < n + 1) : qAt (unitL n i) k = if i = k then 1 else 0 := by
  rw [qAt, unitL, List.getD, List.getElem?_set]
  by_cases e : i = k
  · subst e
    rw [if_pos rfl, if_pos (by simpa using hk), if_pos rfl]
    exact vq_oneL
  · rw [if_neg e, if_neg e, List.getElem?_replicate, if_pos hk]
    exact vq_default
theorem unit_len (n i : Nat) : (unitL n i).length = n + 1 := by simp [unitL]
theorem unit_ok (n i : Nat) : ∀ r ∈ unitL n i, okR 1 r := fun r hr => by
  rcases List.mem_or_eq_of_mem_set hr with h | rfl
  · rw [(List.mem_replicate.1 h).2]
    exact ⟨(fun x h => by cases h), (fun x h => by cases h), Nat.zero_le _, Nat.zero_le _⟩
  · refine ⟨fun x h => ?_, fun x h => ?_, by decide, by decide⟩
    · rw [List.mem_singleton.1 h]; decide
    · rw [List.mem_singleton.1 h]; decide
theorem trP_unit {n i : Nat} (hi : i < n + 1) (g : Nat → Int) : trP (unitL n i) g (n + 1) = ((g i : Int) : Rat) := by
  rw [trP_rs, rs_congr (g := fun k => if i = k then ((g k : Int) : Rat) else 0) fun k hk => by
    rw [unit_at hk]
    by_cases e : i = k
    · rw [if_pos e, if_pos e, Rat.one_mul]
    · rw [if_neg e, if_neg e, Rat.zero_mul]]
  exact rs_one hi _
/-- The numbers K(0, i), .., K(n, i). -/
def colK (q n i : Nat) : List Rt3 := (List.range (n + 1)).map fun k => rt ((kr ((q : Int) - 1) n k i : Int) : Rat)
theorem colK_len (q n i : Nat) : (colK q n i).length = n + 1 := by simp [colK]
theorem kr_ok {q n k x : Nat} (hq : 2 ≤ q) (hq2 : q ≤ 256) (hn : n ≤ 64) (hx : x ≤ n) : okR 17 (rt ((kr ((q : Int) - 1) n k x : Int) : Rat)) := by
  obtain ⟨h1, h2⟩ := rt_int_len (kr_lt (k := k) hq hq2 hn hx)
  exact ⟨limbs_lt _, limbs_lt _, h1, by omega⟩
theorem colK_ok {q n i : Nat} (hq : 2 ≤ q) (hq2 : q ≤ 256) (hn : n ≤ 64) (hi : i ≤ n) : ∀ r ∈ colK q n i, okR 17 r := fun r hr => by
  obtain ⟨k, _, rfl⟩ := List.mem_map.1 hr
  exact kr_ok hq hq2 hn hi
theorem dotR_rs {a : List Rt3} {m : Nat} (g : Nat → Rat) (ha : a.length = m) : dotR a ((List.range m).map fun k => rt (g k)) = rs m (fun k => vq (a.getD k default) * g k) := by
  have key : ∀ k, k ≤ m → dotR (a.take k) (((List.range m).map fun k => rt (g k)).take k) = rs k (fun k => vq (a.getD k default) * g k) := by
    intro k
    induction k with
    | zero => intro _; rfl
    | succ k ih =>
      intro hk
      rw [dotR_succ (getD_at (by omega)) (by rw [List.getElem?_map, List.getElem?_range (by omega)]; rfl), ih (by omega), rs, vq_rt]
  have h := key m (Nat.le_refl m)
  rwa [List.take_of_length_le (by omega), List.take_of_length_le (by simp)] at h
/-- A certificate's numbers. -/
def fQ (f : List Rt3) (k : Nat) : Rat := vq (f.getD k default)
theorem dot_col {f : List Rt3} {q n : Nat} (hf : f.length = n + 1) (i : Nat) : dotR f (colK q n i) = valF q n (fQ f) i := dotR_rs _ hf
/-- A certificate is accepted. -/
def accP (q n d : Nat) (f : List Rt3) : Prop := f.length = n + 1 ∧ fQ f 0 = 1 ∧ posB f = true ∧ ∀ i, d ≤ i → i ≤ n → valF q n (fQ f) i ≤ 0
open Classical in
/-- The error of Accept, and its bound. -/
noncomputable def accDE (q n d : Nat) (f : List Rt3) : Int := if accP q n d f then 0 else 13
open Classical in
noncomputable def accDR (q n d : Nat) (f : List Rt3) : Rt3 := if accP q n d f then rt (valF q n (fQ f) 0) else (false, [], [])
theorem accD_yes {q n d : Nat} {f : List Rt3} (h : accP q n d f) : accDE q n d f = 0 ∧ accDR q n d f = rt (valF q n (fQ f) 0) := ⟨if_pos h, if_pos h⟩
theorem accD_no {q n d : Nat} {f : List Rt3} (h : ¬ accP q n d f) : accDE q n d f = 13 ∧ accDR q n d f = (false, [], []) := ⟨if_neg h, if_neg h⟩
theorem accD_zero {q n d : Nat} {f : List Rt3} (h : accDE q n d f = 0) : accP q n d f := by
  by_cases h' : accP q n d f
  · exact h'
  · rw [(accD_no h').1] at h; cases h
theorem pos_at {f : List Rt3} (h : posB f = true) (k : Nat) : 0 ≤ fQ f k := by
  by_cases hk : k < f.length
  · have := List.all_eq_true.1 h _ (List.mem_of_getElem? (getD_at hk))
    exact of_decide_eq_true this
  · rw [fQ, List.getD, List.getElem?_eq_none (by omega)]
    show 0 ≤ vq default
    rw [vq_default]; exact Rat.le_refl
/-- The linear programming bound, of a list of words. -/
theorem acc_bound {q n d : Nat} {W : List (List Int)} {f : List Rt3} (hq : 1 ≤ q) (hW : 0 < W.length) (hd : 1 ≤ d) (hw : ∀ w ∈ W, w.length = n ∧ ∀ x ∈ w, 0 ≤ x ∧ x < q)
    (ha : ∀ i j, i < W.length → j < i → d ≤ dist (W.getD i default) (W.getD j default)) (hsym : ∀ u v : List Int, dist u v = dist v u) (h : accP q n d f) : (W.length : Rat) ≤ valF q n (fQ f) 0 := by
  obtain ⟨h1, h2, h3, h4⟩ := h
  refine lp_bound (w := fun i => W.getD i default) hq hW hd (fun i hi => hw _ (List.mem_of_getElem? (getD_at hi))) h2 (fun k _ => pos_at h3 k) h4 fun i j hi hj hij => ?_
  rcases Nat.lt_or_gt_of_ne hij with hlt | hlt
  · rw [hsym]; exact ha j i hj hlt
  · exact ha i j hi hlt
theorem dist_symm : ∀ (u v : List Int), dist u v = dist v u := by
  intro u
  induction u with
  | nil => intro v; cases v <;> rfl
  | cons x u ih =>
    intro v
    cases v with
    | nil => rfl
    | cons y v =>
      rw [dist, dist, ih]
      by_cases h : x = y
      · rw [if_pos h, if_pos h.symm]
      · rw [if_neg h, if_neg fun e => h e.symm]

/-! ### Singleton -/
def singR (n d : Nat) : List Rt3 := (List.range (n + 1)).map fun k => rt (mkRat (binom (n - k) (d - 1) : Int) (binom n (d - 1)))
theorem binom_pos : ∀ {n k : Nat}, k ≤ n → 0 < binom n k := by
  intro n
  induction n with
  | zero => intro k h; obtain rfl : k = 0 := by omega
            decide
  | succ n ih =>
    intro k h
    cases k with
    | zero => rw [binom_zero]; decide
    | succ k => rw [binom_succ]; have := ih (k := k) (by omega); omega
theorem cancelR {x y c : Rat} (hc : c ≠ 0) (h : x * c = y * c) : x = y := by
  have e : ∀ z : Rat, z = z * c * c⁻¹ := fun z => by rw [Rat.mul_assoc, Rat.mul_inv_cancel c hc, Rat.mul_one]
  rw [e x, h, ← e y]
theorem cast_ne {b : Nat} (hb : b ≠ 0) : ((b : Int) : Rat) ≠ 0 := fun h => by
  have := Rat.intCast_eq_zero_iff.1 h
  omega
theorem mkRat_div (a : Int) {b : Nat} (hb : b ≠ 0) : mkRat a b * ((b : Int) : Rat) = ((a : Int) : Rat) := by
  rw [Rat.mkRat_eq_div]
  exact Rat.div_mul_cancel (cast_ne hb)
theorem sing_at {n d k : Nat} (hk : k ≤ n) : fQ (singR n d) k = mkRat (binom (n - k) (d - 1) : Int) (binom n (d - 1)) := by
  rw [fQ, singR, List.getD, List.getElem?_map, List.getElem?_range (by omega)]
  exact vq_rt _
theorem sing_val {q n d x : Nat} (h1 : 1 ≤ d) (h2 : d ≤ n) : valF q n (fQ (singR n d)) x * ((binom n (d - 1) : Int) : Rat) = ((gS q n x (d - 1) : Int) : Rat) := by
  have hb : binom n (d - 1) ≠ 0 := by have := binom_pos (n := n) (k := d - 1) (by omega); omega
  rw [gS, rs_cast, valF, Rat.mul_comm, ← rs_mul]
  refine rs_congr fun k hk => ?_
  rw [sing_at (by omega), Rat.intCast_mul, ← mkRat_div (binom (n - k) (d - 1) : Int) hb]
  grind
theorem sing_acc {q n d : Nat} (hq : 2 ≤ q) (h1 : 1 ≤ d) (h2 : d ≤ n) : accP q n d (singR n d) ∧ valF q n (fQ (singR n d)) 0 = ((q ^ (n - d + 1) : Nat) : Int) := by
  have hbp := binom_pos (n := n) (k := d - 1) (by omega)
  have hb : binom n (d - 1) ≠ 0 := by omega
  have hbq : (0 : Rat) < ((binom n (d - 1) : Int) : Rat) := Rat.intCast_pos.2 (by omega)
  have pos : ∀ k, 0 ≤ mkRat (binom (n - k) (d - 1) : Int) (binom n (d - 1)) := fun k => by
    rw [← Rat.divInt_ofNat]
    exact Rat.divInt_nonneg (by omega) (by omega)
  refine ⟨⟨by simp [singR], ?_, ?_, fun i hi hin => ?_⟩, ?_⟩
  · rw [sing_at (Nat.zero_le _), Nat.sub_zero]
    refine cancelR (cast_ne hb) ?_
    rw [mkRat_div _ hb, Rat.one_mul]
  · rw [posB, List.all_eq_true]
    intro r hr
    obtain ⟨k, _, rfl⟩ := List.mem_map.1 hr
    refine decide_eq_true ?_
    rw [vq_rt]; exact pos k
  · have h := sing_val (q := q) (x := i) h1 h2
    rw [gS_vanish (by omega) hin] at h
    have h0 : valF q n (fQ (singR n d)) i = 0 := by
      rcases Rat.mul_eq_zero.1 h with h | h
      · exact h
      · rw [h] at hbq; exact absurd hbq (by decide)
    rw [h0]; exact Rat.le_refl
  · have h := sing_val (q := q) (x := 0) h1 h2
    rw [gS_first (by omega), Rat.intCast_mul, show n - (d - 1) = n - d + 1 by omega] at h
    have h := cancelR (cast_ne hb) h
    rw [h, Int.natCast_pow]
end Go.Proofs.Ytlhgkefaflpgeaa

namespace Go.Proofs.Ytlhgkefaflpgeaa
set_option maxRecDepth 100000
set_option linter.unusedVariables false
set_option linter.unusedSimpArgs false
--plain
def okW (q : Int) (w : List Int) : Bool := w.all fun x => decide (0 ≤ x ∧ x < q)
def scanW (q : Int) (n : Nat) : List (List Int) → Int
  | [] => 0
  | w :: l => if w.length ≠ n then 3 else if okW q w then scanW q n l else 2
theorem scan_step {q : Int} {n : Nat} : ∀ {W : List (List Int)} {k : Nat} {z : List Int}, W[k]? = some z → scanW q n (W.take k) = 0 → z.length = n → okW q z = true → scanW q n (W.take (k + 1)) = 0 := by
  intro W
  induction W with
  | nil => intro k z h; simp at h
  | cons w W ih =>
    intro k z hz h hl ho
    cases k with
    | zero =>
      simp at hz; subst hz
      rw [List.take_succ_cons, List.take_zero, scanW, if_neg (not_not_intro hl), if_pos ho]; rfl
    | succ k =>
      rw [List.take_succ_cons, scanW] at h ⊢
      by_cases h1 : w.length = n
      · rw [if_neg (not_not_intro h1)] at h ⊢
        by_cases h2 : okW q w = true
        · rw [if_pos h2] at h ⊢; exact ih (by simpa using hz) h hl ho
        · rw [if_neg h2] at h; cases h
      · rw [if_pos h1] at h; cases h
theorem scan_stop {q : Int} {n : Nat} : ∀ {W : List (List Int)} {k : Nat} {z : List Int}, W[k]? = some z → scanW q n (W.take k) = 0 → scanW q n W = scanW q n (W.drop k) := by
  intro W
  induction W with
  | nil => intro k z h; simp at h
  | cons w W ih =>
    intro k z hz h
    cases k with
    | zero => rfl
    | succ k =>
      rw [List.take_succ_cons, scanW] at h
      rw [List.drop_succ_cons, scanW]
      by_cases h1 : w.length = n
      · rw [if_neg (not_not_intro h1)] at h ⊢
        by_cases h2 : okW q w = true
        · rw [if_pos h2] at h ⊢; exact ih (by simpa using hz) h
        · rw [if_neg h2] at h; cases h
      · rw [if_pos h1] at h; cases h
theorem drop_cons {α : Type} {W : List α} {k : Nat} {z : α} (hz : W[k]? = some z) : W.drop k = z :: W.drop (k + 1) := by
  obtain ⟨h, rfl⟩ := List.getElem?_eq_some_iff.1 hz
  exact List.drop_eq_getElem_cons h
theorem scan_shape {q : Int} {n : Nat} {W : List (List Int)} {k : Nat} {z : List Int} (hz : W[k]? = some z) (h : scanW q n (W.take k) = 0) (hl : z.length ≠ n) : scanW q n W = 3 := by
  rw [scan_stop hz h, drop_cons hz, scanW, if_pos hl]
theorem scan_elem {q : Int} {n : Nat} {W : List (List Int)} {k : Nat} {z : List Int} (hz : W[k]? = some z) (h : scanW q n (W.take k) = 0) (hl : z.length = n) (ho : okW q z = false) : scanW q n W = 2 := by
  rw [scan_stop hz h, drop_cons hz, scanW, if_neg (not_not_intro hl), if_neg (by rw [ho]; decide)]
theorem okW_step {q : Int} {w : List Int} {k : Nat} {z : Int} (hz : w[k]? = some z) (h : okW q (w.take k) = true) (ho : 0 ≤ z ∧ z < q) : okW q (w.take (k + 1)) = true := by
  rw [okW, List.take_add_one, hz, List.all_append]
  have h1 : (w.take k).all (fun x => decide (0 ≤ x ∧ x < q)) = true := h
  rw [h1]
  simp [ho.1, ho.2]
theorem okW_stop {q : Int} {w : List Int} {k : Nat} {z : Int} (hz : w[k]? = some z) (ho : ¬ (0 ≤ z ∧ z < q)) : okW q w = false := by
  rw [okW, List.all_eq_false]; exact ⟨z, List.mem_of_getElem? hz, by simpa using ho⟩
/-- The first error of a list of words. -/
def wordsE (q : Int) (W : List (List Int)) : Int := if q < 2 ∨ 256 < q then 6 else if W.length = 0 then 11 else if (W.getD 0 default).length < 1 ∨ 64 < (W.getD 0 default).length then 4 else scanW q (W.getD 0 default).length W
theorem scan_all {q : Int} {n : Nat} : ∀ {W : List (List Int)}, scanW q n W = 0 → ∀ w ∈ W, w.length = n ∧ ∀ x ∈ w, 0 ≤ x ∧ x < q := by
  intro W
  induction W with
  | nil => intro _ w hw; cases hw
  | cons w W ih =>
    intro h z hz
    rw [scanW] at h
    by_cases h1 : w.length = n
    · rw [if_neg (not_not_intro h1)] at h
      by_cases h2 : okW q w = true
      · rw [if_pos h2] at h
        rcases List.mem_cons.1 hz with rfl | hz
        · refine ⟨h1, fun x hx => ?_⟩
          have := List.all_eq_true.1 h2 x hx
          simpa using this
        · exact ih h z hz
      · rw [if_neg h2] at h; cases h
    · rw [if_pos h1] at h; cases h
theorem words_ok {q : Int} {W : List (List Int)} (h : wordsE q W = 0) : ∃ (p n : Nat), q = p ∧ 2 ≤ p ∧ p ≤ 256 ∧ 0 < W.length ∧ (W.getD 0 default).length = n ∧ 1 ≤ n ∧ n ≤ 64 ∧ ∀ w ∈ W, w.length = n ∧ ∀ x ∈ w, 0 ≤ x ∧ x < q := by
  unfold wordsE at h
  by_cases h1 : q < 2 ∨ 256 < q
  · rw [if_pos h1] at h; cases h
  rw [if_neg h1] at h
  by_cases h2 : W.length = 0
  · rw [if_pos h2] at h; cases h
  rw [if_neg h2] at h
  by_cases h3 : (W.getD 0 default).length < 1 ∨ 64 < (W.getD 0 default).length
  · rw [if_pos h3] at h; cases h
  rw [if_neg h3] at h
  exact ⟨q.toNat, _, by omega, by omega, by omega, by omega, rfl, by omega, by omega, scan_all h⟩

/-! ### Counting -/
/-- The words by number. -/
def wAt (W : List (List Int)) (i : Nat) : List Int := W.getD i default
/-- How many pairs up to a place have a distance. -/
def cntN (W : List (List Int)) : Nat → Nat → Nat → Nat
  | i, 0, d => match i with
    | 0 => 0
    | i + 1 => cntN W i W.length d
  | i, j + 1, d => cntN W i j d + (if dist (wAt W i) (wAt W j) = d then 1 else 0)
termination_by i j => (i, j)
theorem cntN_zero (W : List (List Int)) (d : Nat) : cntN W 0 0 d = 0 := by rw [cntN]
theorem cntN_next (W : List (List Int)) (i d : Nat) : cntN W (i + 1) 0 d = cntN W i W.length d := by rw [cntN]
theorem cntN_step (W : List (List Int)) (i j d : Nat) : cntN W i (j + 1) d = cntN W i j d + (if dist (wAt W i) (wAt W j) = d then 1 else 0) := by rw [cntN]
theorem cntN_sum (W : List (List Int)) (d : Nat) : ∀ (i j : Nat), (cntN W i j d : Int) = sm i (fun a => sm W.length (fun b => if dist (wAt W a) (wAt W b) = d then 1 else 0)) + sm j (fun b => if dist (wAt W i) (wAt W b) = d then 1 else 0) := by
  have step : ∀ i, (cntN W i 0 d : Int) = sm i (fun a => sm W.length (fun b => if dist (wAt W a) (wAt W b) = d then 1 else 0)) → ∀ j, (cntN W i j d : Int) = sm i (fun a => sm W.length (fun b => if dist (wAt W a) (wAt W b) = d then 1 else 0)) + sm j (fun b => if dist (wAt W i) (wAt W b) = d then 1 else 0) := by
    intro i h j
    induction j with
    | zero => rw [h, sm, Int.add_zero]
    | succ j ih =>
      rw [cntN_step, sm]
      push_cast
      rw [ih]
      by_cases e : dist (wAt W i) (wAt W j) = d
      · simp only [if_pos e]; omega
      · simp only [if_neg e]; omega
  have base : ∀ i, (cntN W i 0 d : Int) = sm i (fun a => sm W.length (fun b => if dist (wAt W a) (wAt W b) = d then 1 else 0)) := by
    intro i
    induction i with
    | zero => rw [cntN_zero]; rfl
    | succ i ih => rw [cntN_next, step i ih, sm]
  exact fun i j => step i (base i) j
theorem cntN_all (W : List (List Int)) (d : Nat) : (cntN W W.length 0 d : Int) = cntD W.length (wAt W) d := by
  rw [cntN_sum, sm, Int.add_zero]; rfl
theorem cntN_le (W : List (List Int)) (d : Nat) : ∀ i j, cntN W i j d ≤ i * W.length + j := by
  have step : ∀ i, cntN W i 0 d ≤ i * W.length → ∀ j, cntN W i j d ≤ i * W.length + j := by
    intro i h j
    induction j with
    | zero => exact h
    | succ j ih => rw [cntN_step]; split <;> omega
  have base : ∀ i, cntN W i 0 d ≤ i * W.length := by
    intro i
    induction i with
    | zero => rw [cntN_zero]; exact Nat.zero_le _
    | succ i ih => rw [cntN_next, Nat.succ_mul]; exact step i ih _
  exact fun i j => step i (base i) j
theorem cntN_set (W : List (List Int)) {m i j : Nat} (h : dist (wAt W i) (wAt W j) < m) : ((List.range m).map (cntN W i j)).set (dist (wAt W i) (wAt W j)) (cntN W i j (dist (wAt W i) (wAt W j)) + 1) = (List.range m).map (cntN W i (j + 1)) := by
  refine List.ext_getElem? fun k => ?_
  rw [List.getElem?_set]
  by_cases e : dist (wAt W i) (wAt W j) = k
  · subst e
    rw [if_pos rfl, if_pos (by simpa using h), List.getElem?_map, List.getElem?_range h]
    show _ = some _
    rw [cntN_step, if_pos rfl]
  · rw [if_neg e, List.getElem?_map, List.getElem?_map]
    by_cases hk : k < m
    · rw [List.getElem?_range hk]
      show some _ = some _
      rw [cntN_step, if_neg e, Nat.add_zero]
    · rw [List.getElem?_eq_none (by simp; omega)]; rfl
/-- The distance of two words, up to a place. -/
def distP (u v : List Int) : Nat → Nat
  | 0 => 0
  | k + 1 => distP u v k + (if u.getD k default = v.getD k default then 0 else 1)
theorem distP_le (u v : List Int) : ∀ k, distP u v k ≤ k
  | 0 => Nat.le_refl 0
  | k + 1 => by have := distP_le u v k; rw [distP]; split <;> omega
theorem distP_cons (x y : Int) (u v : List Int) : ∀ k, distP (x :: u) (y :: v) (k + 1) = (if x = y then 0 else 1) + distP u v k := by
  intro k
  induction k with
  | zero => simp [distP]
  | succ k ih =>
    rw [distP, ih, distP]
    simp only [List.getD_cons_succ]
    omega
theorem distP_all : ∀ (u v : List Int), u.length = v.length → distP u v u.length = dist u v := by
  intro u
  induction u with
  | nil => intro v _; rfl
  | cons x u ih =>
    intro v h
    cases v with
    | nil => simp at h
    | cons y v =>
      rw [List.length_cons, distP_cons, dist, ih v (by simpa using h)]
end Go.Proofs.Ytlhgkefaflpgeaa

namespace Go.Proofs.Ytlhgkefaflpgeaa
open Go Go.Fw
set_option maxRecDepth 100000
set_option linter.unusedVariables false
set_option linter.unusedSimpArgs false
theorem S_nat_short {pa : Option Addr} {n ca : Nat} {l : List Nat} : Ctr Try.prog 78 [.slice pa n ca] [] [slF U32 pa n ca l]
    (fun v Φ β => v = .slice pa (trim l).length (trim l).length ∧ Φ = [slF U32 pa (trim l).length (trim l).length (trim l)] ∧ β = []) := by
  refine Ctr_of_j' (F := F_nat_short) rfl fun C => ?_
  refine j_len 0 rfl fun hn hb hc => ?_
  subst hn
  have hb' : l.length * 4 ≤ 140737488355328 := hb
  refine j_nf [.o [0] 0, .c [1]] rfl ?_
  refine j_run it 1 rfl (by simp) ?_
  refine j_nf [.o [1, 0] 0, .c [1, 1]] rfl ?_
  refine j_run it 1 rfl (by simp) ?_
  refine j_step rfl (x_len sl33 rfl ?_)
  refine j_run it 1 rfl (by simp) ?_
  refine j_nf [.c [1, 1, 0, 0], .blk 0, .c [1, 1, 1]] rfl ?_
  refine j_loopN (X := Nat) (fun k => [(0, .slice pa l.length ca), (3, .int .i64 k)]) (fun _ => []) (fun _ => [slF U32 pa l.length ca l]) (fun k => k ≤ l.length ∧ trim (l.take k) = trim l) (fun k => k) l.length [0] rfl ⟨Nat.le_refl _, by rw [List.take_length]⟩ (by repeat (first | exact Fr.sub_nil _ | refine Fr.sub_cons rfl ?_)) rfl rfl ?_
  intro k ⟨hk, ht⟩ ih
  -- the end, once
  have done : trim (l.take k) = l.take k → J F_nat_short C [.c [1, 1, 1]] [(0, .slice pa l.length ca), (3, .int .i64 k)] [] [slF U32 pa l.length ca l]
      (Gives C fun v Φ β => v = .slice pa (trim l).length (trim l).length ∧ Φ = [slF U32 pa (trim l).length (trim l).length (trim l)] ∧ β = []) := by
    intro he
    have e : trim l = l.take k := by rw [← ht, he]
    have e2 : (trim l).length = k := by rw [e, List.length_take]; omega
    refine j_nf [.o [1, 1, 1, 0] 0, .c [1, 1, 1, 1]] rfl ?_
    refine j_run it 3 rfl (by simp) ?_
    refine j_step rfl (x_slice_hm 0 (k) (k) rfl rfl rfl rfl sl33 (by omega) (by omega) (by omega) (by omega) (by omega) ?_)
    refine j_run it 1 rfl (by simp) ?_
    refine j_nf [.c [1, 1, 1, 1]] rfl ?_
    refine j_gives [0] rfl rfl rfl ⟨?_, ?_, rfl⟩
    · rw [e2]; rfl
    · rw [e2, e]
  refine j_nf [.o [1, 1, 0, 0, 0, 0, 0] 0, .c [1, 1, 0, 0, 0, 0, 1], .c [1, 1, 0, 0, 0, 1], .lp [1, 1, 0, 0, 0], .blk 0, .c [1, 1, 1]] rfl ?_
  refine j_run it 3 rfl (by simp) ?_
  refine j_split_dec (t := 8) rfl (fun h1 => ?_) (fun h1 => ?_)
  · refine j_run it 3 rfl (by repeat' first | exact trivial | apply And.intro | omega) ?_
    refine j_gstep rfl rfl (x_idx 0 ((k) - 1) rfl rfl rfl sl33 (by omega) (by omega) fun z1 hz1 b1 o1 => ?_)
    refine j_gstep rfl rfl (x_ld_nat 0 rfl rfl ld78 fun ⟨r1, r2⟩ => ?_)
    refine j_run it 2 rfl (by simp) ?_
    refine j_nf [.c [1, 1, 0, 0, 0, 0, 1], .c [1, 1, 0, 0, 0, 1], .lp [1, 1, 0, 0, 0], .blk 0, .c [1, 1, 1]] rfl ?_
    refine j_if rfl rfl (fun h2 => ?_) (fun h2 => ?_)
    · have hz : z1 = 0 := by omega
      subst hz
      refine j_nf [.o [1, 1, 0, 0, 0, 1, 0] 0, .blk 1, .lp [1, 1, 0, 0, 0], .blk 0, .c [1, 1, 1]] rfl ?_
      refine j_run it 3 rfl (by repeat' first | exact trivial | apply And.intro | omega) ?_
      refine j_nfn 2 [.lp [1, 1, 0, 0, 0], .blk 0, .c [1, 1, 1]] rfl ?_
      refine j_to [1] (by repeat (first | exact Fr.sub_nil _ | refine Fr.sub_cons rfl ?_ | refine Fr.sub_consI rfl (by first | omega | (dsimp only; omega)) ?_ | refine Fr.sub_consS rfl (by first | omega | (dsimp only; omega)) (by first | omega | (dsimp only; omega)) ?_)) rfl rfl (ih (k - 1) (by omega) ⟨by omega, by rw [← trim_take_zero hz1]; rw [show k - 1 + 1 = k by omega]; exact ht⟩)
    · refine j_nfn 1 [.c [1, 1, 1]] rfl ?_
      refine j_to [1] (by repeat (first | exact Fr.sub_nil _ | refine Fr.sub_cons rfl ?_ | refine Fr.sub_consI rfl (by first | omega | (dsimp only; omega)) ?_ | refine Fr.sub_consS rfl (by first | omega | (dsimp only; omega)) (by first | omega | (dsimp only; omega)) ?_)) rfl rfl (done (by have := trim_take_ne hz1 (by omega); rwa [show k - 1 + 1 = k by omega] at this))
  · refine j_run it 7 rfl (by simp) ?_
    refine j_nf [.c [1, 1, 0, 0, 0, 0, 1], .c [1, 1, 0, 0, 0, 1], .lp [1, 1, 0, 0, 0], .blk 0, .c [1, 1, 1]] rfl ?_
    refine j_false rfl rfl ?_
    refine j_nfn 1 [.c [1, 1, 1]] rfl ?_
    refine j_to [0] (by repeat (first | exact Fr.sub_nil _ | refine Fr.sub_cons rfl ?_ | refine Fr.sub_consI rfl (by first | omega | (dsimp only; omega)) ?_ | refine Fr.sub_consS rfl (by first | omega | (dsimp only; omega)) (by first | omega | (dsimp only; omega)) ?_)) rfl rfl (done (by rw [show k = 0 by omega]; rfl))
end Go.Proofs.Ytlhgkefaflpgeaa

namespace Go.Proofs.Ytlhgkefaflpgeaa
open Go Go.Fw
set_option maxRecDepth 100000
set_option linter.unusedVariables false
set_option linter.unusedSimpArgs false
set_option maxHeartbeats 4000000
/-- q, n and d are in their ranges. -/
def rangeP (q n d : Int) : Prop := 2 ≤ q ∧ q ≤ 256 ∧ 1 ≤ n ∧ n ≤ 64 ∧ 1 ≤ d ∧ d ≤ n
instance (q n d : Int) : Decidable (rangeP q n d) := by unfold rangeP; infer_instance
theorem S_delsarte_wrong {q n d : Int} {res : Bool} (hres : decide (rangeP q n d) = !res) : Ctr Try.prog 44 [.int .i64 q, .int .i64 n, .int .i64 d] [] [] (Rv (.bool res) []) := by
  refine Ctr_of_j' (F := F_delsarte_wrong) rfl fun C => ?_
  have no : ¬ rangeP q n d → res = true := fun h => by rw [decide_eq_false h] at hres; simpa using hres
  by_cases h1 : q < 2
  · rw [no (by unfold rangeP; omega)]
    refine j_nf [.o [0] 0, .c [1]] rfl ?_
    refine j_run it 1 rfl (by simp) ?_
    refine j_nf [.o [1, 0] 0, .c [1, 1]] rfl ?_
    refine j_run it 3 rfl (by simp) ?_
    refine j_split_dec (t := 9) rfl (fun h2 => ?_) (fun h2 => by exfalso; omega)
    refine j_run it 21 rfl (by simp) ?_
    refine j_nf [.c [1, 1]] rfl ?_
    refine j_giv [] rfl rfl rfl ⟨rfl, rfl, rfl⟩
  by_cases h2 : 256 < q
  · rw [no (by unfold rangeP; omega)]
    refine j_nf [.o [0] 0, .c [1]] rfl ?_
    refine j_run it 1 rfl (by simp) ?_
    refine j_nf [.o [1, 0] 0, .c [1, 1]] rfl ?_
    refine j_run it 3 rfl (by simp) ?_
    refine j_split_dec (t := 9) rfl (fun h3 => by exfalso; omega) (fun h3 => ?_)
    refine j_run it 4 rfl (by simp) ?_
    refine j_split_dec (t := 13) rfl (fun h4 => ?_) (fun h4 => by exfalso; omega)
    refine j_run it 17 rfl (by simp) ?_
    refine j_nf [.c [1, 1]] rfl ?_
    refine j_giv [] rfl rfl rfl ⟨rfl, rfl, rfl⟩
  by_cases h3 : n < 1
  · rw [no (by unfold rangeP; omega)]
    refine j_nf [.o [0] 0, .c [1]] rfl ?_
    refine j_run it 1 rfl (by simp) ?_
    refine j_nf [.o [1, 0] 0, .c [1, 1]] rfl ?_
    refine j_run it 3 rfl (by simp) ?_
    refine j_split_dec (t := 9) rfl (fun h4 => by exfalso; omega) (fun h4 => ?_)
    refine j_run it 4 rfl (by simp) ?_
    refine j_split_dec (t := 13) rfl (fun h5 => by exfalso; omega) (fun h5 => ?_)
    refine j_run it 4 rfl (by simp) ?_
    refine j_split_dec (t := 17) rfl (fun h6 => ?_) (fun h6 => by exfalso; omega)
    refine j_run it 13 rfl (by simp) ?_
    refine j_nf [.c [1, 1]] rfl ?_
    refine j_giv [] rfl rfl rfl ⟨rfl, rfl, rfl⟩
  by_cases h4 : 64 < n
  · rw [no (by unfold rangeP; omega)]
    refine j_nf [.o [0] 0, .c [1]] rfl ?_
    refine j_run it 1 rfl (by simp) ?_
    refine j_nf [.o [1, 0] 0, .c [1, 1]] rfl ?_
    refine j_run it 3 rfl (by simp) ?_
    refine j_split_dec (t := 9) rfl (fun h5 => by exfalso; omega) (fun h5 => ?_)
    refine j_run it 4 rfl (by simp) ?_
    refine j_split_dec (t := 13) rfl (fun h6 => by exfalso; omega) (fun h6 => ?_)
    refine j_run it 4 rfl (by simp) ?_
    refine j_split_dec (t := 17) rfl (fun h7 => by exfalso; omega) (fun h7 => ?_)
    refine j_run it 4 rfl (by simp) ?_
    refine j_split_dec (t := 21) rfl (fun h8 => ?_) (fun h8 => by exfalso; omega)
    refine j_run it 9 rfl (by simp) ?_
    refine j_nf [.c [1, 1]] rfl ?_
    refine j_giv [] rfl rfl rfl ⟨rfl, rfl, rfl⟩
  by_cases h5 : d < 1
  · rw [no (by unfold rangeP; omega)]
    refine j_nf [.o [0] 0, .c [1]] rfl ?_
    refine j_run it 1 rfl (by simp) ?_
    refine j_nf [.o [1, 0] 0, .c [1, 1]] rfl ?_
    refine j_run it 3 rfl (by simp) ?_
    refine j_split_dec (t := 9) rfl (fun h6 => by exfalso; omega) (fun h6 => ?_)
    refine j_run it 4 rfl (by simp) ?_
    refine j_split_dec (t := 13) rfl (fun h7 => by exfalso; omega) (fun h7 => ?_)
    refine j_run it 4 rfl (by simp) ?_
    refine j_split_dec (t := 17) rfl (fun h8 => by exfalso; omega) (fun h8 => ?_)
    refine j_run it 4 rfl (by simp) ?_
    refine j_split_dec (t := 21) rfl (fun h9 => by exfalso; omega) (fun h9 => ?_)
    refine j_run it 4 rfl (by simp) ?_
    refine j_split_dec (t := 25) rfl (fun h10 => ?_) (fun h10 => by exfalso; omega)
    refine j_run it 5 rfl (by simp) ?_
    refine j_nf [.c [1, 1]] rfl ?_
    refine j_giv [] rfl rfl rfl ⟨rfl, rfl, rfl⟩
  have e : res = decide (n < d) := by
    by_cases h6 : n < d
    · rw [no (by unfold rangeP; omega), decide_eq_true h6]
    · rw [decide_eq_true (show rangeP q n d by unfold rangeP; omega)] at hres
      rw [decide_eq_false h6]; simpa using hres
  rw [e]
  refine j_nf [.o [0] 0, .c [1]] rfl ?_
  refine j_run it 1 rfl (by simp) ?_
  refine j_nf [.o [1, 0] 0, .c [1, 1]] rfl ?_
  refine j_run it 3 rfl (by simp) ?_
  refine j_split_dec (t := 9) rfl (fun h6 => by exfalso; omega) (fun h6 => ?_)
  refine j_run it 4 rfl (by simp) ?_
  refine j_split_dec (t := 13) rfl (fun h7 => by exfalso; omega) (fun h7 => ?_)
  refine j_run it 4 rfl (by simp) ?_
  refine j_split_dec (t := 17) rfl (fun h8 => by exfalso; omega) (fun h8 => ?_)
  refine j_run it 4 rfl (by simp) ?_
  refine j_split_dec (t := 21) rfl (fun h9 => by exfalso; omega) (fun h9 => ?_)
  refine j_run it 4 rfl (by simp) ?_
  refine j_split_dec (t := 25) rfl (fun h10 => by exfalso; omega) (fun h10 => ?_)
  refine j_run it 5 rfl (by simp) ?_
  refine j_nf [.c [1, 1]] rfl ?_
  refine j_giv [] rfl rfl rfl ⟨rfl, rfl, rfl⟩

theorem S_codewrightref34_Range {q n d : Int} {res : Bool} (hres : decide (rangeP q n d) = res) : Ctr Try.prog 20 [.int .i64 q, .int .i64 n, .int .i64 d] [] [] (Rv (.bool res) []) := by
  refine Ctr_of_j' (F := F_codewrightref34_Range) rfl fun C => ?_
  have no : ¬ rangeP q n d → res = false := fun h => by rw [decide_eq_false h] at hres; exact hres.symm
  by_cases h1 : 2 ≤ q
  · by_cases h2 : q ≤ 256
    · by_cases h3 : 1 ≤ n
      · by_cases h4 : n ≤ 64
        · by_cases h5 : 1 ≤ d
          · have e : res = decide (d ≤ n) := by
              by_cases h6 : d ≤ n
              · rw [decide_eq_true (show rangeP q n d from ⟨h1, h2, h3, h4, h5, h6⟩)] at hres
                rw [decide_eq_true h6]; exact hres.symm
              · rw [no (by unfold rangeP; omega), decide_eq_false h6]
            rw [e]
            refine j_nf [.o [0] 0, .c [1]] rfl ?_
            refine j_run it 1 rfl (by simp) ?_
            refine j_nf [.o [1, 0] 0, .c [1, 1]] rfl ?_
            refine j_run it 3 rfl (by simp) ?_
            refine j_split_dec (t := 9) rfl (fun h6 => ?_) (fun h6 => by exfalso; omega)
            refine j_run it 4 rfl (by simp) ?_
            refine j_split_dec (t := 13) rfl (fun h7 => ?_) (fun h7 => by exfalso; omega)
            refine j_run it 4 rfl (by simp) ?_
            refine j_split_dec (t := 17) rfl (fun h8 => ?_) (fun h8 => by exfalso; omega)
            refine j_run it 4 rfl (by simp) ?_
            refine j_split_dec (t := 21) rfl (fun h9 => ?_) (fun h9 => by exfalso; omega)
            refine j_run it 4 rfl (by simp) ?_
            refine j_split_dec (t := 25) rfl (fun h10 => ?_) (fun h10 => by exfalso; omega)
            refine j_run it 5 rfl (by simp) ?_
            refine j_nf [.c [1, 1]] rfl ?_
            refine j_giv [] rfl rfl rfl ⟨rfl, rfl, rfl⟩
          · rw [no (by unfold rangeP; omega)]
            refine j_nf [.o [0] 0, .c [1]] rfl ?_
            refine j_run it 1 rfl (by simp) ?_
            refine j_nf [.o [1, 0] 0, .c [1, 1]] rfl ?_
            refine j_run it 3 rfl (by simp) ?_
            refine j_split_dec (t := 9) rfl (fun h6 => ?_) (fun h6 => by exfalso; omega)
            refine j_run it 4 rfl (by simp) ?_
            refine j_split_dec (t := 13) rfl (fun h7 => ?_) (fun h7 => by exfalso; omega)
            refine j_run it 4 rfl (by simp) ?_
            refine j_split_dec (t := 17) rfl (fun h8 => ?_) (fun h8 => by exfalso; omega)
            refine j_run it 4 rfl (by simp) ?_
            refine j_split_dec (t := 21) rfl (fun h9 => ?_) (fun h9 => by exfalso; omega)
            refine j_run it 4 rfl (by simp) ?_
            refine j_split_dec (t := 25) rfl (fun h10 => by exfalso; omega) (fun h10 => ?_)
            refine j_run it 5 rfl (by simp) ?_
            refine j_nf [.c [1, 1]] rfl ?_
            refine j_giv [] rfl rfl rfl ⟨rfl, rfl, rfl⟩
        · rw [no (by unfold rangeP; omega)]
          refine j_nf [.o [0] 0, .c [1]] rfl ?_
          refine j_run it 1 rfl (by simp) ?_
          refine j_nf [.o [1, 0] 0, .c [1, 1]] rfl ?_
          refine j_run it 3 rfl (by simp) ?_
          refine j_split_dec (t := 9) rfl (fun h5 => ?_) (fun h5 => by exfalso; omega)
          refine j_run it 4 rfl (by simp) ?_
          refine j_split_dec (t := 13) rfl (fun h6 => ?_) (fun h6 => by exfalso; omega)
          refine j_run it 4 rfl (by simp) ?_
          refine j_split_dec (t := 17) rfl (fun h7 => ?_) (fun h7 => by exfalso; omega)
          refine j_run it 4 rfl (by simp) ?_
          refine j_split_dec (t := 21) rfl (fun h8 => by exfalso; omega) (fun h8 => ?_)
          refine j_run it 9 rfl (by simp) ?_
          refine j_nf [.c [1, 1]] rfl ?_
          refine j_giv [] rfl rfl rfl ⟨rfl, rfl, rfl⟩
      · rw [no (by unfold rangeP; omega)]
        refine j_nf [.o [0] 0, .c [1]] rfl ?_
        refine j_run it 1 rfl (by simp) ?_
        refine j_nf [.o [1, 0] 0, .c [1, 1]] rfl ?_
        refine j_run it 3 rfl (by simp) ?_
        refine j_split_dec (t := 9) rfl (fun h4 => ?_) (fun h4 => by exfalso; omega)
        refine j_run it 4 rfl (by simp) ?_
        refine j_split_dec (t := 13) rfl (fun h5 => ?_) (fun h5 => by exfalso; omega)
        refine j_run it 4 rfl (by simp) ?_
        refine j_split_dec (t := 17) rfl (fun h6 => by exfalso; omega) (fun h6 => ?_)
        refine j_run it 13 rfl (by simp) ?_
        refine j_nf [.c [1, 1]] rfl ?_
        refine j_giv [] rfl rfl rfl ⟨rfl, rfl, rfl⟩
    · rw [no (by unfold rangeP; omega)]
      refine j_nf [.o [0] 0, .c [1]] rfl ?_
      refine j_run it 1 rfl (by simp) ?_
      refine j_nf [.o [1, 0] 0, .c [1, 1]] rfl ?_
      refine j_run it 3 rfl (by simp) ?_
      refine j_split_dec (t := 9) rfl (fun h3 => ?_) (fun h3 => by exfalso; omega)
      refine j_run it 4 rfl (by simp) ?_
      refine j_split_dec (t := 13) rfl (fun h4 => by exfalso; omega) (fun h4 => ?_)
      refine j_run it 17 rfl (by simp) ?_
      refine j_nf [.c [1, 1]] rfl ?_
      refine j_giv [] rfl rfl rfl ⟨rfl, rfl, rfl⟩
  · rw [no (by unfold rangeP; omega)]
    refine j_nf [.o [0] 0, .c [1]] rfl ?_
    refine j_run it 1 rfl (by simp) ?_
    refine j_nf [.o [1, 0] 0, .c [1, 1]] rfl ?_
    refine j_run it 3 rfl (by simp) ?_
    refine j_split_dec (t := 9) rfl (fun h2 => by exfalso; omega) (fun h2 => ?_)
    refine j_run it 21 rfl (by simp) ?_
    refine j_nf [.c [1, 1]] rfl ?_
    refine j_giv [] rfl rfl rfl ⟨rfl, rfl, rfl⟩

theorem S_codewrightref34_Words {q : Int} {pa : Option Addr} {n ca : Nat} {W : List (List Int)} {e : Int} (he : wordsE q W = e) : Ctr Try.prog 11 [.int .i64 q, .slice pa n ca] [] [slF (encSl I64) pa n ca W] (Rv (.int .i64 e) []) := by
  subst he
  refine Ctr_of_j' (F := F_codewrightref34_Words) rfl fun C => ?_
  refine j_len 0 rfl fun hn hb _ => ?_
  have hb' : W.length * 24 ≤ 140737488355328 := hb
  subst hn
  by_cases h1 : q < 2 ∨ 256 < q
  · rw [wordsE, if_pos h1]
    by_cases h2 : q < 2
    · refine j_nf [.o [0] 0, .c [1]] rfl ?_
      refine j_run it 1 rfl (by simp) ?_
      refine j_nf [.o [1, 0, 0] 0, .c [1, 0, 1], .c [1, 1]] rfl ?_
      refine j_run it 3 rfl (by simp) ?_
      refine j_split_dec (t := 9) rfl (fun h3 => ?_) (fun h3 => by exfalso; omega)
      refine j_run it 3 rfl (by simp) ?_
      refine j_nf [.c [1, 0, 1], .c [1, 1]] rfl ?_
      refine j_true rfl rfl ?_
      refine j_nf [.o [1, 0, 1, 0, 0] 0, .c [1, 0, 1, 0, 1], .c [1, 1]] rfl ?_
      refine j_run it 1 rfl (by simp) ?_
      refine j_nf [.c [1, 0, 1, 0, 1], .c [1, 1]] rfl ?_
      refine j_giv [] rfl rfl rfl ⟨rfl, rfl, rfl⟩
    · refine j_nf [.o [0] 0, .c [1]] rfl ?_
      refine j_run it 1 rfl (by simp) ?_
      refine j_nf [.o [1, 0, 0] 0, .c [1, 0, 1], .c [1, 1]] rfl ?_
      refine j_run it 3 rfl (by simp) ?_
      refine j_split_dec (t := 9) rfl (fun h3 => by exfalso; omega) (fun h3 => ?_)
      refine j_run it 3 rfl (by simp) ?_
      refine j_nf [.c [1, 0, 1], .c [1, 1]] rfl ?_
      refine j_if rfl rfl (fun h4 => ?_) (fun h4 => by exfalso; omega)
      refine j_nf [.o [1, 0, 1, 0, 0] 0, .c [1, 0, 1, 0, 1], .c [1, 1]] rfl ?_
      refine j_run it 1 rfl (by simp) ?_
      refine j_nf [.c [1, 0, 1, 0, 1], .c [1, 1]] rfl ?_
      refine j_giv [] rfl rfl rfl ⟨rfl, rfl, rfl⟩
  by_cases h2 : W.length = 0
  · rw [wordsE, if_neg h1, if_pos h2]
    refine j_nf [.o [0] 0, .c [1]] rfl ?_
    refine j_run it 1 rfl (by simp) ?_
    refine j_nf [.o [1, 0, 0] 0, .c [1, 0, 1], .c [1, 1]] rfl ?_
    refine j_run it 3 rfl (by simp) ?_
    refine j_split_dec (t := 9) rfl (fun h3 => by exfalso; omega) (fun h3 => ?_)
    refine j_run it 3 rfl (by simp) ?_
    refine j_nf [.c [1, 0, 1], .c [1, 1]] rfl ?_
    refine j_if rfl rfl (fun h4 => by exfalso; omega) (fun h4 => ?_)
    refine j_nf [.o [1, 1, 0, 0] 0, .c [1, 1, 0, 1], .c [1, 1, 1]] rfl ?_
    refine j_run it 1 rfl (by simp) ?_
    refine j_step rfl (x_len sl22 rfl ?_)
    refine j_run it 1 rfl (by simp) ?_
    refine j_nf [.c [1, 1, 0, 1], .c [1, 1, 1]] rfl ?_
    refine j_if rfl rfl (fun h5 => ?_) (fun h5 => by exfalso; omega)
    refine j_nf [.o [1, 1, 0, 1, 0, 0] 0, .c [1, 1, 0, 1, 0, 1], .c [1, 1, 1]] rfl ?_
    refine j_run it 1 rfl (by simp) ?_
    refine j_nf [.c [1, 1, 0, 1, 0, 1], .c [1, 1, 1]] rfl ?_
    refine j_giv [] rfl rfl rfl ⟨rfl, rfl, rfl⟩
  have h0 : 0 < W.length := by omega
  have hz0 : W[0]? = some (W.getD 0 default) := getD_at h0
  rw [wordsE, if_neg h1, if_neg h2]
  refine j_nf [.o [0] 0, .c [1]] rfl ?_
  refine j_run it 1 rfl (by simp) ?_
  refine j_nf [.o [1, 0, 0] 0, .c [1, 0, 1], .c [1, 1]] rfl ?_
  refine j_run it 3 rfl (by simp) ?_
  refine j_split_dec (t := 9) rfl (fun h3 => by exfalso; omega) (fun h3 => ?_)
  refine j_run it 3 rfl (by simp) ?_
  refine j_nf [.c [1, 0, 1], .c [1, 1]] rfl ?_
  refine j_if rfl rfl (fun h4 => by exfalso; omega) (fun h4 => ?_)
  refine j_nf [.o [1, 1, 0, 0] 0, .c [1, 1, 0, 1], .c [1, 1, 1]] rfl ?_
  refine j_run it 1 rfl (by simp) ?_
  refine j_step rfl (x_len sl22 rfl ?_)
  refine j_run it 1 rfl (by simp) ?_
  refine j_nf [.c [1, 1, 0, 1], .c [1, 1, 1]] rfl ?_
  refine j_if rfl rfl (fun h5 => by exfalso; omega) (fun h5 => ?_)
  refine j_nf [.o [1, 1, 1, 0, 0] 0, .c [1, 1, 1, 0, 1], .c [1, 1, 1, 1]] rfl ?_
  refine j_run it 1 rfl (by simp) ?_
  refine j_step rfl (x_idx 0 0 rfl rfl rfl sl22 (by omega) (by omega) fun z1 hz1 b1 o1 => ?_)
  refine j_step rfl (x_ld_sl 0 rfl rfl ld31 fun pa1 ca1 => ?_)
  refine j_step rfl (x_len sl31 rfl ?_)
  refine j_run it 2 rfl (by simp) ?_
  refine j_split_dec (t := 21) rfl (fun h6 => ?_) (fun h6 => ?_)
  · obtain rfl : z1 = W.getD 0 default := Option.some.inj (hz1.symm.trans hz0)
    rw [if_pos (.inl (by omega))]
    refine j_run it 6 rfl (by simp) ?_
    refine j_nf [.c [1, 1, 1, 0, 1], .c [1, 1, 1, 1]] rfl ?_
    refine j_true rfl rfl ?_
    refine j_nf [.o [1, 1, 1, 0, 1, 0, 0] 0, .c [1, 1, 1, 0, 1, 0, 1], .c [1, 1, 1, 1]] rfl ?_
    refine j_run it 1 rfl (by simp) ?_
    refine j_nf [.c [1, 1, 1, 0, 1, 0, 1], .c [1, 1, 1, 1]] rfl ?_
    refine j_giv [] rfl rfl rfl ⟨rfl, rfl, rfl⟩
  · obtain rfl : z1 = W.getD 0 default := Option.some.inj (hz1.symm.trans hz0)
    refine j_run it 1 rfl (by simp) ?_
    refine j_gstep rfl rfl (x_idx 2 0 rfl rfl rfl sl22 (by omega) (by omega) fun z1 hz2 b2 o2 => ?_)
    refine j_gstep rfl rfl (x_ld_sl 0 rfl rfl ld31 fun pa2 ca2 => ?_)
    refine j_gstep rfl rfl (x_len sl31 rfl ?_)
    refine j_run it 2 rfl (by simp) ?_
    refine j_nf [.c [1, 1, 1, 0, 1], .c [1, 1, 1, 1]] rfl ?_
    refine j_if rfl rfl (fun h7 => ?_) (fun h7 => ?_)
    · obtain rfl : z1 = W.getD 0 default := Option.some.inj (hz2.symm.trans hz0)
      rw [if_pos (.inr (by omega))]
      refine j_nf [.o [1, 1, 1, 0, 1, 0, 0] 0, .c [1, 1, 1, 0, 1, 0, 1], .c [1, 1, 1, 1]] rfl ?_
      refine j_run it 1 rfl (by simp) ?_
      refine j_nf [.c [1, 1, 1, 0, 1, 0, 1], .c [1, 1, 1, 1]] rfl ?_
      refine j_giv [] rfl rfl rfl ⟨rfl, rfl, rfl⟩
    · obtain rfl : z1 = W.getD 0 default := Option.some.inj (hz2.symm.trans hz0)
      rw [if_neg (by omega)]
      refine j_nf [.o [1, 1, 1, 1, 0, 0] 0, .c [1, 1, 1, 1, 0, 1], .c [1, 1, 1, 1, 1]] rfl ?_
      refine j_run it 1 rfl (by simp) ?_
      refine j_nf [.c [1, 1, 1, 1, 0, 1, 0], .blk 0, .c [1, 1, 1, 1, 1]] rfl ?_
      refine j_loopG (X := Nat) [0, 1] [0, 1, 2, 3, 4] (fun k => [(5, .int .i64 k)]) (fun _ => []) (fun _ => []) (fun k => k ≤ W.length ∧ scanW q (W.getD 0 default).length (W.take k) = 0) (fun k => W.length - k) 0 [] rfl rfl rfl ⟨Nat.zero_le _, rfl⟩ (by repeat (first | exact Fr.sub_nil _ | refine Fr.sub_cons rfl ?_)) rfl rfl ?_
      rintro k ⟨hk, hp⟩ ih
      simp only [List.cons_append, List.nil_append] at hk hp ih ⊢
      by_cases hkl : k < W.length
      · have hzk := getD_at hkl
        by_cases hl : (W.getD k default).length = (W.getD 0 default).length
        · refine j_nf [.o [1, 1, 1, 1, 0, 1, 0, 0, 0, 0] 0, .c [1, 1, 1, 1, 0, 1, 0, 0, 0, 1], .c [1, 1, 1, 1, 0, 1, 0, 0, 1], .lp [1, 1, 1, 1, 0, 1, 0, 0], .blk 0, .c [1, 1, 1, 1, 1]] rfl ?_
          refine j_run it 2 rfl (by simp) ?_
          refine j_step rfl (x_len sl22 rfl ?_)
          refine j_run it 1 rfl (by simp) ?_
          refine j_nf [.c [1, 1, 1, 1, 0, 1, 0, 0, 0, 1], .c [1, 1, 1, 1, 0, 1, 0, 0, 1], .lp [1, 1, 1, 1, 0, 1, 0, 0], .blk 0, .c [1, 1, 1, 1, 1]] rfl ?_
          refine j_if rfl rfl (fun h8 => ?_) (fun h8 => by exfalso; omega)
          refine j_nf [.c [1, 1, 1, 1, 0, 1, 0, 0, 1, 0, 0, 0, 0], .c [1, 1, 1, 1, 0, 1, 0, 0, 1, 0, 0, 0, 1], .c [1, 1, 1, 1, 0, 1, 0, 0, 1, 0, 0, 1], .blk 1, .c [1, 1, 1, 1, 0, 1, 0, 0, 1, 1], .lp [1, 1, 1, 1, 0, 1, 0, 0], .blk 0, .c [1, 1, 1, 1, 1]] rfl ?_
          (apply j_drawK it mx 10; (· rfl); (· rfl))
          (apply lxk_run 2; (· rfl); (· simp))
          (apply lxk_pt; (· rfl); (· exact d_x fun _ => x_idx 4 (k) rfl rfl rfl sl22 rfl (by omega) fun z1 hz3 b3 o3 => (dk_ptD default hz3 0 rfl)); intro b3 o3)
          (apply lxk_sl; (· rfl); (· exact d_x fun _ => x_ld_sl 0 rfl rfl ld31 fun pa3 ca3 => (dk_sl 0 rfl)); intro pa3 ca3)
          (apply lxk_eq; (· rfl); (· exact d_x fun _ => x_len sl31 rfl dk_eq))
          (apply lxk_run 1; (· rfl); (· simp))
          (apply lxk_pt; (· rfl); (· exact d_x fun _ => x_idx 4 0 rfl rfl rfl sl22 (by omega) (by omega) fun z1 hz3 b4 o4 => (dk_ptD default hz3 0 rfl)); intro b4 o4)
          (apply lxk_sl; (· rfl); (· exact d_x fun _ => x_ld_sl 0 rfl rfl ld31 fun pa4 ca4 => (dk_sl 0 rfl)); intro pa4 ca4)
          (apply lxk_eq; (· rfl); (· exact d_x fun _ => x_len sl31 rfl dk_eq))
          (apply lxk_run 1; (· rfl); (· simp))
          refine lxk_end rfl ?_
          simp only [List.map_cons, List.map_nil, List.cons_append, List.nil_append]
          refine j_nf [.c [1, 1, 1, 1, 0, 1, 0, 0, 1, 0, 0, 0, 1], .c [1, 1, 1, 1, 0, 1, 0, 0, 1, 0, 0, 1], .blk 1, .c [1, 1, 1, 1, 0, 1, 0, 0, 1, 1], .lp [1, 1, 1, 1, 0, 1, 0, 0], .blk 0, .c [1, 1, 1, 1, 1]] rfl ?_
          refine j_ifn rfl rfl (fun h9 => by exfalso; omega) (fun h9 => ?_)
          refine j_nf [.o [1, 1, 1, 1, 0, 1, 0, 0, 1, 0, 0, 1, 0] 0, .c [1, 1, 1, 1, 0, 1, 0, 0, 1, 0, 0, 1, 1], .blk 1, .c [1, 1, 1, 1, 0, 1, 0, 0, 1, 1], .lp [1, 1, 1, 1, 0, 1, 0, 0], .blk 0, .c [1, 1, 1, 1, 1]] rfl ?_
          refine j_run it 1 rfl (by simp) ?_
          refine j_nf [.c [1, 1, 1, 1, 0, 1, 0, 0, 1, 0, 0, 1, 1, 0], .blk 2, .blk 1, .c [1, 1, 1, 1, 0, 1, 0, 0, 1, 1], .lp [1, 1, 1, 1, 0, 1, 0, 0], .blk 0, .c [1, 1, 1, 1, 1]] rfl ?_
          refine j_loopG (X := Nat) [0, 1, 5, 28, 29, 30, 31, 34, 35, 36, 37, 38, 39, 40, 41, 42, 43] [0, 1, 2, 3, 4, 5, 6, 7, 8] (fun j => [(6, .int .i64 j)]) (fun _ => []) (fun _ => []) (fun j => j ≤ (W.getD k default).length ∧ okW q ((W.getD k default).take j) = true) (fun j => (W.getD k default).length - j) 0 [] rfl rfl rfl ⟨Nat.zero_le _, rfl⟩ (by repeat (first | exact Fr.sub_nil _ | refine Fr.sub_cons rfl ?_)) rfl rfl ?_
          rintro j ⟨hj, hq⟩ ihj
          simp only [List.cons_append, List.nil_append] at hj hq ihj ⊢
          have hnext : ∀ {j}, j = (W.getD k default).length → okW q ((W.getD k default).take j) = true → scanW q (W.getD 0 default).length (W.take (k + 1)) = 0 := fun hj hq => by
            subst hj
            rw [List.take_length] at hq
            exact scan_step hzk hp hl hq
          by_cases hjl : j < (W.getD k default).length
          · refine j_nf [.o [1, 1, 1, 1, 0, 1, 0, 0, 1, 0, 0, 1, 1, 0, 0, 0, 0] 0, .c [1, 1, 1, 1, 0, 1, 0, 0, 1, 0, 0, 1, 1, 0, 0, 0, 1], .c [1, 1, 1, 1, 0, 1, 0, 0, 1, 0, 0, 1, 1, 0, 0, 1], .lp [1, 1, 1, 1, 0, 1, 0, 0, 1, 0, 0, 1, 1, 0, 0], .blk 2, .blk 1, .c [1, 1, 1, 1, 0, 1, 0, 0, 1, 1], .lp [1, 1, 1, 1, 0, 1, 0, 0], .blk 0, .c [1, 1, 1, 1, 1]] rfl ?_
            refine j_run it 3 rfl (by simp) ?_
            refine j_step rfl (x_idx 8 (k) rfl rfl rfl sl22 rfl (by omega) fun z1 hz3 b5 o5 => ?_)
            refine j_step rfl (x_ld_sl 0 rfl rfl ld31 fun pa5 ca5 => ?_)
            refine j_step rfl (x_len sl31 rfl ?_)
            refine j_run it 1 rfl (by simp) ?_
            refine j_nf [.c [1, 1, 1, 1, 0, 1, 0, 0, 1, 0, 0, 1, 1, 0, 0, 0, 1], .c [1, 1, 1, 1, 0, 1, 0, 0, 1, 0, 0, 1, 1, 0, 0, 1], .lp [1, 1, 1, 1, 0, 1, 0, 0, 1, 0, 0, 1, 1, 0, 0], .blk 2, .blk 1, .c [1, 1, 1, 1, 0, 1, 0, 0, 1, 1], .lp [1, 1, 1, 1, 0, 1, 0, 0], .blk 0, .c [1, 1, 1, 1, 1]] rfl ?_
            refine j_if rfl rfl (fun h10 => ?_) (fun h10 => ?_)
            · obtain rfl : z1 = W.getD k default := Option.some.inj (hz3.symm.trans hzk)
              refine j_nf [.o [1, 1, 1, 1, 0, 1, 0, 0, 1, 0, 0, 1, 1, 0, 0, 1, 0, 0, 0] 0, .c [1, 1, 1, 1, 0, 1, 0, 0, 1, 0, 0, 1, 1, 0, 0, 1, 0, 0, 1], .blk 3, .c [1, 1, 1, 1, 0, 1, 0, 0, 1, 0, 0, 1, 1, 0, 0, 1, 1], .lp [1, 1, 1, 1, 0, 1, 0, 0, 1, 0, 0, 1, 1, 0, 0], .blk 2, .blk 1, .c [1, 1, 1, 1, 0, 1, 0, 0, 1, 1], .lp [1, 1, 1, 1, 0, 1, 0, 0], .blk 0, .c [1, 1, 1, 1, 1]] rfl ?_
              refine j_run it 2 rfl (by simp) ?_
              refine j_step rfl (x_idx 10 (k) rfl rfl rfl sl22 rfl (by omega) fun z1 hz4 b6 o6 => ?_)
              refine j_step rfl (x_ld_sl 0 rfl rfl ld31 fun pa6 ca6 => ?_)
              refine j_run it 1 rfl (by simp) ?_
              refine j_step rfl (x_idx 0 (j) rfl rfl rfl sl31 (by omega) ?_ fun z2 hz5 b7 o7 => ?_)
              · rw [Option.some.inj (hz4.symm.trans hzk)]; exact hjl
              obtain rfl : z1 = W.getD k default := Option.some.inj (hz4.symm.trans hzk)
              refine j_step rfl (x_ld_int 0 rfl rfl ld3 fun ⟨r1, r2⟩ => ?_)
              refine j_run it 2 rfl (by simp) ?_
              refine j_split_dec (t := 61) rfl (fun h11 => ?_) (fun h11 => ?_)
              · rw [scan_elem hzk hp hl (okW_stop hz5 (by omega))]
                refine j_run it 10 rfl (by simp) ?_
                refine j_nf [.c [1, 1, 1, 1, 0, 1, 0, 0, 1, 0, 0, 1, 1, 0, 0, 1, 0, 0, 1], .blk 3, .c [1, 1, 1, 1, 0, 1, 0, 0, 1, 0, 0, 1, 1, 0, 0, 1, 1], .lp [1, 1, 1, 1, 0, 1, 0, 0, 1, 0, 0, 1, 1, 0, 0], .blk 2, .blk 1, .c [1, 1, 1, 1, 0, 1, 0, 0, 1, 1], .lp [1, 1, 1, 1, 0, 1, 0, 0], .blk 0, .c [1, 1, 1, 1, 1]] rfl ?_
                refine j_true rfl rfl ?_
                refine j_nf [.o [1, 1, 1, 1, 0, 1, 0, 0, 1, 0, 0, 1, 1, 0, 0, 1, 0, 0, 1, 0, 0] 0, .c [1, 1, 1, 1, 0, 1, 0, 0, 1, 0, 0, 1, 1, 0, 0, 1, 0, 0, 1, 0, 1], .blk 3, .c [1, 1, 1, 1, 0, 1, 0, 0, 1, 0, 0, 1, 1, 0, 0, 1, 1], .lp [1, 1, 1, 1, 0, 1, 0, 0, 1, 0, 0, 1, 1, 0, 0], .blk 2, .blk 1, .c [1, 1, 1, 1, 0, 1, 0, 0, 1, 1], .lp [1, 1, 1, 1, 0, 1, 0, 0], .blk 0, .c [1, 1, 1, 1, 1]] rfl ?_
                refine j_run it 1 rfl (by simp) ?_
                refine j_nf [.c [1, 1, 1, 1, 0, 1, 0, 0, 1, 0, 0, 1, 1, 0, 0, 1, 0, 0, 1, 0, 1], .blk 3, .c [1, 1, 1, 1, 0, 1, 0, 0, 1, 0, 0, 1, 1, 0, 0, 1, 1], .lp [1, 1, 1, 1, 0, 1, 0, 0, 1, 0, 0, 1, 1, 0, 0], .blk 2, .blk 1, .c [1, 1, 1, 1, 0, 1, 0, 0, 1, 1], .lp [1, 1, 1, 1, 0, 1, 0, 0], .blk 0, .c [1, 1, 1, 1, 1]] rfl ?_
                refine j_giv [] rfl rfl rfl ⟨rfl, rfl, rfl⟩
              · refine j_run it 2 rfl (by simp) ?_
                refine j_gstep rfl rfl (x_idx 13 (k) rfl rfl rfl sl22 rfl (by omega) fun z1 hz6 b8 o8 => ?_)
                refine j_gstep rfl rfl (x_ld_sl 0 rfl rfl ld31 fun pa7 ca7 => ?_)
                refine j_run it 1 rfl (by simp) ?_
                refine j_gstep rfl rfl (x_idx 0 (j) rfl rfl rfl sl31 (by omega) ?_ fun z3 hz7 b9 o9 => ?_)
                · rw [Option.some.inj (hz6.symm.trans hzk)]; exact hjl
                obtain rfl : z1 = W.getD k default := Option.some.inj (hz6.symm.trans hzk)
                refine j_gstep rfl rfl (x_ld_int 0 rfl rfl ld3 fun ⟨r3, r4⟩ => ?_)
                refine j_run it 3 rfl (by simp) ?_
                refine j_nf [.c [1, 1, 1, 1, 0, 1, 0, 0, 1, 0, 0, 1, 1, 0, 0, 1, 0, 0, 1], .blk 3, .c [1, 1, 1, 1, 0, 1, 0, 0, 1, 0, 0, 1, 1, 0, 0, 1, 1], .lp [1, 1, 1, 1, 0, 1, 0, 0, 1, 0, 0, 1, 1, 0, 0], .blk 2, .blk 1, .c [1, 1, 1, 1, 0, 1, 0, 0, 1, 1], .lp [1, 1, 1, 1, 0, 1, 0, 0], .blk 0, .c [1, 1, 1, 1, 1]] rfl ?_
                refine j_if rfl rfl (fun h12 => ?_) (fun h12 => ?_)
                all_goals obtain rfl : z3 = z2 := Option.some.inj (hz7.symm.trans hz5)
                · rw [scan_elem hzk hp hl (okW_stop hz5 (by omega))]
                  refine j_nf [.o [1, 1, 1, 1, 0, 1, 0, 0, 1, 0, 0, 1, 1, 0, 0, 1, 0, 0, 1, 0, 0] 0, .c [1, 1, 1, 1, 0, 1, 0, 0, 1, 0, 0, 1, 1, 0, 0, 1, 0, 0, 1, 0, 1], .blk 3, .c [1, 1, 1, 1, 0, 1, 0, 0, 1, 0, 0, 1, 1, 0, 0, 1, 1], .lp [1, 1, 1, 1, 0, 1, 0, 0, 1, 0, 0, 1, 1, 0, 0], .blk 2, .blk 1, .c [1, 1, 1, 1, 0, 1, 0, 0, 1, 1], .lp [1, 1, 1, 1, 0, 1, 0, 0], .blk 0, .c [1, 1, 1, 1, 1]] rfl ?_
                  refine j_run it 1 rfl (by simp) ?_
                  refine j_nf [.c [1, 1, 1, 1, 0, 1, 0, 0, 1, 0, 0, 1, 1, 0, 0, 1, 0, 0, 1, 0, 1], .blk 3, .c [1, 1, 1, 1, 0, 1, 0, 0, 1, 0, 0, 1, 1, 0, 0, 1, 1], .lp [1, 1, 1, 1, 0, 1, 0, 0, 1, 0, 0, 1, 1, 0, 0], .blk 2, .blk 1, .c [1, 1, 1, 1, 0, 1, 0, 0, 1, 1], .lp [1, 1, 1, 1, 0, 1, 0, 0], .blk 0, .c [1, 1, 1, 1, 1]] rfl ?_
                  refine j_giv [] rfl rfl rfl ⟨rfl, rfl, rfl⟩
                · refine j_nf [.o [1, 1, 1, 1, 0, 1, 0, 0, 1, 0, 0, 1, 1, 0, 0, 1, 1] 0, .lp [1, 1, 1, 1, 0, 1, 0, 0, 1, 0, 0, 1, 1, 0, 0], .blk 2, .blk 1, .c [1, 1, 1, 1, 0, 1, 0, 0, 1, 1], .lp [1, 1, 1, 1, 0, 1, 0, 0], .blk 0, .c [1, 1, 1, 1, 1]] rfl ?_
                  refine j_run it 3 rfl (by repeat' first | exact trivial | apply And.intro | omega) ?_
                  refine j_nfn 1 [.lp [1, 1, 1, 1, 0, 1, 0, 0, 1, 0, 0, 1, 1, 0, 0], .blk 2, .blk 1, .c [1, 1, 1, 1, 0, 1, 0, 0, 1, 1], .lp [1, 1, 1, 1, 0, 1, 0, 0], .blk 0, .c [1, 1, 1, 1, 1]] rfl ?_
                  refine j_to [8, 9, 10, 11, 12, 13, 14, 15, 16] (by repeat (first | exact Fr.sub_nil _ | refine Fr.sub_cons rfl ?_ | refine Fr.sub_consI rfl (by first | omega | (dsimp only; omega)) ?_ | refine Fr.sub_consS rfl (by first | omega | (dsimp only; omega)) (by first | omega | (dsimp only; omega)) ?_)) rfl rfl (ihj (j + 1) (by omega) ⟨by omega, okW_step hz5 hq (by omega)⟩)
            · obtain rfl : z1 = W.getD k default := Option.some.inj (hz3.symm.trans hzk)
              omega
          · have ej : j = (W.getD k default).length := by omega
            have hn := hnext ej hq
            refine j_nf [.o [1, 1, 1, 1, 0, 1, 0, 0, 1, 0, 0, 1, 1, 0, 0, 0, 0] 0, .c [1, 1, 1, 1, 0, 1, 0, 0, 1, 0, 0, 1, 1, 0, 0, 0, 1], .c [1, 1, 1, 1, 0, 1, 0, 0, 1, 0, 0, 1, 1, 0, 0, 1], .lp [1, 1, 1, 1, 0, 1, 0, 0, 1, 0, 0, 1, 1, 0, 0], .blk 2, .blk 1, .c [1, 1, 1, 1, 0, 1, 0, 0, 1, 1], .lp [1, 1, 1, 1, 0, 1, 0, 0], .blk 0, .c [1, 1, 1, 1, 1]] rfl ?_
            refine j_run it 3 rfl (by simp) ?_
            refine j_step rfl (x_idx 8 (k) rfl rfl rfl sl22 rfl (by omega) fun z1 hz3 b5 o5 => ?_)
            refine j_step rfl (x_ld_sl 0 rfl rfl ld31 fun pa5 ca5 => ?_)
            refine j_step rfl (x_len sl31 rfl ?_)
            refine j_run it 1 rfl (by simp) ?_
            refine j_nf [.c [1, 1, 1, 1, 0, 1, 0, 0, 1, 0, 0, 1, 1, 0, 0, 0, 1], .c [1, 1, 1, 1, 0, 1, 0, 0, 1, 0, 0, 1, 1, 0, 0, 1], .lp [1, 1, 1, 1, 0, 1, 0, 0, 1, 0, 0, 1, 1, 0, 0], .blk 2, .blk 1, .c [1, 1, 1, 1, 0, 1, 0, 0, 1, 1], .lp [1, 1, 1, 1, 0, 1, 0, 0], .blk 0, .c [1, 1, 1, 1, 1]] rfl ?_
            refine j_if rfl rfl (fun h10 => ?_) (fun h10 => ?_)
            · obtain rfl : z1 = W.getD k default := Option.some.inj (hz3.symm.trans hzk)
              omega
            · refine j_nf [.o [1, 1, 1, 1, 0, 1, 0, 0, 1, 1] 0, .lp [1, 1, 1, 1, 0, 1, 0, 0], .blk 0, .c [1, 1, 1, 1, 1]] rfl ?_
              refine j_run it 3 rfl (by repeat' first | exact trivial | apply And.intro | omega) ?_
              refine j_nfn 1 [.lp [1, 1, 1, 1, 0, 1, 0, 0], .blk 0, .c [1, 1, 1, 1, 1]] rfl ?_
              refine j_to [6, 7, 8, 9, 10] (by repeat (first | exact Fr.sub_nil _ | refine Fr.sub_cons rfl ?_ | refine Fr.sub_consI rfl (by first | omega | (dsimp only; omega)) ?_ | refine Fr.sub_consS rfl (by first | omega | (dsimp only; omega)) (by first | omega | (dsimp only; omega)) ?_)) rfl rfl (ih (k + 1) (by omega) ⟨by omega, hn⟩)
        · rw [scan_shape hzk hp hl]
          refine j_nf [.o [1, 1, 1, 1, 0, 1, 0, 0, 0, 0] 0, .c [1, 1, 1, 1, 0, 1, 0, 0, 0, 1], .c [1, 1, 1, 1, 0, 1, 0, 0, 1], .lp [1, 1, 1, 1, 0, 1, 0, 0], .blk 0, .c [1, 1, 1, 1, 1]] rfl ?_
          refine j_run it 2 rfl (by simp) ?_
          refine j_step rfl (x_len sl22 rfl ?_)
          refine j_run it 1 rfl (by simp) ?_
          refine j_nf [.c [1, 1, 1, 1, 0, 1, 0, 0, 0, 1], .c [1, 1, 1, 1, 0, 1, 0, 0, 1], .lp [1, 1, 1, 1, 0, 1, 0, 0], .blk 0, .c [1, 1, 1, 1, 1]] rfl ?_
          refine j_if rfl rfl (fun h8 => ?_) (fun h8 => by exfalso; omega)
          refine j_nf [.c [1, 1, 1, 1, 0, 1, 0, 0, 1, 0, 0, 0, 0], .c [1, 1, 1, 1, 0, 1, 0, 0, 1, 0, 0, 0, 1], .c [1, 1, 1, 1, 0, 1, 0, 0, 1, 0, 0, 1], .blk 1, .c [1, 1, 1, 1, 0, 1, 0, 0, 1, 1], .lp [1, 1, 1, 1, 0, 1, 0, 0], .blk 0, .c [1, 1, 1, 1, 1]] rfl ?_
          (apply j_drawK it mx 10; (· rfl); (· rfl))
          (apply lxk_run 2; (· rfl); (· simp))
          (apply lxk_pt; (· rfl); (· exact d_x fun _ => x_idx 4 (k) rfl rfl rfl sl22 rfl (by omega) fun z1 hz3 b3 o3 => (dk_ptD default hz3 0 rfl)); intro b3 o3)
          (apply lxk_sl; (· rfl); (· exact d_x fun _ => x_ld_sl 0 rfl rfl ld31 fun pa3 ca3 => (dk_sl 0 rfl)); intro pa3 ca3)
          (apply lxk_eq; (· rfl); (· exact d_x fun _ => x_len sl31 rfl dk_eq))
          (apply lxk_run 1; (· rfl); (· simp))
          (apply lxk_pt; (· rfl); (· exact d_x fun _ => x_idx 4 0 rfl rfl rfl sl22 (by omega) (by omega) fun z1 hz3 b4 o4 => (dk_ptD default hz3 0 rfl)); intro b4 o4)
          (apply lxk_sl; (· rfl); (· exact d_x fun _ => x_ld_sl 0 rfl rfl ld31 fun pa4 ca4 => (dk_sl 0 rfl)); intro pa4 ca4)
          (apply lxk_eq; (· rfl); (· exact d_x fun _ => x_len sl31 rfl dk_eq))
          (apply lxk_run 1; (· rfl); (· simp))
          refine lxk_end rfl ?_
          simp only [List.map_cons, List.map_nil, List.cons_append, List.nil_append]
          refine j_nf [.c [1, 1, 1, 1, 0, 1, 0, 0, 1, 0, 0, 0, 1], .c [1, 1, 1, 1, 0, 1, 0, 0, 1, 0, 0, 1], .blk 1, .c [1, 1, 1, 1, 0, 1, 0, 0, 1, 1], .lp [1, 1, 1, 1, 0, 1, 0, 0], .blk 0, .c [1, 1, 1, 1, 1]] rfl ?_
          refine j_ifn rfl rfl (fun h9 => ?_) (fun h9 => by exfalso; omega)
          refine j_nf [.o [1, 1, 1, 1, 0, 1, 0, 0, 1, 0, 0, 0, 1, 0, 0] 0, .c [1, 1, 1, 1, 0, 1, 0, 0, 1, 0, 0, 0, 1, 0, 1], .c [1, 1, 1, 1, 0, 1, 0, 0, 1, 0, 0, 1], .blk 1, .c [1, 1, 1, 1, 0, 1, 0, 0, 1, 1], .lp [1, 1, 1, 1, 0, 1, 0, 0], .blk 0, .c [1, 1, 1, 1, 1]] rfl ?_
          refine j_run it 1 rfl (by simp) ?_
          refine j_nf [.c [1, 1, 1, 1, 0, 1, 0, 0, 1, 0, 0, 0, 1, 0, 1], .c [1, 1, 1, 1, 0, 1, 0, 0, 1, 0, 0, 1], .blk 1, .c [1, 1, 1, 1, 0, 1, 0, 0, 1, 1], .lp [1, 1, 1, 1, 0, 1, 0, 0], .blk 0, .c [1, 1, 1, 1, 1]] rfl ?_
          refine j_giv [] rfl rfl rfl ⟨rfl, rfl, rfl⟩
      · obtain rfl : W.length = k := by omega
        rw [List.take_length] at hp
        rw [hp]
        refine j_nf [.o [1, 1, 1, 1, 0, 1, 0, 0, 0, 0] 0, .c [1, 1, 1, 1, 0, 1, 0, 0, 0, 1], .c [1, 1, 1, 1, 0, 1, 0, 0, 1], .lp [1, 1, 1, 1, 0, 1, 0, 0], .blk 0, .c [1, 1, 1, 1, 1]] rfl ?_
        refine j_run it 2 rfl (by simp) ?_
        refine j_step rfl (x_len sl22 rfl ?_)
        refine j_run it 1 rfl (by simp) ?_
        refine j_nf [.c [1, 1, 1, 1, 0, 1, 0, 0, 0, 1], .c [1, 1, 1, 1, 0, 1, 0, 0, 1], .lp [1, 1, 1, 1, 0, 1, 0, 0], .blk 0, .c [1, 1, 1, 1, 1]] rfl ?_
        refine j_if rfl rfl (fun h8 => by exfalso; omega) (fun h8 => ?_)
        refine j_nf [.o [1, 1, 1, 1, 1, 0] 0, .c [1, 1, 1, 1, 1, 1]] rfl ?_
        refine j_run it 1 rfl (by simp) ?_
        refine j_nf [.c [1, 1, 1, 1, 1, 1]] rfl ?_
        refine j_giv [] rfl rfl rfl ⟨rfl, rfl, rfl⟩

theorem S_codewrightref24_Distance {pa pb : Option Addr} {n m ca cb : Nat} {u v : List Int} (hnm : n = m) : Ctr Try.prog 32 [.slice pa n ca, .slice pb m cb] [] [slF I64 pa n ca u, slF I64 pb m cb v] (Rv (.int .i64 ((dist u v : Nat) : Int)) []) := by
  refine Ctr_of_j' (F := F_codewrightref24_Distance) rfl fun C => ?_
  refine j_len 0 rfl fun hn hb _ => ?_
  refine j_len 1 rfl fun hm _ _ => ?_
  have hb' : u.length * 8 ≤ 140737488355328 := hb
  subst hn
  refine j_nf [.o [0] 0, .c [1]] rfl ?_
  refine j_run it 1 rfl (by simp) ?_
  refine j_nf [.o [1, 0] 0, .c [1, 1]] rfl ?_
  refine j_run it 1 rfl (by simp) ?_
  refine j_nf [.o [1, 1, 0, 0] 0, .c [1, 1, 0, 1], .c [1, 1, 1]] rfl ?_
  refine j_run it 1 rfl (by simp) ?_
  refine j_nf [.c [1, 1, 0, 1, 0], .blk 0, .c [1, 1, 1]] rfl ?_
  refine j_loopG (X := Nat) [0, 1, 4] [0, 1] (fun k => [(6, .int .i64 k), (5, .int .i64 ((distP u v k : Nat) : Int))]) (fun _ => []) (fun _ => []) (fun k => k ≤ u.length) (fun k => u.length - k) 0 [] rfl rfl rfl (Nat.zero_le _) (by repeat (first | exact Fr.sub_nil _ | refine Fr.sub_cons rfl ?_)) rfl rfl ?_
  intro k hk ih
  simp only [List.cons_append, List.nil_append] at ih ⊢
  have hd := distP_le u v k
  by_cases hkl : k < u.length
  · have hkm : k < v.length := by omega
    by_cases he : u.getD k default = v.getD k default
    · have e : distP u v (k + 1) = distP u v k := by rw [distP, if_pos he]; rfl
      refine j_nf [.o [1, 1, 0, 1, 0, 0, 0, 0] 0, .c [1, 1, 0, 1, 0, 0, 0, 1], .c [1, 1, 0, 1, 0, 0, 1], .lp [1, 1, 0, 1, 0, 0], .blk 0, .c [1, 1, 1]] rfl ?_
      refine j_run it 2 rfl (by simp) ?_
      refine j_step rfl (x_len sl31 rfl ?_)
      refine j_run it 1 rfl (by simp) ?_
      refine j_nf [.c [1, 1, 0, 1, 0, 0, 0, 1], .c [1, 1, 0, 1, 0, 0, 1], .lp [1, 1, 0, 1, 0, 0], .blk 0, .c [1, 1, 1]] rfl ?_
      refine j_if rfl rfl (fun h1 => ?_) (fun h1 => by exfalso; omega)
      refine j_nf [.c [1, 1, 0, 1, 0, 0, 1, 0, 0, 0], .c [1, 1, 0, 1, 0, 0, 1, 0, 0, 1], .blk 1, .c [1, 1, 0, 1, 0, 0, 1, 1], .lp [1, 1, 0, 1, 0, 0], .blk 0, .c [1, 1, 1]] rfl ?_
      (apply j_drawK it mx 9; (· rfl); (· rfl))
      (apply lxk_run 2; (· rfl); (· simp))
      (apply lxk_pt; (· rfl); (· exact d_x fun _ => x_idx 0 (k) rfl rfl rfl sl31 rfl (by omega) fun z1 hz1 b1 o1 => (dk_ptD default hz1 0 rfl)); intro b1 o1)
      (apply lxk_eq; (· rfl); (· exact d_x fun _ => x_ld_int 0 rfl rfl ld3 fun ⟨r1, r2⟩ => dk_eq))
      (apply lxk_run 2; (· rfl); (· simp))
      (apply lxk_pt; (· rfl); (· exact d_x fun _ => x_idx 1 (k) rfl rfl rfl sl31 rfl (by omega) fun z1 hz1 b2 o2 => (dk_ptD default hz1 0 rfl)); intro b2 o2)
      (apply lxk_eq; (· rfl); (· exact d_x fun _ => x_ld_int 0 rfl rfl ld3 fun ⟨r1, r2⟩ => dk_eq))
      (apply lxk_run 1; (· rfl); (· simp))
      refine lxk_end rfl ?_
      simp only [List.map_cons, List.map_nil, List.cons_append, List.nil_append]
      refine j_nf [.c [1, 1, 0, 1, 0, 0, 1, 0, 0, 1], .blk 1, .c [1, 1, 0, 1, 0, 0, 1, 1], .lp [1, 1, 0, 1, 0, 0], .blk 0, .c [1, 1, 1]] rfl ?_
      refine j_ifn rfl rfl (fun h2 => by exfalso; omega) (fun h2 => ?_)
      refine j_nf [.o [1, 1, 0, 1, 0, 0, 1, 1] 0, .lp [1, 1, 0, 1, 0, 0], .blk 0, .c [1, 1, 1]] rfl ?_
      refine j_run it 3 rfl (by repeat' first | exact trivial | apply And.intro | omega) ?_
      refine j_nfn 1 [.lp [1, 1, 0, 1, 0, 0], .blk 0, .c [1, 1, 1]] rfl ?_
      have ih' := ih (k + 1) (by omega) (by omega)
      rw [e] at ih'
      refine j_to [2, 3] (by repeat (first | exact Fr.sub_nil _ | refine Fr.sub_cons rfl ?_ | refine Fr.sub_consI rfl (by first | omega | (dsimp only; omega)) ?_ | refine Fr.sub_consS rfl (by first | omega | (dsimp only; omega)) (by first | omega | (dsimp only; omega)) ?_)) rfl rfl (ih')
    · have e : distP u v (k + 1) = distP u v k + 1 := by rw [distP, if_neg he]
      refine j_nf [.o [1, 1, 0, 1, 0, 0, 0, 0] 0, .c [1, 1, 0, 1, 0, 0, 0, 1], .c [1, 1, 0, 1, 0, 0, 1], .lp [1, 1, 0, 1, 0, 0], .blk 0, .c [1, 1, 1]] rfl ?_
      refine j_run it 2 rfl (by simp) ?_
      refine j_step rfl (x_len sl31 rfl ?_)
      refine j_run it 1 rfl (by simp) ?_
      refine j_nf [.c [1, 1, 0, 1, 0, 0, 0, 1], .c [1, 1, 0, 1, 0, 0, 1], .lp [1, 1, 0, 1, 0, 0], .blk 0, .c [1, 1, 1]] rfl ?_
      refine j_if rfl rfl (fun h1 => ?_) (fun h1 => by exfalso; omega)
      refine j_nf [.c [1, 1, 0, 1, 0, 0, 1, 0, 0, 0], .c [1, 1, 0, 1, 0, 0, 1, 0, 0, 1], .blk 1, .c [1, 1, 0, 1, 0, 0, 1, 1], .lp [1, 1, 0, 1, 0, 0], .blk 0, .c [1, 1, 1]] rfl ?_
      (apply j_drawK it mx 9; (· rfl); (· rfl))
      (apply lxk_run 2; (· rfl); (· simp))
      (apply lxk_pt; (· rfl); (· exact d_x fun _ => x_idx 0 (k) rfl rfl rfl sl31 rfl (by omega) fun z1 hz1 b1 o1 => (dk_ptD default hz1 0 rfl)); intro b1 o1)
      (apply lxk_eq; (· rfl); (· exact d_x fun _ => x_ld_int 0 rfl rfl ld3 fun ⟨r1, r2⟩ => dk_eq))
      (apply lxk_run 2; (· rfl); (· simp))
      (apply lxk_pt; (· rfl); (· exact d_x fun _ => x_idx 1 (k) rfl rfl rfl sl31 rfl (by omega) fun z1 hz1 b2 o2 => (dk_ptD default hz1 0 rfl)); intro b2 o2)
      (apply lxk_eq; (· rfl); (· exact d_x fun _ => x_ld_int 0 rfl rfl ld3 fun ⟨r1, r2⟩ => dk_eq))
      (apply lxk_run 1; (· rfl); (· simp))
      refine lxk_end rfl ?_
      simp only [List.map_cons, List.map_nil, List.cons_append, List.nil_append]
      refine j_nf [.c [1, 1, 0, 1, 0, 0, 1, 0, 0, 1], .blk 1, .c [1, 1, 0, 1, 0, 0, 1, 1], .lp [1, 1, 0, 1, 0, 0], .blk 0, .c [1, 1, 1]] rfl ?_
      refine j_ifn rfl rfl (fun h2 => ?_) (fun h2 => by exfalso; omega)
      refine j_nf [.o [1, 1, 0, 1, 0, 0, 1, 0, 0, 1, 0] 0, .blk 1, .c [1, 1, 0, 1, 0, 0, 1, 1], .lp [1, 1, 0, 1, 0, 0], .blk 0, .c [1, 1, 1]] rfl ?_
      refine j_run it 3 rfl (by repeat' first | exact trivial | apply And.intro | omega) ?_
      refine j_nf [.o [1, 1, 0, 1, 0, 0, 1, 1] 0, .lp [1, 1, 0, 1, 0, 0], .blk 0, .c [1, 1, 1]] rfl ?_
      refine j_run it 3 rfl (by repeat' first | exact trivial | apply And.intro | omega) ?_
      refine j_nfn 1 [.lp [1, 1, 0, 1, 0, 0], .blk 0, .c [1, 1, 1]] rfl ?_
      have ih' := ih (k + 1) (by omega) (by omega)
      rw [e] at ih'
      refine j_to [2, 3] (by repeat (first | exact Fr.sub_nil _ | refine Fr.sub_cons rfl ?_ | refine Fr.sub_consI rfl (by first | omega | (dsimp only; omega)) ?_ | refine Fr.sub_consS rfl (by first | omega | (dsimp only; omega)) (by first | omega | (dsimp only; omega)) ?_)) rfl rfl (ih')
  · obtain rfl : u.length = k := by omega
    rw [← distP_all u v (by omega)]
    refine j_nf [.o [1, 1, 0, 1, 0, 0, 0, 0] 0, .c [1, 1, 0, 1, 0, 0, 0, 1], .c [1, 1, 0, 1, 0, 0, 1], .lp [1, 1, 0, 1, 0, 0], .blk 0, .c [1, 1, 1]] rfl ?_
    refine j_run it 2 rfl (by simp) ?_
    refine j_step rfl (x_len sl31 rfl ?_)
    refine j_run it 1 rfl (by simp) ?_
    refine j_nf [.c [1, 1, 0, 1, 0, 0, 0, 1], .c [1, 1, 0, 1, 0, 0, 1], .lp [1, 1, 0, 1, 0, 0], .blk 0, .c [1, 1, 1]] rfl ?_
    refine j_if rfl rfl (fun h1 => by exfalso; omega) (fun h1 => ?_)
    refine j_nf [.o [1, 1, 1, 0] 0, .c [1, 1, 1, 1]] rfl ?_
    refine j_run it 2 rfl (by simp) ?_
    refine j_nf [.c [1, 1, 1, 1]] rfl ?_
    refine j_giv [] rfl rfl rfl ⟨rfl, rfl, rfl⟩

/-- Any two words are far apart. -/
def apartP (W : List (List Int)) (d : Int) : Prop := ∀ i j, i < W.length → j < i → d ≤ (dist (W.getD i default) (W.getD j default) : Nat)
end Go.Proofs.Ytlhgkefaflpgeaa

namespace Go.Proofs.Ytlhgkefaflpgeaa
open Go Go.Fw
set_option maxRecDepth 100000
set_option linter.unusedVariables false
set_option linter.unusedSimpArgs false
theorem S_nat_Trim {pa : Option Addr} {n ca : Nat} {l : List Nat} : Ctr Try.prog 87 [.slice pa n ca] [] [slF U32 pa n ca l] (Sv U32 (trim l)) := by
  refine Ctr_of_j' (F := F_nat_Trim) rfl fun C => ?_
  refine j_len 0 rfl fun hn hb hc => ?_
  subst hn
  have hb' : l.length * 4 ≤ 140737488355328 := hb
  have := trim_length_le l
  refine j_nf [.o [0] 0, .c [1]] rfl ?_
  refine j_run it 1 rfl (by simp) ?_
  refine j_nf [.o [1, 0] 0, .c [1, 1]] rfl ?_
  refine j_run it 1 rfl (by simp) ?_
  refine j_step rfl (x_call [0] rfl (S_nat_short) rfl ?_)
  rintro _ _ _ ⟨rfl, rfl, rfl⟩
  simp only [List.cons_append, List.nil_append]
  refine j_nil el33 ?_
  refine j_step rfl (x_app_sl 0 0 rfl rfl rfl rfl sl33 zo33e rfl (by first | exact GrOk.nil _ | assumption | exact .inr ⟨_, rfl, Nat.le_refl _, by omega, rfl⟩) (by omega) _ by33e (by omega) fun bo1 cap1 cs1 vss1 hg1 ht1 => ?_)
  refine j_run it 1 rfl (by simp) ?_
  refine j_nf [.c [1, 1]] rfl ?_
  simp only [Nat.zero_add] at hg1 ht1 ⊢
  refine j_pub 0 0 rfl rfl hg1 (by simpa using ht1) rfl (by show _ * 4 ≤ _; omega) ?_
  refine j_giv [0] rfl rfl rfl ⟨_, _, rfl, rfl, rfl⟩

/-- The two limbs of a word. -/
theorem val_two (n : Nat) : val [n % 4294967296, n / 4294967296] = n := by simp only [val]; omega

theorem S_nat_Of {n : Nat} (hn : n < 18446744073709551616) : Ctr Try.prog 75 [.int .u64 n] [] [] (Sv U32 (limbs n)) := by
  refine Ctr_of_j' (F := F_nat_Of) rfl fun C => ?_
  refine j_nf [.o [0] 0, .c [1]] rfl ?_
  refine j_run it 1 rfl (by simp) ?_
  refine j_nf [.o [1, 0] 0, .c [1, 1]] rfl ?_
  refine j_run it 1 rfl (by simp) ?_
  refine j_step rfl (x_conv_u32 it rfl rfl rfl ?_)
  refine j_run it 3 rfl (by repeat' first | exact trivial | apply And.intro | omega) ?_
  refine j_step rfl (x_lit sl33 zo33e rfl rfl rfl rfl (by decide) (by decide) rfl fun b1 => ?_)
  refine j_pub_made (n := 2) (kd := .u32) 4 [n % 4294967296, n / 4294967296] 0 rfl rfl (by simp [InR]; omega) (by decide) (by decide) ?_
  refine j_step rfl (x_call [0] rfl (S_nat_Trim) rfl ?_)
  rintro _ _ _ ⟨pa1, ca1, rfl, rfl, rfl⟩
  simp only [List.cons_append, List.nil_append]
  refine j_run it 1 rfl (by simp) ?_
  refine j_nf [.c [1, 1]] rfl ?_
  rw [trim_eq (l := [n % 4294967296, n / 4294967296]) (by simp; omega), val_two]
  refine j_giv [0] rfl rfl rfl ⟨_, _, rfl, rfl, rfl⟩
end Go.Proofs.Ytlhgkefaflpgeaa

namespace Go.Proofs.Ytlhgkefaflpgeaa
open Go Go.Fw
set_option maxRecDepth 100000
set_option linter.unusedVariables false
set_option linter.unusedSimpArgs false
set_option maxHeartbeats 1000000
theorem S_nat_plus {pa pb : Option Addr} {n m ca cb : Nat} {a b : List Nat} (ha : a.length ≤ 1099511627776) (hb : b.length ≤ 1099511627776) :
    Ctr Try.prog 91 [.slice pa n ca, .slice pb m cb] [] [slF U32 pa n ca a, slF U32 pb m cb b] (Sv U32 (limbs (val a + val b))) := by
  refine Ctr_of_j' (F := F_nat_plus) rfl fun C => ?_
  refine j_len 0 rfl fun hn _ _ => ?_
  refine j_len 1 rfl fun hm _ _ => ?_
  subst hn; subst hm
  have core : ∀ (a b : List Nat) (pa pb : Option Addr) (ca cb : Nat), a.length ≤ 1099511627776 → b.length ≤ a.length →
      J F_nat_plus C [.c [1, 1]] [(0, .slice pa a.length ca), (1, .slice pb b.length cb)] [] [slF U32 pa a.length ca a, slF U32 pb b.length cb b] (Gives C (Sv U32 (limbs (val a + val b)))) := by
    clear ha hb
    intro a b pa pb ca cb ha hab
    refine j_range 0 rfl fun hra => ?_
    refine j_range 1 rfl fun hrb => ?_
    refine j_nf [.o [1, 1, 0] 0, .c [1, 1, 1]] rfl ?_
    refine j_run it 1 rfl (by simp) ?_
    refine j_step rfl (x_len sl33 rfl ?_)
    refine j_run it 1 rfl (by repeat' first | exact trivial | apply And.intro | omega) ?_
    refine j_step rfl (x_make_nat ((a.length) + 1) _ rfl rfl sl33 zo33e by33e (by omega) (by omega) (by omega) fun b1 => ?_)
    refine j_run it 1 rfl (by simp) ?_
    refine j_nf [.o [1, 1, 1, 0] 0, .c [1, 1, 1, 1]] rfl ?_
    refine j_run it 1 rfl (by simp) ?_
    refine j_nf [.o [1, 1, 1, 1, 0, 0] 0, .c [1, 1, 1, 1, 0, 1], .c [1, 1, 1, 1, 1]] rfl ?_
    refine j_run it 1 rfl (by simp) ?_
    refine j_step rfl (x_len sl33 rfl ?_)
    refine j_run it 1 rfl (by simp) ?_
    refine j_nf [.c [1, 1, 1, 1, 0, 1, 0], .blk 0, .c [1, 1, 1, 1, 1]] rfl ?_
    refine j_loopN (X := Nat × Nat × List Nat) (fun x => [(0, .slice pa a.length ca), (1, .slice pb b.length cb), (5, .slice (some ⟨b1, 0, none⟩) (a.length + 1) (a.length + 1)), (6, .int .u64 x.2.1), (21, .int .i64 a.length), (22, .int .i64 x.1)])
      (fun x => [(some b1, 78, natCells .u32 x.2.2)]) (fun _ => [slF U32 pa a.length ca a, slF U32 pb b.length cb b])
      (fun x => x.1 ≤ a.length ∧ x.2.2.length = a.length + 1 ∧ x.2.1 ≤ 1 ∧ (∀ y ∈ x.2.2, y < 4294967296) ∧ val (x.2.2.take x.1) + 4294967296 ^ x.1 * x.2.1 = val (a.take x.1) + val (b.take x.1))
      (fun x => a.length - x.1) (0, 0, List.replicate (a.length + 1) 0) [0, 1] rfl ⟨Nat.zero_le _, by simp, by simp, rep_lt (by decide), by simp [val]⟩ (by repeat (first | exact Fr.sub_nil _ | refine Fr.sub_cons rfl ?_)) rfl rfl ?_
    rintro ⟨k, c, out⟩ ⟨hk, hl, hc, ho, hv⟩ ih
    simp only at hk hl hc ho hv ih ⊢
    by_cases hkl : k < a.length
    · by_cases hkb : k < b.length
      · refine j_nf [.o [1, 1, 1, 1, 0, 1, 0, 0, 0] 0, .c [1, 1, 1, 1, 0, 1, 0, 0, 1], .lp [1, 1, 1, 1, 0, 1, 0, 0], .blk 0, .c [1, 1, 1, 1, 1]] rfl ?_
        refine j_run it 1 rfl (by simp) ?_
        refine j_nf [.c [1, 1, 1, 1, 0, 1, 0, 0, 1, 0], .c [1, 1, 1, 1, 0, 1, 0, 0, 1, 1], .lp [1, 1, 1, 1, 0, 1, 0, 0], .blk 0, .c [1, 1, 1, 1, 1]] rfl ?_
        refine j_if rfl rfl (fun h1 => ?_) (fun h1 => by exfalso; omega)
        refine j_nf [.o [1, 1, 1, 1, 0, 1, 0, 0, 1, 1, 0, 0, 0] 0, .c [1, 1, 1, 1, 0, 1, 0, 0, 1, 1, 0, 0, 1], .blk 1, .c [1, 1, 1, 1, 0, 1, 0, 0, 1, 1, 1], .lp [1, 1, 1, 1, 0, 1, 0, 0], .blk 0, .c [1, 1, 1, 1, 1]] rfl ?_
        refine j_run it 2 rfl (by simp) ?_
        refine j_nf [.o [1, 1, 1, 1, 0, 1, 0, 0, 1, 1, 0, 0, 1, 0] 0, .c [1, 1, 1, 1, 0, 1, 0, 0, 1, 1, 0, 0, 1, 1], .blk 1, .c [1, 1, 1, 1, 0, 1, 0, 0, 1, 1, 1], .lp [1, 1, 1, 1, 0, 1, 0, 0], .blk 0, .c [1, 1, 1, 1, 1]] rfl ?_
        refine j_run it 2 rfl (by simp) ?_
        refine j_step rfl (x_idx 0 (k) rfl rfl rfl sl33 rfl (by omega) fun z1 hz1 b2 o1 => ?_)
        refine j_step rfl (x_ld_nat 0 rfl rfl ld78 fun ⟨r1, r2⟩ => ?_)
        refine j_run it 4 rfl (by repeat' first | exact trivial | apply And.intro | omega) ?_
        refine j_nf [.o [1, 1, 1, 1, 0, 1, 0, 0, 1, 1, 0, 0, 1, 1, 0, 0] 0, .c [1, 1, 1, 1, 0, 1, 0, 0, 1, 1, 0, 0, 1, 1, 0, 1], .c [1, 1, 1, 1, 0, 1, 0, 0, 1, 1, 0, 0, 1, 1, 1], .blk 1, .c [1, 1, 1, 1, 0, 1, 0, 0, 1, 1, 1], .lp [1, 1, 1, 1, 0, 1, 0, 0], .blk 0, .c [1, 1, 1, 1, 1]] rfl ?_
        refine j_run it 2 rfl (by simp) ?_
        refine j_step rfl (x_len sl33 rfl ?_)
        refine j_run it 1 rfl (by simp) ?_
        refine j_nf [.c [1, 1, 1, 1, 0, 1, 0, 0, 1, 1, 0, 0, 1, 1, 0, 1], .c [1, 1, 1, 1, 0, 1, 0, 0, 1, 1, 0, 0, 1, 1, 1], .blk 1, .c [1, 1, 1, 1, 0, 1, 0, 0, 1, 1, 1], .lp [1, 1, 1, 1, 0, 1, 0, 0], .blk 0, .c [1, 1, 1, 1, 1]] rfl ?_
        refine j_if rfl rfl (fun h2 => ?_) (fun h2 => by exfalso; omega)
        refine j_nf [.o [1, 1, 1, 1, 0, 1, 0, 0, 1, 1, 0, 0, 1, 1, 0, 1, 0] 0, .c [1, 1, 1, 1, 0, 1, 0, 0, 1, 1, 0, 0, 1, 1, 1], .blk 1, .c [1, 1, 1, 1, 0, 1, 0, 0, 1, 1, 1], .lp [1, 1, 1, 1, 0, 1, 0, 0], .blk 0, .c [1, 1, 1, 1, 1]] rfl ?_
        refine j_run it 3 rfl (by simp) ?_
        refine j_step rfl (x_idx 2 (k) rfl rfl rfl sl33 rfl (by omega) fun z2 hz2 b3 o2 => ?_)
        refine j_step rfl (x_ld_nat 0 rfl rfl ld78 fun ⟨r3, r4⟩ => ?_)
        refine j_run it 3 rfl (by repeat' first | exact trivial | apply And.intro | omega) ?_
        refine j_nf [.o [1, 1, 1, 1, 0, 1, 0, 0, 1, 1, 0, 0, 1, 1, 1, 0] 0, .c [1, 1, 1, 1, 0, 1, 0, 0, 1, 1, 0, 0, 1, 1, 1, 1], .blk 1, .c [1, 1, 1, 1, 0, 1, 0, 0, 1, 1, 1], .lp [1, 1, 1, 1, 0, 1, 0, 0], .blk 0, .c [1, 1, 1, 1, 1]] rfl ?_
        refine j_run it 3 rfl (by simp) ?_
        refine j_step rfl (x_conv_u32 it rfl rfl rfl ?_)
        refine j_step rfl (x_idx_own (k) (k) rfl rfl sl33 rfl (by omega) (Nat.mul_one _) ?_)
        refine j_step rfl (x_bst_nat 0 ((((z1) + (c)) + (z2)) % 4294967296) rfl rfl rfl ld78 (by first | rfl | omega) (by first | omega | (simp; omega)) ?_)
        refine j_nf [.o [1, 1, 1, 1, 0, 1, 0, 0, 1, 1, 0, 0, 1, 1, 1, 1] 0, .blk 1, .c [1, 1, 1, 1, 0, 1, 0, 0, 1, 1, 1], .lp [1, 1, 1, 1, 0, 1, 0, 0], .blk 0, .c [1, 1, 1, 1, 1]] rfl ?_
        refine j_run it 3 rfl (by simp) ?_
        refine j_nf [.o [1, 1, 1, 1, 0, 1, 0, 0, 1, 1, 1] 0, .lp [1, 1, 1, 1, 0, 1, 0, 0], .blk 0, .c [1, 1, 1, 1, 1]] rfl ?_
        refine j_run it 2 rfl (by repeat' first | exact trivial | apply And.intro | omega) ?_
        refine j_nfn 1 [.lp [1, 1, 1, 1, 0, 1, 0, 0], .blk 0, .c [1, 1, 1, 1, 1]] rfl ?_
        have hz1' := hra z1 (List.mem_of_getElem? hz1)
        have hz2' := hrb z2 (List.mem_of_getElem? hz2)
        simp only [InR] at hz1' hz2'
        refine j_to [2, 3] (by repeat (first | exact Fr.sub_nil _ | refine Fr.sub_cons rfl ?_ | refine Fr.sub_consI rfl (by first | omega | (dsimp only; omega)) ?_ | refine Fr.sub_consS rfl (by first | omega | (dsimp only; omega)) (by first | omega | (dsimp only; omega)) ?_)) rfl rfl (ih (k + 1, (z1 + c + z2) / 4294967296, out.set k ((z1 + c + z2) % 4294967296)) (by simp only; omega) ⟨by simp only; omega, by simpa using hl, by simp only; omega, set_lt ho (by omega), by
          simp only
          rw [val_set_take (by omega), Nat.pow_succ, val_take_succ hz1, val_take_succ hz2]; exact carry_step hv rfl⟩)
      · refine j_nf [.o [1, 1, 1, 1, 0, 1, 0, 0, 0] 0, .c [1, 1, 1, 1, 0, 1, 0, 0, 1], .lp [1, 1, 1, 1, 0, 1, 0, 0], .blk 0, .c [1, 1, 1, 1, 1]] rfl ?_
        refine j_run it 1 rfl (by simp) ?_
        refine j_nf [.c [1, 1, 1, 1, 0, 1, 0, 0, 1, 0], .c [1, 1, 1, 1, 0, 1, 0, 0, 1, 1], .lp [1, 1, 1, 1, 0, 1, 0, 0], .blk 0, .c [1, 1, 1, 1, 1]] rfl ?_
        refine j_if rfl rfl (fun h1 => ?_) (fun h1 => by exfalso; omega)
        refine j_nf [.o [1, 1, 1, 1, 0, 1, 0, 0, 1, 1, 0, 0, 0] 0, .c [1, 1, 1, 1, 0, 1, 0, 0, 1, 1, 0, 0, 1], .blk 1, .c [1, 1, 1, 1, 0, 1, 0, 0, 1, 1, 1], .lp [1, 1, 1, 1, 0, 1, 0, 0], .blk 0, .c [1, 1, 1, 1, 1]] rfl ?_
        refine j_run it 2 rfl (by simp) ?_
        refine j_nf [.o [1, 1, 1, 1, 0, 1, 0, 0, 1, 1, 0, 0, 1, 0] 0, .c [1, 1, 1, 1, 0, 1, 0, 0, 1, 1, 0, 0, 1, 1], .blk 1, .c [1, 1, 1, 1, 0, 1, 0, 0, 1, 1, 1], .lp [1, 1, 1, 1, 0, 1, 0, 0], .blk 0, .c [1, 1, 1, 1, 1]] rfl ?_
        refine j_run it 2 rfl (by simp) ?_
        refine j_step rfl (x_idx 0 (k) rfl rfl rfl sl33 rfl (by omega) fun z1 hz1 b2 o1 => ?_)
        refine j_step rfl (x_ld_nat 0 rfl rfl ld78 fun ⟨r1, r2⟩ => ?_)
        refine j_run it 4 rfl (by repeat' first | exact trivial | apply And.intro | omega) ?_
        refine j_nf [.o [1, 1, 1, 1, 0, 1, 0, 0, 1, 1, 0, 0, 1, 1, 0, 0] 0, .c [1, 1, 1, 1, 0, 1, 0, 0, 1, 1, 0, 0, 1, 1, 0, 1], .c [1, 1, 1, 1, 0, 1, 0, 0, 1, 1, 0, 0, 1, 1, 1], .blk 1, .c [1, 1, 1, 1, 0, 1, 0, 0, 1, 1, 1], .lp [1, 1, 1, 1, 0, 1, 0, 0], .blk 0, .c [1, 1, 1, 1, 1]] rfl ?_
        refine j_run it 2 rfl (by simp) ?_
        refine j_step rfl (x_len sl33 rfl ?_)
        refine j_run it 1 rfl (by simp) ?_
        refine j_nf [.c [1, 1, 1, 1, 0, 1, 0, 0, 1, 1, 0, 0, 1, 1, 0, 1], .c [1, 1, 1, 1, 0, 1, 0, 0, 1, 1, 0, 0, 1, 1, 1], .blk 1, .c [1, 1, 1, 1, 0, 1, 0, 0, 1, 1, 1], .lp [1, 1, 1, 1, 0, 1, 0, 0], .blk 0, .c [1, 1, 1, 1, 1]] rfl ?_
        refine j_if rfl rfl (fun h2 => by exfalso; omega) (fun h2 => ?_)
        refine j_nf [.o [1, 1, 1, 1, 0, 1, 0, 0, 1, 1, 0, 0, 1, 1, 1, 0] 0, .c [1, 1, 1, 1, 0, 1, 0, 0, 1, 1, 0, 0, 1, 1, 1, 1], .blk 1, .c [1, 1, 1, 1, 0, 1, 0, 0, 1, 1, 1], .lp [1, 1, 1, 1, 0, 1, 0, 0], .blk 0, .c [1, 1, 1, 1, 1]] rfl ?_
        refine j_run it 3 rfl (by simp) ?_
        refine j_step rfl (x_conv_u32 it rfl rfl rfl ?_)
        refine j_step rfl (x_idx_own (k) (k) rfl rfl sl33 rfl (by omega) (Nat.mul_one _) ?_)
        refine j_step rfl (x_bst_nat 0 (((z1) + (c)) % 4294967296) rfl rfl rfl ld78 (by first | rfl | omega) (by first | omega | (simp; omega)) ?_)
        refine j_nf [.o [1, 1, 1, 1, 0, 1, 0, 0, 1, 1, 0, 0, 1, 1, 1, 1] 0, .blk 1, .c [1, 1, 1, 1, 0, 1, 0, 0, 1, 1, 1], .lp [1, 1, 1, 1, 0, 1, 0, 0], .blk 0, .c [1, 1, 1, 1, 1]] rfl ?_
        refine j_run it 3 rfl (by simp) ?_
        refine j_nf [.o [1, 1, 1, 1, 0, 1, 0, 0, 1, 1, 1] 0, .lp [1, 1, 1, 1, 0, 1, 0, 0], .blk 0, .c [1, 1, 1, 1, 1]] rfl ?_
        refine j_run it 2 rfl (by repeat' first | exact trivial | apply And.intro | omega) ?_
        refine j_nfn 1 [.lp [1, 1, 1, 1, 0, 1, 0, 0], .blk 0, .c [1, 1, 1, 1, 1]] rfl ?_
        have hz1' := hra z1 (List.mem_of_getElem? hz1)
        simp only [InR] at hz1'
        refine j_to [1, 2] (by repeat (first | exact Fr.sub_nil _ | refine Fr.sub_cons rfl ?_ | refine Fr.sub_consI rfl (by first | omega | (dsimp only; omega)) ?_ | refine Fr.sub_consS rfl (by first | omega | (dsimp only; omega)) (by first | omega | (dsimp only; omega)) ?_)) rfl rfl (ih (k + 1, (z1 + c) / 4294967296, out.set k ((z1 + c) % 4294967296)) (by simp only; omega) ⟨by simp only; omega, by simpa using hl, by simp only; omega, set_lt ho (by omega), by
          simp only
          rw [val_set_take (by omega), Nat.pow_succ, val_take_succ hz1, take_ge (l := b) (by omega)]; exact carry_step (y := 0) hv rfl⟩)
    · refine j_nf [.o [1, 1, 1, 1, 0, 1, 0, 0, 0] 0, .c [1, 1, 1, 1, 0, 1, 0, 0, 1], .lp [1, 1, 1, 1, 0, 1, 0, 0], .blk 0, .c [1, 1, 1, 1, 1]] rfl ?_
      refine j_run it 1 rfl (by simp) ?_
      refine j_nf [.c [1, 1, 1, 1, 0, 1, 0, 0, 1, 0], .c [1, 1, 1, 1, 0, 1, 0, 0, 1, 1], .lp [1, 1, 1, 1, 0, 1, 0, 0], .blk 0, .c [1, 1, 1, 1, 1]] rfl ?_
      refine j_if rfl rfl (fun h1 => by exfalso; omega) (fun h1 => ?_)
      refine j_nf [.o [1, 1, 1, 1, 1, 0] 0, .c [1, 1, 1, 1, 1, 1]] rfl ?_
      refine j_run it 2 rfl (by simp) ?_
      refine j_step rfl (x_len sl33 rfl ?_)
      refine j_run it 2 rfl (by repeat' first | exact trivial | apply And.intro | omega) ?_
      refine j_step rfl (x_idx_own (a.length) (a.length) rfl rfl sl33 rfl (by omega) (Nat.mul_one _) ?_)
      refine j_step rfl (x_bst_nat 0 (c) rfl rfl rfl ld78 (by first | rfl | omega) (by first | omega | (simp; omega)) ?_)
      refine j_nf [.o [1, 1, 1, 1, 1, 1, 0] 0, .c [1, 1, 1, 1, 1, 1, 1]] rfl ?_
      refine j_run it 1 rfl (by simp) ?_
      refine j_pub32 (n := a.length + 1) 0 rfl (by simp [*]) (by first | assumption | exact set_all (by assumption) (by omega) | (simp; omega)) (by omega) ?_
      refine j_step rfl (x_call [0] rfl (S_nat_short) rfl ?_)
      rintro _ _ _ ⟨rfl, rfl, rfl⟩
      simp only [List.cons_append, List.nil_append]
      refine j_run it 1 rfl (by simp) ?_
      refine j_nf [.c [1, 1, 1, 1, 1, 1, 1]] rfl ?_
      have e : k = a.length := by omega
      have fin : trim (out.set a.length c) = limbs (val a + val b) := by
        subst e
        rw [List.take_length, List.take_of_length_le hab] at hv
        rw [trim_eq (set_lt ho (by omega)), ← hv, ← val_set_take (by omega), List.take_of_length_le (by simp; omega)]
      rw [fin]
      refine j_giv [0] rfl rfl rfl ⟨_, _, rfl, rfl, rfl⟩
  by_cases hab : a.length < b.length
  · refine j_nf [.o [0] 0, .c [1]] rfl ?_
    refine j_run it 1 rfl (by simp) ?_
    refine j_nf [.o [1, 0, 0] 0, .c [1, 0, 1], .c [1, 1]] rfl ?_
    refine j_run it 1 rfl (by simp) ?_
    refine j_step rfl (x_len sl33 rfl ?_)
    refine j_run it 1 rfl (by simp) ?_
    refine j_step rfl (x_len sl33 rfl ?_)
    refine j_run it 1 rfl (by simp) ?_
    refine j_nf [.c [1, 0, 1], .c [1, 1]] rfl ?_
    refine j_if rfl rfl (fun h1 => ?_) (fun h1 => by exfalso; omega)
    refine j_nf [.o [1, 0, 1, 0] 0, .c [1, 1]] rfl ?_
    refine j_run it 4 rfl (by simp) ?_
    refine j_nfn 1 [.c [1, 1]] rfl ?_
    rw [Nat.add_comm]
    refine j_to [1, 0] (by repeat (first | exact Fr.sub_nil _ | refine Fr.sub_cons rfl ?_ | refine Fr.sub_consI rfl (by first | omega | (dsimp only; omega)) ?_ | refine Fr.sub_consS rfl (by first | omega | (dsimp only; omega)) (by first | omega | (dsimp only; omega)) ?_)) rfl rfl (core b a pb pa cb ca hb (by omega))
  · refine j_nf [.o [0] 0, .c [1]] rfl ?_
    refine j_run it 1 rfl (by simp) ?_
    refine j_nf [.o [1, 0, 0] 0, .c [1, 0, 1], .c [1, 1]] rfl ?_
    refine j_run it 1 rfl (by simp) ?_
    refine j_step rfl (x_len sl33 rfl ?_)
    refine j_run it 1 rfl (by simp) ?_
    refine j_step rfl (x_len sl33 rfl ?_)
    refine j_run it 1 rfl (by simp) ?_
    refine j_nf [.c [1, 0, 1], .c [1, 1]] rfl ?_
    refine j_if rfl rfl (fun h1 => by exfalso; omega) (fun h1 => ?_)
    refine j_nfn 1 [.c [1, 1]] rfl ?_
    refine j_to [0, 1] (by repeat (first | exact Fr.sub_nil _ | refine Fr.sub_cons rfl ?_ | refine Fr.sub_consI rfl (by first | omega | (dsimp only; omega)) ?_ | refine Fr.sub_consS rfl (by first | omega | (dsimp only; omega)) (by first | omega | (dsimp only; omega)) ?_)) rfl rfl (core a b pa pb ca cb ha (by omega))

/-- Rows of limbs: what a fact on them says outside of memory. -/
theorem rows_range {P : Program} {F : Fun P} {C : Cx} {S : List It} {σ : Fr} {β : List Blk} {Γ : List Fact} {R : Value → World → Prop} {pa : Option Addr} {n ca : Nat} {ls : List (List Nat)} (k : Nat) (hk : nth Γ k = some (slF NatE pa n ca ls))
    (h : (∀ l ∈ ls, ∀ x ∈ l, x < 4294967296) → J F C S σ β Γ R) : J F C S σ β Γ R :=
  j_know (fun w A hG l hl x hx => by
    obtain ⟨_, _, _, hs⟩ := hG _ (fact_mem hk)
    rcases hs with rfl | ⟨b, o, _, _, hel⟩
    · cases hl
    · obtain ⟨i, hi⟩ := List.getElem?_of_mem hl
      obtain ⟨vs, _, pa', ca', _, _, _, hr⟩ := hel i l hi
      rcases hr with rfl | ⟨b', o', _, _, hel'⟩
      · cases hx
      · obtain ⟨j, hj⟩ := List.getElem?_of_mem hx
        obtain ⟨vs, _, _, hR⟩ := hel' j x hj
        simp only [InR] at hR; omega) h

theorem S_nat_Add {pa : Option Addr} {n ca : Nat} {ls : List (List Nat)} (hn : ls.length ≤ 65536) (hL : ∀ l ∈ ls, l.length ≤ 1073741824) : Ctr Try.prog 81 [.slice pa n ca] [] [slF NatE pa n ca ls] (Sv U32 (limbs (sumV ls))) := by
  refine Ctr_of_j' (F := F_nat_Add) rfl fun C => ?_
  refine j_len 0 rfl fun hl _ _ => ?_
  subst hl
  refine rows_range 0 rfl fun hr => ?_
  have hs := sum_len hr hL hn
  refine j_nf [.o [0] 0, .c [1]] rfl ?_
  refine j_run it 1 rfl (by simp) ?_
  refine j_nf [.o [1, 0] 0, .c [1, 1]] rfl ?_
  refine j_run it 1 rfl (by simp) ?_
  refine j_nf [.o [1, 1, 0, 0] 0, .c [1, 1, 0, 1], .c [1, 1, 1]] rfl ?_
  refine j_run it 1 rfl (by simp) ?_
  refine j_step rfl (x_len sl104 rfl ?_)
  refine j_run it 1 rfl (by simp) ?_
  refine j_nf [.c [1, 1, 0, 1, 0], .blk 0, .c [1, 1, 1]] rfl ?_
  refine j_add (slF U32 none (limbs (sumV (ls.take 0))).length 0 (limbs (sumV (ls.take 0)))) (fun w A _ => by rw [show sumV (ls.take 0) = 0 from rfl, limbs_zero]; exact slF_nil _ _ _ _ _) ?_
  refine j_loopN (X := Nat × Option Addr × Nat) (fun x => [(3, .slice x.2.1 (limbs (sumV (ls.take x.1))).length x.2.2), (6, .slice pa ls.length ca), (7, .int .i64 ls.length), (8, .int .i64 x.1)])
    (fun x => []) (fun x => [slF U32 x.2.1 (limbs (sumV (ls.take x.1))).length x.2.2 (limbs (sumV (ls.take x.1))), slF NatE pa ls.length ca ls])
    (fun x => x.1 ≤ ls.length) (fun x => ls.length - x.1) (0, none, 0) [0, 1] rfl (Nat.zero_le _) (by
      rw [show (limbs (sumV (ls.take (0, (none : Option Addr), 0).1))).length = 0 by rw [show sumV (ls.take 0) = 0 from rfl, limbs_zero]; rfl]
      repeat (first | exact Fr.sub_nil _ | refine Fr.sub_cons rfl ?_)) rfl rfl ?_
  rintro ⟨k, ps, cs⟩ hk ih
  simp only at hk ih ⊢
  have hsk := hs k
  by_cases hkl : k < ls.length
  · have side : ∀ z, ls[k]? = some z → (trim z).length ≤ 1099511627776 := fun z hz => by have := trim_length_le z; have := hL z (List.mem_of_getElem? hz); omega
    refine j_nf [.o [1, 1, 0, 1, 0, 0, 0] 0, .c [1, 1, 0, 1, 0, 0, 1], .lp [1, 1, 0, 1, 0, 0], .blk 0, .c [1, 1, 1]] rfl ?_
    refine j_run it 1 rfl (by simp) ?_
    refine j_nf [.c [1, 1, 0, 1, 0, 0, 1, 0], .c [1, 1, 0, 1, 0, 0, 1, 1], .lp [1, 1, 0, 1, 0, 0], .blk 0, .c [1, 1, 1]] rfl ?_
    refine j_if rfl rfl (fun h1 => ?_) (fun h1 => by exfalso; omega)
    refine j_nf [.o [1, 1, 0, 1, 0, 0, 1, 1, 0, 0, 0] 0, .c [1, 1, 0, 1, 0, 0, 1, 1, 0, 0, 1], .blk 1, .c [1, 1, 0, 1, 0, 0, 1, 1, 1], .lp [1, 1, 0, 1, 0, 0], .blk 0, .c [1, 1, 1]] rfl ?_
    refine j_step rfl (x_idx 1 (k) rfl rfl rfl sl104 rfl (by omega) fun z1 hz1 b1 o1 => ?_)
    refine j_step rfl (x_ld_sl 0 rfl rfl ld33 fun pa1 ca1 => ?_)
    refine j_run it 1 rfl (by simp) ?_
    refine j_nf [.o [1, 1, 0, 1, 0, 0, 1, 1, 0, 0, 1] 0, .blk 1, .c [1, 1, 0, 1, 0, 0, 1, 1, 1], .lp [1, 1, 0, 1, 0, 0], .blk 0, .c [1, 1, 1]] rfl ?_
    refine j_run it 2 rfl (by simp) ?_
    refine j_step rfl (x_call [0] rfl (S_nat_short) rfl ?_)
    rintro _ _ _ ⟨rfl, rfl, rfl⟩
    simp only [List.cons_append, List.nil_append]
    refine j_step rfl (x_call [3, 0] rfl (S_nat_plus (by first | omega | exact side _ (by assumption) | assumption | rfl | (simp; done) | (simp; omega)) (by first | omega | exact side _ (by assumption) | assumption | rfl | (simp; done) | (simp; omega))) rfl ?_)
    rintro _ _ _ ⟨pa2, ca2, rfl, rfl, rfl⟩
    simp only [List.cons_append, List.nil_append]
    refine j_run it 1 rfl (by simp) ?_
    refine j_nf [.o [1, 1, 0, 1, 0, 0, 1, 1, 1] 0, .lp [1, 1, 0, 1, 0, 0], .blk 0, .c [1, 1, 1]] rfl ?_
    refine j_run it 2 rfl (by repeat' first | exact trivial | apply And.intro | omega) ?_
    refine j_nfn 1 [.lp [1, 1, 0, 1, 0, 0], .blk 0, .c [1, 1, 1]] rfl ?_
    have e : val (limbs (sumV (ls.take k))) + val (trim z1) = sumV (ls.take (k + 1)) := by rw [val_limbs, val_trim, sumV_take_succ hz1]
    rw [e]
    refine j_to [0, 5] (by repeat (first | exact Fr.sub_nil _ | refine Fr.sub_cons rfl ?_ | refine Fr.sub_consI rfl (by first | omega | (dsimp only; omega)) ?_ | refine Fr.sub_consS rfl (by first | omega | (dsimp only; omega)) (by first | omega | (dsimp only; omega)) ?_)) rfl rfl (ih (k + 1, pa2, ca2) (by simp only; omega) (by simp only; omega))
  · refine j_nf [.o [1, 1, 0, 1, 0, 0, 0] 0, .c [1, 1, 0, 1, 0, 0, 1], .lp [1, 1, 0, 1, 0, 0], .blk 0, .c [1, 1, 1]] rfl ?_
    refine j_run it 1 rfl (by simp) ?_
    refine j_nf [.c [1, 1, 0, 1, 0, 0, 1, 0], .c [1, 1, 0, 1, 0, 0, 1, 1], .lp [1, 1, 0, 1, 0, 0], .blk 0, .c [1, 1, 1]] rfl ?_
    refine j_if rfl rfl (fun h1 => by exfalso; omega) (fun h1 => ?_)
    refine j_nf [.o [1, 1, 1, 0] 0, .c [1, 1, 1, 1]] rfl ?_
    refine j_run it 1 rfl (by simp) ?_
    refine j_step rfl (x_call [0] rfl (S_nat_Trim) rfl ?_)
    rintro _ _ _ ⟨pa1, ca1, rfl, rfl, rfl⟩
    simp only [List.cons_append, List.nil_append]
    refine j_run it 1 rfl (by simp) ?_
    refine j_nf [.c [1, 1, 1, 1]] rfl ?_
    have e : ls.take k = ls := List.take_of_length_le (by omega)
    rw [e, trim_limbs]
    refine j_giv [0] rfl rfl rfl ⟨_, _, rfl, rfl, rfl⟩
end Go.Proofs.Ytlhgkefaflpgeaa
