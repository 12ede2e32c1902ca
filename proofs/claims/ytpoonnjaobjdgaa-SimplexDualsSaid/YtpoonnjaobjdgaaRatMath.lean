/-
Fractions: what a sign, a numerator and a denominator in limbs say, and the canonical form.
-/
import Derived.Test.YtpoonnjaobjdgaaNatMath
import Derived.Test.YtpoonnjaobjdgaaNatMath2
import Derived.Test.YtpoonnjaobjdgaaNatMath3
import Derived.Test.YtpoonnjaobjdgaaNatMath5
namespace Go.Proofs.Ytpoonnjaobjdgaa
set_option maxRecDepth 100000
set_option linter.unusedVariables false
--plain
/-- A sign and a size. -/
def sg (neg : Bool) (n : Nat) : Int := if neg then -(n : Int) else n
/-- A fraction of the program or of the document: its sign, its numerator, its denominator. -/
abbrev Rt3 := Bool × List Nat × List Nat
/-- What it says; 0 if the denominator is. -/
def vq (r : Rt3) : Rat := mkRat (sg r.1 (val r.2.1)) (val r.2.2)
/-- The canonical form. -/
def rt (q : Rat) : Rt3 := (decide (q.num < 0), limbs q.num.natAbs, limbs q.den)

theorem sg_abs (neg : Bool) (n : Nat) : (sg neg n).natAbs = n := by unfold sg; split <;> omega
theorem sg_int (z : Int) : sg (decide (z < 0)) z.natAbs = z := by
  unfold sg
  by_cases h : z < 0
  · rw [decide_eq_true h, if_pos rfl]; omega
  · rw [decide_eq_false h, if_neg (by decide)]; omega
theorem sg_num (q : Rat) : sg (decide (q.num < 0)) q.num.natAbs = q.num := sg_int _
theorem sg_not (neg : Bool) (n : Nat) : sg (!neg) n = -sg neg n := by cases neg <;> simp [sg]
theorem sg_mul (a b : Bool) (m n : Nat) : sg (a != b) (m * n) = sg a m * sg b n := by
  cases a <;> cases b <;> simp [sg, Int.neg_mul, Int.mul_neg]
theorem sg_zero (neg : Bool) : sg neg 0 = 0 := by cases neg <;> rfl
theorem sg_eq_zero {neg : Bool} {n : Nat} : sg neg n = 0 ↔ n = 0 := by unfold sg; split <;> omega
theorem sg_lt {neg : Bool} {n : Nat} (h : n ≠ 0) : decide (sg neg n < 0) = neg := by cases neg <;> simp [sg] <;> omega

theorem vq_rt (q : Rat) : vq (rt q) = q := by
  simp only [vq, rt, val_limbs, sg_num, Rat.mkRat_self]

theorem vq_rt' (q : Rat) : vq ((rt q).1, (rt q).2.1, (rt q).2.2) = q := vq_rt q

theorem rt_inj {a b : Rat} (h : rt a = rt b) : a = b := by rw [← vq_rt a, h, vq_rt]

theorem rt_zero : rt 0 = (false, [], [1]) := by
  show (decide ((0 : Rat).num < 0), limbs (0 : Rat).num.natAbs, limbs (0 : Rat).den) = _
  have e1 : (0 : Rat).num = 0 := rfl
  have e2 : (0 : Rat).den = 1 := rfl
  rw [e1, e2, limbs_one]
  simp [limbs_zero]

theorem rt_one : rt 1 = (false, [1], [1]) := by
  show (decide ((1 : Rat).num < 0), limbs (1 : Rat).num.natAbs, limbs (1 : Rat).den) = _
  have e1 : (1 : Rat).num = 1 := rfl
  have e2 : (1 : Rat).den = 1 := rfl
  rw [e1, e2, limbs_one]
  simp [limbs_one]

/-- Canonical, by dividing by the greatest common divisor. -/
theorem rt_mk {neg : Bool} {n d : Nat} (hn : n ≠ 0) (hd : d ≠ 0) : rt (mkRat (sg neg n) d) = (neg, limbs (n / Nat.gcd n d), limbs (d / Nat.gcd n d)) := by
  have hg : 0 < Nat.gcd n d := Nat.gcd_pos_of_pos_left _ (by omega)
  have e1 : (mkRat (sg neg n) d).num = sg neg (n / Nat.gcd n d) := by
    rw [Rat.num_mkRat, if_neg hd, sg_abs, Nat.gcd_comm]
    have hdv : n / Nat.gcd n d * Nat.gcd n d = n := Nat.div_mul_cancel (Nat.gcd_dvd_left _ _)
    generalize Nat.gcd n d = g at *
    generalize n / g = m at *
    have : sg neg n = sg neg m * (g : Int) := by rw [← hdv]; unfold sg; split <;> simp [Int.neg_mul]
    rw [this, Int.mul_ediv_cancel _ (by omega)]
  have e2 : (mkRat (sg neg n) d).den = d / Nat.gcd n d := by rw [Rat.den_mkRat, if_neg hd, sg_abs, Nat.gcd_comm]
  have hne : n / Nat.gcd n d ≠ 0 := by
    have : Nat.gcd n d ≤ n := Nat.gcd_le_left _ (by omega)
    have := Nat.div_pos this hg
    omega
  simp only [rt, e1, e2, sg_abs, sg_lt hne]

theorem mk_zero {neg : Bool} {n d : Nat} (h : n = 0 ∨ d = 0) : mkRat (sg neg n) d = 0 := by
  rcases h with h | h
  · subst h; rw [sg_zero, Rat.zero_mkRat]
  · subst h; rw [Rat.mkRat_zero]

/-- The parts of a canonical fraction. -/
theorem den_ne (q : Rat) : val (rt q).2.2 ≠ 0 := by show val (limbs q.den) ≠ 0; rw [val_limbs]; exact q.den_nz
theorem vq_sub {q : Rat} : sg (rt q).1 (val (rt q).2.1) = q.num := by show sg _ (val (limbs _)) = _; rw [val_limbs]; exact sg_num q
theorem num_rt (q : Rat) : val (rt q).2.1 = q.num.natAbs := val_limbs _
theorem den_rt (q : Rat) : val (rt q).2.2 = q.den := val_limbs _
theorem neg_rt (q : Rat) : (rt q).1 = decide (q.num < 0) := rfl

theorem vq_eq (r : Rt3) : vq r = mkRat (sg r.1 (val r.2.1)) (val r.2.2) := rfl

/-- The sum of two fractions over the product of the denominators, their signs equal. -/
theorem add_same {p q : Rat} (h : decide (p.num < 0) = decide (q.num < 0)) : mkRat (sg (decide (p.num < 0)) (p.num.natAbs * q.den + q.num.natAbs * p.den)) (p.den * q.den) = p + q := by
  conv => rhs; rw [← Rat.mkRat_self p, ← Rat.mkRat_self q, Rat.mkRat_add_mkRat _ _ p.den_nz q.den_nz]
  congr 1
  generalize p.num = x at h ⊢
  generalize q.num = y at h ⊢
  by_cases hp : x < 0
  · have hq : y < 0 := by simpa [hp] using h
    have e1 : (x.natAbs : Int) = -x := by omega
    have e2 : (y.natAbs : Int) = -y := by omega
    rw [decide_eq_true hp, sg, if_pos rfl, Int.natCast_add, Int.natCast_mul, Int.natCast_mul, e1, e2]
    grind
  · have hq : ¬ y < 0 := by simpa [hp] using h
    have e1 : (x.natAbs : Int) = x := by omega
    have e2 : (y.natAbs : Int) = y := by omega
    rw [decide_eq_false hp, sg, if_neg (by decide), Int.natCast_add, Int.natCast_mul, Int.natCast_mul, e1, e2]

/-- Their signs different. -/
theorem add_diff {p q : Rat} (h : decide (p.num < 0) ≠ decide (q.num < 0)) (hle : q.num.natAbs * p.den ≤ p.num.natAbs * q.den) : mkRat (sg (decide (p.num < 0)) (p.num.natAbs * q.den - q.num.natAbs * p.den)) (p.den * q.den) = p + q := by
  conv => rhs; rw [← Rat.mkRat_self p, ← Rat.mkRat_self q, Rat.mkRat_add_mkRat _ _ p.den_nz q.den_nz]
  congr 1
  have hc : ((p.num.natAbs * q.den - q.num.natAbs * p.den : Nat) : Int) = p.num.natAbs * q.den - q.num.natAbs * p.den := by
    rw [Int.ofNat_sub hle, Int.natCast_mul, Int.natCast_mul]
  generalize p.num.natAbs * q.den - q.num.natAbs * p.den = w at hc ⊢
  generalize p.num = x at h hc ⊢
  generalize q.num = y at h hc ⊢
  by_cases hp : x < 0
  · have hq : ¬ y < 0 := by simpa [hp] using h
    have e1 : (x.natAbs : Int) = -x := by omega
    have e2 : (y.natAbs : Int) = y := by omega
    rw [decide_eq_true hp, sg, if_pos rfl, hc, e1, e2]
    grind
  · have hq : y < 0 := by simpa [hp] using h
    have e1 : (x.natAbs : Int) = x := by omega
    have e2 : (y.natAbs : Int) = -y := by omega
    rw [decide_eq_false hp, sg, if_neg (by decide), hc, e1, e2]
    grind

theorem mul_mk (p q : Rat) : mkRat (sg (decide (p.num < 0) != decide (q.num < 0)) (p.num.natAbs * q.num.natAbs)) (p.den * q.den) = p * q := by
  rw [sg_mul, sg_num, sg_num, ← Rat.mkRat_mul_mkRat, Rat.mkRat_self, Rat.mkRat_self]

theorem neg_mk (n : Bool) (a d : Nat) : mkRat (sg (!n) a) d = -mkRat (sg n a) d := by rw [sg_not, Rat.neg_mkRat]

/-- Both parts of a fraction have at most so many limbs. -/
def bd (k : Nat) (q : Rat) : Prop := q.num.natAbs < 4294967296 ^ k ∧ q.den < 4294967296 ^ k

theorem bd_mk {k : Nat} {n : Bool} {a d : Nat} (hk : 1 ≤ k) (ha : a < 4294967296 ^ k) (hd : d < 4294967296 ^ k) : bd k (mkRat (sg n a) d) := by
  have hp : 1 < 4294967296 ^ k := Nat.one_lt_pow (by omega) (by decide)
  constructor
  · rw [Rat.num_mkRat]
    split
    · simp; omega
    · refine Nat.lt_of_le_of_lt (Int.natAbs_ediv_le_natAbs _ _) ?_
      rw [sg_abs]; exact ha
  · rw [Rat.den_mkRat]
    split
    · exact hp
    · exact Nat.lt_of_le_of_lt (Nat.div_le_self _ _) hd

theorem bd_mono {k m : Nat} {q : Rat} (h : bd k q) (hk : k ≤ m) : bd m q :=
  ⟨Nat.lt_of_lt_of_le h.1 (Nat.pow_le_pow_right (by decide) hk), Nat.lt_of_lt_of_le h.2 (Nat.pow_le_pow_right (by decide) hk)⟩

theorem bd_len {k : Nat} {q : Rat} (h : bd k q) : (rt q).2.1.length ≤ k ∧ (rt q).2.2.length ≤ k := ⟨limbs_length_le h.1, limbs_length_le h.2⟩

theorem bd_neg {k : Nat} {q : Rat} (h : bd k q) : bd k (-q) := by
  refine ⟨?_, by rw [Rat.neg_den]; exact h.2⟩
  rw [Rat.neg_num, Int.natAbs_neg]; exact h.1

theorem mul_pow {a b j k : Nat} (ha : a < 4294967296 ^ j) (hb : b < 4294967296 ^ k) : a * b < 4294967296 ^ (j + k) := by
  rw [Nat.pow_add]
  exact Nat.mul_lt_mul'' ha hb

theorem bd_mul {j k : Nat} {p q : Rat} (hp : bd j p) (hq : bd k q) (h : 1 ≤ j + k) : bd (j + k) (p * q) := by
  rw [← mul_mk]
  exact bd_mk h (mul_pow hp.1 hq.1) (mul_pow hp.2 hq.2)

theorem bd_add {j k : Nat} {p q : Rat} (hp : bd j p) (hq : bd k q) : bd (j + k + 1) (p + q) := by
  conv => rw [← Rat.mkRat_self p, ← Rat.mkRat_self q, Rat.mkRat_add_mkRat _ _ p.den_nz q.den_nz]
  have h1 := mul_pow hp.1 hq.2
  have h2 := mul_pow hq.1 hp.2
  rw [Nat.add_comm k j] at h2
  have h3 := mul_pow hp.2 hq.2
  have e : ∀ z : Int, z = sg (decide (z < 0)) z.natAbs := fun z => (sg_int z).symm
  rw [e (p.num * q.den + q.num * p.den)]
  refine bd_mk (by omega) ?_ (Nat.lt_of_lt_of_le h3 (Nat.pow_le_pow_right (by decide) (by omega)))
  have h4 : (p.num * q.den + q.num * p.den).natAbs ≤ p.num.natAbs * q.den + q.num.natAbs * p.den := by
    refine Nat.le_trans (Int.natAbs_add_le _ _) ?_
    rw [Int.natAbs_mul, Int.natAbs_mul]; simp
  rw [Nat.pow_succ]
  omega

theorem bd_vq {k : Nat} {r : Rt3} (h1 : ∀ x ∈ r.2.1, x < 4294967296) (h2 : ∀ x ∈ r.2.2, x < 4294967296) (l1 : r.2.1.length ≤ k) (l2 : r.2.2.length ≤ k) (hk : 1 ≤ k) : bd k (vq r) :=
  bd_mk hk (Nat.lt_of_lt_of_le (val_lt h1) (Nat.pow_le_pow_right (by decide) l1)) (Nat.lt_of_lt_of_le (val_lt h2) (Nat.pow_le_pow_right (by decide) l2))

theorem mk_sign {neg : Bool} {n d : Nat} (hn : n ≠ 0) (hd : d ≠ 0) : (mkRat (sg neg n) d).num.sign = if neg then -1 else 1 := by
  have h := rt_mk (neg := neg) hn hd
  have h1 : decide ((mkRat (sg neg n) d).num < 0) = neg := congrArg (fun x : Rt3 => x.1) h
  have h2 : limbs (mkRat (sg neg n) d).num.natAbs = limbs (n / Nat.gcd n d) := congrArg (fun x : Rt3 => x.2.1) h
  have h3 := limbs_inj h2
  have hne : n / Nat.gcd n d ≠ 0 := by
    have hg : 0 < Nat.gcd n d := Nat.gcd_pos_of_pos_left _ (by omega)
    have : Nat.gcd n d ≤ n := Nat.gcd_le_left _ (by omega)
    have := Nat.div_pos this hg
    omega
  generalize (mkRat (sg neg n) d).num = z at *
  cases neg with
  | true =>
    have : z < 0 := by simpa using h1
    rw [Int.sign_eq_neg_one_of_neg this]; rfl
  | false =>
    have : ¬ z < 0 := by simpa using h1
    rw [Int.sign_eq_one_of_pos (by omega)]; rfl

/-- The product of a list. -/
def prodQ : List Rt3 → Rat
  | [] => 1
  | r :: ls => vq r * prodQ ls
theorem prodQ_snoc (ls : List Rt3) (r : Rt3) : prodQ (ls ++ [r]) = prodQ ls * vq r := by
  induction ls with
  | nil => simp [prodQ]
  | cons x l ih => rw [List.cons_append, prodQ, prodQ, ih, Rat.mul_assoc]
theorem prodQ_take {ls : List Rt3} {k : Nat} {z : Rt3} (h : ls[k]? = some z) : prodQ (ls.take (k + 1)) = prodQ (ls.take k) * vq z := by
  rw [List.take_add_one, h]; exact prodQ_snoc _ _

/-- The sum of a list. -/
def sumQ : List Rt3 → Rat
  | [] => 0
  | r :: ls => vq r + sumQ ls
theorem sumQ_snoc (ls : List Rt3) (r : Rt3) : sumQ (ls ++ [r]) = sumQ ls + vq r := by
  induction ls with
  | nil => simp [sumQ, Rat.add_zero, Rat.zero_add]
  | cons x l ih => rw [List.cons_append, sumQ, sumQ, ih, Rat.add_assoc]
theorem sumQ_take {ls : List Rt3} {k : Nat} {z : Rt3} (h : ls[k]? = some z) : sumQ (ls.take (k + 1)) = sumQ (ls.take k) + vq z := by
  rw [List.take_add_one, h]; exact sumQ_snoc _ _
theorem prodQ_two (a b : Rt3) : prodQ [a, b] = vq a * vq b := by simp [prodQ]
theorem sumQ_two (a b : Rt3) : sumQ [a, b] = vq a + vq b := by simp [sumQ, Rat.add_zero]

theorem bd_one {k : Nat} (h : 1 ≤ k) : bd k 1 := by
  have hp : 1 < 4294967296 ^ k := Nat.one_lt_pow (by omega) (by decide)
  exact ⟨by show (1 : Rat).num.natAbs < _; exact hp, by show (1 : Rat).den < _; exact hp⟩
theorem bd_zero {k : Nat} (h : 1 ≤ k) : bd k 0 := by
  have hp : 1 < 4294967296 ^ k := Nat.one_lt_pow (by omega) (by decide)
  exact ⟨by show (0 : Rat).num.natAbs < _; exact Nat.lt_trans (by decide) hp, by show (0 : Rat).den < _; exact hp⟩

/-- The numbers of a list are in order, and of so many limbs. -/
def okR (k : Nat) (r : Rt3) : Prop := (∀ x ∈ r.2.1, x < 4294967296) ∧ (∀ x ∈ r.2.2, x < 4294967296) ∧ r.2.1.length ≤ k ∧ r.2.2.length ≤ k
theorem okR_bd {k : Nat} {r : Rt3} (h : okR k r) (hk : 1 ≤ k) : bd k (vq r) := bd_vq h.1 h.2.1 h.2.2.1 h.2.2.2 hk

theorem prodQ_bd {k : Nat} {ls : List Rt3} (hk : 1 ≤ k) (h : ∀ r ∈ ls, okR k r) : bd (k * ls.length + 1) (prodQ ls) := by
  induction ls with
  | nil => exact bd_one (by simp)
  | cons x l ih =>
    have h1 := bd_mul (okR_bd (h x (.head _)) hk) (ih fun r hr => h r (.tail _ hr)) (by omega)
    exact bd_mono h1 (by rw [List.length_cons, Nat.mul_succ]; omega)

theorem sumQ_bd {k : Nat} {ls : List Rt3} (hk : 1 ≤ k) (h : ∀ r ∈ ls, okR k r) : bd ((k + 1) * ls.length + 1) (sumQ ls) := by
  induction ls with
  | nil => exact bd_zero (by simp)
  | cons x l ih =>
    have h1 := bd_add (okR_bd (h x (.head _)) hk) (ih fun r hr => h r (.tail _ hr))
    exact bd_mono h1 (by rw [List.length_cons, Nat.mul_succ]; omega)
end Go.Proofs.Ytpoonnjaobjdgaa
