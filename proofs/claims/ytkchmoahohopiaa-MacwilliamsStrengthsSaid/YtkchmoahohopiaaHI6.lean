/-
Numbers of entries that are not zero; External and Strength of both sides. The document's fractions: Add, Sub, Cmp. The document's binomial coefficient. The document's binomial coefficient; the program's for all places. The document's power. Krawtchouk, the program's and the document's. The document's Transform; the program's with its errors; the law's large. The document's Total, Whole and Dual. The frame's last text: from a contract of a law to the given statement: arguments are opened, and read the same afterwards.
-/
import Derived.SizedLaws
import Derived.OpenShut
import Derived.ChangeOld
import Derived.Carry
import Derived.ChangeArms
import Derived.Deep.Slices
import Derived.Test.YtkchmoahohopiaaHI5
set_option linter.unusedVariables false
set_option linter.unusedSimpArgs false

namespace Go.Proofs.Ytkchmoahohopiaa
open Go Go.Fw
set_option maxRecDepth 100000
set_option linter.unusedVariables false
set_option linter.unusedSimpArgs false
set_option maxHeartbeats 4000000
theorem zeroN {l : List Nat} (h : ∀ x ∈ l, x < 4294967296) : (trim l).length = 0 ↔ val l = 0 := by
  rw [trim_eq h, List.length_eq_zero_iff, limbs_nil]
theorem bitsN {l : List Nat} (h : ∀ x ∈ l, x < 4294967296) : bitsL l = 0 ↔ val l = 0 := bitsL_zero h

/-- How many of the entries 1..k are not zero. -/
def cntP (L : List (List Nat)) : Nat → Nat
  | 0 => 0
  | k + 1 => cntP L k + (if val (L.getD (k + 1) default) = 0 then 0 else 1)
theorem cntP_le (L : List (List Nat)) : ∀ k, cntP L k ≤ k
  | 0 => Nat.le_refl 0
  | k + 1 => by have := cntP_le L k; rw [cntP]; split <;> omega
/-- The first of the entries 1..k that is not zero. -/
def leP (L : List (List Nat)) : Nat → Nat
  | 0 => 0
  | k + 1 => if leP L k ≠ 0 then leP L k else if val (L.getD (k + 1) default) = 0 then 0 else k + 1
theorem leP_le (L : List (List Nat)) : ∀ k, leP L k ≤ k
  | 0 => Nat.le_refl 0
  | k + 1 => by have := leP_le L k; rw [leP]; split <;> (try split) <;> omega
theorem leP_stay (L : List (List Nat)) {k : Nat} (h : leP L k ≠ 0) : ∀ m, k ≤ m → leP L m = leP L k := by
  intro m hm
  induction m with
  | zero => obtain rfl : k = 0 := by omega
            rfl
  | succ m ih =>
    rcases Nat.lt_succ_iff_lt_or_eq.1 (Nat.lt_succ_of_le hm) with h1 | rfl
    · rw [leP, ih (by omega), if_pos h]
    · rfl
/-- The greatest t ≤ k with at most d - t entries that are not zero, among the first n - t; or 0. -/
def stP (B : List (List Nat)) (n d : Nat) : Nat → Nat
  | 0 => 0
  | t + 1 => if cntP B (n - (t + 1)) ≤ d - (t + 1) then t + 1 else stP B n d t
theorem stP_le (B : List (List Nat)) (n d : Nat) : ∀ k, stP B n d k ≤ k
  | 0 => Nat.le_refl 0
  | k + 1 => by have := stP_le B n d k; rw [stP]; split <;> omega

theorem S_macwilliams_some {m : Nat} {pa : Option Addr} {n ca : Nat} {L : List (List Nat)} (hm : m < n) (hr : ∀ l ∈ L, ∀ x ∈ l, x < 4294967296) :
    Ctr Try.prog 31 [.slice pa n ca, .int .i64 m] [] [slF NatE pa n ca L] (Rv (.int .i64 (cntP L m)) []) := by
  refine Ctr_of_j' (F := F_macwilliams_some) rfl fun C => ?_
  refine j_len 0 rfl fun hn hb _ => ?_
  have hb' : L.length * 24 ≤ 140737488355328 := hb
  refine j_nf [.o [0] 0, .c [1]] rfl ?_
  refine j_run it 1 rfl (by simp) ?_
  refine j_nf [.o [1, 0] 0, .c [1, 1]] rfl ?_
  refine j_run it 1 rfl (by simp) ?_
  refine j_nf [.o [1, 1, 0, 0] 0, .c [1, 1, 0, 1], .c [1, 1, 1]] rfl ?_
  refine j_run it 1 rfl (by simp) ?_
  refine j_nf [.c [1, 1, 0, 1, 0], .blk 0, .c [1, 1, 1]] rfl ?_
  refine j_loopG (X := Nat) [0, 1, 4] [0] (fun k => [(6, .int .i64 ((k + 1 : Nat) : Int)), (5, .int .i64 ((cntP L k : Nat) : Int))]) (fun _ => []) (fun _ => [])
    (fun k => k ≤ m) (fun k => m - k) 0 [] rfl rfl rfl (Nat.zero_le _) (by repeat (first | exact Fr.sub_nil _ | refine Fr.sub_cons rfl ?_)) rfl rfl ?_
  intro k hk ih
  simp only [List.cons_append, List.nil_append] at ih ⊢
  have hc := cntP_le L k
  by_cases hkl : k < m
  · have hz := get_some (l := L) (i := k + 1) (dflt := default) (by omega)
    have hb0 := bitsN (hr _ (List.mem_of_getElem? hz))
    refine j_nf [.o [1, 1, 0, 1, 0, 0, 0, 0] 0, .c [1, 1, 0, 1, 0, 0, 0, 1], .c [1, 1, 0, 1, 0, 0, 1], .lp [1, 1, 0, 1, 0, 0], .blk 0, .c [1, 1, 1]] rfl ?_
    refine j_run it 3 rfl (by simp) ?_
    refine j_nf [.c [1, 1, 0, 1, 0, 0, 0, 1], .c [1, 1, 0, 1, 0, 0, 1], .lp [1, 1, 0, 1, 0, 0], .blk 0, .c [1, 1, 1]] rfl ?_
    refine j_if rfl rfl (fun h1 => ?_) (fun h1 => by exfalso; omega)
    refine j_nf [.o [1, 1, 0, 1, 0, 0, 1, 0, 0, 0] 0, .c [1, 1, 0, 1, 0, 0, 1, 0, 0, 1], .blk 1, .c [1, 1, 0, 1, 0, 0, 1, 1], .lp [1, 1, 0, 1, 0, 0], .blk 0, .c [1, 1, 1]] rfl ?_
    refine j_run it 2 rfl (by simp) ?_
    refine j_step rfl (x_idx 0 (k + 1) rfl rfl rfl sl22 rfl (by omega) fun z1 hz1 b1 o1 => ?_)
    refine j_step rfl (x_ld_sl 0 rfl rfl ld42 fun pa1 ca1 => ?_)
    refine j_step rfl (x_call [0] rfl (S_nat_Bits) rfl ?_)
    rintro _ _ _ ⟨rfl, rfl, rfl⟩
    simp only [List.cons_append, List.nil_append]
    refine j_run it 1 rfl (by simp) ?_
    refine j_nf [.c [1, 1, 0, 1, 0, 0, 1, 0, 0, 1], .blk 1, .c [1, 1, 0, 1, 0, 0, 1, 1], .lp [1, 1, 0, 1, 0, 0], .blk 0, .c [1, 1, 1]] rfl ?_
    refine j_if rfl rfl (fun h2 => ?_) (fun h2 => ?_)
    · have hzz : L.getD (k + 1) default = z1 := by rw [List.getD, hz1]; rfl
      rw [hzz] at hb0
      have e : cntP L (k + 1) = cntP L k + 1 := by rw [cntP, hzz, if_neg (fun h => by have := hb0.2 h; omega)]
      refine j_nf [.o [1, 1, 0, 1, 0, 0, 1, 0, 0, 1, 0] 0, .blk 1, .c [1, 1, 0, 1, 0, 0, 1, 1], .lp [1, 1, 0, 1, 0, 0], .blk 0, .c [1, 1, 1]] rfl ?_
      refine j_run it 3 rfl (by repeat' first | exact trivial | apply And.intro | omega) ?_
      refine j_nf [.o [1, 1, 0, 1, 0, 0, 1, 1] 0, .lp [1, 1, 0, 1, 0, 0], .blk 0, .c [1, 1, 1]] rfl ?_
      refine j_run it 3 rfl (by repeat' first | exact trivial | apply And.intro | omega) ?_
      refine j_nfn 1 [.lp [1, 1, 0, 1, 0, 0], .blk 0, .c [1, 1, 1]] rfl ?_
      have ih' := ih (k + 1) (by omega) (by omega)
      rw [e] at ih'
      refine j_to [2] (by repeat (first | exact Fr.sub_nil _ | refine Fr.sub_cons rfl ?_ | refine Fr.sub_consI rfl (by first | omega | (dsimp only; omega)) ?_ | refine Fr.sub_consS rfl (by first | omega | (dsimp only; omega)) (by first | omega | (dsimp only; omega)) ?_)) rfl rfl (ih')
    · have hzz : L.getD (k + 1) default = z1 := by rw [List.getD, hz1]; rfl
      rw [hzz] at hb0
      have e : cntP L (k + 1) = cntP L k := by rw [cntP, hzz, if_pos (hb0.1 (by omega))]; rfl
      refine j_nf [.o [1, 1, 0, 1, 0, 0, 1, 1] 0, .lp [1, 1, 0, 1, 0, 0], .blk 0, .c [1, 1, 1]] rfl ?_
      refine j_run it 3 rfl (by repeat' first | exact trivial | apply And.intro | omega) ?_
      refine j_nfn 1 [.lp [1, 1, 0, 1, 0, 0], .blk 0, .c [1, 1, 1]] rfl ?_
      have ih' := ih (k + 1) (by omega) (by omega)
      rw [e] at ih'
      refine j_to [2] (by repeat (first | exact Fr.sub_nil _ | refine Fr.sub_cons rfl ?_ | refine Fr.sub_consI rfl (by first | omega | (dsimp only; omega)) ?_ | refine Fr.sub_consS rfl (by first | omega | (dsimp only; omega)) (by first | omega | (dsimp only; omega)) ?_)) rfl rfl (ih')
  · obtain rfl : m = k := by omega
    refine j_nf [.o [1, 1, 0, 1, 0, 0, 0, 0] 0, .c [1, 1, 0, 1, 0, 0, 0, 1], .c [1, 1, 0, 1, 0, 0, 1], .lp [1, 1, 0, 1, 0, 0], .blk 0, .c [1, 1, 1]] rfl ?_
    refine j_run it 3 rfl (by simp) ?_
    refine j_nf [.c [1, 1, 0, 1, 0, 0, 0, 1], .c [1, 1, 0, 1, 0, 0, 1], .lp [1, 1, 0, 1, 0, 0], .blk 0, .c [1, 1, 1]] rfl ?_
    refine j_if rfl rfl (fun h1 => by exfalso; omega) (fun h1 => ?_)
    refine j_nf [.o [1, 1, 1, 0] 0, .c [1, 1, 1, 1]] rfl ?_
    refine j_run it 2 rfl (by simp) ?_
    refine j_nf [.c [1, 1, 1, 1]] rfl ?_
    refine j_giv [] rfl rfl rfl ⟨rfl, rfl, rfl⟩

/-- The dual distribution and the error, of all that can be handed in. -/
def DE (q : Int) (n : Nat) (L : List (List Nat)) : Int := if wrongOf q n ≠ 0 then wrongOf q n else if sumV L = 0 then 7 else duE q.toNat (n - 1) L
def DR (q : Int) (n : Nat) (L : List (List Nat)) : List (List Nat) := if wrongOf q n ≠ 0 then [] else if sumV L = 0 then [] else duR q.toNat (n - 1) L
theorem wrong_zero {q : Int} {n : Nat} (h : wrongOf q n = 0) : ∃ (p m : Nat), q = p ∧ n = m + 1 ∧ 2 ≤ p ∧ p ≤ 256 ∧ m ≤ 64 := by
  unfold wrongOf at h
  by_cases h1 : q < 2 ∨ 256 < q
  · rw [if_pos h1] at h; cases h
  · rw [if_neg h1, shapeOf] at h
    by_cases h2 : n < 1 ∨ 65 < n
    · rw [if_pos h2] at h; cases h
    · exact ⟨q.toNat, n - 1, by omega, by omega, by omega, by omega, by omega⟩
theorem DE_zero {q : Int} {n : Nat} {L : List (List Nat)} (h : DE q n L = 0) : 1 ≤ n ∧ n ≤ 65 ∧ (DR q n L).length = n ∧ ∀ l ∈ DR q n L, ∀ x ∈ l, x < 4294967296 := by
  unfold DE at h
  by_cases h1 : wrongOf q n = 0
  · rw [if_neg (not_not_intro h1)] at h
    obtain ⟨p, m, rfl, rfl, h2, h3, h4⟩ := wrong_zero h1
    by_cases h5 : sumV L = 0
    · rw [if_pos h5] at h; cases h
    · rw [if_neg h5, duE] at h
      by_cases h6 : duAll (p : Int).toNat (m + 1 - 1) L
      · refine ⟨by omega, by omega, ?_, ?_⟩
        · rw [DR, if_neg (not_not_intro h1), if_neg h5, duR, if_pos h6]; simp
        · rw [DR, if_neg (not_not_intro h1), if_neg h5, duR, if_pos h6]
          intro l hl
          obtain ⟨i, _, rfl⟩ := List.mem_map.1 hl
          exact limbs_lt _
      · rw [if_neg h6] at h; cases h
  · rw [if_pos h1] at h; exact absurd h h1
theorem DE_nil {q : Int} {n : Nat} {L : List (List Nat)} (h : DE q n L ≠ 0) : DR q n L = [] := by
  unfold DE at h
  unfold DR
  by_cases h1 : wrongOf q n = 0
  · rw [if_neg (not_not_intro h1)] at h ⊢
    by_cases h5 : sumV L = 0
    · rw [if_pos h5]
    · rw [if_neg h5] at h ⊢
      rw [duE] at h
      rw [duR]
      split at h
      · exact absurd rfl h
      · rename_i h6; rw [if_neg h6]
  · rw [if_pos h1]
theorem sum_toP {n : Nat} {L : List (List Nat)} (h : L.length = n + 1) : sumV L = toP L (n + 1) := by rw [← toP_all, h]

theorem S_macwilliams_Dual {q : Int} {n K : Nat} {pa : Option Addr} {ca : Nat} {L : List (List Nat)} (hK : K ≤ 10000) (hL : ∀ l ∈ L, okN K l) :
    Ctr Try.prog 30 [.int .i64 q, .slice pa n ca] [] [slF NatE pa n ca L] (SvE NatE (DR q n L).length (DR q n L) (DE q n L)) := by
  by_cases h1 : wrongOf q n = 0
  · obtain ⟨p, m, rfl, rfl, h2, h3, h4⟩ := wrong_zero h1
    by_cases h5 : sumV L = 0
    · rw [DR, DE, if_neg (not_not_intro h1), if_neg (not_not_intro h1), if_pos h5, if_pos h5]
      refine Ctr_of_j' (F := F_macwilliams_Dual) rfl fun C => ?_
      refine j_len 0 rfl fun hn _ _ => ?_
      have hlen : L.length ≤ 65536 := by omega
      have hLl : ∀ l ∈ L, l.length ≤ 1073741824 := fun l h => by have := (hL l h).2; omega
      have hT0 : (limbs (sumV L)).length = 0 := by rw [h5, limbs_zero]; rfl
      refine j_nf [.o [0] 0, .c [1]] rfl ?_
      refine j_run it 2 rfl (by simp) ?_
      refine j_nf [.o [1, 0, 0] 0, .c [1, 0, 1], .c [1, 1]] rfl ?_
      refine j_run it 2 rfl (by simp) ?_
      refine j_step rfl (x_len sl22 rfl ?_)
      refine j_step rfl (x_call [] rfl (S_macwilliams_wrong) rfl ?_)
      rintro _ _ _ ⟨rfl, rfl, rfl⟩
      simp only [List.cons_append, List.nil_append]
      refine j_run it 1 rfl (by simp) ?_
      refine j_nf [.o [1, 0, 1, 0] 0, .c [1, 0, 1, 1], .c [1, 1]] rfl ?_
      refine j_run it 2 rfl (by simp) ?_
      refine j_nf [.c [1, 0, 1, 1], .c [1, 1]] rfl ?_
      refine j_ifn rfl rfl (fun h6 => by exfalso; omega) (fun h6 => ?_)
      refine j_nf [.o [1, 1, 0] 0, .c [1, 1, 1]] rfl ?_
      refine j_run it 1 rfl (by simp) ?_
      refine j_step rfl (x_call [0] rfl (S_nat_Add (by first | omega | exact side _ (by assumption) | assumption | rfl | (simp; done) | (simp; omega)) (by first | omega | exact side _ (by assumption) | assumption | rfl | (simp; done) | (simp; omega))) rfl ?_)
      rintro _ _ _ ⟨pa1, ca1, rfl, rfl, rfl⟩
      simp only [List.cons_append, List.nil_append]
      refine j_run it 1 rfl (by simp) ?_
      refine j_nf [.o [1, 1, 1, 0, 0] 0, .c [1, 1, 1, 0, 1], .c [1, 1, 1, 1]] rfl ?_
      refine j_run it 1 rfl (by simp) ?_
      refine j_step rfl (x_len sl42 rfl ?_)
      refine j_run it 1 rfl (by simp) ?_
      refine j_nf [.c [1, 1, 1, 0, 1], .c [1, 1, 1, 1]] rfl ?_
      refine j_if rfl rfl (fun h7 => ?_) (fun h7 => by exfalso; omega)
      refine j_nf [.o [1, 1, 1, 0, 1, 0, 0] 0, .c [1, 1, 1, 0, 1, 0, 1], .c [1, 1, 1, 1]] rfl ?_
      refine j_run it 2 rfl (by simp) ?_
      refine j_nf [.c [1, 1, 1, 0, 1, 0, 1], .c [1, 1, 1, 1]] rfl ?_
      refine j_add (slF NatE none 0 0 []) (fun w A _ => slF_nil _ _ _ _ _) ?_
      refine j_giv [0] rfl rfl rfl ⟨_, _, rfl, rfl, rfl⟩
    · rw [DR, DE, if_neg (not_not_intro h1), if_neg (not_not_intro h1), if_neg h5, if_neg h5, show ((p : Nat) : Int).toNat = p by omega, Nat.add_sub_cancel]
      refine Ctr_len (F := F_macwilliams_Dual) 0 rfl fun hn => ?_
      exact U_macwilliams_Dual h2 h3 h4 hn.symm hK hL (by rw [← sum_toP hn.symm]; exact h5)
  · rw [DR, DE, if_pos h1, if_pos h1]
    refine Ctr_of_j' (F := F_macwilliams_Dual) rfl fun C => ?_
    refine j_nf [.o [0] 0, .c [1]] rfl ?_
    refine j_run it 2 rfl (by simp) ?_
    refine j_nf [.o [1, 0, 0] 0, .c [1, 0, 1], .c [1, 1]] rfl ?_
    refine j_run it 2 rfl (by simp) ?_
    refine j_step rfl (x_len sl22 rfl ?_)
    refine j_step rfl (x_call [] rfl (S_macwilliams_wrong) rfl ?_)
    rintro _ _ _ ⟨rfl, rfl, rfl⟩
    simp only [List.cons_append, List.nil_append]
    refine j_run it 1 rfl (by simp) ?_
    refine j_nf [.o [1, 0, 1, 0] 0, .c [1, 0, 1, 1], .c [1, 1]] rfl ?_
    refine j_run it 2 rfl (by simp) ?_
    refine j_nf [.c [1, 0, 1, 1], .c [1, 1]] rfl ?_
    refine j_ifn rfl rfl (fun h2 => ?_) (fun h2 => by exfalso; omega)
    refine j_nf [.o [1, 0, 1, 1, 0, 0] 0, .c [1, 0, 1, 1, 0, 1], .c [1, 1]] rfl ?_
    refine j_run it 3 rfl (by simp) ?_
    refine j_nf [.c [1, 0, 1, 1, 0, 1], .c [1, 1]] rfl ?_
    refine j_add (slF NatE none 0 0 []) (fun w A _ => slF_nil _ _ _ _ _) ?_
    refine j_giv [0] rfl rfl rfl ⟨_, _, rfl, rfl, rfl⟩

theorem S_macwilliams_External {q : Int} {n K : Nat} {pa : Option Addr} {ca : Nat} {L : List (List Nat)} (hK : K ≤ 10000) (hL : ∀ l ∈ L, okN K l) :
    Ctr Try.prog 11 [.int .i64 q, .slice pa n ca] [] [slF NatE pa n ca L] (Rv (.tuple #[.int .i64 ((if DE q n L = 0 then cntP (DR q n L) (n - 1) else 0 : Nat) : Int), .int .i64 (DE q n L)]) []) := by
  refine Ctr_of_j' (F := F_macwilliams_External) rfl fun C => ?_
  by_cases h : DE q n L = 0
  · obtain ⟨d1, d2, d3, d4⟩ := DE_zero h
    rw [if_pos h]
    refine j_nf [.o [0] 0, .c [1]] rfl ?_
    refine j_run it 2 rfl (by simp) ?_
    refine j_nf [.o [1, 0] 0, .c [1, 1]] rfl ?_
    refine j_run it 2 rfl (by simp) ?_
    refine j_step rfl (x_call [0] rfl (S_macwilliams_Dual (by first | omega | exact side _ (by assumption) | assumption | rfl | (simp; done) | (simp; omega)) (by first | omega | exact side _ (by assumption) | assumption | rfl | (simp; done) | (simp; omega))) rfl ?_)
    rintro _ _ _ ⟨pa1, ca1, rfl, rfl, rfl⟩
    simp only [List.cons_append, List.nil_append]
    refine j_run it 5 rfl (by simp) ?_
    refine j_nf [.o [1, 1, 0, 0] 0, .c [1, 1, 0, 1], .c [1, 1, 1]] rfl ?_
    refine j_run it 2 rfl (by simp) ?_
    refine j_nf [.c [1, 1, 0, 1], .c [1, 1, 1]] rfl ?_
    refine j_ifn rfl rfl (fun h1 => by exfalso; omega) (fun h1 => ?_)
    refine j_nf [.o [1, 1, 1, 0] 0, .c [1, 1, 1, 1]] rfl ?_
    refine j_run it 2 rfl (by simp) ?_
    refine j_step rfl (x_len sl22 rfl ?_)
    refine j_run it 1 rfl (by repeat' first | exact trivial | apply And.intro | omega) ?_
    refine j_recast (t := 20) (((((DR q n L).length) - 1) : Nat) : Int) rfl (by omega) ?_
    refine j_step rfl (x_call [0] rfl (S_macwilliams_some (by first | omega | exact side _ (by assumption) | assumption | rfl | (simp; done) | (simp; omega)) (by first | omega | exact side _ (by assumption) | assumption | rfl | (simp; done) | (simp; omega))) rfl ?_)
    rintro _ _ _ ⟨rfl, rfl, rfl⟩
    simp only [List.cons_append, List.nil_append]
    refine j_run it 2 rfl (by simp) ?_
    refine j_nf [.c [1, 1, 1, 1]] rfl ?_
    rw [d3, h]
    refine j_giv [] rfl rfl rfl ⟨rfl, rfl, rfl⟩
  · rw [if_neg h]
    refine j_nf [.o [0] 0, .c [1]] rfl ?_
    refine j_run it 2 rfl (by simp) ?_
    refine j_nf [.o [1, 0] 0, .c [1, 1]] rfl ?_
    refine j_run it 2 rfl (by simp) ?_
    refine j_step rfl (x_call [0] rfl (S_macwilliams_Dual (by first | omega | exact side _ (by assumption) | assumption | rfl | (simp; done) | (simp; omega)) (by first | omega | exact side _ (by assumption) | assumption | rfl | (simp; done) | (simp; omega))) rfl ?_)
    rintro _ _ _ ⟨pa1, ca1, rfl, rfl, rfl⟩
    simp only [List.cons_append, List.nil_append]
    refine j_run it 5 rfl (by simp) ?_
    refine j_nf [.o [1, 1, 0, 0] 0, .c [1, 1, 0, 1], .c [1, 1, 1]] rfl ?_
    refine j_run it 2 rfl (by simp) ?_
    refine j_nf [.c [1, 1, 0, 1], .c [1, 1, 1]] rfl ?_
    refine j_ifn rfl rfl (fun h1 => ?_) (fun h1 => by exfalso; omega)
    refine j_nf [.o [1, 1, 0, 1, 0, 0] 0, .c [1, 1, 0, 1, 0, 1], .c [1, 1, 1]] rfl ?_
    refine j_run it 3 rfl (by simp) ?_
    refine j_nf [.c [1, 1, 0, 1, 0, 1], .c [1, 1, 1]] rfl ?_
    refine j_giv [] rfl rfl rfl ⟨rfl, rfl, rfl⟩

/-- The strength. -/
def stV (q : Int) (n : Nat) (L : List (List Nat)) : Nat := if DE q n L ≠ 0 then 0 else if leP L (n - 1) = 0 then 0 else stP (DR q n L) (n - 1) (leP L (n - 1)) (leP L (n - 1) - 1)
def stE (q : Int) (n : Nat) (L : List (List Nat)) : Int := if DE q n L ≠ 0 then DE q n L else if leP L (n - 1) = 0 then 11 else 0
theorem S_macwilliams_Strength {q : Int} {n K : Nat} {pa : Option Addr} {ca : Nat} {L : List (List Nat)} (hK : K ≤ 10000) (hL : ∀ l ∈ L, okN K l) :
    Ctr Try.prog 14 [.int .i64 q, .slice pa n ca] [] [slF NatE pa n ca L] (Rv (.tuple #[.int .i64 ((stV q n L : Nat) : Int), .int .i64 (stE q n L)]) []) := by
  refine Ctr_of_j' (F := F_macwilliams_Strength) rfl fun C => ?_
  refine j_len 0 rfl fun hln _ _ => ?_
  by_cases h : DE q n L = 0
  · obtain ⟨d1, d2, d3, d4⟩ := DE_zero h
    obtain ⟨m, rfl⟩ : ∃ a : Nat, n = a + 1 := ⟨n - 1, by omega⟩
    rw [stV, stE, if_neg (not_not_intro h), if_neg (not_not_intro h), Nat.add_sub_cancel]
    have hle := leP_le L m
    refine j_nf [.o [0] 0, .c [1]] rfl ?_
    refine j_run it 2 rfl (by simp) ?_
    refine j_nf [.o [1, 0] 0, .c [1, 1]] rfl ?_
    refine j_run it 2 rfl (by simp) ?_
    refine j_step rfl (x_call [0] rfl (S_macwilliams_Dual (by first | omega | exact side _ (by assumption) | assumption | rfl | (simp; done) | (simp; omega)) (by first | omega | exact side _ (by assumption) | assumption | rfl | (simp; done) | (simp; omega))) rfl ?_)
    rintro _ _ _ ⟨pa1, ca1, rfl, rfl, rfl⟩
    simp only [List.cons_append, List.nil_append]
    refine j_run it 5 rfl (by simp) ?_
    refine j_nf [.o [1, 1, 0, 0] 0, .c [1, 1, 0, 1], .c [1, 1, 1]] rfl ?_
    refine j_run it 2 rfl (by simp) ?_
    refine j_nf [.c [1, 1, 0, 1], .c [1, 1, 1]] rfl ?_
    refine j_ifn rfl rfl (fun h1 => by exfalso; omega) (fun h1 => ?_)
    refine j_nf [.o [1, 1, 1, 0] 0, .c [1, 1, 1, 1]] rfl ?_
    refine j_run it 1 rfl (by simp) ?_
    refine j_step rfl (x_len sl22 rfl ?_)
    refine j_run it 3 rfl (by repeat' first | exact trivial | apply And.intro | omega) ?_
    refine j_nf [.c [1, 1, 1, 1, 0, 0], .blk 0, .c [1, 1, 1, 1, 1]] rfl ?_ --ok
    refine j_loopG (X := Nat) [1, 4, 5, 6, 8] [0, 1] (fun k => [(9, .int .i64 ((k + 1 : Nat) : Int))]) (fun _ => []) (fun _ => [])
      (fun k => k ≤ m ∧ leP L k = 0) (fun k => m - k) 0 [] rfl rfl rfl ⟨Nat.zero_le _, rfl⟩ (by repeat (first | exact Fr.sub_nil _ | refine Fr.sub_cons rfl ?_)) rfl rfl ?_
    rintro k ⟨hk, hk0⟩ ih
    simp only [List.cons_append, List.nil_append] at ih ⊢
    by_cases hkm : k < m
    · have hz := get_some (l := L) (i := k + 1) (dflt := default) (by omega)
      have hb0 := bitsN (hL _ (List.mem_of_getElem? hz)).1
      refine j_nf [.o [1, 1, 1, 1, 0, 0, 0, 0, 0] 0, .c [1, 1, 1, 1, 0, 0, 0, 0, 1], .c [1, 1, 1, 1, 0, 0, 0, 1], .lp [1, 1, 1, 1, 0, 0, 0], .blk 0, .c [1, 1, 1, 1, 1]] rfl ?_
      refine j_run it 4 rfl (by simp) ?_
      refine j_split_dec (t := 26) rfl (fun h2 => ?_) (fun h2 => by exfalso; omega)
      refine j_run it 2 rfl (by simp) ?_
      refine j_gstep rfl rfl (x_idx 1 (k + 1) rfl rfl rfl sl22 rfl (by omega) fun z1 hz1 b1 o1 => ?_)
      refine j_gstep rfl rfl (x_ld_sl 0 rfl rfl ld42 fun pa2 ca2 => ?_)
      refine j_gstep rfl rfl (x_call [0] rfl (S_nat_Bits) rfl ?_)
      rintro _ _ _ ⟨rfl, rfl, rfl⟩
      simp only [List.cons_append, List.nil_append]
      refine j_run it 2 rfl (by simp) ?_
      refine j_nf [.c [1, 1, 1, 1, 0, 0, 0, 0, 1], .c [1, 1, 1, 1, 0, 0, 0, 1], .lp [1, 1, 1, 1, 0, 0, 0], .blk 0, .c [1, 1, 1, 1, 1]] rfl ?_
      refine j_if rfl rfl (fun h3 => ?_) (fun h3 => ?_)
      · have hzz : L.getD (k + 1) default = z1 := by rw [List.getD, hz1]; rfl
        rw [hzz] at hb0
        have e : leP L (k + 1) = 0 := by rw [leP, hk0, if_neg (not_not_intro rfl), hzz, if_pos (hb0.1 (by omega))]
        refine j_nf [.o [1, 1, 1, 1, 0, 0, 0, 1, 0] 0, .blk 1, .lp [1, 1, 1, 1, 0, 0, 0], .blk 0, .c [1, 1, 1, 1, 1]] rfl ?_
        refine j_run it 3 rfl (by repeat' first | exact trivial | apply And.intro | omega) ?_
        refine j_nfn 2 [.lp [1, 1, 1, 1, 0, 0, 0], .blk 0, .c [1, 1, 1, 1, 1]] rfl ?_
        refine j_to [2, 3] (by repeat (first | exact Fr.sub_nil _ | refine Fr.sub_cons rfl ?_ | refine Fr.sub_consI rfl (by first | omega | (dsimp only; omega)) ?_ | refine Fr.sub_consS rfl (by first | omega | (dsimp only; omega)) (by first | omega | (dsimp only; omega)) ?_)) rfl rfl (ih (k + 1) (by omega) ⟨by omega, e⟩)
      · have hzz : L.getD (k + 1) default = z1 := by rw [List.getD, hz1]; rfl
        rw [hzz] at hb0
        have h0 : ¬ val (L.getD (k + 1) default) = 0 := fun h => by
          rw [hzz] at h
          have := hb0.2 h
          omega
        have e : leP L (k + 1) = k + 1 := by rw [leP, hk0, if_neg (not_not_intro rfl), if_neg h0]
        have e2 : leP L m = k + 1 := by rw [leP_stay L (k := k + 1) (by omega) m (by omega), e]
        rw [e2, if_neg (by omega), if_neg (by omega), Nat.add_sub_cancel]
        refine j_nf [.o [1, 1, 1, 1, 1, 0, 0] 0, .c [1, 1, 1, 1, 1, 0, 1], .c [1, 1, 1, 1, 1, 1]] rfl ?_
        refine j_run it 3 rfl (by simp) ?_
        refine j_nf [.c [1, 1, 1, 1, 1, 0, 1], .c [1, 1, 1, 1, 1, 1]] rfl ?_
        refine j_if rfl rfl (fun h4 => by exfalso; omega) (fun h4 => ?_)
        refine j_nf [.o [1, 1, 1, 1, 1, 1, 0, 0] 0, .c [1, 1, 1, 1, 1, 1, 0, 1], .c [1, 1, 1, 1, 1, 1, 1]] rfl ?_
        refine j_run it 3 rfl (by repeat' first | exact trivial | apply And.intro | omega) ?_
        refine j_nf [.c [1, 1, 1, 1, 1, 1, 0, 1, 0], .blk 2, .c [1, 1, 1, 1, 1, 1, 1]] rfl ?_ --ok
        rw [show ((k + 1 : Nat) : Int) - 1 = (k : Int) by omega]
        refine j_loopG (X := Nat) [6, 8, 9] [0, 1, 2, 3] (fun t => [(10, .int .i64 t)]) (fun _ => []) (fun _ => [])
          (fun t => t ≤ k ∧ stP (DR q (m + 1) L) m (k + 1) k = stP (DR q (m + 1) L) m (k + 1) t) (fun t => t) k [] rfl rfl rfl ⟨Nat.le_refl _, rfl⟩ (by repeat (first | exact Fr.sub_nil _ | refine Fr.sub_cons rfl ?_)) rfl rfl ?_
        rintro t ⟨ht, hts⟩ iht
        simp only [List.cons_append, List.nil_append] at iht ⊢
        cases t with
        | zero =>
          rw [hts, stP]
          refine j_nf [.o [1, 1, 1, 1, 1, 1, 0, 1, 0, 0, 0, 0] 0, .c [1, 1, 1, 1, 1, 1, 0, 1, 0, 0, 0, 1], .c [1, 1, 1, 1, 1, 1, 0, 1, 0, 0, 1], .lp [1, 1, 1, 1, 1, 1, 0, 1, 0, 0], .blk 2, .c [1, 1, 1, 1, 1, 1, 1]] rfl ?_
          refine j_run it 2 rfl (by simp) ?_
          refine j_nf [.c [1, 1, 1, 1, 1, 1, 0, 1, 0, 0, 0, 1], .c [1, 1, 1, 1, 1, 1, 0, 1, 0, 0, 1], .lp [1, 1, 1, 1, 1, 1, 0, 1, 0, 0], .blk 2, .c [1, 1, 1, 1, 1, 1, 1]] rfl ?_
          refine j_if rfl rfl (fun h5 => by exfalso; omega) (fun h5 => ?_)
          refine j_nf [.o [1, 1, 1, 1, 1, 1, 1, 0] 0, .c [1, 1, 1, 1, 1, 1, 1, 1]] rfl ?_
          refine j_run it 2 rfl (by simp) ?_
          refine j_nf [.c [1, 1, 1, 1, 1, 1, 1, 1]] rfl ?_
          refine j_giv [] rfl rfl rfl ⟨rfl, rfl, rfl⟩
        | succ t =>
          by_cases hc : cntP (DR q (m + 1) L) (m - (t + 1)) ≤ k + 1 - (t + 1)
          · have hc2 : cntP (DR q (m + 1) L) (m + 1 - 1 - (t + 1)) ≤ k + 1 - (t + 1) := hc
            rw [hts, stP, if_pos hc]
            refine j_nf [.o [1, 1, 1, 1, 1, 1, 0, 1, 0, 0, 0, 0] 0, .c [1, 1, 1, 1, 1, 1, 0, 1, 0, 0, 0, 1], .c [1, 1, 1, 1, 1, 1, 0, 1, 0, 0, 1], .lp [1, 1, 1, 1, 1, 1, 0, 1, 0, 0], .blk 2, .c [1, 1, 1, 1, 1, 1, 1]] rfl ?_
            refine j_run it 2 rfl (by simp) ?_
            refine j_nf [.c [1, 1, 1, 1, 1, 1, 0, 1, 0, 0, 0, 1], .c [1, 1, 1, 1, 1, 1, 0, 1, 0, 0, 1], .lp [1, 1, 1, 1, 1, 1, 0, 1, 0, 0], .blk 2, .c [1, 1, 1, 1, 1, 1, 1]] rfl ?_
            refine j_if rfl rfl (fun h5 => ?_) (fun h5 => by exfalso; omega)
            refine j_nf [.o [1, 1, 1, 1, 1, 1, 0, 1, 0, 0, 1, 0, 0, 0] 0, .c [1, 1, 1, 1, 1, 1, 0, 1, 0, 0, 1, 0, 0, 1], .blk 3, .c [1, 1, 1, 1, 1, 1, 0, 1, 0, 0, 1, 1], .lp [1, 1, 1, 1, 1, 1, 0, 1, 0, 0], .blk 2, .c [1, 1, 1, 1, 1, 1, 1]] rfl ?_
            refine j_run it 4 rfl (by repeat' first | exact trivial | apply And.intro | omega) ?_
            refine j_recast (t := 48) (((((m + 1) - 1) - (t + 1)) : Nat) : Int) rfl (by omega) ?_
            refine j_step rfl (x_call [2] rfl (S_macwilliams_some (by first | omega | exact side _ (by assumption) | assumption | rfl | (simp; done) | (simp; omega)) (by first | omega | exact side _ (by assumption) | assumption | rfl | (simp; done) | (simp; omega))) rfl ?_)
            rintro _ _ _ ⟨rfl, rfl, rfl⟩
            simp only [List.cons_append, List.nil_append]
            refine j_run it 4 rfl (by repeat' first | exact trivial | apply And.intro | omega) ?_
            refine j_nf [.c [1, 1, 1, 1, 1, 1, 0, 1, 0, 0, 1, 0, 0, 1], .blk 3, .c [1, 1, 1, 1, 1, 1, 0, 1, 0, 0, 1, 1], .lp [1, 1, 1, 1, 1, 1, 0, 1, 0, 0], .blk 2, .c [1, 1, 1, 1, 1, 1, 1]] rfl ?_
            refine j_if rfl rfl (fun h6 => ?_) (fun h6 => by exfalso; omega)
            refine j_nf [.o [1, 1, 1, 1, 1, 1, 0, 1, 0, 0, 1, 0, 0, 1, 0, 0] 0, .c [1, 1, 1, 1, 1, 1, 0, 1, 0, 0, 1, 0, 0, 1, 0, 1], .blk 3, .c [1, 1, 1, 1, 1, 1, 0, 1, 0, 0, 1, 1], .lp [1, 1, 1, 1, 1, 1, 0, 1, 0, 0], .blk 2, .c [1, 1, 1, 1, 1, 1, 1]] rfl ?_
            refine j_run it 3 rfl (by simp) ?_
            refine j_nf [.c [1, 1, 1, 1, 1, 1, 0, 1, 0, 0, 1, 0, 0, 1, 0, 1], .blk 3, .c [1, 1, 1, 1, 1, 1, 0, 1, 0, 0, 1, 1], .lp [1, 1, 1, 1, 1, 1, 0, 1, 0, 0], .blk 2, .c [1, 1, 1, 1, 1, 1, 1]] rfl ?_
            refine j_giv [] rfl rfl rfl ⟨rfl, rfl, rfl⟩
          · have hc2 : ¬ cntP (DR q (m + 1) L) (m + 1 - 1 - (t + 1)) ≤ k + 1 - (t + 1) := hc
            have hts2 := hts
            rw [stP, if_neg hc] at hts
            refine j_nf [.o [1, 1, 1, 1, 1, 1, 0, 1, 0, 0, 0, 0] 0, .c [1, 1, 1, 1, 1, 1, 0, 1, 0, 0, 0, 1], .c [1, 1, 1, 1, 1, 1, 0, 1, 0, 0, 1], .lp [1, 1, 1, 1, 1, 1, 0, 1, 0, 0], .blk 2, .c [1, 1, 1, 1, 1, 1, 1]] rfl ?_
            refine j_run it 2 rfl (by simp) ?_
            refine j_nf [.c [1, 1, 1, 1, 1, 1, 0, 1, 0, 0, 0, 1], .c [1, 1, 1, 1, 1, 1, 0, 1, 0, 0, 1], .lp [1, 1, 1, 1, 1, 1, 0, 1, 0, 0], .blk 2, .c [1, 1, 1, 1, 1, 1, 1]] rfl ?_
            refine j_if rfl rfl (fun h5 => ?_) (fun h5 => by exfalso; omega)
            refine j_nf [.o [1, 1, 1, 1, 1, 1, 0, 1, 0, 0, 1, 0, 0, 0] 0, .c [1, 1, 1, 1, 1, 1, 0, 1, 0, 0, 1, 0, 0, 1], .blk 3, .c [1, 1, 1, 1, 1, 1, 0, 1, 0, 0, 1, 1], .lp [1, 1, 1, 1, 1, 1, 0, 1, 0, 0], .blk 2, .c [1, 1, 1, 1, 1, 1, 1]] rfl ?_
            refine j_run it 4 rfl (by repeat' first | exact trivial | apply And.intro | omega) ?_
            refine j_recast (t := 48) (((((m + 1) - 1) - (t + 1)) : Nat) : Int) rfl (by omega) ?_
            refine j_step rfl (x_call [2] rfl (S_macwilliams_some (by first | omega | exact side _ (by assumption) | assumption | rfl | (simp; done) | (simp; omega)) (by first | omega | exact side _ (by assumption) | assumption | rfl | (simp; done) | (simp; omega))) rfl ?_)
            rintro _ _ _ ⟨rfl, rfl, rfl⟩
            simp only [List.cons_append, List.nil_append]
            refine j_run it 4 rfl (by repeat' first | exact trivial | apply And.intro | omega) ?_
            refine j_nf [.c [1, 1, 1, 1, 1, 1, 0, 1, 0, 0, 1, 0, 0, 1], .blk 3, .c [1, 1, 1, 1, 1, 1, 0, 1, 0, 0, 1, 1], .lp [1, 1, 1, 1, 1, 1, 0, 1, 0, 0], .blk 2, .c [1, 1, 1, 1, 1, 1, 1]] rfl ?_
            refine j_if rfl rfl (fun h6 => by exfalso; omega) (fun h6 => ?_)
            refine j_nf [.o [1, 1, 1, 1, 1, 1, 0, 1, 0, 0, 1, 1] 0, .lp [1, 1, 1, 1, 1, 1, 0, 1, 0, 0], .blk 2, .c [1, 1, 1, 1, 1, 1, 1]] rfl ?_
            refine j_run it 3 rfl (by repeat' first | exact trivial | apply And.intro | omega) ?_
            refine j_nfn 1 [.lp [1, 1, 1, 1, 1, 1, 0, 1, 0, 0], .blk 2, .c [1, 1, 1, 1, 1, 1, 1]] rfl ?_
            refine j_to [0, 1, 2, 3] (by repeat (first | exact Fr.sub_nil _ | refine Fr.sub_cons rfl ?_ | refine Fr.sub_consI rfl (by first | omega | (dsimp only; omega)) ?_ | refine Fr.sub_consS rfl (by first | omega | (dsimp only; omega)) (by first | omega | (dsimp only; omega)) ?_)) rfl rfl (iht t (by omega) ⟨by omega, hts⟩)
    · obtain rfl : m = k := by omega
      rw [hk0, if_pos rfl, if_pos rfl]
      refine j_nf [.o [1, 1, 1, 1, 0, 0, 0, 0, 0] 0, .c [1, 1, 1, 1, 0, 0, 0, 0, 1], .c [1, 1, 1, 1, 0, 0, 0, 1], .lp [1, 1, 1, 1, 0, 0, 0], .blk 0, .c [1, 1, 1, 1, 1]] rfl ?_
      refine j_run it 4 rfl (by simp) ?_
      refine j_split_dec (t := 26) rfl (fun h2 => by exfalso; omega) (fun h2 => ?_)
      refine j_run it 7 rfl (by simp) ?_
      refine j_nf [.c [1, 1, 1, 1, 0, 0, 0, 0, 1], .c [1, 1, 1, 1, 0, 0, 0, 1], .lp [1, 1, 1, 1, 0, 0, 0], .blk 0, .c [1, 1, 1, 1, 1]] rfl ?_
      refine j_false rfl rfl ?_
      refine j_nf [.o [1, 1, 1, 1, 1, 0, 0] 0, .c [1, 1, 1, 1, 1, 0, 1], .c [1, 1, 1, 1, 1, 1]] rfl ?_
      refine j_run it 3 rfl (by simp) ?_
      refine j_nf [.c [1, 1, 1, 1, 1, 0, 1], .c [1, 1, 1, 1, 1, 1]] rfl ?_
      refine j_if rfl rfl (fun h3 => ?_) (fun h3 => by exfalso; omega)
      refine j_nf [.o [1, 1, 1, 1, 1, 0, 1, 0, 0] 0, .c [1, 1, 1, 1, 1, 0, 1, 0, 1], .c [1, 1, 1, 1, 1, 1]] rfl ?_
      refine j_run it 2 rfl (by simp) ?_
      refine j_nf [.c [1, 1, 1, 1, 1, 0, 1, 0, 1], .c [1, 1, 1, 1, 1, 1]] rfl ?_
      refine j_giv [] rfl rfl rfl ⟨rfl, rfl, rfl⟩
  · rw [stV, stE, if_pos h, if_pos h]
    refine j_nf [.o [0] 0, .c [1]] rfl ?_
    refine j_run it 2 rfl (by simp) ?_
    refine j_nf [.o [1, 0] 0, .c [1, 1]] rfl ?_
    refine j_run it 2 rfl (by simp) ?_
    refine j_step rfl (x_call [0] rfl (S_macwilliams_Dual (by first | omega | exact side _ (by assumption) | assumption | rfl | (simp; done) | (simp; omega)) (by first | omega | exact side _ (by assumption) | assumption | rfl | (simp; done) | (simp; omega))) rfl ?_)
    rintro _ _ _ ⟨pa1, ca1, rfl, rfl, rfl⟩
    simp only [List.cons_append, List.nil_append]
    refine j_run it 5 rfl (by simp) ?_
    refine j_nf [.o [1, 1, 0, 0] 0, .c [1, 1, 0, 1], .c [1, 1, 1]] rfl ?_
    refine j_run it 2 rfl (by simp) ?_
    refine j_nf [.c [1, 1, 0, 1], .c [1, 1, 1]] rfl ?_
    refine j_ifn rfl rfl (fun h1 => ?_) (fun h1 => by exfalso; omega)
    refine j_nf [.o [1, 1, 0, 1, 0, 0] 0, .c [1, 1, 0, 1, 0, 1], .c [1, 1, 1]] rfl ?_
    refine j_run it 3 rfl (by simp) ?_
    refine j_nf [.c [1, 1, 0, 1, 0, 1], .c [1, 1, 1]] rfl ?_
    refine j_giv [] rfl rfl rfl ⟨rfl, rfl, rfl⟩

theorem S_codewrightref24_nonzero {m : Nat} {pa : Option Addr} {n ca : Nat} {L : List (List Nat)} (hm : m < n) (hr : ∀ l ∈ L, ∀ x ∈ l, x < 4294967296) :
    Ctr Try.prog 39 [.slice pa n ca, .int .i64 m] [] [slF NatE pa n ca L] (Rv (.int .i64 (cntP L m)) []) := by
  refine Ctr_of_j' (F := F_codewrightref24_nonzero) rfl fun C => ?_
  refine j_len 0 rfl fun hn hb _ => ?_
  have hb' : L.length * 24 ≤ 140737488355328 := hb
  refine j_nf [.o [0] 0, .c [1]] rfl ?_
  refine j_run it 1 rfl (by simp) ?_
  refine j_nf [.o [1, 0] 0, .c [1, 1]] rfl ?_
  refine j_run it 1 rfl (by simp) ?_
  refine j_nf [.o [1, 1, 0, 0] 0, .c [1, 1, 0, 1], .c [1, 1, 1]] rfl ?_
  refine j_run it 1 rfl (by simp) ?_
  refine j_nf [.c [1, 1, 0, 1, 0], .blk 0, .c [1, 1, 1]] rfl ?_
  refine j_loopG (X := Nat) [0, 1, 4] [0] (fun k => [(6, .int .i64 ((k + 1 : Nat) : Int)), (5, .int .i64 ((cntP L k : Nat) : Int))]) (fun _ => []) (fun _ => [])
    (fun k => k ≤ m) (fun k => m - k) 0 [] rfl rfl rfl (Nat.zero_le _) (by repeat (first | exact Fr.sub_nil _ | refine Fr.sub_cons rfl ?_)) rfl rfl ?_
  intro k hk ih
  simp only [List.cons_append, List.nil_append] at ih ⊢
  have hc := cntP_le L k
  by_cases hkl : k < m
  · have hz := get_some (l := L) (i := k + 1) (dflt := default) (by omega)
    have hb0 := zeroN (hr _ (List.mem_of_getElem? hz))
    refine j_nf [.o [1, 1, 0, 1, 0, 0, 0, 0] 0, .c [1, 1, 0, 1, 0, 0, 0, 1], .c [1, 1, 0, 1, 0, 0, 1], .lp [1, 1, 0, 1, 0, 0], .blk 0, .c [1, 1, 1]] rfl ?_
    refine j_run it 3 rfl (by simp) ?_
    refine j_nf [.c [1, 1, 0, 1, 0, 0, 0, 1], .c [1, 1, 0, 1, 0, 0, 1], .lp [1, 1, 0, 1, 0, 0], .blk 0, .c [1, 1, 1]] rfl ?_
    refine j_if rfl rfl (fun h1 => ?_) (fun h1 => by exfalso; omega)
    refine j_nf [.o [1, 1, 0, 1, 0, 0, 1, 0, 0, 0] 0, .c [1, 1, 0, 1, 0, 0, 1, 0, 0, 1], .blk 1, .c [1, 1, 0, 1, 0, 0, 1, 1], .lp [1, 1, 0, 1, 0, 0], .blk 0, .c [1, 1, 1]] rfl ?_
    refine j_run it 2 rfl (by simp) ?_
    refine j_step rfl (x_idx 0 (k + 1) rfl rfl rfl sl22 rfl (by omega) fun z1 hz1 b1 o1 => ?_)
    refine j_step rfl (x_ld_sl 0 rfl rfl ld42 fun pa1 ca1 => ?_)
    refine j_step rfl (x_call [0] rfl (S_codewrightref01_Zero) rfl ?_)
    rintro _ _ _ ⟨rfl, rfl, rfl⟩
    simp only [List.cons_append, List.nil_append]
    refine j_run it 1 rfl (by simp) ?_
    refine j_nf [.c [1, 1, 0, 1, 0, 0, 1, 0, 0, 1], .blk 1, .c [1, 1, 0, 1, 0, 0, 1, 1], .lp [1, 1, 0, 1, 0, 0], .blk 0, .c [1, 1, 1]] rfl ?_
    refine j_ifn rfl rfl (fun h2 => ?_) (fun h2 => ?_)
    · have hzz : L.getD (k + 1) default = z1 := by rw [List.getD, hz1]; rfl
      rw [hzz] at hb0
      have e : cntP L (k + 1) = cntP L k + 1 := by rw [cntP, hzz, if_neg (fun h => by have := hb0.2 h; omega)]
      refine j_nf [.o [1, 1, 0, 1, 0, 0, 1, 0, 0, 1, 0] 0, .blk 1, .c [1, 1, 0, 1, 0, 0, 1, 1], .lp [1, 1, 0, 1, 0, 0], .blk 0, .c [1, 1, 1]] rfl ?_
      refine j_run it 3 rfl (by repeat' first | exact trivial | apply And.intro | omega) ?_
      refine j_nf [.o [1, 1, 0, 1, 0, 0, 1, 1] 0, .lp [1, 1, 0, 1, 0, 0], .blk 0, .c [1, 1, 1]] rfl ?_
      refine j_run it 3 rfl (by repeat' first | exact trivial | apply And.intro | omega) ?_
      refine j_nfn 1 [.lp [1, 1, 0, 1, 0, 0], .blk 0, .c [1, 1, 1]] rfl ?_
      have ih' := ih (k + 1) (by omega) (by omega)
      rw [e] at ih'
      refine j_to [2] (by repeat (first | exact Fr.sub_nil _ | refine Fr.sub_cons rfl ?_ | refine Fr.sub_consI rfl (by first | omega | (dsimp only; omega)) ?_ | refine Fr.sub_consS rfl (by first | omega | (dsimp only; omega)) (by first | omega | (dsimp only; omega)) ?_)) rfl rfl (ih')
    · have hzz : L.getD (k + 1) default = z1 := by rw [List.getD, hz1]; rfl
      rw [hzz] at hb0
      have e : cntP L (k + 1) = cntP L k := by rw [cntP, hzz, if_pos (hb0.1 (by omega))]; rfl
      refine j_nf [.o [1, 1, 0, 1, 0, 0, 1, 1] 0, .lp [1, 1, 0, 1, 0, 0], .blk 0, .c [1, 1, 1]] rfl ?_
      refine j_run it 3 rfl (by repeat' first | exact trivial | apply And.intro | omega) ?_
      refine j_nfn 1 [.lp [1, 1, 0, 1, 0, 0], .blk 0, .c [1, 1, 1]] rfl ?_
      have ih' := ih (k + 1) (by omega) (by omega)
      rw [e] at ih'
      refine j_to [2] (by repeat (first | exact Fr.sub_nil _ | refine Fr.sub_cons rfl ?_ | refine Fr.sub_consI rfl (by first | omega | (dsimp only; omega)) ?_ | refine Fr.sub_consS rfl (by first | omega | (dsimp only; omega)) (by first | omega | (dsimp only; omega)) ?_)) rfl rfl (ih')
  · obtain rfl : m = k := by omega
    refine j_nf [.o [1, 1, 0, 1, 0, 0, 0, 0] 0, .c [1, 1, 0, 1, 0, 0, 0, 1], .c [1, 1, 0, 1, 0, 0, 1], .lp [1, 1, 0, 1, 0, 0], .blk 0, .c [1, 1, 1]] rfl ?_
    refine j_run it 3 rfl (by simp) ?_
    refine j_nf [.c [1, 1, 0, 1, 0, 0, 0, 1], .c [1, 1, 0, 1, 0, 0, 1], .lp [1, 1, 0, 1, 0, 0], .blk 0, .c [1, 1, 1]] rfl ?_
    refine j_if rfl rfl (fun h1 => by exfalso; omega) (fun h1 => ?_)
    refine j_nf [.o [1, 1, 1, 0] 0, .c [1, 1, 1, 1]] rfl ?_
    refine j_run it 2 rfl (by simp) ?_
    refine j_nf [.c [1, 1, 1, 1]] rfl ?_
    refine j_giv [] rfl rfl rfl ⟨rfl, rfl, rfl⟩
theorem S_codewrightref24_External {pa : Option Addr} {n ca : Nat} {L : List (List Nat)} (h0 : 1 ≤ n) (hr : ∀ l ∈ L, ∀ x ∈ l, x < 4294967296) :
    Ctr Try.prog 13 [.slice pa n ca] [] [slF NatE pa n ca L] (Rv (.int .i64 (cntP L (n - 1))) []) := by
  refine Ctr_of_j' (F := F_codewrightref24_External) rfl fun C => ?_
  refine j_len 0 rfl fun hn hb _ => ?_
  have hb' : L.length * 24 ≤ 140737488355328 := hb
  refine j_nf [.o [0] 0, .c [1]] rfl ?_
  refine j_run it 1 rfl (by simp) ?_
  refine j_nf [.o [1, 0] 0, .c [1, 1]] rfl ?_
  refine j_run it 2 rfl (by simp) ?_
  refine j_step rfl (x_len sl22 rfl ?_)
  refine j_run it 1 rfl (by repeat' first | exact trivial | apply And.intro | omega) ?_
  refine j_recast (t := 6) ((((n) - 1) : Nat) : Int) rfl (by omega) ?_
  refine j_step rfl (x_call [0] rfl (S_codewrightref24_nonzero (by first | omega | exact side _ (by assumption) | assumption | rfl | (simp; done) | (simp; omega)) (by first | omega | exact side _ (by assumption) | assumption | rfl | (simp; done) | (simp; omega))) rfl ?_)
  rintro _ _ _ ⟨rfl, rfl, rfl⟩
  simp only [List.cons_append, List.nil_append]
  refine j_run it 1 rfl (by simp) ?_
  refine j_nf [.c [1, 1]] rfl ?_
  refine j_giv [] rfl rfl rfl ⟨rfl, rfl, rfl⟩
theorem S_codewrightref24_Least {pa : Option Addr} {n ca : Nat} {L : List (List Nat)} (hr : ∀ l ∈ L, ∀ x ∈ l, x < 4294967296) :
    Ctr Try.prog 15 [.slice pa n ca] [] [slF NatE pa n ca L] (Rv (.int .i64 (leP L (n - 1))) []) := by
  refine Ctr_of_j' (F := F_codewrightref24_Least) rfl fun C => ?_
  refine j_len 0 rfl fun hn hb _ => ?_
  have hb' : L.length * 24 ≤ 140737488355328 := hb
  refine j_nf [.o [0] 0, .c [1]] rfl ?_
  refine j_run it 1 rfl (by simp) ?_
  refine j_nf [.o [1, 0, 0] 0, .c [1, 0, 1], .c [1, 1]] rfl ?_
  refine j_run it 1 rfl (by simp) ?_
  refine j_nf [.c [1, 0, 1, 0], .blk 0, .c [1, 1]] rfl ?_
  refine j_loopG (X := Nat) [0] [0] (fun k => [(3, .int .i64 ((k + 1 : Nat) : Int))]) (fun _ => []) (fun _ => [])
    (fun k => k ≤ n ∧ leP L k = 0) (fun k => n - k) 0 [] rfl rfl rfl ⟨Nat.zero_le _, rfl⟩ (by repeat (first | exact Fr.sub_nil _ | refine Fr.sub_cons rfl ?_)) rfl rfl ?_
  rintro k ⟨hk, hk0⟩ ih
  simp only [List.cons_append, List.nil_append] at ih ⊢
  by_cases hkl : k + 1 < n
  · have hz := get_some (l := L) (i := k + 1) (dflt := default) (by omega)
    have hb0 := zeroN (hr _ (List.mem_of_getElem? hz))
    refine j_nf [.o [1, 0, 1, 0, 0, 0, 0] 0, .c [1, 0, 1, 0, 0, 0, 1], .c [1, 0, 1, 0, 0, 1], .lp [1, 0, 1, 0, 0], .blk 0, .c [1, 1]] rfl ?_
    refine j_run it 2 rfl (by simp) ?_
    refine j_step rfl (x_len sl22 rfl ?_)
    refine j_run it 1 rfl (by simp) ?_
    refine j_nf [.c [1, 0, 1, 0, 0, 0, 1], .c [1, 0, 1, 0, 0, 1], .lp [1, 0, 1, 0, 0], .blk 0, .c [1, 1]] rfl ?_
    refine j_if rfl rfl (fun h1 => ?_) (fun h1 => by exfalso; omega)
    refine j_nf [.o [1, 0, 1, 0, 0, 1, 0, 0, 0] 0, .c [1, 0, 1, 0, 0, 1, 0, 0, 1], .blk 1, .c [1, 0, 1, 0, 0, 1, 1], .lp [1, 0, 1, 0, 0], .blk 0, .c [1, 1]] rfl ?_
    refine j_run it 2 rfl (by simp) ?_
    refine j_step rfl (x_idx 0 (k + 1) rfl rfl rfl sl22 rfl (by omega) fun z1 hz1 b1 o1 => ?_)
    refine j_step rfl (x_ld_sl 0 rfl rfl ld42 fun pa1 ca1 => ?_)
    refine j_step rfl (x_call [0] rfl (S_codewrightref01_Zero) rfl ?_)
    rintro _ _ _ ⟨rfl, rfl, rfl⟩
    simp only [List.cons_append, List.nil_append]
    refine j_run it 1 rfl (by simp) ?_
    refine j_nf [.c [1, 0, 1, 0, 0, 1, 0, 0, 1], .blk 1, .c [1, 0, 1, 0, 0, 1, 1], .lp [1, 0, 1, 0, 0], .blk 0, .c [1, 1]] rfl ?_
    refine j_ifn rfl rfl (fun h2 => ?_) (fun h2 => ?_)
    · have hzz : L.getD (k + 1) default = z1 := by rw [List.getD, hz1]; rfl
      rw [hzz] at hb0
      have e : leP L (k + 1) = k + 1 := by rw [leP, hk0, if_neg (not_not_intro rfl), hzz, if_neg (fun h => by have := hb0.2 h; omega)]
      have e2 : leP L (n - 1) = k + 1 := by rw [leP_stay L (k := k + 1) (by omega) (n - 1) (by omega), e]
      rw [e2]
      refine j_nf [.o [1, 0, 1, 0, 0, 1, 0, 0, 1, 0, 0] 0, .c [1, 0, 1, 0, 0, 1, 0, 0, 1, 0, 1], .blk 1, .c [1, 0, 1, 0, 0, 1, 1], .lp [1, 0, 1, 0, 0], .blk 0, .c [1, 1]] rfl ?_
      refine j_run it 2 rfl (by simp) ?_
      refine j_nf [.c [1, 0, 1, 0, 0, 1, 0, 0, 1, 0, 1], .blk 1, .c [1, 0, 1, 0, 0, 1, 1], .lp [1, 0, 1, 0, 0], .blk 0, .c [1, 1]] rfl ?_
      refine j_giv [] rfl rfl rfl ⟨rfl, rfl, rfl⟩
    · have hzz : L.getD (k + 1) default = z1 := by rw [List.getD, hz1]; rfl
      rw [hzz] at hb0
      have e : leP L (k + 1) = 0 := by rw [leP, hk0, if_neg (not_not_intro rfl), hzz, if_pos (hb0.1 (by omega))]
      refine j_nf [.o [1, 0, 1, 0, 0, 1, 1] 0, .lp [1, 0, 1, 0, 0], .blk 0, .c [1, 1]] rfl ?_
      refine j_run it 3 rfl (by repeat' first | exact trivial | apply And.intro | omega) ?_
      refine j_nfn 1 [.lp [1, 0, 1, 0, 0], .blk 0, .c [1, 1]] rfl ?_
      refine j_to [2] (by repeat (first | exact Fr.sub_nil _ | refine Fr.sub_cons rfl ?_ | refine Fr.sub_consI rfl (by first | omega | (dsimp only; omega)) ?_ | refine Fr.sub_consS rfl (by first | omega | (dsimp only; omega)) (by first | omega | (dsimp only; omega)) ?_)) rfl rfl (ih (k + 1) (by omega) ⟨by omega, e⟩)
  · have e : leP L (n - 1) = 0 := by
      by_cases h0 : leP L (n - 1) = 0
      · exact h0
      · exact absurd ((leP_stay L h0 k (by omega)).symm.trans hk0) h0
    rw [e]
    refine j_nf [.o [1, 0, 1, 0, 0, 0, 0] 0, .c [1, 0, 1, 0, 0, 0, 1], .c [1, 0, 1, 0, 0, 1], .lp [1, 0, 1, 0, 0], .blk 0, .c [1, 1]] rfl ?_
    refine j_run it 2 rfl (by simp) ?_
    refine j_step rfl (x_len sl22 rfl ?_)
    refine j_run it 1 rfl (by simp) ?_
    refine j_nf [.c [1, 0, 1, 0, 0, 0, 1], .c [1, 0, 1, 0, 0, 1], .lp [1, 0, 1, 0, 0], .blk 0, .c [1, 1]] rfl ?_
    refine j_if rfl rfl (fun h1 => by exfalso; omega) (fun h1 => ?_)
    refine j_nf [.o [1, 1, 0] 0, .c [1, 1, 1]] rfl ?_
    refine j_run it 1 rfl (by simp) ?_
    refine j_nf [.c [1, 1, 1]] rfl ?_
    refine j_giv [] rfl rfl rfl ⟨rfl, rfl, rfl⟩
/-- The strength, from below. -/
theorem S_codewrightref24_Strength {d : Nat} {pa : Option Addr} {n ca : Nat} {L : List (List Nat)} (h0 : 1 ≤ d) (hd : d < n) (hr : ∀ l ∈ L, ∀ x ∈ l, x < 4294967296) :
    Ctr Try.prog 16 [.int .i64 d, .slice pa n ca] [] [slF NatE pa n ca L] (Rv (.int .i64 (stP L (n - 1) d (d - 1))) []) := by
  refine Ctr_of_j' (F := F_codewrightref24_Strength) rfl fun C => ?_
  refine j_len 0 rfl fun hn hb _ => ?_
  have hb' : L.length * 24 ≤ 140737488355328 := hb
  refine j_nf [.o [0] 0, .c [1]] rfl ?_
  refine j_run it 1 rfl (by simp) ?_
  refine j_nf [.o [1, 0] 0, .c [1, 1]] rfl ?_
  refine j_run it 1 rfl (by simp) ?_
  refine j_nf [.o [1, 1, 0, 0] 0, .c [1, 1, 0, 1], .c [1, 1, 1]] rfl ?_
  refine j_run it 1 rfl (by simp) ?_
  refine j_nf [.c [1, 1, 0, 1, 0], .blk 0, .c [1, 1, 1]] rfl ?_
  refine j_loopG (X := Nat) [0, 1, 4] [0] (fun k => [(6, .int .i64 ((k + 1 : Nat) : Int)), (5, .int .i64 ((stP L (n - 1) d k : Nat) : Int))]) (fun _ => []) (fun _ => [])
    (fun k => k ≤ d - 1) (fun k => d - 1 - k) 0 [] rfl rfl rfl (Nat.zero_le _) (by repeat (first | exact Fr.sub_nil _ | refine Fr.sub_cons rfl ?_)) rfl rfl ?_
  intro k hk ih
  simp only [List.cons_append, List.nil_append] at ih ⊢
  have hs := stP_le L (n - 1) d k
  by_cases hkl : k < d - 1
  · by_cases hc : cntP L (n - 1 - (k + 1)) ≤ d - (k + 1)
    · have e : stP L (n - 1) d (k + 1) = k + 1 := by rw [stP, if_pos hc]
      refine j_nf [.o [1, 1, 0, 1, 0, 0, 0, 0] 0, .c [1, 1, 0, 1, 0, 0, 0, 1], .c [1, 1, 0, 1, 0, 0, 1], .lp [1, 1, 0, 1, 0, 0], .blk 0, .c [1, 1, 1]] rfl ?_
      refine j_run it 3 rfl (by simp) ?_
      refine j_nf [.c [1, 1, 0, 1, 0, 0, 0, 1], .c [1, 1, 0, 1, 0, 0, 1], .lp [1, 1, 0, 1, 0, 0], .blk 0, .c [1, 1, 1]] rfl ?_
      refine j_if rfl rfl (fun h1 => ?_) (fun h1 => by exfalso; omega)
      refine j_nf [.o [1, 1, 0, 1, 0, 0, 1, 0, 0, 0] 0, .c [1, 1, 0, 1, 0, 0, 1, 0, 0, 1], .blk 1, .c [1, 1, 0, 1, 0, 0, 1, 1], .lp [1, 1, 0, 1, 0, 0], .blk 0, .c [1, 1, 1]] rfl ?_
      refine j_run it 2 rfl (by simp) ?_
      refine j_step rfl (x_len sl22 rfl ?_)
      refine j_run it 3 rfl (by repeat' first | exact trivial | apply And.intro | omega) ?_
      refine j_recast (t := 17) (((((n) - 1) - (k + 1)) : Nat) : Int) rfl (by omega) ?_
      refine j_step rfl (x_call [0] rfl (S_codewrightref24_nonzero (by first | omega | exact side _ (by assumption) | assumption | rfl | (simp; done) | (simp; omega)) (by first | omega | exact side _ (by assumption) | assumption | rfl | (simp; done) | (simp; omega))) rfl ?_)
      rintro _ _ _ ⟨rfl, rfl, rfl⟩
      simp only [List.cons_append, List.nil_append]
      refine j_run it 4 rfl (by repeat' first | exact trivial | apply And.intro | omega) ?_
      refine j_nf [.c [1, 1, 0, 1, 0, 0, 1, 0, 0, 1], .blk 1, .c [1, 1, 0, 1, 0, 0, 1, 1], .lp [1, 1, 0, 1, 0, 0], .blk 0, .c [1, 1, 1]] rfl ?_
      refine j_if rfl rfl (fun h2 => ?_) (fun h2 => by exfalso; omega)
      refine j_nf [.o [1, 1, 0, 1, 0, 0, 1, 0, 0, 1, 0] 0, .blk 1, .c [1, 1, 0, 1, 0, 0, 1, 1], .lp [1, 1, 0, 1, 0, 0], .blk 0, .c [1, 1, 1]] rfl ?_
      refine j_run it 2 rfl (by simp) ?_
      refine j_nf [.o [1, 1, 0, 1, 0, 0, 1, 1] 0, .lp [1, 1, 0, 1, 0, 0], .blk 0, .c [1, 1, 1]] rfl ?_
      refine j_run it 3 rfl (by repeat' first | exact trivial | apply And.intro | omega) ?_
      refine j_nfn 1 [.lp [1, 1, 0, 1, 0, 0], .blk 0, .c [1, 1, 1]] rfl ?_
      have ih' := ih (k + 1) (by omega) (by omega)
      rw [e] at ih'
      refine j_to [0] (by repeat (first | exact Fr.sub_nil _ | refine Fr.sub_cons rfl ?_ | refine Fr.sub_consI rfl (by first | omega | (dsimp only; omega)) ?_ | refine Fr.sub_consS rfl (by first | omega | (dsimp only; omega)) (by first | omega | (dsimp only; omega)) ?_)) rfl rfl (ih')
    · have e : stP L (n - 1) d (k + 1) = stP L (n - 1) d k := by rw [stP, if_neg hc]
      refine j_nf [.o [1, 1, 0, 1, 0, 0, 0, 0] 0, .c [1, 1, 0, 1, 0, 0, 0, 1], .c [1, 1, 0, 1, 0, 0, 1], .lp [1, 1, 0, 1, 0, 0], .blk 0, .c [1, 1, 1]] rfl ?_
      refine j_run it 3 rfl (by simp) ?_
      refine j_nf [.c [1, 1, 0, 1, 0, 0, 0, 1], .c [1, 1, 0, 1, 0, 0, 1], .lp [1, 1, 0, 1, 0, 0], .blk 0, .c [1, 1, 1]] rfl ?_
      refine j_if rfl rfl (fun h1 => ?_) (fun h1 => by exfalso; omega)
      refine j_nf [.o [1, 1, 0, 1, 0, 0, 1, 0, 0, 0] 0, .c [1, 1, 0, 1, 0, 0, 1, 0, 0, 1], .blk 1, .c [1, 1, 0, 1, 0, 0, 1, 1], .lp [1, 1, 0, 1, 0, 0], .blk 0, .c [1, 1, 1]] rfl ?_
      refine j_run it 2 rfl (by simp) ?_
      refine j_step rfl (x_len sl22 rfl ?_)
      refine j_run it 3 rfl (by repeat' first | exact trivial | apply And.intro | omega) ?_
      refine j_recast (t := 17) (((((n) - 1) - (k + 1)) : Nat) : Int) rfl (by omega) ?_
      refine j_step rfl (x_call [0] rfl (S_codewrightref24_nonzero (by first | omega | exact side _ (by assumption) | assumption | rfl | (simp; done) | (simp; omega)) (by first | omega | exact side _ (by assumption) | assumption | rfl | (simp; done) | (simp; omega))) rfl ?_)
      rintro _ _ _ ⟨rfl, rfl, rfl⟩
      simp only [List.cons_append, List.nil_append]
      refine j_run it 4 rfl (by repeat' first | exact trivial | apply And.intro | omega) ?_
      refine j_nf [.c [1, 1, 0, 1, 0, 0, 1, 0, 0, 1], .blk 1, .c [1, 1, 0, 1, 0, 0, 1, 1], .lp [1, 1, 0, 1, 0, 0], .blk 0, .c [1, 1, 1]] rfl ?_
      refine j_if rfl rfl (fun h2 => by exfalso; omega) (fun h2 => ?_)
      refine j_nf [.o [1, 1, 0, 1, 0, 0, 1, 1] 0, .lp [1, 1, 0, 1, 0, 0], .blk 0, .c [1, 1, 1]] rfl ?_
      refine j_run it 3 rfl (by repeat' first | exact trivial | apply And.intro | omega) ?_
      refine j_nfn 1 [.lp [1, 1, 0, 1, 0, 0], .blk 0, .c [1, 1, 1]] rfl ?_
      have ih' := ih (k + 1) (by omega) (by omega)
      rw [e] at ih'
      refine j_to [0] (by repeat (first | exact Fr.sub_nil _ | refine Fr.sub_cons rfl ?_ | refine Fr.sub_consI rfl (by first | omega | (dsimp only; omega)) ?_ | refine Fr.sub_consS rfl (by first | omega | (dsimp only; omega)) (by first | omega | (dsimp only; omega)) ?_)) rfl rfl (ih')
  · obtain rfl : d - 1 = k := by omega
    refine j_nf [.o [1, 1, 0, 1, 0, 0, 0, 0] 0, .c [1, 1, 0, 1, 0, 0, 0, 1], .c [1, 1, 0, 1, 0, 0, 1], .lp [1, 1, 0, 1, 0, 0], .blk 0, .c [1, 1, 1]] rfl ?_
    refine j_run it 3 rfl (by simp) ?_
    refine j_nf [.c [1, 1, 0, 1, 0, 0, 0, 1], .c [1, 1, 0, 1, 0, 0, 1], .lp [1, 1, 0, 1, 0, 0], .blk 0, .c [1, 1, 1]] rfl ?_
    refine j_if rfl rfl (fun h1 => by exfalso; omega) (fun h1 => ?_)
    refine j_nf [.o [1, 1, 1, 0] 0, .c [1, 1, 1, 1]] rfl ?_
    refine j_run it 2 rfl (by simp) ?_
    refine j_nf [.c [1, 1, 1, 1]] rfl ?_
    refine j_giv [] rfl rfl rfl ⟨rfl, rfl, rfl⟩
end Go.Proofs.Ytkchmoahohopiaa

namespace Go.Proofs.Ytkchmoahohopiaa
open Go Go.Fw
set_option maxRecDepth 100000
set_option linter.unusedVariables false
set_option linter.unusedSimpArgs false
set_option maxHeartbeats 2000000
theorem lenN {p : Rat} {k : Nat} (h : (rt p).2.1.length ≤ k) : (limbs (val (rt p).2.1)).length ≤ k := limbs_of (l := (rt p).2.1) rfl h
theorem lenD {p : Rat} {k : Nat} (h : (rt p).2.2.length ≤ k) : (limbs (val (rt p).2.2)).length ≤ k := limbs_of (l := (rt p).2.2) rfl h
theorem S_codewrightref02_Add {g1 g2 : Bool} {pn1 pd1 pn2 pd2 : Option Addr} {n1 m1 n2 m2 cn1 cd1 cn2 cd2 : Nat} {N1 D1 N2 D2 : List Nat}
    (l1 : N1.length ≤ 134217728) (l2 : D1.length ≤ 134217728) (l3 : N2.length ≤ 134217728) (l4 : D2.length ≤ 134217728) :
    Ctr Try.prog 25 [.agg #[.bool g1, .slice pn1 n1 cn1, .slice pd1 m1 cd1], .agg #[.bool g2, .slice pn2 n2 cn2, .slice pd2 m2 cd2]] [] [slF U32 pn1 n1 cn1 N1, slF U32 pd1 m1 cd1 D1, slF U32 pn2 n2 cn2 N2, slF U32 pd2 m2 cd2 D2] (RtV (rt (vq (g1, N1, D1) + vq (g2, N2, D2)))) := by
  refine Ctr_of_j' (F := F_codewrightref02_Add) rfl fun C => ?_
  refine j_range 0 rfl fun r1 => ?_
  refine j_range 1 rfl fun r2 => ?_
  refine j_range 2 rfl fun r3 => ?_
  refine j_range 3 rfl fun r4 => ?_
  obtain ⟨k1, k2⟩ := rt_len (g := g1) (lim r1) (lim r2) l1 l2 (by decide)
  obtain ⟨k3, k4⟩ := rt_len (g := g2) (lim r3) (lim r4) l3 l4 (by decide)
  have LX := prod_lim (lenN k1) (lenD k4)
  have LY := prod_lim (lenN k3) (lenD k2)
  have LD := prod_lim (lenD k2) (lenD k4)
  have LS := sum_lim LX LY
  have hR : ∀ p q : Rat, (rt p).1 = (rt q).1 → vq ((rt p).1, limbs (val (limbs (val (rt p).2.1 * val (rt q).2.2)) + val (limbs (val (rt q).2.1 * val (rt p).2.2))), limbs (val (rt p).2.2 * val (rt q).2.2)) = p + q := by
    intro p q h
    rw [vq_eq]
    simp only [val_limbs, num_rt, den_rt, neg_rt] at h ⊢
    exact add_same h
  have hG : ∀ p q : Rat, (rt p).1 ≠ (rt q).1 → val (limbs (val (rt q).2.1 * val (rt p).2.2)) ≤ val (limbs (val (rt p).2.1 * val (rt q).2.2)) → vq ((rt p).1, limbs (val (limbs (val (rt p).2.1 * val (rt q).2.2)) - val (limbs (val (rt q).2.1 * val (rt p).2.2))), limbs (val (rt p).2.2 * val (rt q).2.2)) = p + q := by
    intro p q h hle
    rw [vq_eq]
    simp only [val_limbs, num_rt, den_rt, neg_rt] at h hle ⊢
    exact add_diff h hle
  refine j_nf [.o [0] 0, .c [1]] rfl ?_
  refine j_step rfl (x_box_agg rfl fun b1 => ?_)
  refine j_step rfl (x_box_agg rfl fun b2 => ?_)
  refine j_step rfl (x_alloc zo44 fun b3 => ?_)
  refine j_nf [.o [1, 0] 0, .c [1, 1]] rfl ?_
  refine j_step rfl (x_bld_all 2 rfl rfl ld44 rfl ?_)
  refine j_step rfl (x_call [0, 1] rfl (S_codewrightref02_Trim (by first | omega | exact side _ (by assumption) | assumption | rfl | (simp; done) | (simp; omega)) (by first | omega | exact side _ (by assumption) | assumption | rfl | (simp; done) | (simp; omega))) rfl ?_)
  rintro _ _ _ ⟨pn3, cn3, pd3, cd3, rfl, rfl, rfl⟩
  simp only [List.cons_append, List.nil_append]
  refine j_step rfl (x_bst_all 2 rfl rfl rfl ld44 rfl rfl (by simp [Value.oneCell']) ?_)
  refine j_nf [.o [1, 1, 0] 0, .c [1, 1, 1]] rfl ?_
  refine j_step rfl (x_bld_all 1 rfl rfl ld44 rfl ?_)
  refine j_step rfl (x_call [4, 5] rfl (S_codewrightref02_Trim (by first | omega | exact side _ (by assumption) | assumption | rfl | (simp; done) | (simp; omega)) (by first | omega | exact side _ (by assumption) | assumption | rfl | (simp; done) | (simp; omega))) rfl ?_)
  rintro _ _ _ ⟨pn4, cn4, pd4, cd4, rfl, rfl, rfl⟩
  simp only [List.cons_append, List.nil_append]
  refine j_step rfl (x_bst_all 1 rfl rfl rfl ld44 rfl rfl (by simp [Value.oneCell']) ?_)
  refine j_nf [.o [1, 1, 1, 0] 0, .c [1, 1, 1, 1]] rfl ?_
  refine j_step rfl (x_field rfl fd44_1 ?_)
  refine j_step rfl (x_bld 2 rfl rfl ld42 rfl ?_)
  refine j_step rfl (x_field rfl fd44_2 ?_)
  refine j_step rfl (x_bld 1 rfl rfl ld42 rfl ?_)
  refine j_step rfl (x_call [2, 1] rfl (S_codewrightref01_Mul (by first | omega | exact side _ (by assumption) | assumption | rfl | (simp; done) | (simp; omega)) (by first | omega | exact side _ (by assumption) | assumption | rfl | (simp; done) | (simp; omega))) rfl ?_)
  rintro _ _ _ ⟨pa1, ca1, rfl, rfl, rfl⟩
  simp only [List.cons_append, List.nil_append]
  refine j_run it 1 rfl (by simp) ?_
  refine j_nf [.o [1, 1, 1, 1, 0] 0, .c [1, 1, 1, 1, 1]] rfl ?_
  refine j_step rfl (x_field rfl fd44_1 ?_)
  refine j_step rfl (x_bld 1 rfl rfl ld42 rfl ?_)
  refine j_step rfl (x_field rfl fd44_2 ?_)
  refine j_step rfl (x_bld 2 rfl rfl ld42 rfl ?_)
  refine j_step rfl (x_call [1, 4] rfl (S_codewrightref01_Mul (by first | omega | exact side _ (by assumption) | assumption | rfl | (simp; done) | (simp; omega)) (by first | omega | exact side _ (by assumption) | assumption | rfl | (simp; done) | (simp; omega))) rfl ?_)
  rintro _ _ _ ⟨pa2, ca2, rfl, rfl, rfl⟩
  simp only [List.cons_append, List.nil_append]
  refine j_run it 1 rfl (by simp) ?_
  refine j_nf [.o [1, 1, 1, 1, 1, 0] 0, .c [1, 1, 1, 1, 1, 1]] rfl ?_
  refine j_step rfl (x_field rfl fd44_2 ?_)
  refine j_step rfl (x_bld 2 rfl rfl ld42 rfl ?_)
  refine j_step rfl (x_field rfl fd44_2 ?_)
  refine j_step rfl (x_bld 1 rfl rfl ld42 rfl ?_)
  refine j_step rfl (x_call [5, 3] rfl (S_codewrightref01_Mul (by first | omega | exact side _ (by assumption) | assumption | rfl | (simp; done) | (simp; omega)) (by first | omega | exact side _ (by assumption) | assumption | rfl | (simp; done) | (simp; omega))) rfl ?_)
  rintro _ _ _ ⟨pa3, ca3, rfl, rfl, rfl⟩
  simp only [List.cons_append, List.nil_append]
  refine j_run it 1 rfl (by simp) ?_
  refine j_nf [.o [1, 1, 1, 1, 1, 1, 0, 0] 0, .c [1, 1, 1, 1, 1, 1, 0, 1], .c [1, 1, 1, 1, 1, 1, 1]] rfl ?_
  refine j_step rfl (x_field rfl fd44_0 ?_)
  refine j_step rfl (x_bld 2 rfl rfl ld4 rfl ?_)
  refine j_step rfl (x_field rfl fd44_0 ?_)
  refine j_step rfl (x_bld 1 rfl rfl ld4 rfl ?_)
  refine j_step rfl (x_eqb ub rfl rfl ?_)
  refine j_nf [.c [1, 1, 1, 1, 1, 1, 0, 1], .c [1, 1, 1, 1, 1, 1, 1]] rfl ?_
  refine j_cond rfl rfl (fun h1 => ?_) (fun h1 => ?_)
  · have hs : (rt (vq (g1, N1, D1))).1 = (rt (vq (g2, N2, D2))).1 := by simpa using h1
    have LS' : (limbs (val (limbs (val (rt (vq (g1, N1, D1))).2.1 * val (rt (vq (g2, N2, D2))).2.2)) + val (limbs (val (rt (vq (g2, N2, D2))).2.1 * val (rt (vq (g1, N1, D1))).2.2)))).length ≤ 1073741824 := by
      rw [val_limbs, val_limbs]; exact Nat.le_trans LS (by decide)
    refine j_nf [.c [1, 1, 1, 1, 1, 1, 0, 1, 0, 0], .c [1, 1, 1, 1, 1, 1, 0, 1, 0, 1], .c [1, 1, 1, 1, 1, 1, 1]] rfl ?_
    (apply j_drawK it mx 7; (· rfl); (· rfl))
    (apply lxk_eq; (· rfl); (· exact d_x fun _ => x_field rfl fd44_0 dk_eq))
    (apply lxk_eq; (· rfl); (· exact d_bld 2 rfl rfl ld4 rfl))
    (apply lxk_run 2; (· rfl); (· simp))
    (apply lxk_sl; (· rfl); (· exact d_x fun _ => x_call [2, 1] rfl (S_codewrightref01_Add (by first | omega | exact side _ (by assumption) | assumption | rfl | (simp; done) | (simp; omega)) (by first | omega | exact side _ (by assumption) | assumption | rfl | (simp; done) | (simp; omega))) rfl (by rintro _ _ _ ⟨pa4, ca4, rfl, rfl, rfl⟩; exact (dk_sl 0 rfl))); intro pa4 ca4)
    (apply lxk_run 1; (· rfl); (· simp))
    (apply lxk_rq; (· rfl); (· exact d_x fun _ => x_call [0, 1] rfl (S_codewrightref02_Make (by first | omega | exact side _ (by assumption) | assumption | rfl | (simp; done) | (simp; omega)) (by first | omega | exact side _ (by assumption) | assumption | rfl | (simp; done) | (simp; omega))) rfl (by rintro _ _ _ ⟨pn5, cn5, pd5, cd5, rfl, rfl, rfl⟩; exact (dk_rq 0 1 rfl rfl))); intro pn5 cn5 pd5 cd5)
    simp only [vq_rt']
    refine lxk_end rfl ?_
    simp only [List.map_cons, List.map_nil, List.cons_append, List.nil_append]
    refine j_step rfl (x_bst_all 0 rfl rfl rfl ld44 rfl rfl (by simp [Value.oneCell']) ?_)
    refine j_nf [.c [1, 1, 1, 1, 1, 1, 0, 1, 0, 1], .c [1, 1, 1, 1, 1, 1, 1]] rfl ?_
    rw [hR _ _ hs]
    refine j_givC [0, 1] rfl (.agg 0 rfl rfl ld44 rfl .nil) rfl ⟨_, _, _, _, rfl, rfl, rfl⟩
  · have hs : (rt (vq (g1, N1, D1))).1 ≠ (rt (vq (g2, N2, D2))).1 := by simpa using h1
    by_cases hle : val (limbs (val (rt (vq (g2, N2, D2))).2.1 * val (rt (vq (g1, N1, D1))).2.2)) ≤ val (limbs (val (rt (vq (g1, N1, D1))).2.1 * val (rt (vq (g2, N2, D2))).2.2))
    · have hc : 0 ≤ cmpN (val (limbs (val (rt (vq (g1, N1, D1))).2.1 * val (rt (vq (g2, N2, D2))).2.2))) (val (limbs (val (rt (vq (g2, N2, D2))).2.1 * val (rt (vq (g1, N1, D1))).2.2))) := by unfold cmpN; split <;> (try split) <;> omega
      have LB : (limbs (val (limbs (val (rt (vq (g1, N1, D1))).2.1 * val (rt (vq (g2, N2, D2))).2.2)) - val (limbs (val (rt (vq (g2, N2, D2))).2.1 * val (rt (vq (g1, N1, D1))).2.2)))).length ≤ 1073741824 := limbs_mono (Nat.le_trans LX (by decide)) (by rw [val_limbs]; exact Nat.sub_le _ _)
      refine j_nf [.o [1, 1, 1, 1, 1, 1, 1, 0, 0] 0, .c [1, 1, 1, 1, 1, 1, 1, 0, 1], .c [1, 1, 1, 1, 1, 1, 1, 1]] rfl ?_
      refine j_run it 2 rfl (by simp) ?_
      refine j_step rfl (x_call [2, 1] rfl (S_codewrightref01_Cmp) rfl ?_)
      rintro _ _ _ ⟨rfl, rfl, rfl⟩
      simp only [List.cons_append, List.nil_append]
      refine j_run it 1 rfl (by simp) ?_
      refine j_nf [.c [1, 1, 1, 1, 1, 1, 1, 0, 1], .c [1, 1, 1, 1, 1, 1, 1, 1]] rfl ?_
      refine j_if rfl rfl (fun h2 => ?_) (fun h2 => by exfalso; omega)
      refine j_nf [.c [1, 1, 1, 1, 1, 1, 1, 0, 1, 0, 0], .c [1, 1, 1, 1, 1, 1, 1, 0, 1, 0, 1], .c [1, 1, 1, 1, 1, 1, 1, 1]] rfl ?_
      (apply j_drawK it mx 7; (· rfl); (· rfl))
      (apply lxk_eq; (· rfl); (· exact d_x fun _ => x_field rfl fd44_0 dk_eq))
      (apply lxk_eq; (· rfl); (· exact d_bld 2 rfl rfl ld4 rfl))
      (apply lxk_run 2; (· rfl); (· simp))
      (apply lxk_sl; (· rfl); (· exact d_x fun _ => x_call [2, 1] rfl (S_codewrightref01_Sub (by first | omega | exact side _ (by assumption) | assumption | rfl | (simp; done) | (simp; omega))) rfl (by rintro _ _ _ ⟨pa4, ca4, rfl, rfl, rfl⟩; exact (dk_sl 0 rfl))); intro pa4 ca4)
      (apply lxk_run 1; (· rfl); (· simp))
      (apply lxk_rq; (· rfl); (· exact d_x fun _ => x_call [0, 1] rfl (S_codewrightref02_Make (by first | omega | exact side _ (by assumption) | assumption | rfl | (simp; done) | (simp; omega)) (by first | omega | exact side _ (by assumption) | assumption | rfl | (simp; done) | (simp; omega))) rfl (by rintro _ _ _ ⟨pn5, cn5, pd5, cd5, rfl, rfl, rfl⟩; exact (dk_rq 0 1 rfl rfl))); intro pn5 cn5 pd5 cd5)
      simp only [vq_rt']
      refine lxk_end rfl ?_
      simp only [List.map_cons, List.map_nil, List.cons_append, List.nil_append]
      refine j_step rfl (x_bst_all 0 rfl rfl rfl ld44 rfl rfl (by simp [Value.oneCell']) ?_)
      refine j_nf [.c [1, 1, 1, 1, 1, 1, 1, 0, 1, 0, 1], .c [1, 1, 1, 1, 1, 1, 1, 1]] rfl ?_
      rw [hG _ _ hs hle]
      refine j_givC [0, 1] rfl (.agg 0 rfl rfl ld44 rfl .nil) rfl ⟨_, _, _, _, rfl, rfl, rfl⟩
    · have hc : ¬ 0 ≤ cmpN (val (limbs (val (rt (vq (g1, N1, D1))).2.1 * val (rt (vq (g2, N2, D2))).2.2))) (val (limbs (val (rt (vq (g2, N2, D2))).2.1 * val (rt (vq (g1, N1, D1))).2.2))) := by rw [cmpN_lt (by omega)]; decide
      have hle2 : val (limbs (val (rt (vq (g1, N1, D1))).2.1 * val (rt (vq (g2, N2, D2))).2.2)) ≤ val (limbs (val (rt (vq (g2, N2, D2))).2.1 * val (rt (vq (g1, N1, D1))).2.2)) := by omega
      have LB : (limbs (val (limbs (val (rt (vq (g2, N2, D2))).2.1 * val (rt (vq (g1, N1, D1))).2.2)) - val (limbs (val (rt (vq (g1, N1, D1))).2.1 * val (rt (vq (g2, N2, D2))).2.2)))).length ≤ 1073741824 := limbs_mono (Nat.le_trans LY (by decide)) (by rw [val_limbs]; exact Nat.sub_le _ _)
      refine j_nf [.o [1, 1, 1, 1, 1, 1, 1, 0, 0] 0, .c [1, 1, 1, 1, 1, 1, 1, 0, 1], .c [1, 1, 1, 1, 1, 1, 1, 1]] rfl ?_
      refine j_run it 2 rfl (by simp) ?_
      refine j_step rfl (x_call [2, 1] rfl (S_codewrightref01_Cmp) rfl ?_)
      rintro _ _ _ ⟨rfl, rfl, rfl⟩
      simp only [List.cons_append, List.nil_append]
      refine j_run it 1 rfl (by simp) ?_
      refine j_nf [.c [1, 1, 1, 1, 1, 1, 1, 0, 1], .c [1, 1, 1, 1, 1, 1, 1, 1]] rfl ?_
      refine j_if rfl rfl (fun h2 => by exfalso; omega) (fun h2 => ?_)
      refine j_nf [.c [1, 1, 1, 1, 1, 1, 1, 1, 0], .c [1, 1, 1, 1, 1, 1, 1, 1, 1]] rfl ?_
      (apply j_drawK it mx 7; (· rfl); (· rfl))
      (apply lxk_eq; (· rfl); (· exact d_x fun _ => x_field rfl fd44_0 dk_eq))
      (apply lxk_eq; (· rfl); (· exact d_bld 1 rfl rfl ld4 rfl))
      (apply lxk_run 2; (· rfl); (· simp))
      (apply lxk_sl; (· rfl); (· exact d_x fun _ => x_call [1, 2] rfl (S_codewrightref01_Sub (by first | omega | exact side _ (by assumption) | assumption | rfl | (simp; done) | (simp; omega))) rfl (by rintro _ _ _ ⟨pa4, ca4, rfl, rfl, rfl⟩; exact (dk_sl 0 rfl))); intro pa4 ca4)
      (apply lxk_run 1; (· rfl); (· simp))
      (apply lxk_rq; (· rfl); (· exact d_x fun _ => x_call [0, 1] rfl (S_codewrightref02_Make (by first | omega | exact side _ (by assumption) | assumption | rfl | (simp; done) | (simp; omega)) (by first | omega | exact side _ (by assumption) | assumption | rfl | (simp; done) | (simp; omega))) rfl (by rintro _ _ _ ⟨pn5, cn5, pd5, cd5, rfl, rfl, rfl⟩; exact (dk_rq 0 1 rfl rfl))); intro pn5 cn5 pd5 cd5)
      simp only [vq_rt']
      refine lxk_end rfl ?_
      simp only [List.map_cons, List.map_nil, List.cons_append, List.nil_append]
      refine j_step rfl (x_bst_all 0 rfl rfl rfl ld44 rfl rfl (by simp [Value.oneCell']) ?_)
      refine j_nf [.c [1, 1, 1, 1, 1, 1, 1, 1, 1]] rfl ?_
      rw [Nat.mul_comm (val (rt (vq (g1, N1, D1))).2.2) (val (rt (vq (g2, N2, D2))).2.2), hG _ _ (fun h => hs h.symm) hle2, Rat.add_comm]
      refine j_givC [0, 1] rfl (.agg 0 rfl rfl ld44 rfl .nil) rfl ⟨_, _, _, _, rfl, rfl, rfl⟩

theorem S_codewrightref02_Sub {g1 g2 : Bool} {pn1 pd1 pn2 pd2 : Option Addr} {n1 m1 n2 m2 cn1 cd1 cn2 cd2 : Nat} {N1 D1 N2 D2 : List Nat}
    (l1 : N1.length ≤ 134217728) (l2 : D1.length ≤ 134217728) (l3 : N2.length ≤ 134217728) (l4 : D2.length ≤ 134217728) :
    Ctr Try.prog 27 [.agg #[.bool g1, .slice pn1 n1 cn1, .slice pd1 m1 cd1], .agg #[.bool g2, .slice pn2 n2 cn2, .slice pd2 m2 cd2]] [] [slF U32 pn1 n1 cn1 N1, slF U32 pd1 m1 cd1 D1, slF U32 pn2 n2 cn2 N2, slF U32 pd2 m2 cd2 D2] (RtV (rt (vq (g1, N1, D1) - vq (g2, N2, D2)))) := by
  refine Ctr_of_j' (F := F_codewrightref02_Sub) rfl fun C => ?_
  refine j_range 2 rfl fun r3 => ?_
  refine j_range 3 rfl fun r4 => ?_
  obtain ⟨k3, k4⟩ := rt_len_neg (g := g2) (lim r3) (lim r4) l3 l4 (by decide)
  refine j_nf [.o [0] 0, .c [1]] rfl ?_
  refine j_step rfl (x_box_agg rfl fun b1 => ?_)
  refine j_step rfl (x_box_agg rfl fun b2 => ?_)
  refine j_step rfl (x_alloc zo44 fun b3 => ?_)
  refine j_nf [.c [1, 0], .c [1, 1]] rfl ?_
  (apply j_drawK it mx 4; (· rfl); (· rfl))
  (apply lxk_eq; (· rfl); (· exact d_bld_all 2 rfl rfl ld44 rfl))
  (apply lxk_eq; (· rfl); (· exact d_bld_all 1 rfl rfl ld44 rfl))
  (apply lxk_rq; (· rfl); (· exact d_x fun _ => x_call [2, 3] rfl (S_codewrightref02_Neg (by first | omega | exact side _ (by assumption) | assumption | rfl | (simp; done) | (simp; omega)) (by first | omega | exact side _ (by assumption) | assumption | rfl | (simp; done) | (simp; omega))) rfl (by rintro _ _ _ ⟨pn3, cn3, pd3, cd3, rfl, rfl, rfl⟩; exact (dk_rq 0 1 rfl rfl))); intro pn3 cn3 pd3 cd3)
  simp only [vq_rt']
  (apply lxk_rq; (· rfl); (· exact d_x fun _ => x_call [2, 3, 0, 1] rfl (S_codewrightref02_Add (by first | omega | exact side _ (by assumption) | assumption | rfl | (simp; done) | (simp; omega)) (by first | omega | exact side _ (by assumption) | assumption | rfl | (simp; done) | (simp; omega)) (by first | omega | exact side _ (by assumption) | assumption | rfl | (simp; done) | (simp; omega)) (by first | omega | exact side _ (by assumption) | assumption | rfl | (simp; done) | (simp; omega))) rfl (by rintro _ _ _ ⟨pn4, cn4, pd4, cd4, rfl, rfl, rfl⟩; exact (dk_rq 0 1 rfl rfl))); intro pn4 cn4 pd4 cd4)
  simp only [vq_rt']
  refine lxk_end rfl ?_
  simp only [List.map_cons, List.map_nil, List.cons_append, List.nil_append]
  refine j_step rfl (x_bst_all 0 rfl rfl rfl ld44 rfl rfl (by simp [Value.oneCell']) ?_)
  refine j_nf [.c [1, 1]] rfl ?_
  simp only [vq_rt', ← Rat.sub_eq_add_neg]
  refine j_givC [0, 1] rfl (.agg 0 rfl rfl ld44 rfl .nil) rfl ⟨_, _, _, _, rfl, rfl, rfl⟩

theorem S_codewrightref02_Cmp {g1 g2 : Bool} {pn1 pd1 pn2 pd2 : Option Addr} {n1 m1 n2 m2 cn1 cd1 cn2 cd2 : Nat} {N1 D1 N2 D2 : List Nat}
    (l1 : N1.length ≤ 134217728) (l2 : D1.length ≤ 134217728) (l3 : N2.length ≤ 134217728) (l4 : D2.length ≤ 134217728) :
    Ctr Try.prog 20 [.agg #[.bool g1, .slice pn1 n1 cn1, .slice pd1 m1 cd1], .agg #[.bool g2, .slice pn2 n2 cn2, .slice pd2 m2 cd2]] [] [slF U32 pn1 n1 cn1 N1, slF U32 pd1 m1 cd1 D1, slF U32 pn2 n2 cn2 N2, slF U32 pd2 m2 cd2 D2] (Rv (.int .i64 (vq (g1, N1, D1) - vq (g2, N2, D2)).num.sign) []) := by
  refine Ctr_of_j' (F := F_codewrightref02_Cmp) rfl fun C => ?_
  refine j_range 0 rfl fun r1 => ?_
  refine j_range 1 rfl fun r2 => ?_
  refine j_range 2 rfl fun r3 => ?_
  refine j_range 3 rfl fun r4 => ?_
  have hb := bd_add (bd_vq (r := (g1, N1, D1)) (lim r1) (lim r2) l1 l2 (by decide)) (bd_neg (bd_vq (r := (g2, N2, D2)) (lim r3) (lim r4) l3 l4 (by decide)))
  rw [← Rat.sub_eq_add_neg] at hb
  obtain ⟨k1, k2⟩ := bd_len hb
  refine j_nf [.o [0] 0, .c [1]] rfl ?_
  refine j_step rfl (x_box_agg rfl fun b1 => ?_)
  refine j_step rfl (x_box_agg rfl fun b2 => ?_)
  refine j_run it 1 rfl (by simp) ?_
  refine j_nf [.o [1, 0] 0, .c [1, 1]] rfl ?_
  refine j_step rfl (x_bld_all 1 rfl rfl ld44 rfl ?_)
  refine j_step rfl (x_bld_all 0 rfl rfl ld44 rfl ?_)
  refine j_step rfl (x_call [0, 1, 2, 3] rfl (S_codewrightref02_Sub (by first | omega | exact side _ (by assumption) | assumption | rfl | (simp; done) | (simp; omega)) (by first | omega | exact side _ (by assumption) | assumption | rfl | (simp; done) | (simp; omega)) (by first | omega | exact side _ (by assumption) | assumption | rfl | (simp; done) | (simp; omega)) (by first | omega | exact side _ (by assumption) | assumption | rfl | (simp; done) | (simp; omega))) rfl ?_)
  rintro _ _ _ ⟨pn3, cn3, pd3, cd3, rfl, rfl, rfl⟩
  simp only [List.cons_append, List.nil_append]
  refine j_step rfl (x_call [0, 1] rfl (S_codewrightref02_Sign (by first | omega | exact side _ (by assumption) | assumption | rfl | (simp; done) | (simp; omega)) (by first | omega | exact side _ (by assumption) | assumption | rfl | (simp; done) | (simp; omega))) rfl ?_)
  rintro _ _ _ ⟨rfl, rfl, rfl⟩
  simp only [List.cons_append, List.nil_append]
  simp only [vq_rt']
  refine j_run it 1 rfl (by simp) ?_
  refine j_nf [.c [1, 1]] rfl ?_
  refine j_giv [] rfl rfl rfl ⟨rfl, rfl, rfl⟩
end Go.Proofs.Ytkchmoahohopiaa

namespace Go.Proofs.Ytkchmoahohopiaa
open Go Go.Fw
set_option maxRecDepth 100000
set_option linter.unusedVariables false
set_option linter.unusedSimpArgs false
set_option maxHeartbeats 400000
theorem limbs_two {n : Nat} (h : n < 18446744073709551616) : (limbs n).length ≤ 2 := limbs_length_le (by simpa using h)

theorem mul_len {x y L K : Nat} (hx : x < 4294967296 ^ L) (hy : y < 4294967296 ^ K) : (limbs (x * y)).length ≤ L + K := by
  refine limbs_length_le ?_
  rw [Nat.pow_add]
  rcases Nat.eq_zero_or_pos y with h0 | h0
  · subst h0; rw [Nat.mul_zero]; exact Nat.mul_pos (Nat.pow_pos (by decide)) (Nat.pow_pos (by decide))
  · exact Nat.lt_of_lt_of_le (Nat.mul_lt_mul_of_pos_right hx h0) (Nat.mul_le_mul_left _ (Nat.le_of_lt hy))

theorem S_codewrightref01_small {pa : Option Addr} {m ca : Nat} {a : List Nat} {n d : Nat} (ha : a.length ≤ 1073741824) (hn : n < 4294967296) (hd : 0 < d) (hdB : d < 4294967296) :
    Ctr Try.prog 106 [.slice pa m ca, .int .i64 n, .int .i64 d] [] [slF U32 pa m ca a] (Sv U32 (limbs (val a * n / d))) := by
  refine Ctr_of_j' (F := F_codewrightref01_small) rfl fun C => ?_
  refine j_len 0 rfl fun hm _ _ => ?_
  subst hm
  refine j_range 0 rfl fun hra => ?_
  have hra' : ∀ x ∈ a, x < 4294967296 := fun x hx => by have := hra x hx; simp only [InR] at this; omega
  have h2 := limbs_two (show n < 18446744073709551616 by omega)
  have hlen : (limbs (val a * val (limbs n))).length ≤ a.length + 2 := mul_len (val_lt hra') (limbs_le_length (by rw [val_limbs]; exact h2))
  have hpr := limbs_lt (val a * val (limbs n))
  have hpv : val (limbs (val a * val (limbs n))) = val a * n := by rw [val_limbs, val_limbs]
  clear hra
  refine j_nf [.o [0] 0, .c [1]] rfl ?_
  refine j_run it 1 rfl (by simp) ?_
  refine j_nf [.o [1, 0] 0, .c [1, 1]] rfl ?_
  refine j_run it 3 rfl (by repeat' first | exact trivial | apply And.intro | omega) ?_
  refine j_step rfl (x_call [] rfl (S_codewrightref01_Of (by first | omega | exact side _ (by assumption) | assumption | rfl | (simp; done) | (simp; omega))) rfl ?_)
  rintro _ _ _ ⟨pa1, ca1, rfl, rfl, rfl⟩
  simp only [List.cons_append, List.nil_append]
  refine j_step rfl (x_call [1, 0] rfl (S_codewrightref01_Mul (by first | omega | exact side _ (by assumption) | assumption | rfl | (simp; done) | (simp; omega)) (by first | omega | exact side _ (by assumption) | assumption | rfl | (simp; done) | (simp; omega))) rfl ?_)
  rintro _ _ _ ⟨pa2, ca2, rfl, rfl, rfl⟩
  simp only [List.cons_append, List.nil_append]
  refine j_run it 1 rfl (by simp) ?_
  refine j_nf [.o [1, 1, 0] 0, .c [1, 1, 1]] rfl ?_
  refine j_run it 1 rfl (by simp) ?_
  refine j_step rfl (x_len sl42 rfl ?_)
  refine j_step rfl (x_make_nat ((limbs (val a * val (limbs n))).length) _ rfl rfl sl42 zo42e by42e (by omega) (by omega) (by omega) fun b1 => ?_)
  refine j_run it 1 rfl (by simp) ?_
  refine j_nf [.o [1, 1, 1, 0] 0, .c [1, 1, 1, 1]] rfl ?_
  refine j_run it 1 rfl (by simp) ?_
  refine j_nf [.o [1, 1, 1, 1, 0, 0] 0, .c [1, 1, 1, 1, 0, 1], .c [1, 1, 1, 1, 1]] rfl ?_
  refine j_run it 1 rfl (by simp) ?_
  refine j_step rfl (x_len sl42 rfl ?_)
  refine j_run it 2 rfl (by repeat' first | exact trivial | apply And.intro | omega) ?_
  refine j_nf [.c [1, 1, 1, 1, 0, 1, 0], .blk 0, .c [1, 1, 1, 1, 1]] rfl ?_
  generalize limbs (val a * val (limbs n)) = p at hlen hpr hpv ⊢
  refine j_loopN (X := Nat × Nat × List Nat) (fun x => [(0, .slice pa2 p.length ca2), (2, .int .i64 d), (7, .slice (some ⟨b1, 0, none⟩) p.length p.length), (8, .int .u64 x.2.1), (9, .int .i64 ((x.1 : Int) - 1))])
    (fun x => [(some b1, 84, natCells .u32 x.2.2)]) (fun _ => [slF U32 pa2 p.length ca2 p])
    (fun x => x.1 ≤ p.length ∧ x.2.2.length = p.length ∧ x.2.1 < d ∧ (∀ y ∈ x.2.2, y < 4294967296) ∧ val (p.drop x.1) = val (x.2.2.drop x.1) * d + x.2.1)
    (fun x => x.1) (p.length, 0, List.replicate p.length 0) [0] rfl ⟨Nat.le_refl _, by simp, hd, rep_lt (by decide), by simp [val]⟩ (by repeat (first | exact Fr.sub_nil _ | refine Fr.sub_cons rfl ?_)) rfl rfl ?_
  rintro ⟨k, r, out⟩ ⟨hk, hl, hr, ho, hv⟩ ih
  simp only at hk hl hr ho hv ih ⊢
  by_cases hk0 : 0 < k
  · refine j_nf [.o [1, 1, 1, 1, 0, 1, 0, 0, 0, 0] 0, .c [1, 1, 1, 1, 0, 1, 0, 0, 0, 1], .c [1, 1, 1, 1, 0, 1, 0, 0, 1], .lp [1, 1, 1, 1, 0, 1, 0, 0], .blk 0, .c [1, 1, 1, 1, 1]] rfl ?_
    refine j_run it 2 rfl (by simp) ?_
    refine j_nf [.c [1, 1, 1, 1, 0, 1, 0, 0, 0, 1], .c [1, 1, 1, 1, 0, 1, 0, 0, 1], .lp [1, 1, 1, 1, 0, 1, 0, 0], .blk 0, .c [1, 1, 1, 1, 1]] rfl ?_
    refine j_if rfl rfl (fun h1 => ?_) (fun h1 => by exfalso; omega)
    refine j_nf [.o [1, 1, 1, 1, 0, 1, 0, 0, 1, 0, 0, 0] 0, .c [1, 1, 1, 1, 0, 1, 0, 0, 1, 0, 0, 1], .blk 1, .c [1, 1, 1, 1, 0, 1, 0, 0, 1, 1], .lp [1, 1, 1, 1, 0, 1, 0, 0], .blk 0, .c [1, 1, 1, 1, 1]] rfl ?_
    refine j_run it 4 rfl (by repeat' first | exact trivial | apply And.intro | omega) ?_
    refine j_step rfl (x_idx 0 ((k) - 1) rfl rfl rfl sl42 (by omega) (by omega) fun z1 hz1 b2 o1 => ?_)
    refine j_step rfl (x_ld_nat 0 rfl rfl ld84 fun ⟨r1, r2⟩ => ?_)
    refine j_run it 3 rfl (by repeat' first | exact trivial | apply And.intro | omega) ?_
    refine j_nf [.o [1, 1, 1, 1, 0, 1, 0, 0, 1, 0, 0, 1, 0] 0, .c [1, 1, 1, 1, 0, 1, 0, 0, 1, 0, 0, 1, 1], .blk 1, .c [1, 1, 1, 1, 0, 1, 0, 0, 1, 1], .lp [1, 1, 1, 1, 0, 1, 0, 0], .blk 0, .c [1, 1, 1, 1, 1]] rfl ?_
    refine j_run it 6 rfl (by repeat' first | exact trivial | apply And.intro | omega) ?_
    refine j_step rfl (x_conv_u32 it rfl rfl rfl ?_)
    refine j_step rfl (x_idx_own ((k) - 1) ((k) - 1) rfl rfl sl42 (by omega) (by omega) (Nat.mul_one _) ?_)
    refine j_step rfl (x_bst_nat 0 (((((r) * 4294967296) + (z1)) / (d)) % 4294967296) rfl rfl rfl ld84 (by first | rfl | omega) (by first | omega | (simp; omega)) ?_)
    refine j_nf [.o [1, 1, 1, 1, 0, 1, 0, 0, 1, 0, 0, 1, 1] 0, .blk 1, .c [1, 1, 1, 1, 0, 1, 0, 0, 1, 1], .lp [1, 1, 1, 1, 0, 1, 0, 0], .blk 0, .c [1, 1, 1, 1, 1]] rfl ?_
    refine j_run it 5 rfl (by repeat' first | exact trivial | apply And.intro | omega) ?_
    refine j_nf [.o [1, 1, 1, 1, 0, 1, 0, 0, 1, 1] 0, .lp [1, 1, 1, 1, 0, 1, 0, 0], .blk 0, .c [1, 1, 1, 1, 1]] rfl ?_
    refine j_run it 3 rfl (by repeat' first | exact trivial | apply And.intro | omega) ?_
    refine j_nfn 1 [.lp [1, 1, 1, 1, 0, 1, 0, 0], .blk 0, .c [1, 1, 1, 1, 1]] rfl ?_
    have hz : z1 < 4294967296 := hpr z1 (List.mem_of_getElem? hz1)
    have hq := div_lt' (x := z1) hr hz
    refine j_to [1] (by repeat (first | exact Fr.sub_nil _ | refine Fr.sub_cons rfl ?_ | refine Fr.sub_consI rfl (by first | omega | (dsimp only; omega)) ?_ | refine Fr.sub_consS rfl (by first | omega | (dsimp only; omega)) (by first | omega | (dsimp only; omega)) ?_)) rfl rfl (ih (k - 1, (r * 4294967296 + z1) % d, out.set (k - 1) ((r * 4294967296 + z1) / d % 4294967296)) (by simp only; omega) ⟨by simp only; omega, by simpa using hl, Nat.mod_lt _ hd, set_lt ho (by omega), by
      simp only
      rw [Nat.mod_eq_of_lt hq]
      have e : k - 1 + 1 = k := by omega
      have hz1' : p[k - 1]? = some z1 := by first | exact hz1 | simpa using hz1
      rw [val_drop hz1', val_set_drop (by omega), e]
      exact div_step hv hd⟩)
  · refine j_nf [.o [1, 1, 1, 1, 0, 1, 0, 0, 0, 0] 0, .c [1, 1, 1, 1, 0, 1, 0, 0, 0, 1], .c [1, 1, 1, 1, 0, 1, 0, 0, 1], .lp [1, 1, 1, 1, 0, 1, 0, 0], .blk 0, .c [1, 1, 1, 1, 1]] rfl ?_
    refine j_run it 2 rfl (by simp) ?_
    refine j_nf [.c [1, 1, 1, 1, 0, 1, 0, 0, 0, 1], .c [1, 1, 1, 1, 0, 1, 0, 0, 1], .lp [1, 1, 1, 1, 0, 1, 0, 0], .blk 0, .c [1, 1, 1, 1, 1]] rfl ?_
    refine j_if rfl rfl (fun h1 => by exfalso; omega) (fun h1 => ?_)
    refine j_nf [.o [1, 1, 1, 1, 1, 0] 0, .c [1, 1, 1, 1, 1, 1]] rfl ?_
    refine j_run it 1 rfl (by simp) ?_
    refine j_pub32 (n := p.length) 0 rfl (by simp [*]) (by first | assumption | exact set_all (by assumption) (by omega) | (simp; omega)) (by omega) ?_
    refine j_step rfl (x_call [0] rfl (S_codewrightref01_Trim) rfl ?_)
    rintro _ _ _ ⟨pa3, ca3, rfl, rfl, rfl⟩
    simp only [List.cons_append, List.nil_append]
    refine j_run it 1 rfl (by simp) ?_
    refine j_nf [.c [1, 1, 1, 1, 1, 1]] rfl ?_
    have e : k = 0 := by omega
    subst e
    simp only [List.drop_zero] at hv
    have h1 : val p / d = val out := by rw [hv, Nat.mul_comm, Nat.mul_add_div hd, Nat.div_eq_of_lt hr, Nat.add_zero]
    rw [trim_eq ho, ← h1, hpv]
    refine j_giv [0] rfl rfl rfl ⟨_, _, rfl, rfl, rfl⟩
end Go.Proofs.Ytkchmoahohopiaa

namespace Go.Proofs.Ytkchmoahohopiaa
open Go Go.Fw
set_option maxRecDepth 100000
set_option linter.unusedVariables false
set_option linter.unusedSimpArgs false
set_option maxHeartbeats 400000
theorem S_codewrightref01_Choose {n k : Nat} (hn : n ≤ 4096) : Ctr Try.prog 91 [.int .i64 n, .int .i64 k] [] [] (Sv U32 (limbs (binom n k))) := by
  refine Ctr_of_j' (F := F_codewrightref01_Choose) rfl fun C => ?_
  have e1 : limbs (binom n 0) = [1] := by rw [binom_zero, limbs_one]
  by_cases hk : n < k
  · have hz : limbs (binom n k) = [] := by rw [binom_gt n k hk, limbs_zero]
    refine j_nf [.o [0] 0, .c [1]] rfl ?_
    refine j_run it 1 rfl (by simp) ?_
    refine j_nf [.o [1, 0, 0] 0, .c [1, 0, 1], .c [1, 1]] rfl ?_
    refine j_run it 7 rfl (by simp) ?_
    refine j_nf [.c [1, 0, 1], .c [1, 1]] rfl ?_
    refine j_if rfl rfl (fun h1 => ?_) (fun h1 => by exfalso; omega)
    refine j_nf [.o [1, 0, 1, 0, 0] 0, .c [1, 0, 1, 0, 1], .c [1, 1]] rfl ?_
    refine j_step rfl (x_lit0 sl42 fun b1 => ?_)
    refine j_run it 1 rfl (by simp) ?_
    refine j_nf [.c [1, 0, 1, 0, 1], .c [1, 1]] rfl ?_
    refine j_add (slF U32 (some ⟨b1, 0, none⟩) 0 0 []) (fun w A _ => slF_nil _ _ _ _ _) ?_
    refine j_giv [0] rfl rfl rfl ⟨_, _, by rw [hz]; rfl, by rw [hz]; rfl, rfl⟩
  · have hlen := fun i => binom_len hn i
    refine j_nf [.o [0] 0, .c [1]] rfl ?_
    refine j_run it 1 rfl (by simp) ?_
    refine j_nf [.o [1, 0, 0] 0, .c [1, 0, 1], .c [1, 1]] rfl ?_
    refine j_run it 7 rfl (by simp) ?_
    refine j_nf [.c [1, 0, 1], .c [1, 1]] rfl ?_
    refine j_if rfl rfl (fun h1 => by exfalso; omega) (fun h1 => ?_)
    refine j_nf [.o [1, 1, 0] 0, .c [1, 1, 1]] rfl ?_
    refine j_step rfl (x_lit sl42 zo42e rfl rfl rfl rfl (by decide) (by decide) rfl fun b1 => ?_)
    refine j_run it 1 rfl (by simp) ?_
    refine j_nf [.o [1, 1, 1, 0, 0] 0, .c [1, 1, 1, 0, 1], .c [1, 1, 1, 1]] rfl ?_
    refine j_run it 1 rfl (by simp) ?_
    refine j_nf [.c [1, 1, 1, 0, 1, 0], .blk 0, .c [1, 1, 1, 1]] rfl ?_
    refine j_pub_made (n := 1) (kd := .u32) 4 [1] 0 rfl rfl (by simp [InR]) (by decide) (by decide) ?_
    refine j_loopN (X := Nat × Option Addr × Nat) (fun x => [(0, .int .i64 n), (1, .int .i64 k), (5, .slice x.2.1 (limbs (binom n x.1)).length x.2.2), (6, .int .i64 x.1)])
      (fun _ => []) (fun x => [slF U32 x.2.1 (limbs (binom n x.1)).length x.2.2 (limbs (binom n x.1))])
      (fun x => x.1 ≤ k) (fun x => k - x.1) (0, some ⟨b1, 0, none⟩, 1) [0] rfl (Nat.zero_le _) (by simp only [e1]; repeat (first | exact Fr.sub_nil _ | refine Fr.sub_cons rfl ?_)) rfl (by simp only [e1]; rfl) ?_
    rintro ⟨i, pa, ca⟩ hi ih
    simp only at hi ih ⊢
    have hl := hlen i
    by_cases hik : i < k
    · refine j_nf [.o [1, 1, 1, 0, 1, 0, 0, 0, 0] 0, .c [1, 1, 1, 0, 1, 0, 0, 0, 1], .c [1, 1, 1, 0, 1, 0, 0, 1], .lp [1, 1, 1, 0, 1, 0, 0], .blk 0, .c [1, 1, 1, 1]] rfl ?_
      refine j_run it 3 rfl (by simp) ?_
      refine j_nf [.c [1, 1, 1, 0, 1, 0, 0, 0, 1], .c [1, 1, 1, 0, 1, 0, 0, 1], .lp [1, 1, 1, 0, 1, 0, 0], .blk 0, .c [1, 1, 1, 1]] rfl ?_
      refine j_if rfl rfl (fun h2 => ?_) (fun h2 => by exfalso; omega)
      refine j_nf [.o [1, 1, 1, 0, 1, 0, 0, 1, 0, 0] 0, .blk 1, .c [1, 1, 1, 0, 1, 0, 0, 1, 1], .lp [1, 1, 1, 0, 1, 0, 0], .blk 0, .c [1, 1, 1, 1]] rfl ?_
      refine j_run it 6 rfl (by repeat' first | exact trivial | apply And.intro | omega) ?_
      refine j_recast (t := 24) ((((n) - (i)) : Nat) : Int) rfl (by omega) ?_
      refine j_recast (t := 26) ((((i) + 1) : Nat) : Int) rfl (by omega) ?_
      refine j_step rfl (x_call [0] rfl (S_codewrightref01_small (by first | omega | exact side _ (by assumption) | assumption | rfl | (simp; done) | (simp; omega)) (by first | omega | exact side _ (by assumption) | assumption | rfl | (simp; done) | (simp; omega)) (by first | omega | exact side _ (by assumption) | assumption | rfl | (simp; done) | (simp; omega)) (by first | omega | exact side _ (by assumption) | assumption | rfl | (simp; done) | (simp; omega))) rfl ?_)
      rintro _ _ _ ⟨pa1, ca1, rfl, rfl, rfl⟩
      simp only [List.cons_append, List.nil_append]
      refine j_run it 1 rfl (by simp) ?_
      refine j_nf [.o [1, 1, 1, 0, 1, 0, 0, 1, 1] 0, .lp [1, 1, 1, 0, 1, 0, 0], .blk 0, .c [1, 1, 1, 1]] rfl ?_
      refine j_run it 3 rfl (by repeat' first | exact trivial | apply And.intro | omega) ?_
      refine j_nfn 1 [.lp [1, 1, 1, 0, 1, 0, 0], .blk 0, .c [1, 1, 1, 1]] rfl ?_ --ok
      rw [show ((n : Int) - i) = ((n - i : Nat) : Int) by omega, show ((i : Int) + 1) = ((i + 1 : Nat) : Int) by omega]
      skip
      simp only [val_limbs, binom_next (show i ≤ n by omega)]
      refine j_to [0] (by repeat (first | exact Fr.sub_nil _ | refine Fr.sub_cons rfl ?_ | refine Fr.sub_consI rfl (by first | omega | (dsimp only; omega)) ?_ | refine Fr.sub_consS rfl (by first | omega | (dsimp only; omega)) (by first | omega | (dsimp only; omega)) ?_)) rfl rfl (ih (i + 1, pa1, ca1) (by simp only; omega) (by simp only; omega))
    · refine j_nf [.o [1, 1, 1, 0, 1, 0, 0, 0, 0] 0, .c [1, 1, 1, 0, 1, 0, 0, 0, 1], .c [1, 1, 1, 0, 1, 0, 0, 1], .lp [1, 1, 1, 0, 1, 0, 0], .blk 0, .c [1, 1, 1, 1]] rfl ?_
      refine j_run it 3 rfl (by simp) ?_
      refine j_nf [.c [1, 1, 1, 0, 1, 0, 0, 0, 1], .c [1, 1, 1, 0, 1, 0, 0, 1], .lp [1, 1, 1, 0, 1, 0, 0], .blk 0, .c [1, 1, 1, 1]] rfl ?_
      refine j_if rfl rfl (fun h2 => by exfalso; omega) (fun h2 => ?_)
      refine j_nf [.o [1, 1, 1, 1, 0] 0, .c [1, 1, 1, 1, 1]] rfl ?_
      refine j_run it 2 rfl (by simp) ?_
      refine j_nf [.c [1, 1, 1, 1, 1]] rfl ?_
      have e : i = k := by omega
      rw [e]
      refine j_giv [0] rfl rfl rfl ⟨_, _, rfl, rfl, rfl⟩
end Go.Proofs.Ytkchmoahohopiaa

namespace Go.Proofs.Ytkchmoahohopiaa
open Go Go.Fw
set_option maxRecDepth 100000
set_option linter.unusedVariables false
set_option linter.unusedSimpArgs false
set_option maxHeartbeats 400000
theorem S_codewrightref01_Pow {pa : Option Addr} {m ca n : Nat} {l : List Nat} (hl : val l < 4294967296) (hn : n ≤ 4000) : Ctr Try.prog 88 [.slice pa m ca, .int .i64 n] [] [slF U32 pa m ca l] (S2 U32 (limbs (val l ^ n)) 0) := by
  refine Ctr_of_j' (F := F_codewrightref01_Pow) rfl fun C => ?_
  refine j_len 0 rfl fun hm _ _ => ?_
  subst hm
  refine j_range 0 rfl fun hr => ?_
  have hrr : ∀ x ∈ l, x < 4294967296 := fun x hx => by have := hr x hx; simp only [InR] at this; omega
  have ht : trim l = limbs (val l) := trim_eq hrr
  have hbl : bitsL (limbs (val l)) = blen (val l) := bitsL_small (trim_limbs _) hl
  have hone : (limbs (val l ^ 0)) = [1] := by rw [Nat.pow_zero, limbs_one]
  by_cases h0 : n = 0
  · subst h0
    refine j_nf [.o [0] 0, .c [1]] rfl ?_
    refine j_run it 2 rfl (by simp) ?_
    refine j_nf [.o [1, 0, 0] 0, .c [1, 0, 1], .c [1, 1]] rfl ?_
    refine j_run it 2 rfl (by simp) ?_
    refine j_nf [.c [1, 0, 1], .c [1, 1]] rfl ?_
    refine j_if rfl rfl (fun h1 => by exfalso; omega) (fun h1 => ?_)
    refine j_nf [.o [1, 1, 0] 0, .c [1, 1, 1]] rfl ?_
    refine j_run it 1 rfl (by simp) ?_
    refine j_step rfl (x_call [0] rfl (S_codewrightref01_Trim) rfl ?_)
    rintro _ _ _ ⟨pa1, ca1, rfl, rfl, rfl⟩
    simp only [List.cons_append, List.nil_append]
    refine j_run it 1 rfl (by simp) ?_
    refine j_nf [.o [1, 1, 1, 0, 0] 0, .c [1, 1, 1, 0, 1], .c [1, 1, 1, 1]] rfl ?_
    refine j_run it 2 rfl (by simp) ?_
    refine j_nf [.c [1, 1, 1, 0, 1], .c [1, 1, 1, 1]] rfl ?_
    refine j_if rfl rfl (fun h2 => ?_) (fun h2 => by exfalso; omega)
    refine j_nf [.o [1, 1, 1, 0, 1, 0, 0] 0, .c [1, 1, 1, 0, 1, 0, 1], .c [1, 1, 1, 1]] rfl ?_
    refine j_step rfl (x_lit sl42 zo42e rfl rfl rfl rfl (by decide) (by decide) rfl fun b1 => ?_)
    refine j_run it 2 rfl (by simp) ?_
    refine j_nf [.c [1, 1, 1, 0, 1, 0, 1], .c [1, 1, 1, 1]] rfl ?_
    refine j_pub_made (n := 1) (kd := .u32) 4 [1] 0 rfl rfl (by simp [InR]) (by decide) (by decide) ?_
    refine j_giv [0] rfl rfl rfl ⟨_, _, by rw [hone]; rfl, by rw [hone]; rfl, rfl⟩
  by_cases h1 : val l ≤ 1
  · have hp : val l ^ n = val l := by
      rcases Nat.lt_or_ge (val l) 1 with h | h
      · rw [show val l = 0 by omega, Nat.zero_pow (by omega)]
      · rw [show val l = 1 by omega, Nat.one_pow]
    have hb1 : bitsL (trim l) ≤ 1 := by
      rw [ht, hbl]; exact blen_le (by omega)
    refine j_nf [.o [0] 0, .c [1]] rfl ?_
    refine j_run it 2 rfl (by simp) ?_
    refine j_nf [.o [1, 0, 0] 0, .c [1, 0, 1], .c [1, 1]] rfl ?_
    refine j_run it 2 rfl (by simp) ?_
    refine j_nf [.c [1, 0, 1], .c [1, 1]] rfl ?_
    refine j_if rfl rfl (fun h2 => by exfalso; omega) (fun h2 => ?_)
    refine j_nf [.o [1, 1, 0] 0, .c [1, 1, 1]] rfl ?_
    refine j_run it 1 rfl (by simp) ?_
    refine j_step rfl (x_call [0] rfl (S_codewrightref01_Trim) rfl ?_)
    rintro _ _ _ ⟨pa1, ca1, rfl, rfl, rfl⟩
    simp only [List.cons_append, List.nil_append]
    refine j_run it 1 rfl (by simp) ?_
    refine j_nf [.o [1, 1, 1, 0, 0] 0, .c [1, 1, 1, 0, 1], .c [1, 1, 1, 1]] rfl ?_
    refine j_run it 2 rfl (by simp) ?_
    refine j_nf [.c [1, 1, 1, 0, 1], .c [1, 1, 1, 1]] rfl ?_
    refine j_if rfl rfl (fun h3 => by exfalso; omega) (fun h3 => ?_)
    refine j_nf [.o [1, 1, 1, 1, 0, 0] 0, .c [1, 1, 1, 1, 0, 1], .c [1, 1, 1, 1, 1]] rfl ?_
    refine j_run it 1 rfl (by simp) ?_
    refine j_step rfl (x_call [0] rfl (S_codewrightref01_Bits) rfl ?_)
    rintro _ _ _ ⟨rfl, rfl, rfl⟩
    simp only [List.cons_append, List.nil_append]
    refine j_run it 1 rfl (by simp) ?_
    refine j_nf [.c [1, 1, 1, 1, 0, 1], .c [1, 1, 1, 1, 1]] rfl ?_
    refine j_if rfl rfl (fun h4 => ?_) (fun h4 => by exfalso; omega)
    refine j_nf [.o [1, 1, 1, 1, 0, 1, 0, 0] 0, .c [1, 1, 1, 1, 0, 1, 0, 1], .c [1, 1, 1, 1, 1]] rfl ?_
    refine j_run it 3 rfl (by simp) ?_
    refine j_nf [.c [1, 1, 1, 1, 0, 1, 0, 1], .c [1, 1, 1, 1, 1]] rfl ?_
    rw [ht]
    refine j_giv [0] rfl rfl rfl ⟨_, _, by rw [hp]; rfl, by rw [hp], rfl⟩
  have hb1 : 1 < bitsL (trim l) := by
    rw [ht, hbl]
    have h2 : blen (val l) ≠ 0 := fun h => by have := blen_eq_zero.1 h; omega
    have h3 : blen (val l) ≠ 1 := fun h => by have := blen_eq_one.1 h; omega
    omega
  have hW := pow_len hl (show n ≤ 4000 from hn)
  refine j_nf [.o [0] 0, .c [1]] rfl ?_
  refine j_run it 2 rfl (by simp) ?_
  refine j_nf [.o [1, 0, 0] 0, .c [1, 0, 1], .c [1, 1]] rfl ?_
  refine j_run it 2 rfl (by simp) ?_
  refine j_nf [.c [1, 0, 1], .c [1, 1]] rfl ?_
  refine j_if rfl rfl (fun h2 => by exfalso; omega) (fun h2 => ?_)
  refine j_nf [.o [1, 1, 0] 0, .c [1, 1, 1]] rfl ?_
  refine j_run it 1 rfl (by simp) ?_
  refine j_step rfl (x_call [0] rfl (S_codewrightref01_Trim) rfl ?_)
  rintro _ _ _ ⟨pa1, ca1, rfl, rfl, rfl⟩
  simp only [List.cons_append, List.nil_append]
  refine j_run it 1 rfl (by simp) ?_
  refine j_nf [.o [1, 1, 1, 0, 0] 0, .c [1, 1, 1, 0, 1], .c [1, 1, 1, 1]] rfl ?_
  refine j_run it 2 rfl (by simp) ?_
  refine j_nf [.c [1, 1, 1, 0, 1], .c [1, 1, 1, 1]] rfl ?_
  refine j_if rfl rfl (fun h3 => by exfalso; omega) (fun h3 => ?_)
  refine j_nf [.o [1, 1, 1, 1, 0, 0] 0, .c [1, 1, 1, 1, 0, 1], .c [1, 1, 1, 1, 1]] rfl ?_
  refine j_run it 1 rfl (by simp) ?_
  refine j_step rfl (x_call [0] rfl (S_codewrightref01_Bits) rfl ?_)
  rintro _ _ _ ⟨rfl, rfl, rfl⟩
  simp only [List.cons_append, List.nil_append]
  refine j_run it 1 rfl (by simp) ?_
  refine j_nf [.c [1, 1, 1, 1, 0, 1], .c [1, 1, 1, 1, 1]] rfl ?_
  refine j_if rfl rfl (fun h4 => by exfalso; omega) (fun h4 => ?_)
  refine j_nf [.o [1, 1, 1, 1, 1, 0, 0] 0, .c [1, 1, 1, 1, 1, 0, 1], .c [1, 1, 1, 1, 1, 1]] rfl ?_
  refine j_run it 2 rfl (by simp) ?_
  refine j_nf [.c [1, 1, 1, 1, 1, 0, 1], .c [1, 1, 1, 1, 1, 1]] rfl ?_
  refine j_if rfl rfl (fun h5 => by exfalso; omega) (fun h5 => ?_)
  refine j_nf [.o [1, 1, 1, 1, 1, 1, 0] 0, .c [1, 1, 1, 1, 1, 1, 1]] rfl ?_
  refine j_step rfl (x_lit sl42 zo42e rfl rfl rfl rfl (by decide) (by decide) rfl fun b1 => ?_)
  refine j_run it 1 rfl (by simp) ?_
  refine j_nf [.o [1, 1, 1, 1, 1, 1, 1, 0, 0] 0, .c [1, 1, 1, 1, 1, 1, 1, 0, 1], .c [1, 1, 1, 1, 1, 1, 1, 1]] rfl ?_
  refine j_run it 1 rfl (by simp) ?_
  refine j_nf [.c [1, 1, 1, 1, 1, 1, 1, 0, 1, 0], .blk 0, .c [1, 1, 1, 1, 1, 1, 1, 1]] rfl ?_
  rw [ht]
  refine j_pub_made (n := 1) (kd := .u32) 4 [1] 0 rfl rfl (by simp [InR]) (by decide) (by decide) ?_
  have e0 : n / 2 ^ 19 = 0 := Nat.div_eq_of_lt (by omega)
  have e1 : limbs (val l ^ (n / 2 ^ 19)) = [1] := by rw [e0]; exact hone
  have d19 : 2 ^ 19 / 2 = 262144 := by decide
  refine j_loopN (X := Nat × Option Addr × Nat) (fun x => [(0, .slice pa1 (limbs (val l)).length ca1), (1, .int .i64 n), (6, .slice x.2.1 (limbs (val l ^ (n / 2 ^ x.1))).length x.2.2), (7, .int .i64 ((2 ^ x.1 / 2 : Nat) : Int))])
    (fun _ => []) (fun x => [slF U32 x.2.1 (limbs (val l ^ (n / 2 ^ x.1))).length x.2.2 (limbs (val l ^ (n / 2 ^ x.1))), slF U32 pa1 (limbs (val l)).length ca1 (limbs (val l))])
    (fun x => x.1 ≤ 19) (fun x => x.1) (19, some ⟨b1, 0, none⟩, 1) [0, 1] rfl (Nat.le_refl _) (by simp only [e1, d19]; repeat (first | exact Fr.sub_nil _ | refine Fr.sub_cons rfl ?_)) rfl (by simp only [e1]; rfl) ?_
  rintro ⟨e, po, co⟩ he ih
  simp only at he ih ⊢
  cases e with
  | zero =>
    rw [show (2 : Nat) ^ 0 / 2 = 0 from rfl, show n / 2 ^ 0 = n by simp]
    refine j_nf [.o [1, 1, 1, 1, 1, 1, 1, 0, 1, 0, 0, 0, 0] 0, .c [1, 1, 1, 1, 1, 1, 1, 0, 1, 0, 0, 0, 1], .c [1, 1, 1, 1, 1, 1, 1, 0, 1, 0, 0, 1], .lp [1, 1, 1, 1, 1, 1, 1, 0, 1, 0, 0], .blk 0, .c [1, 1, 1, 1, 1, 1, 1, 1]] rfl ?_
    refine j_run it 2 rfl (by simp) ?_
    refine j_nf [.c [1, 1, 1, 1, 1, 1, 1, 0, 1, 0, 0, 0, 1], .c [1, 1, 1, 1, 1, 1, 1, 0, 1, 0, 0, 1], .lp [1, 1, 1, 1, 1, 1, 1, 0, 1, 0, 0], .blk 0, .c [1, 1, 1, 1, 1, 1, 1, 1]] rfl ?_
    refine j_if rfl rfl (fun h6 => by exfalso; omega) (fun h6 => ?_)
    refine j_nf [.o [1, 1, 1, 1, 1, 1, 1, 1, 0] 0, .c [1, 1, 1, 1, 1, 1, 1, 1, 1]] rfl ?_
    refine j_run it 3 rfl (by simp) ?_
    refine j_nf [.c [1, 1, 1, 1, 1, 1, 1, 1, 1]] rfl ?_
    refine j_giv [0] rfl rfl rfl ⟨_, _, rfl, rfl, rfl⟩
  | succ e =>
    have hd2 : 2 ^ (e + 1) = 2 * 2 ^ e := by rw [Nat.pow_succ, Nat.mul_comm]
    have hd1 : 2 ^ (e + 1) / 2 = 2 ^ e := by rw [hd2]; omega
    have hq : n / 2 ^ (e + 1) = n / 2 ^ e / 2 := by rw [Nat.div_div_eq_div_mul, Nat.mul_comm, hd2]
    have hpos : 0 < 2 ^ e := Nat.pow_pos (by decide)
    have hle : 2 ^ e ≤ 2 ^ 18 := Nat.pow_le_pow_right (by decide) (by omega)
    have hQn : n / 2 ^ e ≤ n := Nat.div_le_self _ _
    have ih := fun p => ih (e, p)
    simp only at ih
    rw [hd1, hq]
    generalize hd : 2 ^ e = d at hpos hle hQn ih ⊢
    generalize hQ : n / d = Q at hQn ih ⊢
    have hoo : val l ^ (Q / 2) * val l ^ (Q / 2) = val l ^ (2 * (Q / 2)) := by rw [← Nat.pow_add, Nat.two_mul]
    have lW : ∀ x, x ≤ n → (limbs (val l ^ x)).length ≤ 4001 := fun x hx => limbs_mono hW (Nat.pow_le_pow_right (by omega) hx)
    have l1 := lW (Q / 2) (by omega)
    have l2 := lW (2 * (Q / 2)) (by omega)
    have l3 := lW Q hQn
    have lv := limbs_two (show val l < 18446744073709551616 by omega)
    have lx1 : (limbs (val (limbs (val l ^ (Q / 2))) * val (limbs (val l ^ (Q / 2))))).length ≤ 4001 := by rw [val_limbs, hoo]; exact l2
    by_cases hodd : Q % 2 = 1
    · have hov : val l ^ (2 * (Q / 2)) * val l = val l ^ Q := by rw [← Nat.pow_succ]; congr 1; omega
      have lx2 : (limbs (val (limbs (val (limbs (val l ^ (Q / 2))) * val (limbs (val l ^ (Q / 2))))) * val (limbs (val l)))).length ≤ 4001 := by rw [val_limbs, val_limbs, val_limbs, hoo, hov]; exact l3
      have hoddI : ((n : Int) / d) % 2 = 1 := by rw [show ((n : Int) / d) = ((n / d : Nat) : Int) from rfl, hQ]; omega
      refine j_nf [.o [1, 1, 1, 1, 1, 1, 1, 0, 1, 0, 0, 0, 0] 0, .c [1, 1, 1, 1, 1, 1, 1, 0, 1, 0, 0, 0, 1], .c [1, 1, 1, 1, 1, 1, 1, 0, 1, 0, 0, 1], .lp [1, 1, 1, 1, 1, 1, 1, 0, 1, 0, 0], .blk 0, .c [1, 1, 1, 1, 1, 1, 1, 1]] rfl ?_
      refine j_run it 2 rfl (by simp) ?_
      refine j_nf [.c [1, 1, 1, 1, 1, 1, 1, 0, 1, 0, 0, 0, 1], .c [1, 1, 1, 1, 1, 1, 1, 0, 1, 0, 0, 1], .lp [1, 1, 1, 1, 1, 1, 1, 0, 1, 0, 0], .blk 0, .c [1, 1, 1, 1, 1, 1, 1, 1]] rfl ?_
      refine j_if rfl rfl (fun h6 => ?_) (fun h6 => by exfalso; omega)
      refine j_nf [.o [1, 1, 1, 1, 1, 1, 1, 0, 1, 0, 0, 1, 0, 0, 0] 0, .c [1, 1, 1, 1, 1, 1, 1, 0, 1, 0, 0, 1, 0, 0, 1], .blk 1, .c [1, 1, 1, 1, 1, 1, 1, 0, 1, 0, 0, 1, 1], .lp [1, 1, 1, 1, 1, 1, 1, 0, 1, 0, 0], .blk 0, .c [1, 1, 1, 1, 1, 1, 1, 1]] rfl ?_
      refine j_run it 2 rfl (by simp) ?_
      refine j_step rfl (x_call [0, 0] rfl (S_codewrightref01_Mul (by first | omega | exact side _ (by assumption) | assumption | rfl | (simp; done) | (simp; omega)) (by first | omega | exact side _ (by assumption) | assumption | rfl | (simp; done) | (simp; omega))) rfl ?_)
      rintro _ _ _ ⟨pa2, ca2, rfl, rfl, rfl⟩
      simp only [List.cons_append, List.nil_append]
      refine j_run it 1 rfl (by simp) ?_
      refine j_nf [.o [1, 1, 1, 1, 1, 1, 1, 0, 1, 0, 0, 1, 0, 0, 1, 0, 0] 0, .c [1, 1, 1, 1, 1, 1, 1, 0, 1, 0, 0, 1, 0, 0, 1, 0, 1], .c [1, 1, 1, 1, 1, 1, 1, 0, 1, 0, 0, 1, 0, 0, 1, 1], .blk 1, .c [1, 1, 1, 1, 1, 1, 1, 0, 1, 0, 0, 1, 1], .lp [1, 1, 1, 1, 1, 1, 1, 0, 1, 0, 0], .blk 0, .c [1, 1, 1, 1, 1, 1, 1, 1]] rfl ?_
      refine j_run it 5 rfl (by repeat' first | exact trivial | apply And.intro | omega) ?_
      refine j_nf [.c [1, 1, 1, 1, 1, 1, 1, 0, 1, 0, 0, 1, 0, 0, 1, 0, 1], .c [1, 1, 1, 1, 1, 1, 1, 0, 1, 0, 0, 1, 0, 0, 1, 1], .blk 1, .c [1, 1, 1, 1, 1, 1, 1, 0, 1, 0, 0, 1, 1], .lp [1, 1, 1, 1, 1, 1, 1, 0, 1, 0, 0], .blk 0, .c [1, 1, 1, 1, 1, 1, 1, 1]] rfl ?_
      refine j_if rfl rfl (fun h7 => ?_) (fun h7 => by exfalso; omega)
      refine j_nf [.o [1, 1, 1, 1, 1, 1, 1, 0, 1, 0, 0, 1, 0, 0, 1, 0, 1, 0] 0, .c [1, 1, 1, 1, 1, 1, 1, 0, 1, 0, 0, 1, 0, 0, 1, 1], .blk 1, .c [1, 1, 1, 1, 1, 1, 1, 0, 1, 0, 0, 1, 1], .lp [1, 1, 1, 1, 1, 1, 1, 0, 1, 0, 0], .blk 0, .c [1, 1, 1, 1, 1, 1, 1, 1]] rfl ?_
      refine j_run it 2 rfl (by simp) ?_
      refine j_step rfl (x_call [0, 2] rfl (S_codewrightref01_Mul (by first | omega | exact side _ (by assumption) | assumption | rfl | (simp; done) | (simp; omega)) (by first | omega | exact side _ (by assumption) | assumption | rfl | (simp; done) | (simp; omega))) rfl ?_)
      rintro _ _ _ ⟨pa3, ca3, rfl, rfl, rfl⟩
      simp only [List.cons_append, List.nil_append]
      refine j_run it 1 rfl (by simp) ?_
      refine j_nf [.o [1, 1, 1, 1, 1, 1, 1, 0, 1, 0, 0, 1, 0, 0, 1, 1, 0] 0, .c [1, 1, 1, 1, 1, 1, 1, 0, 1, 0, 0, 1, 0, 0, 1, 1, 1], .blk 1, .c [1, 1, 1, 1, 1, 1, 1, 0, 1, 0, 0, 1, 1], .lp [1, 1, 1, 1, 1, 1, 1, 0, 1, 0, 0], .blk 0, .c [1, 1, 1, 1, 1, 1, 1, 1]] rfl ?_
      refine j_run it 1 rfl (by simp) ?_
      refine j_step rfl (x_len sl42 rfl ?_)
      refine j_run it 1 rfl (by simp) ?_
      refine j_nf [.c [1, 1, 1, 1, 1, 1, 1, 0, 1, 0, 0, 1, 0, 0, 1, 1, 1], .blk 1, .c [1, 1, 1, 1, 1, 1, 1, 0, 1, 0, 0, 1, 1], .lp [1, 1, 1, 1, 1, 1, 1, 0, 1, 0, 0], .blk 0, .c [1, 1, 1, 1, 1, 1, 1, 1]] rfl ?_
      refine j_if rfl rfl (fun h8 => by exfalso; omega) (fun h8 => ?_)
      refine j_nf [.o [1, 1, 1, 1, 1, 1, 1, 0, 1, 0, 0, 1, 1] 0, .lp [1, 1, 1, 1, 1, 1, 1, 0, 1, 0, 0], .blk 0, .c [1, 1, 1, 1, 1, 1, 1, 1]] rfl ?_
      refine j_run it 3 rfl (by repeat' first | exact trivial | apply And.intro | omega) ?_
      refine j_nfn 1 [.lp [1, 1, 1, 1, 1, 1, 1, 0, 1, 0, 0], .blk 0, .c [1, 1, 1, 1, 1, 1, 1, 1]] rfl ?_
      simp only [val_limbs, hoo, hov]
      refine j_to [0, 3] (by repeat (first | exact Fr.sub_nil _ | refine Fr.sub_cons rfl ?_ | refine Fr.sub_consI rfl (by first | omega | (dsimp only; omega)) ?_ | refine Fr.sub_consS rfl (by first | omega | (dsimp only; omega)) (by first | omega | (dsimp only; omega)) ?_)) rfl rfl (ih (pa3, ca3) (by omega) (by omega))
    · have hoddI : ¬ ((n : Int) / d) % 2 = 1 := by rw [show ((n : Int) / d) = ((n / d : Nat) : Int) from rfl, hQ]; omega
      have hev : val l ^ (2 * (Q / 2)) = val l ^ Q := by congr 1; omega
      refine j_nf [.o [1, 1, 1, 1, 1, 1, 1, 0, 1, 0, 0, 0, 0] 0, .c [1, 1, 1, 1, 1, 1, 1, 0, 1, 0, 0, 0, 1], .c [1, 1, 1, 1, 1, 1, 1, 0, 1, 0, 0, 1], .lp [1, 1, 1, 1, 1, 1, 1, 0, 1, 0, 0], .blk 0, .c [1, 1, 1, 1, 1, 1, 1, 1]] rfl ?_
      refine j_run it 2 rfl (by simp) ?_
      refine j_nf [.c [1, 1, 1, 1, 1, 1, 1, 0, 1, 0, 0, 0, 1], .c [1, 1, 1, 1, 1, 1, 1, 0, 1, 0, 0, 1], .lp [1, 1, 1, 1, 1, 1, 1, 0, 1, 0, 0], .blk 0, .c [1, 1, 1, 1, 1, 1, 1, 1]] rfl ?_
      refine j_if rfl rfl (fun h6 => ?_) (fun h6 => by exfalso; omega)
      refine j_nf [.o [1, 1, 1, 1, 1, 1, 1, 0, 1, 0, 0, 1, 0, 0, 0] 0, .c [1, 1, 1, 1, 1, 1, 1, 0, 1, 0, 0, 1, 0, 0, 1], .blk 1, .c [1, 1, 1, 1, 1, 1, 1, 0, 1, 0, 0, 1, 1], .lp [1, 1, 1, 1, 1, 1, 1, 0, 1, 0, 0], .blk 0, .c [1, 1, 1, 1, 1, 1, 1, 1]] rfl ?_
      refine j_run it 2 rfl (by simp) ?_
      refine j_step rfl (x_call [0, 0] rfl (S_codewrightref01_Mul (by first | omega | exact side _ (by assumption) | assumption | rfl | (simp; done) | (simp; omega)) (by first | omega | exact side _ (by assumption) | assumption | rfl | (simp; done) | (simp; omega))) rfl ?_)
      rintro _ _ _ ⟨pa2, ca2, rfl, rfl, rfl⟩
      simp only [List.cons_append, List.nil_append]
      refine j_run it 1 rfl (by simp) ?_
      refine j_nf [.o [1, 1, 1, 1, 1, 1, 1, 0, 1, 0, 0, 1, 0, 0, 1, 0, 0] 0, .c [1, 1, 1, 1, 1, 1, 1, 0, 1, 0, 0, 1, 0, 0, 1, 0, 1], .c [1, 1, 1, 1, 1, 1, 1, 0, 1, 0, 0, 1, 0, 0, 1, 1], .blk 1, .c [1, 1, 1, 1, 1, 1, 1, 0, 1, 0, 0, 1, 1], .lp [1, 1, 1, 1, 1, 1, 1, 0, 1, 0, 0], .blk 0, .c [1, 1, 1, 1, 1, 1, 1, 1]] rfl ?_
      refine j_run it 5 rfl (by repeat' first | exact trivial | apply And.intro | omega) ?_
      refine j_nf [.c [1, 1, 1, 1, 1, 1, 1, 0, 1, 0, 0, 1, 0, 0, 1, 0, 1], .c [1, 1, 1, 1, 1, 1, 1, 0, 1, 0, 0, 1, 0, 0, 1, 1], .blk 1, .c [1, 1, 1, 1, 1, 1, 1, 0, 1, 0, 0, 1, 1], .lp [1, 1, 1, 1, 1, 1, 1, 0, 1, 0, 0], .blk 0, .c [1, 1, 1, 1, 1, 1, 1, 1]] rfl ?_
      refine j_if rfl rfl (fun h7 => by exfalso; omega) (fun h7 => ?_)
      refine j_nf [.o [1, 1, 1, 1, 1, 1, 1, 0, 1, 0, 0, 1, 0, 0, 1, 1, 0] 0, .c [1, 1, 1, 1, 1, 1, 1, 0, 1, 0, 0, 1, 0, 0, 1, 1, 1], .blk 1, .c [1, 1, 1, 1, 1, 1, 1, 0, 1, 0, 0, 1, 1], .lp [1, 1, 1, 1, 1, 1, 1, 0, 1, 0, 0], .blk 0, .c [1, 1, 1, 1, 1, 1, 1, 1]] rfl ?_
      refine j_run it 1 rfl (by simp) ?_
      refine j_step rfl (x_len sl42 rfl ?_)
      refine j_run it 1 rfl (by simp) ?_
      refine j_nf [.c [1, 1, 1, 1, 1, 1, 1, 0, 1, 0, 0, 1, 0, 0, 1, 1, 1], .blk 1, .c [1, 1, 1, 1, 1, 1, 1, 0, 1, 0, 0, 1, 1], .lp [1, 1, 1, 1, 1, 1, 1, 0, 1, 0, 0], .blk 0, .c [1, 1, 1, 1, 1, 1, 1, 1]] rfl ?_
      refine j_if rfl rfl (fun h8 => by exfalso; omega) (fun h8 => ?_)
      refine j_nf [.o [1, 1, 1, 1, 1, 1, 1, 0, 1, 0, 0, 1, 1] 0, .lp [1, 1, 1, 1, 1, 1, 1, 0, 1, 0, 0], .blk 0, .c [1, 1, 1, 1, 1, 1, 1, 1]] rfl ?_
      refine j_run it 3 rfl (by repeat' first | exact trivial | apply And.intro | omega) ?_
      refine j_nfn 1 [.lp [1, 1, 1, 1, 1, 1, 1, 0, 1, 0, 0], .blk 0, .c [1, 1, 1, 1, 1, 1, 1, 1]] rfl ?_
      simp only [val_limbs, hoo, hev]
      refine j_to [0, 2] (by repeat (first | exact Fr.sub_nil _ | refine Fr.sub_cons rfl ?_ | refine Fr.sub_consI rfl (by first | omega | (dsimp only; omega)) ?_ | refine Fr.sub_consS rfl (by first | omega | (dsimp only; omega)) (by first | omega | (dsimp only; omega)) ?_)) rfl rfl (ih (pa2, ca2) (by omega) (by omega))
end Go.Proofs.Ytkchmoahohopiaa

namespace Go.Proofs.Ytkchmoahohopiaa
open Go Go.Fw
set_option maxRecDepth 100000
set_option linter.unusedVariables false
set_option linter.unusedSimpArgs false
set_option maxHeartbeats 4000000
theorem S_codewrightref24_Krawtchouk {q n k x : Nat} (hq : 2 ≤ q) (hq2 : q ≤ 256) (hn : n ≤ 64) (hk : k ≤ n) (hx : x ≤ n) :
    Ctr Try.prog 65 [.int .i64 q, .int .i64 n, .int .i64 k, .int .i64 x] [] [] (RtV (rt ((kr ((q : Int) - 1) n k x : Int) : Rat))) := by
  refine Ctr_of_j' (F := F_codewrightref24_Krawtchouk) rfl fun C => ?_
  have hi0 : InR .i64 0 := by simp [InR]
  refine j_nf [.o [0] 0, .c [1]] rfl ?_
  refine j_step rfl (x_alloc zo44 fun b1 => ?_)
  refine j_nf [.o [1, 0] 0, .c [1, 1]] rfl ?_
  refine j_step rfl (x_call [] rfl (S_codewrightref02_Int (by first | omega | exact side _ (by assumption) | assumption | rfl | (simp; done) | (simp; omega))) rfl ?_)
  rintro _ _ _ ⟨pn1, cn1, pd1, cd1, rfl, rfl, rfl⟩
  simp only [List.cons_append, List.nil_append]
  refine j_step rfl (x_alloc zo44 fun b2 => ?_)
  refine j_step rfl (x_bst_all 0 rfl rfl rfl ld44 rfl rfl (by simp [Value.oneCell']) ?_)
  refine j_nf [.o [1, 1, 0, 0] 0, .c [1, 1, 0, 1], .c [1, 1, 1]] rfl ?_
  refine j_run it 1 rfl (by simp) ?_
  refine j_nf [.c [1, 1, 0, 1, 0], .blk 0, .c [1, 1, 1]] rfl ?_
  rw [show (((0 : Int) : Rat)) = ((sm 0 (krTerm q n k x) : Int) : Rat) from rfl]
  refine j_loopG (X := Nat × (Option Addr × Nat) × (Option Addr × Nat)) [0, 1, 2, 3, 8, 9] [] (fun y => [(10, .int .i64 y.1)])
    (fun y => [(some b2, 44, [.bool (rt ((sm y.1 (krTerm q n k x) : Int) : Rat)).1, .slice y.2.1.1 (rt ((sm y.1 (krTerm q n k x) : Int) : Rat)).2.1.length y.2.1.2, .slice y.2.2.1 (rt ((sm y.1 (krTerm q n k x) : Int) : Rat)).2.2.length y.2.2.2]), (some b1, 44, [.bool false, .slice none 0 0, .slice none 0 0])])
    (fun y => [slF U32 y.2.1.1 (rt ((sm y.1 (krTerm q n k x) : Int) : Rat)).2.1.length y.2.1.2 (rt ((sm y.1 (krTerm q n k x) : Int) : Rat)).2.1, slF U32 y.2.2.1 (rt ((sm y.1 (krTerm q n k x) : Int) : Rat)).2.2.length y.2.2.2 (rt ((sm y.1 (krTerm q n k x) : Int) : Rat)).2.2])
    (fun y => y.1 ≤ k + 1) (fun y => k + 1 - y.1) (0, (pn1, cn1), (pd1, cd1)) [0, 1] rfl rfl rfl (Nat.zero_le _) (by repeat (first | exact Fr.sub_nil _ | refine Fr.sub_cons rfl ?_)) rfl rfl ?_
  rintro ⟨j, ⟨pn, cn⟩, ⟨pd, cd⟩⟩ hj ih
  simp only [List.cons_append, List.nil_append] at hj ih ⊢
  by_cases hjl : j ≤ k
  · have hq1 : val (limbs (q - 1)) = q - 1 := val_limbs _
    have hq3 : val (limbs (q - 1)) < 4294967296 := by omega
    have hp := pow_len hq3 (show k - j ≤ 64 by omega)
    have hb1 := binom_len (show x ≤ 4096 by omega) j
    have hb2 := binom_len (show n - x ≤ 4096 by omega) (k - j)
    have hM : (limbs (val (limbs (binom x j)) * val (limbs (binom (n - x) (k - j))))).length ≤ 129 + 129 := by rw [val_limbs, val_limbs]; exact prod_lim hb1 hb2
    have eS : val (limbs (val (limbs (q - 1)) ^ (k - j))) * val (limbs (val (limbs (binom x j)) * val (limbs (binom (n - x) (k - j))))) = krSize q n k x j := by
      simp only [val_limbs, krSize]
    have hS : (limbs (krSize q n k x j)).length ≤ 23 := limbs_length_le (krSize_lt hq2 hn hk hx)
    have hR := rt_int_len (z := (krSize q n k x j : Int)) (m := 23) (by rw [Int.natAbs_natCast]; exact krSize_lt hq2 hn hk hx)
    have hT := rt_int_len (z := krTerm q n k x j) (m := 23) (by rw [krTerm_abs (by omega)]; exact krSize_lt hq2 hn hk hx)
    obtain ⟨hR1, hR2⟩ := hR
    obtain ⟨hT1, hT2⟩ := hT
    obtain ⟨hO1, hO2⟩ := rt_int_len (krPart_lt (by omega) hq2 hn hk hx (show j ≤ 65 by omega))
    have eA : ((sm j (krTerm q n k x) : Int) : Rat) + ((krTerm q n k x j : Int) : Rat) = ((sm (j + 1) (krTerm q n k x) : Int) : Rat) := by rw [sm, Rat.intCast_add]
    refine j_nf [.o [1, 1, 0, 1, 0, 0, 0, 0] 0, .c [1, 1, 0, 1, 0, 0, 0, 1], .c [1, 1, 0, 1, 0, 0, 1], .lp [1, 1, 0, 1, 0, 0], .blk 0, .c [1, 1, 1]] rfl ?_
    refine j_run it 3 rfl (by simp) ?_
    refine j_nf [.c [1, 1, 0, 1, 0, 0, 0, 1], .c [1, 1, 0, 1, 0, 0, 1], .lp [1, 1, 0, 1, 0, 0], .blk 0, .c [1, 1, 1]] rfl ?_
    refine j_if rfl rfl (fun h1 => ?_) (fun h1 => by exfalso; omega)
    refine j_nf [.o [1, 1, 0, 1, 0, 0, 1, 0, 0, 0] 0, .c [1, 1, 0, 1, 0, 0, 1, 0, 0, 1], .blk 1, .c [1, 1, 0, 1, 0, 0, 1, 1], .lp [1, 1, 0, 1, 0, 0], .blk 0, .c [1, 1, 1]] rfl ?_
    refine j_run it 3 rfl (by repeat' first | exact trivial | apply And.intro | omega) ?_
    refine j_recast (t := 23) ((((q) - 1) : Nat) : Int) rfl (by omega) ?_
    refine j_step rfl (x_call [] rfl (S_codewrightref01_Of (by first | omega | exact side _ (by assumption) | assumption | rfl | (simp; done) | (simp; omega))) rfl ?_)
    rintro _ _ _ ⟨pa1, ca1, rfl, rfl, rfl⟩
    simp only [List.cons_append, List.nil_append]
    refine j_run it 3 rfl (by repeat' first | exact trivial | apply And.intro | omega) ?_
    refine j_recast (t := 27) ((((k) - (j)) : Nat) : Int) rfl (by omega) ?_
    refine j_step rfl (x_call [0] rfl (S_codewrightref01_Pow (by first | omega | exact side _ (by assumption) | assumption | rfl | (simp; done) | (simp; omega)) (by first | omega | exact side _ (by assumption) | assumption | rfl | (simp; done) | (simp; omega))) rfl ?_)
    rintro _ _ _ ⟨pa2, ca2, rfl, rfl, rfl⟩
    simp only [List.cons_append, List.nil_append]
    refine j_run it 5 rfl (by simp) ?_
    refine j_nf [.o [1, 1, 0, 1, 0, 0, 1, 0, 0, 1, 0] 0, .c [1, 1, 0, 1, 0, 0, 1, 0, 0, 1, 1], .blk 1, .c [1, 1, 0, 1, 0, 0, 1, 1], .lp [1, 1, 0, 1, 0, 0], .blk 0, .c [1, 1, 1]] rfl ?_
    refine j_run it 3 rfl (by simp) ?_
    refine j_step rfl (x_call [] rfl (S_codewrightref01_Choose (by first | omega | exact side _ (by assumption) | assumption | rfl | (simp; done) | (simp; omega))) rfl ?_)
    rintro _ _ _ ⟨pa3, ca3, rfl, rfl, rfl⟩
    simp only [List.cons_append, List.nil_append]
    refine j_run it 6 rfl (by repeat' first | exact trivial | apply And.intro | omega) ?_
    refine j_recast (t := 37) ((((n) - (x)) : Nat) : Int) rfl (by omega) ?_
    refine j_recast (t := 40) ((((k) - (j)) : Nat) : Int) rfl (by omega) ?_
    refine j_step rfl (x_call [] rfl (S_codewrightref01_Choose (by first | omega | exact side _ (by assumption) | assumption | rfl | (simp; done) | (simp; omega))) rfl ?_)
    rintro _ _ _ ⟨pa4, ca4, rfl, rfl, rfl⟩
    simp only [List.cons_append, List.nil_append]
    refine j_step rfl (x_call [1, 0] rfl (S_codewrightref01_Mul (by first | omega | exact side _ (by assumption) | assumption | rfl | (simp; done) | (simp; omega)) (by first | omega | exact side _ (by assumption) | assumption | rfl | (simp; done) | (simp; omega))) rfl ?_)
    rintro _ _ _ ⟨pa5, ca5, rfl, rfl, rfl⟩
    simp only [List.cons_append, List.nil_append]
    refine j_step rfl (x_call [3, 0] rfl (S_codewrightref01_Mul (by first | omega | exact side _ (by assumption) | assumption | rfl | (simp; done) | (simp; omega)) (by first | omega | exact side _ (by assumption) | assumption | rfl | (simp; done) | (simp; omega))) rfl ?_)
    rintro _ _ _ ⟨pa6, ca6, rfl, rfl, rfl⟩
    simp only [List.cons_append, List.nil_append]
    rw [eS]
    have ho : j % 2 = 1 → -(((val (limbs (krSize q n k x j)) : Nat) : Int) : Rat) = ((krTerm q n k x j : Int) : Rat) := fun h => by rw [val_limbs, krTerm_odd (by omega) h, Rat.intCast_neg]
    have he : ¬ j % 2 = 1 → (((val (limbs (krSize q n k x j)) : Nat) : Int) : Rat) = ((krTerm q n k x j : Int) : Rat) := fun h => by rw [val_limbs, krTerm_even (by omega) h]
    rw [← val_limbs (krSize q n k x j)] at hR1 hR2
    refine j_step rfl (x_call [0] rfl (S_codewrightref02_Nat (by first | omega | exact side _ (by assumption) | assumption | rfl | (simp; done) | (simp; omega))) rfl ?_)
    rintro _ _ _ ⟨pn2, cn2, pd2, cd2, rfl, rfl, rfl⟩
    simp only [List.cons_append, List.nil_append]
    refine j_step rfl (x_alloc zo44 fun b3 => ?_)
    refine j_step rfl (x_bst_all 0 rfl rfl rfl ld44 rfl rfl (by simp [Value.oneCell']) ?_)
    refine j_nf [.o [1, 1, 0, 1, 0, 0, 1, 0, 0, 1, 1, 0, 0] 0, .c [1, 1, 0, 1, 0, 0, 1, 0, 0, 1, 1, 0, 1], .c [1, 1, 0, 1, 0, 0, 1, 0, 0, 1, 1, 1], .blk 1, .c [1, 1, 0, 1, 0, 0, 1, 1], .lp [1, 1, 0, 1, 0, 0], .blk 0, .c [1, 1, 1]] rfl ?_
    refine j_run it 3 rfl (by simp) ?_
    refine j_nf [.c [1, 1, 0, 1, 0, 0, 1, 0, 0, 1, 1, 0, 1], .c [1, 1, 0, 1, 0, 0, 1, 0, 0, 1, 1, 1], .blk 1, .c [1, 1, 0, 1, 0, 0, 1, 1], .lp [1, 1, 0, 1, 0, 0], .blk 0, .c [1, 1, 1]] rfl ?_
    refine j_if rfl rfl (fun h2 => ?_) (fun h2 => ?_)
    · refine j_nf [.o [1, 1, 0, 1, 0, 0, 1, 0, 0, 1, 1, 0, 1, 0] 0, .c [1, 1, 0, 1, 0, 0, 1, 0, 0, 1, 1, 1], .blk 1, .c [1, 1, 0, 1, 0, 0, 1, 1], .lp [1, 1, 0, 1, 0, 0], .blk 0, .c [1, 1, 1]] rfl ?_
      refine j_step rfl (x_bld_all 0 rfl rfl ld44 rfl ?_)
      refine j_step rfl (x_call [0, 1] rfl (S_codewrightref02_Neg (by first | omega | exact side _ (by assumption) | assumption | rfl | (simp; done) | (simp; omega)) (by first | omega | exact side _ (by assumption) | assumption | rfl | (simp; done) | (simp; omega))) rfl ?_)
      rintro _ _ _ ⟨pn3, cn3, pd3, cd3, rfl, rfl, rfl⟩
      simp only [List.cons_append, List.nil_append]
      simp only [vq_rt']
      refine j_step rfl (x_bst_all 0 rfl rfl rfl ld44 rfl rfl (by simp [Value.oneCell']) ?_)
      refine j_nf [.o [1, 1, 0, 1, 0, 0, 1, 0, 0, 1, 1, 1] 0, .blk 1, .c [1, 1, 0, 1, 0, 0, 1, 1], .lp [1, 1, 0, 1, 0, 0], .blk 0, .c [1, 1, 1]] rfl ?_
      refine j_step rfl (x_bld_all 1 rfl rfl ld44 rfl ?_)
      refine j_step rfl (x_bld_all 0 rfl rfl ld44 rfl ?_)
      rw [ho (by omega)]
      refine j_step rfl (x_call [10, 11, 0, 1] rfl (S_codewrightref02_Add (by first | omega | exact side _ (by assumption) | assumption | rfl | (simp; done) | (simp; omega)) (by first | omega | exact side _ (by assumption) | assumption | rfl | (simp; done) | (simp; omega)) (by first | omega | exact side _ (by assumption) | assumption | rfl | (simp; done) | (simp; omega)) (by first | omega | exact side _ (by assumption) | assumption | rfl | (simp; done) | (simp; omega))) rfl ?_)
      rintro _ _ _ ⟨pn4, cn4, pd4, cd4, rfl, rfl, rfl⟩
      simp only [List.cons_append, List.nil_append]
      simp only [vq_rt']
      refine j_step rfl (x_bst_all 1 rfl rfl rfl ld44 rfl rfl (by simp [Value.oneCell']) ?_)
      refine j_nf [.o [1, 1, 0, 1, 0, 0, 1, 1] 0, .lp [1, 1, 0, 1, 0, 0], .blk 0, .c [1, 1, 1]] rfl ?_
      refine j_run it 3 rfl (by repeat' first | exact trivial | apply And.intro | omega) ?_
      refine j_nfn 1 [.lp [1, 1, 0, 1, 0, 0], .blk 0, .c [1, 1, 1]] rfl ?_
      rw [eA]
      refine j_toM [false, true, true] [0, 1] (by repeat (first | exact Fr.sub_nil _ | refine Fr.sub_cons rfl ?_ | refine Fr.sub_consI rfl (by first | omega | (dsimp only; omega)) ?_ | refine Fr.sub_consS rfl (by first | omega | (dsimp only; omega)) (by first | omega | (dsimp only; omega)) ?_)) rfl rfl (ih (j + 1, (pn4, cn4), (pd4, cd4)) (by dsimp only; omega) (by dsimp only; omega))
    · refine j_nf [.o [1, 1, 0, 1, 0, 0, 1, 0, 0, 1, 1, 1] 0, .blk 1, .c [1, 1, 0, 1, 0, 0, 1, 1], .lp [1, 1, 0, 1, 0, 0], .blk 0, .c [1, 1, 1]] rfl ?_
      refine j_step rfl (x_bld_all 1 rfl rfl ld44 rfl ?_)
      refine j_step rfl (x_bld_all 0 rfl rfl ld44 rfl ?_)
      rw [he (by omega)]
      refine j_step rfl (x_call [8, 9, 0, 1] rfl (S_codewrightref02_Add (by first | omega | exact side _ (by assumption) | assumption | rfl | (simp; done) | (simp; omega)) (by first | omega | exact side _ (by assumption) | assumption | rfl | (simp; done) | (simp; omega)) (by first | omega | exact side _ (by assumption) | assumption | rfl | (simp; done) | (simp; omega)) (by first | omega | exact side _ (by assumption) | assumption | rfl | (simp; done) | (simp; omega))) rfl ?_)
      rintro _ _ _ ⟨pn3, cn3, pd3, cd3, rfl, rfl, rfl⟩
      simp only [List.cons_append, List.nil_append]
      simp only [vq_rt']
      refine j_step rfl (x_bst_all 1 rfl rfl rfl ld44 rfl rfl (by simp [Value.oneCell']) ?_)
      refine j_nf [.o [1, 1, 0, 1, 0, 0, 1, 1] 0, .lp [1, 1, 0, 1, 0, 0], .blk 0, .c [1, 1, 1]] rfl ?_
      refine j_run it 3 rfl (by repeat' first | exact trivial | apply And.intro | omega) ?_
      refine j_nfn 1 [.lp [1, 1, 0, 1, 0, 0], .blk 0, .c [1, 1, 1]] rfl ?_
      rw [eA]
      refine j_toM [false, true, true] [0, 1] (by repeat (first | exact Fr.sub_nil _ | refine Fr.sub_cons rfl ?_ | refine Fr.sub_consI rfl (by first | omega | (dsimp only; omega)) ?_ | refine Fr.sub_consS rfl (by first | omega | (dsimp only; omega)) (by first | omega | (dsimp only; omega)) ?_)) rfl rfl (ih (j + 1, (pn3, cn3), (pd3, cd3)) (by dsimp only; omega) (by dsimp only; omega))
  · obtain rfl : j = k + 1 := by omega
    refine j_nf [.o [1, 1, 0, 1, 0, 0, 0, 0] 0, .c [1, 1, 0, 1, 0, 0, 0, 1], .c [1, 1, 0, 1, 0, 0, 1], .lp [1, 1, 0, 1, 0, 0], .blk 0, .c [1, 1, 1]] rfl ?_
    refine j_run it 3 rfl (by simp) ?_
    refine j_nf [.c [1, 1, 0, 1, 0, 0, 0, 1], .c [1, 1, 0, 1, 0, 0, 1], .lp [1, 1, 0, 1, 0, 0], .blk 0, .c [1, 1, 1]] rfl ?_
    refine j_if rfl rfl (fun h1 => by exfalso; omega) (fun h1 => ?_)
    refine j_nf [.o [1, 1, 1, 0] 0, .c [1, 1, 1, 1]] rfl ?_
    refine j_step rfl (x_bld_all 0 rfl rfl ld44 rfl ?_)
    refine j_step rfl (x_bst_all 1 rfl rfl rfl ld44 rfl rfl (by simp [Value.oneCell']) ?_)
    refine j_nf [.c [1, 1, 1, 1]] rfl ?_
    rw [← krTerm_sum]
    refine j_givC [0, 1] rfl (.agg 1 rfl rfl ld44 rfl .nil) rfl ⟨_, _, _, _, rfl, rfl, rfl⟩
end Go.Proofs.Ytkchmoahohopiaa

namespace Go.Proofs.Ytkchmoahohopiaa
open Go Go.Fw
set_option maxRecDepth 100000
set_option linter.unusedVariables false
set_option linter.unusedSimpArgs false
set_option maxHeartbeats 4000000
theorem S_codewrightref24_Transform {q n K : Nat} {pa : Option Addr} {ca : Nat} {L : List Rt} (hq : 2 ≤ q) (hq2 : q ≤ 256) (hn : n ≤ 64) (hl : L.length = n + 1) (hK1 : 1 ≤ K) (hK : K ≤ 10000) (hL : ∀ r ∈ L, okR K r) :
    Ctr Try.prog 37 [.int .i64 q, .slice pa (n + 1) ca] [] [slF RatE pa (n + 1) ca L] (SvN RatE (n + 1) (trL q n L)) := by
  refine Ctr_of_j' (F := F_codewrightref24_Transform) rfl fun C => ?_
  have hg : ∀ i, i < n + 1 → okR K (L.getD i default) := fun i hi => hL _ (by rw [List.getD, List.getElem?_eq_getElem (by omega)]; exact List.getElem_mem _)
  have hb : ∀ i, i < n + 1 → bd K (qAt L i) := fun i hi => okR_bd (hg i hi) hK1
  have hm0 : InR .i64 0 := by simp [InR]
  refine j_nf [.o [0] 0, .c [1]] rfl ?_
  refine j_run it 1 rfl (by simp) ?_
  refine j_nf [.o [1, 0] 0, .c [1, 1]] rfl ?_
  refine j_run it 1 rfl (by simp) ?_
  refine j_nf [.o [1, 1, 0, 0] 0, .c [1, 1, 0, 1], .c [1, 1, 1]] rfl ?_
  refine j_run it 1 rfl (by simp) ?_
  refine j_nf [.c [1, 1, 0, 1, 0], .blk 0, .c [1, 1, 1]] rfl ?_
  refine j_row0 RatE 44 ?_
  refine j_loopG (X := Nat × Row) [0, 1, 4] [1] (fun x => [(6, .int .i64 x.1), (5, .slice (ad x.2.bo) x.1 x.2.cap)])
    (fun x => [(x.2.bo, 44, x.2.cs)])
    (fun x => [rowF RatE x.2 x.1 ((List.range x.1).map fun j => rt (trP L (fun i => kr ((q : Int) - 1) n j i) (n + 1)))])
    (fun x => x.1 ≤ n + 1) (fun x => n + 1 - x.1) (0, ⟨none, 0, []⟩) [0] rfl rfl rfl (Nat.zero_le _) (by repeat (first | exact Fr.sub_nil _ | refine Fr.sub_cons rfl ?_)) rfl rfl ?_
  rintro ⟨j, r⟩ hj ih
  simp only [List.cons_append, List.nil_append] at hj ih ⊢
  by_cases hjl : j < n + 1
  · refine j_nf [.o [1, 1, 0, 1, 0, 0, 0, 0] 0, .c [1, 1, 0, 1, 0, 0, 0, 1], .c [1, 1, 0, 1, 0, 0, 1], .lp [1, 1, 0, 1, 0, 0], .blk 0, .c [1, 1, 1]] rfl ?_
    refine j_run it 2 rfl (by simp) ?_
    refine j_step rfl (x_len sl31 rfl ?_)
    refine j_run it 1 rfl (by simp) ?_
    refine j_nf [.c [1, 1, 0, 1, 0, 0, 0, 1], .c [1, 1, 0, 1, 0, 0, 1], .lp [1, 1, 0, 1, 0, 0], .blk 0, .c [1, 1, 1]] rfl ?_
    refine j_if rfl rfl (fun h1 => ?_) (fun h1 => by exfalso; omega)
    refine j_nf [.o [1, 1, 0, 1, 0, 0, 1, 0, 0, 0] 0, .c [1, 1, 0, 1, 0, 0, 1, 0, 0, 1], .blk 1, .c [1, 1, 0, 1, 0, 0, 1, 1], .lp [1, 1, 0, 1, 0, 0], .blk 0, .c [1, 1, 1]] rfl ?_
    refine j_step rfl (x_call [] rfl (S_codewrightref02_Int (by first | omega | exact side _ (by assumption) | assumption | rfl | (simp; done) | (simp; omega))) rfl ?_)
    rintro _ _ _ ⟨pn1, cn1, pd1, cd1, rfl, rfl, rfl⟩
    simp only [List.cons_append, List.nil_append]
    refine j_step rfl (x_alloc zo44 fun b1 => ?_)
    refine j_step rfl (x_bst_all 0 rfl rfl rfl ld44 rfl rfl (by simp [Value.oneCell']) ?_)
    refine j_nf [.o [1, 1, 0, 1, 0, 0, 1, 0, 0, 1, 0, 0] 0, .c [1, 1, 0, 1, 0, 0, 1, 0, 0, 1, 0, 1], .c [1, 1, 0, 1, 0, 0, 1, 0, 0, 1, 1], .blk 1, .c [1, 1, 0, 1, 0, 0, 1, 1], .lp [1, 1, 0, 1, 0, 0], .blk 0, .c [1, 1, 1]] rfl ?_
    refine j_run it 1 rfl (by simp) ?_
    refine j_nf [.c [1, 1, 0, 1, 0, 0, 1, 0, 0, 1, 0, 1, 0], .blk 2, .c [1, 1, 0, 1, 0, 0, 1, 0, 0, 1, 1], .blk 1, .c [1, 1, 0, 1, 0, 0, 1, 1], .lp [1, 1, 0, 1, 0, 0], .blk 0, .c [1, 1, 1]] rfl ?_
    rw [show (((0 : Int) : Rat)) = trP L (fun i => kr ((q : Int) - 1) n j i) 0 from rfl]
    refine j_loopG (X := Nat × (Option Addr × Nat) × (Option Addr × Nat)) [0, 1, 4, 5, 6, 7, 9, 10, 11, 12, 15] [2, 3] (fun y => [(8, .int .i64 y.1)])
      (fun y => [(some b1, 44, [.bool (rt (trP L (fun i => kr ((q : Int) - 1) n j i) y.1)).1, .slice y.2.1.1 (rt (trP L (fun i => kr ((q : Int) - 1) n j i) y.1)).2.1.length y.2.1.2, .slice y.2.2.1 (rt (trP L (fun i => kr ((q : Int) - 1) n j i) y.1)).2.2.length y.2.2.2]), (r.bo, 44, r.cs)])
      (fun y => [slF U32 y.2.1.1 (rt (trP L (fun i => kr ((q : Int) - 1) n j i) y.1)).2.1.length y.2.1.2 (rt (trP L (fun i => kr ((q : Int) - 1) n j i) y.1)).2.1, slF U32 y.2.2.1 (rt (trP L (fun i => kr ((q : Int) - 1) n j i) y.1)).2.2.length y.2.2.2 (rt (trP L (fun i => kr ((q : Int) - 1) n j i) y.1)).2.2])
      (fun y => y.1 ≤ n + 1) (fun y => n + 1 - y.1) (0, (pn1, cn1), (pd1, cd1)) [0, 1] rfl rfl rfl (Nat.zero_le _) (by repeat (first | exact Fr.sub_nil _ | refine Fr.sub_cons rfl ?_)) rfl rfl ?_
    rintro ⟨i, ⟨pn, cn⟩, ⟨pd, cd⟩⟩ hi ihi
    simp only [List.cons_append, List.nil_append] at hi ihi ⊢
    by_cases hil : i < n + 1
    · have hKi : (K + 18) * i ≤ (10000 + 18) * 65 := Nat.mul_le_mul (by omega) (by omega)
      obtain ⟨l1, l2⟩ := bd_len (trP_bd (j := j) hq hq2 hn (fun i hi => hb i (by omega)) i hi)
      obtain ⟨l3, l4⟩ := rt_int_len (kr_lt hq hq2 hn (show i ≤ n by omega) (k := j))
      have bk : bd 17 (((kr ((q : Int) - 1) n j i : Int)) : Rat) := by
        refine ⟨by rw [Rat.num_intCast]; exact kr_lt hq hq2 hn (by omega), ?_⟩
        rw [Rat.den_intCast]
        exact Nat.one_lt_pow (by decide) (by decide)
      have hbm : (rt (vq ((L.getD i default).1, (L.getD i default).2.1, (L.getD i default).2.2) * ((kr ((q : Int) - 1) n j i : Int) : Rat))).2.1.length ≤ K + 17 ∧ (rt (vq ((L.getD i default).1, (L.getD i default).2.1, (L.getD i default).2.2) * ((kr ((q : Int) - 1) n j i : Int) : Rat))).2.2.length ≤ K + 17 := bd_len (bd_mul (hb i hil) bk (by omega))
      obtain ⟨l5, l6⟩ := hbm
      obtain ⟨_, _, l7, l8⟩ := hg i hil
      have eA : trP L (fun i => kr ((q : Int) - 1) n j i) i + vq ((L.getD i default).1, (L.getD i default).2.1, (L.getD i default).2.2) * ((kr ((q : Int) - 1) n j i : Int) : Rat) = trP L (fun i => kr ((q : Int) - 1) n j i) (i + 1) := rfl
      refine j_nf [.o [1, 1, 0, 1, 0, 0, 1, 0, 0, 1, 0, 1, 0, 0, 0, 0] 0, .c [1, 1, 0, 1, 0, 0, 1, 0, 0, 1, 0, 1, 0, 0, 0, 1], .c [1, 1, 0, 1, 0, 0, 1, 0, 0, 1, 0, 1, 0, 0, 1], .lp [1, 1, 0, 1, 0, 0, 1, 0, 0, 1, 0, 1, 0, 0], .blk 2, .c [1, 1, 0, 1, 0, 0, 1, 0, 0, 1, 1], .blk 1, .c [1, 1, 0, 1, 0, 0, 1, 1], .lp [1, 1, 0, 1, 0, 0], .blk 0, .c [1, 1, 1]] rfl ?_
      refine j_run it 2 rfl (by simp) ?_
      refine j_step rfl (x_len sl31 rfl ?_)
      refine j_run it 1 rfl (by simp) ?_
      refine j_nf [.c [1, 1, 0, 1, 0, 0, 1, 0, 0, 1, 0, 1, 0, 0, 0, 1], .c [1, 1, 0, 1, 0, 0, 1, 0, 0, 1, 0, 1, 0, 0, 1], .lp [1, 1, 0, 1, 0, 0, 1, 0, 0, 1, 0, 1, 0, 0], .blk 2, .c [1, 1, 0, 1, 0, 0, 1, 0, 0, 1, 1], .blk 1, .c [1, 1, 0, 1, 0, 0, 1, 1], .lp [1, 1, 0, 1, 0, 0], .blk 0, .c [1, 1, 1]] rfl ?_
      refine j_if rfl rfl (fun h2 => ?_) (fun h2 => by exfalso; omega)
      refine j_nf [.c [1, 1, 0, 1, 0, 0, 1, 0, 0, 1, 0, 1, 0, 0, 1, 0, 0], .blk 3, .c [1, 1, 0, 1, 0, 0, 1, 0, 0, 1, 0, 1, 0, 0, 1, 1], .lp [1, 1, 0, 1, 0, 0, 1, 0, 0, 1, 0, 1, 0, 0], .blk 2, .c [1, 1, 0, 1, 0, 0, 1, 0, 0, 1, 1], .blk 1, .c [1, 1, 0, 1, 0, 0, 1, 1], .lp [1, 1, 0, 1, 0, 0], .blk 0, .c [1, 1, 1]] rfl ?_
      (apply j_drawK it mx 14; (· rfl); (· rfl))
      (apply lxk_eq; (· rfl); (· exact d_bld_all 0 rfl rfl ld44 rfl))
      (apply lxk_run 2; (· rfl); (· simp))
      (apply lxk_pt; (· rfl); (· exact d_x fun _ => x_idx 3 (i) rfl rfl rfl sl31 rfl (by omega) fun z1 hz1 b2 o1 => (dk_ptD default hz1 0 rfl)); intro b2 o1)
      (apply lxk_rq; (· rfl); (· exact d_x fun _ => x_ld_rt 0 rfl rfl ld44 fun pa1 ca1 pa2 ca2 => (dk_rq 0 1 rfl rfl)); intro pn2 cn2 pd2 cd2)
      (apply lxk_run 2; (· rfl); (· simp))
      (apply lxk_eq; (· rfl); (· exact d_x fun _ => x_len sl31 rfl dk_eq))
      (apply lxk_eq (v := Value.int IntKind.i64 ((((n + 1) - 1 : Nat)) : Int)); (· rfl); (· exact d_x fun _ => x_asN it _ rfl (by repeat' first | exact trivial | apply And.intro | omega) (by omega) dk_eq))
      simp only [Nat.add_sub_cancel]
      (apply lxk_run 2; (· rfl); (· simp))
      (apply lxk_rq; (· rfl); (· exact d_x fun _ => x_call [] rfl (S_codewrightref24_Krawtchouk (by first | omega | exact side _ (by assumption) | assumption | rfl | (simp; done) | (simp; omega)) (by first | omega | exact side _ (by assumption) | assumption | rfl | (simp; done) | (simp; omega)) (by first | omega | exact side _ (by assumption) | assumption | rfl | (simp; done) | (simp; omega)) (by first | omega | exact side _ (by assumption) | assumption | rfl | (simp; done) | (simp; omega)) (by first | omega | exact side _ (by assumption) | assumption | rfl | (simp; done) | (simp; omega))) rfl (by rintro _ _ _ ⟨pn3, cn3, pd3, cd3, rfl, rfl, rfl⟩; exact (dk_rq 0 1 rfl rfl))); intro pn3 cn3 pd3 cd3)
      (apply lxk_rq; (· rfl); (· exact d_x fun _ => x_call [2, 3, 0, 1] rfl (S_codewrightref02_Mul (by first | omega | exact side _ (by assumption) | assumption | rfl | (simp; done) | (simp; omega)) (by first | omega | exact side _ (by assumption) | assumption | rfl | (simp; done) | (simp; omega)) (by first | omega | exact side _ (by assumption) | assumption | rfl | (simp; done) | (simp; omega)) (by first | omega | exact side _ (by assumption) | assumption | rfl | (simp; done) | (simp; omega))) rfl (by rintro _ _ _ ⟨pn4, cn4, pd4, cd4, rfl, rfl, rfl⟩; exact (dk_rq 0 1 rfl rfl))); intro pn4 cn4 pd4 cd4)
      simp only [vq_rt']
      (apply lxk_rq; (· rfl); (· exact d_x fun _ => x_call [7, 8, 0, 1] rfl (S_codewrightref02_Add (by first | omega | exact side _ (by assumption) | assumption | rfl | (simp; done) | (simp; omega)) (by first | omega | exact side _ (by assumption) | assumption | rfl | (simp; done) | (simp; omega)) (by first | omega | exact side _ (by assumption) | assumption | rfl | (simp; done) | (simp; omega)) (by first | omega | exact side _ (by assumption) | assumption | rfl | (simp; done) | (simp; omega))) rfl (by rintro _ _ _ ⟨pn5, cn5, pd5, cd5, rfl, rfl, rfl⟩; exact (dk_rq 0 1 rfl rfl))); intro pn5 cn5 pd5 cd5)
      simp only [vq_rt']
      refine lxk_end rfl ?_
      simp only [List.map_cons, List.map_nil, List.cons_append, List.nil_append]
      refine j_step rfl (x_bst_all 0 rfl rfl rfl ld44 rfl rfl (by simp [Value.oneCell']) ?_)
      refine j_nf [.o [1, 1, 0, 1, 0, 0, 1, 0, 0, 1, 0, 1, 0, 0, 1, 1] 0, .lp [1, 1, 0, 1, 0, 0, 1, 0, 0, 1, 0, 1, 0, 0], .blk 2, .c [1, 1, 0, 1, 0, 0, 1, 0, 0, 1, 1], .blk 1, .c [1, 1, 0, 1, 0, 0, 1, 1], .lp [1, 1, 0, 1, 0, 0], .blk 0, .c [1, 1, 1]] rfl ?_
      refine j_run it 3 rfl (by repeat' first | exact trivial | apply And.intro | omega) ?_
      refine j_nfn 1 [.lp [1, 1, 0, 1, 0, 0, 1, 0, 0, 1, 0, 1, 0, 0], .blk 2, .c [1, 1, 0, 1, 0, 0, 1, 0, 0, 1, 1], .blk 1, .c [1, 1, 0, 1, 0, 0, 1, 1], .lp [1, 1, 0, 1, 0, 0], .blk 0, .c [1, 1, 1]] rfl ?_
      rw [eA]
      refine j_to [0, 1, 11, 12] (by repeat (first | exact Fr.sub_nil _ | refine Fr.sub_cons rfl ?_ | refine Fr.sub_consI rfl (by first | omega | (dsimp only; omega)) ?_ | refine Fr.sub_consS rfl (by first | omega | (dsimp only; omega)) (by first | omega | (dsimp only; omega)) ?_)) rfl rfl (ihi (i + 1, (pn5, cn5), (pd5, cd5)) (by dsimp only; omega) (by dsimp only; omega))
    · obtain rfl : n + 1 = i := by omega
      refine j_nf [.o [1, 1, 0, 1, 0, 0, 1, 0, 0, 1, 0, 1, 0, 0, 0, 0] 0, .c [1, 1, 0, 1, 0, 0, 1, 0, 0, 1, 0, 1, 0, 0, 0, 1], .c [1, 1, 0, 1, 0, 0, 1, 0, 0, 1, 0, 1, 0, 0, 1], .lp [1, 1, 0, 1, 0, 0, 1, 0, 0, 1, 0, 1, 0, 0], .blk 2, .c [1, 1, 0, 1, 0, 0, 1, 0, 0, 1, 1], .blk 1, .c [1, 1, 0, 1, 0, 0, 1, 1], .lp [1, 1, 0, 1, 0, 0], .blk 0, .c [1, 1, 1]] rfl ?_
      refine j_run it 2 rfl (by simp) ?_
      refine j_step rfl (x_len sl31 rfl ?_)
      refine j_run it 1 rfl (by simp) ?_
      refine j_nf [.c [1, 1, 0, 1, 0, 0, 1, 0, 0, 1, 0, 1, 0, 0, 0, 1], .c [1, 1, 0, 1, 0, 0, 1, 0, 0, 1, 0, 1, 0, 0, 1], .lp [1, 1, 0, 1, 0, 0, 1, 0, 0, 1, 0, 1, 0, 0], .blk 2, .c [1, 1, 0, 1, 0, 0, 1, 0, 0, 1, 1], .blk 1, .c [1, 1, 0, 1, 0, 0, 1, 1], .lp [1, 1, 0, 1, 0, 0], .blk 0, .c [1, 1, 1]] rfl ?_
      refine j_if rfl rfl (fun h2 => by exfalso; omega) (fun h2 => ?_)
      refine j_nf [.o [1, 1, 0, 1, 0, 0, 1, 0, 0, 1, 1] 0, .blk 1, .c [1, 1, 0, 1, 0, 0, 1, 1], .lp [1, 1, 0, 1, 0, 0], .blk 0, .c [1, 1, 1]] rfl ?_
      refine j_run it 1 rfl (by simp) ?_
      refine j_step rfl (x_bld_all 0 rfl rfl ld44 rfl ?_)
      refine j_step rfl (x_lit sl31 zo31e rfl rfl rfl rfl (by decide) (by decide) rfl fun b2 => ?_)
      refine j_step rfl (x_appR (z := ((rt (trP L (fun i => kr (↑q - 1) n j i) (n + 1))).fst, ((rt (trP L (fun i => kr (↑q - 1) n j i) (n + 1))).snd.fst, (rt (trP L (fun i => kr (↑q - 1) n j i) (n + 1))).snd.snd))) 2 0 2 rfl rfl rfl rfl rfl sl31 zo31e rfl (fun w A hG => (rd_pair (v1 := [Value.bool (rt (trP L (fun i => kr (↑q - 1) n j i) (n + 1))).fst]) (rd_bool _) (rd_pair (v1 := [Value.slice pn (rt (trP L (fun i => kr (↑q - 1) n j i) (n + 1))).snd.fst.length cn]) (rd_of_slF (hG _ (fact_mem (n := 0) rfl))) (rd_of_slF (hG _ (fact_mem (n := 1) rfl)))))) (by omega) _ by31e (by omega) fun r1 => ?_)
      refine j_run it 1 rfl (by simp) ?_
      refine j_nf [.o [1, 1, 0, 1, 0, 0, 1, 1] 0, .lp [1, 1, 0, 1, 0, 0], .blk 0, .c [1, 1, 1]] rfl ?_
      refine j_run it 3 rfl (by repeat' first | exact trivial | apply And.intro | omega) ?_
      refine j_nfn 1 [.lp [1, 1, 0, 1, 0, 0], .blk 0, .c [1, 1, 1]] rfl ?_
      rw [show ((rt (trP L (fun i => kr ((q : Int) - 1) n j i) (n + 1))).1, (rt (trP L (fun i => kr ((q : Int) - 1) n j i) (n + 1))).2.1, (rt (trP L (fun i => kr ((q : Int) - 1) n j i) (n + 1))).2.2) = rt (trP L (fun i => kr ((q : Int) - 1) n j i) (n + 1)) from rfl, ← range_snoc fun j => rt (trP L (fun i => kr ((q : Int) - 1) n j i) (n + 1))]
      refine j_toM [true, false, false] [0, 4] (by repeat (first | exact Fr.sub_nil _ | refine Fr.sub_cons rfl ?_ | refine Fr.sub_consI rfl (by first | omega | (dsimp only; omega)) ?_ | refine Fr.sub_consS rfl (by first | omega | (dsimp only; omega)) (by first | omega | (dsimp only; omega)) ?_)) rfl rfl (ih (j + 1, r1) (by dsimp only; omega) (by dsimp only; omega))
  · obtain rfl : n + 1 = j := by omega
    refine j_nf [.o [1, 1, 0, 1, 0, 0, 0, 0] 0, .c [1, 1, 0, 1, 0, 0, 0, 1], .c [1, 1, 0, 1, 0, 0, 1], .lp [1, 1, 0, 1, 0, 0], .blk 0, .c [1, 1, 1]] rfl ?_
    refine j_run it 2 rfl (by simp) ?_
    refine j_step rfl (x_len sl31 rfl ?_)
    refine j_run it 1 rfl (by simp) ?_
    refine j_nf [.c [1, 1, 0, 1, 0, 0, 0, 1], .c [1, 1, 0, 1, 0, 0, 1], .lp [1, 1, 0, 1, 0, 0], .blk 0, .c [1, 1, 1]] rfl ?_
    refine j_if rfl rfl (fun h1 => by exfalso; omega) (fun h1 => ?_)
    refine j_nf [.o [1, 1, 1, 0] 0, .c [1, 1, 1, 1]] rfl ?_
    refine j_run it 2 rfl (by simp) ?_
    refine j_nf [.c [1, 1, 1, 1]] rfl ?_
    refine j_pubR 0 0 rfl rfl (by show (n + 1) * 56 ≤ 140737488355328; omega) ?_
    refine j_giv [0] rfl rfl rfl ⟨_, _, rfl, rfl, rfl⟩

/-- How long the parts of fractions can be. -/
theorem rts_len {P : Program} {F : Fun P} {C : Cx} {S : List It} {σ : Fr} {β : List Blk} {Γ : List Fact} {R : Value → World → Prop} {pa : Option Addr} {n ca : Nat} {ls : List Rt} (k : Nat) (hk : nth Γ k = some (slF RatE pa n ca ls))
    (h : (∀ r ∈ ls, r.2.1.length ≤ 35184372088832 ∧ r.2.2.length ≤ 35184372088832) → J F C S σ β Γ R) : J F C S σ β Γ R :=
  j_know (fun w A hG r hr => by
    obtain ⟨_, _, _, hs⟩ := hG _ (fact_mem hk)
    rcases hs with rfl | ⟨b, o, _, _, hel⟩
    · cases hr
    · obtain ⟨i, hi⟩ := List.getElem?_of_mem hr
      obtain ⟨vs, _, hrd⟩ := hel i r hi
      obtain ⟨_, _, _, _, _, h1, h2⟩ := rt_open hrd
      have e1 : r.2.1.length * 4 ≤ 140737488355328 := h1.2.1
      have e2 : r.2.2.length * 4 ≤ 140737488355328 := h2.2.1
      omega) h

/-- A number with more limbs in both parts. -/
def largeB (m : Nat) (L : List Rt) : Bool := L.any fun r => decide (m < r.2.1.length + r.2.2.length)
end Go.Proofs.Ytkchmoahohopiaa

namespace Go.Proofs.Ytkchmoahohopiaa
open Go Go.Fw
set_option maxRecDepth 100000
set_option linter.unusedVariables false
set_option linter.unusedSimpArgs false
set_option maxHeartbeats 4000000
/-- A whole number of at least 0, or not. -/
def whR (v : Rat) : List Nat := if ¬ v.num < 0 ∧ v.den = 1 then limbs v.num.natAbs else []
def whB (v : Rat) : Bool := decide (¬ v.num < 0 ∧ v.den = 1)
theorem S_codewrightref02_Whole {neg : Bool} {pn pd : Option Addr} {n m cn cd : Nat} {N D : List Nat} (hN : N.length ≤ 1073741824) (hD : D.length ≤ 1073741824) :
    Ctr Try.prog 38 [.agg #[.bool neg, .slice pn n cn, .slice pd m cd]] [] [slF U32 pn n cn N, slF U32 pd m cd D] (fun v Φ β => ∃ pa ca, v = .tuple #[.slice pa (whR (vq (neg, N, D))).length ca, .bool (whB (vq (neg, N, D)))] ∧ Φ = [slF U32 pa (whR (vq (neg, N, D))).length ca (whR (vq (neg, N, D)))] ∧ β = []) := by
  refine Ctr_of_j' (F := F_codewrightref02_Whole) rfl fun C => ?_
  have en := neg_rt (vq (neg, N, D))
  by_cases h1 : (vq (neg, N, D)).num < 0
  · rw [decide_eq_true h1] at en
    have hw : ¬ (¬ (vq (neg, N, D)).num < 0 ∧ (vq (neg, N, D)).den = 1) := fun h => h.1 h1
    rw [whR, whB, if_neg hw, decide_eq_false hw]
    refine j_nf [.o [0] 0, .c [1]] rfl ?_
    refine j_step rfl (x_box_agg rfl fun b1 => ?_)
    refine j_run it 2 rfl (by simp) ?_
    refine j_nf [.o [1, 0] 0, .c [1, 1]] rfl ?_
    refine j_step rfl (x_bld_all 0 rfl rfl ld44 rfl ?_)
    refine j_step rfl (x_call [0, 1] rfl (S_codewrightref02_Trim (by first | omega | exact side _ (by assumption) | assumption | rfl | (simp; done) | (simp; omega)) (by first | omega | exact side _ (by assumption) | assumption | rfl | (simp; done) | (simp; omega))) rfl ?_)
    rintro _ _ _ ⟨pn1, cn1, pd1, cd1, rfl, rfl, rfl⟩
    simp only [List.cons_append, List.nil_append]
    rw [en]
    refine j_step rfl (x_bst_all 0 rfl rfl rfl ld44 rfl rfl (by simp [Value.oneCell']) ?_)
    refine j_nf [.o [1, 1, 0, 0] 0, .c [1, 1, 0, 1], .c [1, 1, 1]] rfl ?_
    refine j_step rfl (x_field rfl fd44_0 ?_)
    refine j_step rfl (x_bld 0 rfl rfl ld4 rfl ?_)
    refine j_run it 7 rfl (by simp) ?_
    refine j_nf [.c [1, 1, 0, 1], .c [1, 1, 1]] rfl ?_
    refine j_true rfl rfl ?_
    refine j_nf [.o [1, 1, 0, 1, 0, 0] 0, .c [1, 1, 0, 1, 0, 1], .c [1, 1, 1]] rfl ?_
    refine j_run it 2 rfl (by simp) ?_
    refine j_nf [.c [1, 1, 0, 1, 0, 1], .c [1, 1, 1]] rfl ?_
    refine j_add (slF U32 none 0 0 []) (fun w A _ => slF_nil _ _ _ _ _) ?_
    refine j_giv [0] rfl rfl rfl ⟨_, _, rfl, rfl, rfl⟩
  · rw [decide_eq_false h1] at en
    by_cases h2 : (vq (neg, N, D)).den = 1
    · have hw : ¬ (vq (neg, N, D)).num < 0 ∧ (vq (neg, N, D)).den = 1 := ⟨h1, h2⟩
      have e2 : (rt (vq (neg, N, D))).2.2 = [1] := by
        rw [← limbs_one, ← h2]; rfl
      rw [whR, whB, if_pos hw, decide_eq_true hw]
      refine j_nf [.o [0] 0, .c [1]] rfl ?_
      refine j_step rfl (x_box_agg rfl fun b1 => ?_)
      refine j_run it 2 rfl (by simp) ?_
      refine j_nf [.o [1, 0] 0, .c [1, 1]] rfl ?_
      refine j_step rfl (x_bld_all 0 rfl rfl ld44 rfl ?_)
      refine j_step rfl (x_call [0, 1] rfl (S_codewrightref02_Trim (by first | omega | exact side _ (by assumption) | assumption | rfl | (simp; done) | (simp; omega)) (by first | omega | exact side _ (by assumption) | assumption | rfl | (simp; done) | (simp; omega))) rfl ?_)
      rintro _ _ _ ⟨pn1, cn1, pd1, cd1, rfl, rfl, rfl⟩
      simp only [List.cons_append, List.nil_append]
      rw [en]
      refine j_step rfl (x_bst_all 0 rfl rfl rfl ld44 rfl rfl (by simp [Value.oneCell']) ?_)
      refine j_nf [.o [1, 1, 0, 0] 0, .c [1, 1, 0, 1], .c [1, 1, 1]] rfl ?_
      refine j_step rfl (x_field rfl fd44_0 ?_)
      refine j_step rfl (x_bld 0 rfl rfl ld4 rfl ?_)
      refine j_run it 1 rfl (by simp) ?_
      refine j_gstep rfl rfl (x_field rfl fd44_2 ?_)
      refine j_gstep rfl rfl (x_bld 0 rfl rfl ld42 rfl ?_)
      refine j_gstep rfl rfl (x_lit sl42 zo42e rfl rfl rfl rfl (by decide) (by decide) rfl fun b2 => ?_)
      refine j_pub_made (n := 1) (kd := IntKind.u32) 4 [1] 0 rfl rfl (by first | (simp [InR]; done) | (simp only [InR, List.mem_cons, List.not_mem_nil, or_false, forall_eq_or_imp, forall_eq]; omega)) (by decide) (by decide) ?_
      refine j_gstep rfl rfl (x_call [2, 0] rfl (S_codewrightref01_Same) rfl ?_)
      rintro _ _ _ ⟨rfl, rfl, rfl⟩
      simp only [List.cons_append, List.nil_append]
      refine j_run it 2 rfl (by simp) ?_
      refine j_nf [.c [1, 1, 0, 1], .c [1, 1, 1]] rfl ?_
      refine j_ifn rfl rfl (fun h3 => ?_) (fun h3 => ?_)
      · exact absurd e2 (by assumption)
      · refine j_nf [.o [1, 1, 1, 0] 0, .c [1, 1, 1, 1]] rfl ?_
        refine j_step rfl (x_field rfl fd44_1 ?_)
        refine j_step rfl (x_bld 0 rfl rfl ld42 rfl ?_)
        refine j_run it 2 rfl (by simp) ?_
        refine j_nf [.c [1, 1, 1, 1]] rfl ?_
        refine j_giv [1] rfl rfl rfl ⟨_, _, rfl, rfl, rfl⟩
    · have hw : ¬ (¬ (vq (neg, N, D)).num < 0 ∧ (vq (neg, N, D)).den = 1) := fun h => h2 h.2
      have e2 : ¬ (rt (vq (neg, N, D))).2.2 = [1] := by
        rw [← limbs_one]; exact fun h => h2 (limbs_inj h)
      rw [whR, whB, if_neg hw, decide_eq_false hw]
      refine j_nf [.o [0] 0, .c [1]] rfl ?_
      refine j_step rfl (x_box_agg rfl fun b1 => ?_)
      refine j_run it 2 rfl (by simp) ?_
      refine j_nf [.o [1, 0] 0, .c [1, 1]] rfl ?_
      refine j_step rfl (x_bld_all 0 rfl rfl ld44 rfl ?_)
      refine j_step rfl (x_call [0, 1] rfl (S_codewrightref02_Trim (by first | omega | exact side _ (by assumption) | assumption | rfl | (simp; done) | (simp; omega)) (by first | omega | exact side _ (by assumption) | assumption | rfl | (simp; done) | (simp; omega))) rfl ?_)
      rintro _ _ _ ⟨pn1, cn1, pd1, cd1, rfl, rfl, rfl⟩
      simp only [List.cons_append, List.nil_append]
      rw [en]
      refine j_step rfl (x_bst_all 0 rfl rfl rfl ld44 rfl rfl (by simp [Value.oneCell']) ?_)
      refine j_nf [.o [1, 1, 0, 0] 0, .c [1, 1, 0, 1], .c [1, 1, 1]] rfl ?_
      refine j_step rfl (x_field rfl fd44_0 ?_)
      refine j_step rfl (x_bld 0 rfl rfl ld4 rfl ?_)
      refine j_run it 1 rfl (by simp) ?_
      refine j_gstep rfl rfl (x_field rfl fd44_2 ?_)
      refine j_gstep rfl rfl (x_bld 0 rfl rfl ld42 rfl ?_)
      refine j_gstep rfl rfl (x_lit sl42 zo42e rfl rfl rfl rfl (by decide) (by decide) rfl fun b2 => ?_)
      refine j_pub_made (n := 1) (kd := IntKind.u32) 4 [1] 0 rfl rfl (by first | (simp [InR]; done) | (simp only [InR, List.mem_cons, List.not_mem_nil, or_false, forall_eq_or_imp, forall_eq]; omega)) (by decide) (by decide) ?_
      refine j_gstep rfl rfl (x_call [2, 0] rfl (S_codewrightref01_Same) rfl ?_)
      rintro _ _ _ ⟨rfl, rfl, rfl⟩
      simp only [List.cons_append, List.nil_append]
      refine j_run it 2 rfl (by simp) ?_
      refine j_nf [.c [1, 1, 0, 1], .c [1, 1, 1]] rfl ?_
      refine j_ifn rfl rfl (fun h3 => ?_) (fun h3 => ?_)
      · refine j_nf [.o [1, 1, 0, 1, 0, 0] 0, .c [1, 1, 0, 1, 0, 1], .c [1, 1, 1]] rfl ?_
        refine j_run it 2 rfl (by simp) ?_
        refine j_nf [.c [1, 1, 0, 1, 0, 1], .c [1, 1, 1]] rfl ?_
        refine j_add (slF U32 none 0 0 []) (fun w A _ => slF_nil _ _ _ _ _) ?_
        refine j_giv [0] rfl rfl rfl ⟨_, _, rfl, rfl, rfl⟩
      · exact absurd (by assumption) e2

theorem toP_lt {K : Nat} {L : List (List Nat)} (hL : ∀ l ∈ L, okN K l) : ∀ k, k ≤ L.length → k ≤ 65536 → toP L k ≤ k * 4294967296 ^ K := by
  intro k
  induction k with
  | zero => intro _ _; simp [toP]
  | succ k ih =>
    intro hk hk2
    have h1 := ih (by omega) (by omega)
    have h2 := Nat.le_of_lt (okN_lt (hL (L.getD k default) (by rw [List.getD, List.getElem?_eq_getElem (by omega)]; exact List.getElem_mem _)))
    rw [toP, Nat.succ_mul]
    exact Nat.add_le_add h1 h2
theorem toP_len {K : Nat} {L : List (List Nat)} (hL : ∀ l ∈ L, okN K l) {k : Nat} (hk : k ≤ L.length) (hk2 : k ≤ 65536) : (limbs (toP L k)).length ≤ K + 1 := by
  refine limbs_length_le (Nat.lt_of_le_of_lt (toP_lt hL k hk hk2) ?_)
  have h1 : k * 4294967296 ^ K ≤ 65536 * 4294967296 ^ K := Nat.mul_le_mul_right _ hk2
  have h2 : 0 < 4294967296 ^ K := Nat.pow_pos (by decide)
  rw [Nat.pow_succ, Nat.mul_comm (4294967296 ^ K)]
  generalize 4294967296 ^ K = x at *
  omega

theorem S_codewrightref24_Total {K : Nat} {pa : Option Addr} {n ca : Nat} {L : List (List Nat)} (hn : n ≤ 65536) (hK : K ≤ 10000) (hL : ∀ l ∈ L, okN K l) :
    Ctr Try.prog 34 [.slice pa n ca] [] [slF NatE pa n ca L] (Sv U32 (limbs (sumV L))) := by
  refine Ctr_of_j' (F := F_codewrightref24_Total) rfl fun C => ?_
  refine j_len 0 rfl fun hln _ _ => ?_
  have e0 : limbs (toP L 0) = [] := limbs_zero
  refine j_nf [.o [0] 0, .c [1]] rfl ?_
  refine j_run it 1 rfl (by simp) ?_
  refine j_nf [.o [1, 0] 0, .c [1, 1]] rfl ?_
  refine j_step rfl (x_lit0 sl42 fun b1 => ?_)
  refine j_run it 1 rfl (by simp) ?_
  refine j_nf [.o [1, 1, 0, 0] 0, .c [1, 1, 0, 1], .c [1, 1, 1]] rfl ?_
  refine j_run it 1 rfl (by simp) ?_
  refine j_nf [.c [1, 1, 0, 1, 0], .blk 0, .c [1, 1, 1]] rfl ?_ --ok
  refine j_pub_made (n := 0) (kd := .u32) 4 [] 0 rfl rfl (by simp [InR]) (by decide) (by decide) ?_
  refine j_add (slF U32 (some ⟨b1, 0, none⟩) (limbs (toP L 0)).length 0 (limbs (toP L 0))) (fun w A _ => by rw [e0]; exact slF_nil _ _ _ _ _) ?_
  refine j_loopG (X := Nat × Option Addr × Nat) [0, 2] [2] (fun x => [(4, .int .i64 x.1), (3, .slice x.2.1 (limbs (toP L x.1)).length x.2.2)]) (fun _ => []) (fun x => [slF U32 x.2.1 (limbs (toP L x.1)).length x.2.2 (limbs (toP L x.1))])
    (fun x => x.1 ≤ n) (fun x => n - x.1) (0, some ⟨b1, 0, none⟩, 0) [0] rfl rfl rfl (Nat.zero_le _) (by
      rw [show (limbs (toP L (0, (some ⟨b1, 0, none⟩ : Option Addr), 0).1)).length = 0 by rw [show limbs (toP L (0, (some ⟨b1, 0, none⟩ : Option Addr), 0).1) = [] from e0]; rfl]
      repeat (first | exact Fr.sub_nil _ | refine Fr.sub_cons rfl ?_)) rfl rfl ?_
  rintro ⟨k, p, c⟩ hk ih
  simp only [List.cons_append, List.nil_append] at hk ih ⊢
  have hl1 := toP_len hL (k := k) (by omega) (by omega)
  by_cases hkn : k < n
  · have hz := get_some (l := L) (i := k) (dflt := default) (by omega)
    have hzk := (hL _ (List.mem_of_getElem? hz)).2
    have side : ∀ z, L[k]? = some z → z.length ≤ 1099511627776 := fun z h => by have := (hL z (List.mem_of_getElem? h)).2; omega
    refine j_nf [.o [1, 1, 0, 1, 0, 0, 0, 0] 0, .c [1, 1, 0, 1, 0, 0, 0, 1], .c [1, 1, 0, 1, 0, 0, 1], .lp [1, 1, 0, 1, 0, 0], .blk 0, .c [1, 1, 1]] rfl ?_
    refine j_run it 2 rfl (by simp) ?_
    refine j_step rfl (x_len sl22 rfl ?_)
    refine j_run it 1 rfl (by simp) ?_
    refine j_nf [.c [1, 1, 0, 1, 0, 0, 0, 1], .c [1, 1, 0, 1, 0, 0, 1], .lp [1, 1, 0, 1, 0, 0], .blk 0, .c [1, 1, 1]] rfl ?_
    refine j_if rfl rfl (fun h1 => ?_) (fun h1 => by exfalso; omega)
    refine j_nf [.o [1, 1, 0, 1, 0, 0, 1, 0, 0] 0, .blk 1, .c [1, 1, 0, 1, 0, 0, 1, 1], .lp [1, 1, 0, 1, 0, 0], .blk 0, .c [1, 1, 1]] rfl ?_
    refine j_run it 3 rfl (by simp) ?_
    refine j_step rfl (x_idx 1 (k) rfl rfl rfl sl22 rfl (by omega) fun z1 hz1 b2 o1 => ?_)
    refine j_step rfl (x_ld_sl 0 rfl rfl ld42 fun pa1 ca1 => ?_)
    refine j_step rfl (x_call [2, 0] rfl (S_codewrightref01_Add (by first | omega | exact side _ (by assumption) | assumption | rfl | (simp; done) | (simp; omega)) (by first | omega | exact side _ (by assumption) | assumption | rfl | (simp; done) | (simp; omega))) rfl ?_)
    rintro _ _ _ ⟨pa2, ca2, rfl, rfl, rfl⟩
    simp only [List.cons_append, List.nil_append]
    refine j_run it 1 rfl (by simp) ?_
    refine j_nf [.o [1, 1, 0, 1, 0, 0, 1, 1] 0, .lp [1, 1, 0, 1, 0, 0], .blk 0, .c [1, 1, 1]] rfl ?_
    refine j_run it 3 rfl (by repeat' first | exact trivial | apply And.intro | omega) ?_
    refine j_nfn 1 [.lp [1, 1, 0, 1, 0, 0], .blk 0, .c [1, 1, 1]] rfl ?_
    have e : limbs (val (limbs (toP L k)) + val z1) = limbs (toP L (k + 1)) := by
      rw [val_limbs, toP, show L.getD k default = z1 by rw [List.getD, hz1]; rfl]
    rw [e]
    refine j_to [0, 4] (by repeat (first | exact Fr.sub_nil _ | refine Fr.sub_cons rfl ?_ | refine Fr.sub_consI rfl (by first | omega | (dsimp only; omega)) ?_ | refine Fr.sub_consS rfl (by first | omega | (dsimp only; omega)) (by first | omega | (dsimp only; omega)) ?_)) rfl rfl (ih (k + 1, pa2, ca2) (by dsimp only; omega) (by dsimp only; omega))
  · obtain rfl : n = k := by omega
    have e : sumV L = toP L n := by rw [← toP_all, hln]
    rw [e]
    refine j_nf [.o [1, 1, 0, 1, 0, 0, 0, 0] 0, .c [1, 1, 0, 1, 0, 0, 0, 1], .c [1, 1, 0, 1, 0, 0, 1], .lp [1, 1, 0, 1, 0, 0], .blk 0, .c [1, 1, 1]] rfl ?_
    refine j_run it 2 rfl (by simp) ?_
    refine j_step rfl (x_len sl22 rfl ?_)
    refine j_run it 1 rfl (by simp) ?_
    refine j_nf [.c [1, 1, 0, 1, 0, 0, 0, 1], .c [1, 1, 0, 1, 0, 0, 1], .lp [1, 1, 0, 1, 0, 0], .blk 0, .c [1, 1, 1]] rfl ?_
    refine j_if rfl rfl (fun h1 => by exfalso; omega) (fun h1 => ?_)
    refine j_nf [.o [1, 1, 1, 0] 0, .c [1, 1, 1, 1]] rfl ?_
    refine j_run it 2 rfl (by simp) ?_
    refine j_nf [.c [1, 1, 1, 1]] rfl ?_
    refine j_giv [0] rfl rfl rfl ⟨_, _, rfl, rfl, rfl⟩

theorem vq_mk (l m : List Nat) : vq (false, l, m) = mkRat (val l : Int) (val m) := by
  simp [vq, sg]
theorem mk_num_le {s : Int} {t : Nat} (ht : 0 < t) : (mkRat s t).num.natAbs ≤ s.natAbs := by
  rw [mk_num ht]
  exact Int.natAbs_ediv_le_natAbs _ _
theorem mk_den_le {s : Int} {t : Nat} (ht : 0 < t) : (mkRat s t).den ≤ t := by
  rw [mk_den ht]
  exact Nat.div_le_self _ _
theorem quo_ok {K T : Nat} {L : List (List Nat)} (hT : 0 < T) (hTl : T < 4294967296 ^ (K + 1)) (hL : ∀ l ∈ L, okN K l) : ∀ r ∈ quoL L T, okR (K + 1) r := by
  intro r hr
  obtain ⟨l, hl, rfl⟩ := List.mem_map.1 hr
  have h1 := okN_lt (hL l hl)
  have en : (mkRat (val l : Int) T).num.natAbs ≤ val l := by
    have := mk_num_le (s := (val l : Int)) hT
    omega
  have ed : (mkRat (val l : Int) T).den ≤ T := mk_den_le hT
  refine ⟨limbs_lt _, limbs_lt _, limbs_length_le (Nat.lt_of_le_of_lt en (Nat.lt_of_lt_of_le h1 (Nat.pow_le_pow_right (by decide) (by omega)))), limbs_length_le (Nat.lt_of_le_of_lt ed hTl)⟩
theorem wh_iff {q n : Nat} {L : List (List Nat)} {j : Nat} (hT : 0 < toP L (n + 1)) : (¬ (mkRat (duS q n L j) (toP L (n + 1))).num < 0 ∧ (mkRat (duS q n L j) (toP L (n + 1))).den = 1) ↔ duOk q n L j := rat_whole hT
theorem wh_ok {q n : Nat} {L : List (List Nat)} {j : Nat} (hT : 0 < toP L (n + 1)) (h : duOk q n L j) : whR (mkRat (duS q n L j) (toP L (n + 1))) = limbs (duV q n L j) ∧ whB (mkRat (duS q n L j) (toP L (n + 1))) = true := by
  rw [whR, whB, if_pos ((wh_iff hT).2 h), decide_eq_true ((wh_iff hT).2 h), rat_num hT h.1 h.2]
  exact ⟨rfl, rfl⟩
theorem wh_no {q n : Nat} {L : List (List Nat)} {j : Nat} (hT : 0 < toP L (n + 1)) (h : ¬ duOk q n L j) : whB (mkRat (duS q n L j) (toP L (n + 1))) = false := decide_eq_false fun h' => h ((wh_iff hT).1 h')
theorem U_codewrightref24_Dual {q n K : Nat} {pa : Option Addr} {ca : Nat} {L : List (List Nat)} (hq : 2 ≤ q) (hq2 : q ≤ 256) (hn : n ≤ 64) (hl : L.length = n + 1) (hK : K ≤ 9000) (hL : ∀ l ∈ L, okN K l) (h0 : toP L (n + 1) ≠ 0) :
    Ctr Try.prog 12 [.int .i64 q, .slice pa (n + 1) ca] [] [slF NatE pa (n + 1) ca L] (SvE NatE (duR q n L).length (duR q n L) (duE q n L)) := by
  refine Ctr_of_j' (F := F_codewrightref24_Dual) rfl fun C => ?_
  have ho : orderOf (q : Int) = 0 := if_neg (by omega)
  have hsh : shapeOf (n + 1) = 0 := if_neg (by omega)
  have hg : ∀ i, i < n + 1 → okN K (L.getD i default) := fun i hi => hL _ (by rw [List.getD, List.getElem?_eq_getElem (by omega)]; exact List.getElem_mem _)
  have eT : sumV L = toP L (n + 1) := sum_toP hl
  have hT1 := toP_len hL (k := n + 1) (by omega) (by omega)
  rw [← eT] at hT1
  have hT0 : ¬ (trim (limbs (sumV L))).length = 0 := by
    rw [trim_limbs, eT]
    intro h
    exact h0 (limbs_nil.1 (List.eq_nil_of_length_eq_zero h))
  have hTp : 0 < toP L (n + 1) := Nat.pos_of_ne_zero h0
  have hK2 : K ≤ 10000 := by omega
  have eQ : ∀ k, k < n + 1 → rt (vq (false, L.getD k default, limbs (sumV L))) = (quoL L (toP L (n + 1))).getD k default := by
    intro k hk
    have hz : L[k]? = some (L.getD k default) := by rw [List.getD, List.getElem?_eq_getElem (by omega)]; rfl
    have e1 : (quoL L (toP L (n + 1))).getD k default = rt (mkRat (val (L.getD k default) : Int) (toP L (n + 1))) := by rw [quoL, List.getD, List.getElem?_map, hz]; rfl
    rw [vq_mk, val_limbs, eT, e1]
  refine j_nf [.o [0] 0, .c [1]] rfl ?_
  refine j_run it 2 rfl (by simp) ?_
  refine j_nf [.o [1, 0, 0] 0, .c [1, 0, 1], .c [1, 1]] rfl ?_
  refine j_run it 1 rfl (by simp) ?_
  refine j_step rfl (x_call [] rfl (S_codewrightref24_Order) rfl ?_)
  rintro _ _ _ ⟨rfl, rfl, rfl⟩
  simp only [List.cons_append, List.nil_append]
  refine j_run it 1 rfl (by simp) ?_
  refine j_nf [.c [1, 0, 1], .c [1, 1]] rfl ?_
  refine j_ifn rfl rfl (fun h1 => by exfalso; omega) (fun h1 => ?_)
  refine j_nf [.o [1, 1, 0, 0] 0, .c [1, 1, 0, 1], .c [1, 1, 1]] rfl ?_
  refine j_run it 1 rfl (by simp) ?_
  refine j_step rfl (x_len sl22 rfl ?_)
  refine j_step rfl (x_call [] rfl (S_codewrightref24_Shape) rfl ?_)
  rintro _ _ _ ⟨rfl, rfl, rfl⟩
  simp only [List.cons_append, List.nil_append]
  refine j_run it 1 rfl (by simp) ?_
  refine j_nf [.c [1, 1, 0, 1], .c [1, 1, 1]] rfl ?_
  refine j_ifn rfl rfl (fun h2 => by exfalso; omega) (fun h2 => ?_)
  refine j_nf [.o [1, 1, 1, 0] 0, .c [1, 1, 1, 1]] rfl ?_
  refine j_run it 1 rfl (by simp) ?_
  refine j_step rfl (x_call [0] rfl (S_codewrightref24_Total (by first | omega | exact side _ (by assumption) | assumption | rfl | (simp; done) | (simp; omega)) (by first | omega | exact side _ (by assumption) | assumption | rfl | (simp; done) | (simp; omega)) (by first | omega | exact side _ (by assumption) | assumption | rfl | (simp; done) | (simp; omega))) rfl ?_)
  rintro _ _ _ ⟨pa1, ca1, rfl, rfl, rfl⟩
  simp only [List.cons_append, List.nil_append]
  refine j_run it 1 rfl (by simp) ?_
  refine j_nf [.o [1, 1, 1, 1, 0, 0] 0, .c [1, 1, 1, 1, 0, 1], .c [1, 1, 1, 1, 1]] rfl ?_
  refine j_run it 1 rfl (by simp) ?_
  refine j_step rfl (x_call [0] rfl (S_codewrightref01_Zero) rfl ?_)
  rintro _ _ _ ⟨rfl, rfl, rfl⟩
  simp only [List.cons_append, List.nil_append]
  refine j_nf [.c [1, 1, 1, 1, 0, 1], .c [1, 1, 1, 1, 1]] rfl ?_
  refine j_if rfl rfl (fun h3 => by exfalso; omega) (fun h3 => ?_)
  refine j_nf [.o [1, 1, 1, 1, 1, 0] 0, .c [1, 1, 1, 1, 1, 1]] rfl ?_
  refine j_run it 1 rfl (by simp) ?_
  refine j_nf [.o [1, 1, 1, 1, 1, 1, 0, 0] 0, .c [1, 1, 1, 1, 1, 1, 0, 1], .c [1, 1, 1, 1, 1, 1, 1]] rfl ?_
  refine j_run it 1 rfl (by simp) ?_
  refine j_nf [.c [1, 1, 1, 1, 1, 1, 0, 1, 0], .blk 0, .c [1, 1, 1, 1, 1, 1, 1]] rfl ?_
  refine j_row0 RatE 44 ?_
  refine j_loopG (X := Nat × Row) [0, 1, 4, 5, 6] [0, 1, 2] (fun x => [(8, .int .i64 x.1), (7, .slice (ad x.2.bo) x.1 x.2.cap)])
    (fun x => [(x.2.bo, 44, x.2.cs)])
    (fun x => [rowF RatE x.2 x.1 ((List.range x.1).map fun i => rt (vq (false, L.getD i default, limbs (sumV L))))])
    (fun x => x.1 ≤ n + 1) (fun x => n + 1 - x.1) (0, ⟨none, 0, []⟩) [0] rfl rfl rfl (Nat.zero_le _) (by repeat (first | exact Fr.sub_nil _ | refine Fr.sub_cons rfl ?_)) rfl rfl ?_
  rintro ⟨i, r⟩ hi ih
  simp only [List.cons_append, List.nil_append] at hi ih ⊢
  by_cases hil : i < n + 1
  · obtain ⟨_, l1⟩ := hg i hil
    have side : ∀ z, L[i]? = some z → z.length ≤ 1073741824 := fun z h => by have := (hL z (List.mem_of_getElem? h)).2; omega
    refine j_nf [.o [1, 1, 1, 1, 1, 1, 0, 1, 0, 0, 0, 0] 0, .c [1, 1, 1, 1, 1, 1, 0, 1, 0, 0, 0, 1], .c [1, 1, 1, 1, 1, 1, 0, 1, 0, 0, 1], .lp [1, 1, 1, 1, 1, 1, 0, 1, 0, 0], .blk 0, .c [1, 1, 1, 1, 1, 1, 1]] rfl ?_
    refine j_run it 2 rfl (by simp) ?_
    refine j_step rfl (x_len sl22 rfl ?_)
    refine j_run it 1 rfl (by simp) ?_
    refine j_nf [.c [1, 1, 1, 1, 1, 1, 0, 1, 0, 0, 0, 1], .c [1, 1, 1, 1, 1, 1, 0, 1, 0, 0, 1], .lp [1, 1, 1, 1, 1, 1, 0, 1, 0, 0], .blk 0, .c [1, 1, 1, 1, 1, 1, 1]] rfl ?_
    refine j_if rfl rfl (fun h4 => ?_) (fun h4 => by exfalso; omega)
    refine j_nf [.o [1, 1, 1, 1, 1, 1, 0, 1, 0, 0, 1, 0, 0] 0, .blk 1, .c [1, 1, 1, 1, 1, 1, 0, 1, 0, 0, 1, 1], .lp [1, 1, 1, 1, 1, 1, 0, 1, 0, 0], .blk 0, .c [1, 1, 1, 1, 1, 1, 1]] rfl ?_
    refine j_run it 3 rfl (by simp) ?_
    refine j_step rfl (x_idx 3 (i) rfl rfl rfl sl22 rfl (by omega) fun z1 hz1 b1 o1 => ?_)
    refine j_step rfl (x_ld_sl 0 rfl rfl ld42 fun pa2 ca2 => ?_)
    refine j_run it 1 rfl (by simp) ?_
    refine j_step rfl (x_call [0, 4] rfl (S_codewrightref02_Make (by first | omega | exact side _ (by assumption) | assumption | rfl | (simp; done) | (simp; omega)) (by first | omega | exact side _ (by assumption) | assumption | rfl | (simp; done) | (simp; omega))) rfl ?_)
    rintro _ _ _ ⟨pn1, cn1, pd1, cd1, rfl, rfl, rfl⟩
    simp only [List.cons_append, List.nil_append]
    refine j_step rfl (x_lit sl31 zo31e rfl rfl rfl rfl (by decide) (by decide) rfl fun b2 => ?_)
    refine j_step rfl (x_appR (z := ((rt (vq (false, z1, limbs (sumV L)))).fst, ((rt (vq (false, z1, limbs (sumV L)))).snd.fst, (rt (vq (false, z1, limbs (sumV L)))).snd.snd))) 1 0 4 rfl rfl rfl rfl rfl sl31 zo31e rfl (fun w A hG => (rd_pair (v1 := [Value.bool (rt (vq (false, z1, limbs (sumV L)))).fst]) (rd_bool _) (rd_pair (v1 := [Value.slice pn1 (rt (vq (false, z1, limbs (sumV L)))).snd.fst.length cn1]) (rd_of_slF (hG _ (fact_mem (n := 0) rfl))) (rd_of_slF (hG _ (fact_mem (n := 1) rfl)))))) (by omega) _ by31e (by omega) fun r1 => ?_)
    refine j_run it 1 rfl (by simp) ?_
    refine j_nf [.o [1, 1, 1, 1, 1, 1, 0, 1, 0, 0, 1, 1] 0, .lp [1, 1, 1, 1, 1, 1, 0, 1, 0, 0], .blk 0, .c [1, 1, 1, 1, 1, 1, 1]] rfl ?_
    refine j_run it 3 rfl (by repeat' first | exact trivial | apply And.intro | omega) ?_
    refine j_nfn 1 [.lp [1, 1, 1, 1, 1, 1, 0, 1, 0, 0], .blk 0, .c [1, 1, 1, 1, 1, 1, 1]] rfl ?_
    rw [show z1 = L.getD i default by rw [List.getD, hz1]; rfl]
    rw [show ((rt (vq (false, L.getD i default, limbs (sumV L)))).1, (rt (vq (false, L.getD i default, limbs (sumV L)))).2.1, (rt (vq (false, L.getD i default, limbs (sumV L)))).2.2) = rt (vq (false, L.getD i default, limbs (sumV L))) from rfl, ← range_snoc fun i => rt (vq (false, L.getD i default, limbs (sumV L)))]
    refine j_toM [true, false] [0, 6, 7, 8] (by repeat (first | exact Fr.sub_nil _ | refine Fr.sub_cons rfl ?_ | refine Fr.sub_consI rfl (by first | omega | (dsimp only; omega)) ?_ | refine Fr.sub_consS rfl (by first | omega | (dsimp only; omega)) (by first | omega | (dsimp only; omega)) ?_)) rfl rfl (ih (i + 1, r1) (by dsimp only; omega) (by dsimp only; omega))
  · obtain rfl : n + 1 = i := by omega
    have eL : (List.range (n + 1)).map (fun i => rt (vq (false, L.getD i default, limbs (sumV L)))) = quoL L (toP L (n + 1)) := by
      refine List.ext_getElem (by simp [quoL, hl]) fun k h1 h2 => ?_
      have hk : k < n + 1 := by simpa using h1
      rw [List.getElem_map, List.getElem_range, eQ k hk, List.getD, List.getElem?_eq_getElem h2]; rfl
    rw [eL]
    have q1 : (quoL L (toP L (n + 1))).length = n + 1 := by simp [quoL, hl]
    have q2 : 1 ≤ K + 1 := by omega
    have q3 : K + 1 ≤ 10000 := by omega
    have hTl : toP L (n + 1) < 4294967296 ^ (K + 1) := by
      have := val_lt (limbs_lt (toP L (n + 1)))
      rw [val_limbs] at this
      rw [eT] at hT1
      exact Nat.lt_of_lt_of_le this (Nat.pow_le_pow_right (by decide) hT1)
    have q4 := quo_ok hTp hTl hL
    refine j_nf [.o [1, 1, 1, 1, 1, 1, 0, 1, 0, 0, 0, 0] 0, .c [1, 1, 1, 1, 1, 1, 0, 1, 0, 0, 0, 1], .c [1, 1, 1, 1, 1, 1, 0, 1, 0, 0, 1], .lp [1, 1, 1, 1, 1, 1, 0, 1, 0, 0], .blk 0, .c [1, 1, 1, 1, 1, 1, 1]] rfl ?_
    refine j_run it 2 rfl (by simp) ?_
    refine j_step rfl (x_len sl22 rfl ?_)
    refine j_run it 1 rfl (by simp) ?_
    refine j_nf [.c [1, 1, 1, 1, 1, 1, 0, 1, 0, 0, 0, 1], .c [1, 1, 1, 1, 1, 1, 0, 1, 0, 0, 1], .lp [1, 1, 1, 1, 1, 1, 0, 1, 0, 0], .blk 0, .c [1, 1, 1, 1, 1, 1, 1]] rfl ?_
    refine j_if rfl rfl (fun h4 => by exfalso; omega) (fun h4 => ?_)
    refine j_nf [.o [1, 1, 1, 1, 1, 1, 1, 0] 0, .c [1, 1, 1, 1, 1, 1, 1, 1]] rfl ?_
    refine j_run it 2 rfl (by simp) ?_
    refine j_pubR 0 0 rfl rfl (by show (n + 1) * 56 ≤ 140737488355328; omega) ?_
    refine j_step rfl (x_call [0] rfl (S_codewrightref24_Transform (by first | omega | exact side _ (by assumption) | assumption | rfl | (simp; done) | (simp; omega)) (by first | omega | exact side _ (by assumption) | assumption | rfl | (simp; done) | (simp; omega)) (by first | omega | exact side _ (by assumption) | assumption | rfl | (simp; done) | (simp; omega)) (by first | omega | exact side _ (by assumption) | assumption | rfl | (simp; done) | (simp; omega)) (by first | omega | exact side _ (by assumption) | assumption | rfl | (simp; done) | (simp; omega)) (by first | omega | exact side _ (by assumption) | assumption | rfl | (simp; done) | (simp; omega)) (by first | omega | exact side _ (by assumption) | assumption | rfl | (simp; done) | (simp; omega))) rfl ?_)
    rintro _ _ _ ⟨pa2, ca2, rfl, rfl, rfl⟩
    simp only [List.cons_append, List.nil_append]
    refine j_run it 1 rfl (by simp) ?_
    refine j_nf [.o [1, 1, 1, 1, 1, 1, 1, 1, 0] 0, .c [1, 1, 1, 1, 1, 1, 1, 1, 1]] rfl ?_
    refine j_run it 1 rfl (by simp) ?_
    refine j_nf [.o [1, 1, 1, 1, 1, 1, 1, 1, 1, 0, 0] 0, .c [1, 1, 1, 1, 1, 1, 1, 1, 1, 0, 1], .c [1, 1, 1, 1, 1, 1, 1, 1, 1, 1]] rfl ?_
    refine j_run it 1 rfl (by simp) ?_
    refine j_nf [.c [1, 1, 1, 1, 1, 1, 1, 1, 1, 0, 1, 0], .blk 2, .c [1, 1, 1, 1, 1, 1, 1, 1, 1, 1]] rfl ?_
    simp only [trL, quo_tr hTp hl]
    refine j_row0 NatE 42 ?_
    refine j_loopG (X := Nat × Row) [9] [0, 1, 2, 3, 4, 5, 6] (fun x => [(11, .int .i64 x.1), (10, .slice (ad x.2.bo) x.1 x.2.cap)])
      (fun x => [(x.2.bo, 42, x.2.cs)])
      (fun x => [rowF NatE x.2 x.1 ((List.range x.1).map fun j => limbs (duV q n L j))])
      (fun x => x.1 ≤ n + 1 ∧ ∀ j, j < x.1 → duOk q n L j) (fun x => n + 1 - x.1) (0, ⟨none, 0, []⟩) [0] rfl rfl rfl ⟨Nat.zero_le _, fun j hj => absurd hj (Nat.not_lt_zero _)⟩ (by repeat (first | exact Fr.sub_nil _ | refine Fr.sub_cons rfl ?_)) rfl rfl ?_
    rintro ⟨j, r2⟩ ⟨hj, hjo⟩ ih2
    simp only [List.cons_append, List.nil_append] at hj hjo ih2 ⊢
    by_cases hjl : j < n + 1
    · have m6 : (duS q n L j).natAbs < 4294967296 ^ (K + 18) := by
        rw [← duZ_abs (by omega) L j, duZ]
        exact szP_lt (show n + 1 ≤ 65 by omega) (Nat.le_refl _) (fun i hi => okN_lt (hg i hi)) fun i hi => tz_lt hq hq2 hn (by omega) j (Nat.le_refl 17)
      have m7 : (rt (mkRat (duS q n L j) (toP L (n + 1)))).2.1.length ≤ 1073741824 := Nat.le_trans (limbs_length_le (Nat.lt_of_le_of_lt (mk_num_le hTp) m6)) (by omega)
      have m8 : (rt (mkRat (duS q n L j) (toP L (n + 1)))).2.2.length ≤ 1073741824 := Nat.le_trans (limbs_length_le (Nat.lt_of_le_of_lt (mk_den_le hTp) hTl)) (by omega)
      refine j_nf [.o [1, 1, 1, 1, 1, 1, 1, 1, 1, 0, 1, 0, 0, 0, 0] 0, .c [1, 1, 1, 1, 1, 1, 1, 1, 1, 0, 1, 0, 0, 0, 1], .c [1, 1, 1, 1, 1, 1, 1, 1, 1, 0, 1, 0, 0, 1], .lp [1, 1, 1, 1, 1, 1, 1, 1, 1, 0, 1, 0, 0], .blk 2, .c [1, 1, 1, 1, 1, 1, 1, 1, 1, 1]] rfl ?_
      refine j_run it 2 rfl (by simp) ?_
      refine j_step rfl (x_len sl31 rfl ?_)
      refine j_run it 1 rfl (by simp) ?_
      refine j_nf [.c [1, 1, 1, 1, 1, 1, 1, 1, 1, 0, 1, 0, 0, 0, 1], .c [1, 1, 1, 1, 1, 1, 1, 1, 1, 0, 1, 0, 0, 1], .lp [1, 1, 1, 1, 1, 1, 1, 1, 1, 0, 1, 0, 0], .blk 2, .c [1, 1, 1, 1, 1, 1, 1, 1, 1, 1]] rfl ?_
      refine j_if rfl rfl (fun h5 => ?_) (fun h5 => by exfalso; omega)
      refine j_nf [.o [1, 1, 1, 1, 1, 1, 1, 1, 1, 0, 1, 0, 0, 1, 0, 0, 0] 0, .c [1, 1, 1, 1, 1, 1, 1, 1, 1, 0, 1, 0, 0, 1, 0, 0, 1], .blk 3, .c [1, 1, 1, 1, 1, 1, 1, 1, 1, 0, 1, 0, 0, 1, 1], .lp [1, 1, 1, 1, 1, 1, 1, 1, 1, 0, 1, 0, 0], .blk 2, .c [1, 1, 1, 1, 1, 1, 1, 1, 1, 1]] rfl ?_
      refine j_run it 2 rfl (by simp) ?_
      refine j_step rfl (x_idx 2 (j) rfl rfl rfl sl31 rfl (by omega) fun z1 hz1 b1 o1 => ?_)
      refine j_step rfl (x_ld_rt 0 rfl rfl ld44 fun pa3 ca3 pa4 ca4 => ?_) --ok
      rw [range_get _ hjl] at hz1
      obtain rfl := Option.some.inj hz1
      refine j_step rfl (x_call [0, 1] rfl (S_codewrightref02_Whole (by first | omega | exact side _ (by assumption) | assumption | rfl | (simp; done) | (simp; omega)) (by first | omega | exact side _ (by assumption) | assumption | rfl | (simp; done) | (simp; omega))) rfl ?_)
      rintro _ _ _ ⟨pa5, ca5, rfl, rfl, rfl⟩
      simp only [List.cons_append, List.nil_append]
      simp only [vq_rt']
      by_cases hdo : duOk q n L j
      · obtain ⟨w1, w2⟩ := wh_ok hTp hdo
        rw [w1, w2]
        refine j_run it 5 rfl (by simp) ?_
        refine j_nf [.o [1, 1, 1, 1, 1, 1, 1, 1, 1, 0, 1, 0, 0, 1, 0, 0, 1, 0, 0] 0, .c [1, 1, 1, 1, 1, 1, 1, 1, 1, 0, 1, 0, 0, 1, 0, 0, 1, 0, 1], .c [1, 1, 1, 1, 1, 1, 1, 1, 1, 0, 1, 0, 0, 1, 0, 0, 1, 1], .blk 3, .c [1, 1, 1, 1, 1, 1, 1, 1, 1, 0, 1, 0, 0, 1, 1], .lp [1, 1, 1, 1, 1, 1, 1, 1, 1, 0, 1, 0, 0], .blk 2, .c [1, 1, 1, 1, 1, 1, 1, 1, 1, 1]] rfl ?_
        refine j_run it 2 rfl (by simp) ?_
        refine j_nf [.c [1, 1, 1, 1, 1, 1, 1, 1, 1, 0, 1, 0, 0, 1, 0, 0, 1, 0, 1], .c [1, 1, 1, 1, 1, 1, 1, 1, 1, 0, 1, 0, 0, 1, 0, 0, 1, 1], .blk 3, .c [1, 1, 1, 1, 1, 1, 1, 1, 1, 0, 1, 0, 0, 1, 1], .lp [1, 1, 1, 1, 1, 1, 1, 1, 1, 0, 1, 0, 0], .blk 2, .c [1, 1, 1, 1, 1, 1, 1, 1, 1, 1]] rfl ?_
        refine j_false rfl rfl ?_
        refine j_nf [.o [1, 1, 1, 1, 1, 1, 1, 1, 1, 0, 1, 0, 0, 1, 0, 0, 1, 1] 0, .blk 3, .c [1, 1, 1, 1, 1, 1, 1, 1, 1, 0, 1, 0, 0, 1, 1], .lp [1, 1, 1, 1, 1, 1, 1, 1, 1, 0, 1, 0, 0], .blk 2, .c [1, 1, 1, 1, 1, 1, 1, 1, 1, 1]] rfl ?_
        refine j_run it 2 rfl (by simp) ?_
        refine j_step rfl (x_lit sl22 zo22e rfl rfl rfl rfl (by decide) (by decide) rfl fun b2 => ?_)
        refine j_step rfl (x_appR (z := limbs (duV q n L j)) 1 0 4 rfl rfl rfl rfl rfl sl22 zo22e rfl (fun w A hG => (rd_of_slF (hG _ (fact_mem (n := 0) rfl)))) (by omega) _ by22e (by omega) fun r1 => ?_)
        refine j_run it 1 rfl (by simp) ?_
        refine j_nf [.o [1, 1, 1, 1, 1, 1, 1, 1, 1, 0, 1, 0, 0, 1, 1] 0, .lp [1, 1, 1, 1, 1, 1, 1, 1, 1, 0, 1, 0, 0], .blk 2, .c [1, 1, 1, 1, 1, 1, 1, 1, 1, 1]] rfl ?_
        refine j_run it 3 rfl (by repeat' first | exact trivial | apply And.intro | omega) ?_
        refine j_nfn 1 [.lp [1, 1, 1, 1, 1, 1, 1, 1, 1, 0, 1, 0, 0], .blk 2, .c [1, 1, 1, 1, 1, 1, 1, 1, 1, 1]] rfl ?_
        rw [← range_snoc fun j => limbs (duV q n L j)]
        refine j_toM [true, false] [0, 6, 7, 8, 9, 10, 11, 12] (by repeat (first | exact Fr.sub_nil _ | refine Fr.sub_cons rfl ?_ | refine Fr.sub_consI rfl (by first | omega | (dsimp only; omega)) ?_ | refine Fr.sub_consS rfl (by first | omega | (dsimp only; omega)) (by first | omega | (dsimp only; omega)) ?_)) rfl rfl (ih2 (j + 1, r1) (by dsimp only; omega) ⟨by dsimp only; omega, fun i hi => by
          rcases Nat.lt_succ_iff_lt_or_eq.1 hi with h | rfl
          · exact hjo i h
          · exact hdo⟩)
      · have w2 := wh_no hTp hdo
        have e1 : ¬ duAll q n L := fun h => hdo (h j hjl)
        rw [w2, duR, duE, if_neg e1, if_neg e1]
        refine j_run it 5 rfl (by simp) ?_
        refine j_nf [.o [1, 1, 1, 1, 1, 1, 1, 1, 1, 0, 1, 0, 0, 1, 0, 0, 1, 0, 0] 0, .c [1, 1, 1, 1, 1, 1, 1, 1, 1, 0, 1, 0, 0, 1, 0, 0, 1, 0, 1], .c [1, 1, 1, 1, 1, 1, 1, 1, 1, 0, 1, 0, 0, 1, 0, 0, 1, 1], .blk 3, .c [1, 1, 1, 1, 1, 1, 1, 1, 1, 0, 1, 0, 0, 1, 1], .lp [1, 1, 1, 1, 1, 1, 1, 1, 1, 0, 1, 0, 0], .blk 2, .c [1, 1, 1, 1, 1, 1, 1, 1, 1, 1]] rfl ?_
        refine j_run it 2 rfl (by simp) ?_
        refine j_nf [.c [1, 1, 1, 1, 1, 1, 1, 1, 1, 0, 1, 0, 0, 1, 0, 0, 1, 0, 1], .c [1, 1, 1, 1, 1, 1, 1, 1, 1, 0, 1, 0, 0, 1, 0, 0, 1, 1], .blk 3, .c [1, 1, 1, 1, 1, 1, 1, 1, 1, 0, 1, 0, 0, 1, 1], .lp [1, 1, 1, 1, 1, 1, 1, 1, 1, 0, 1, 0, 0], .blk 2, .c [1, 1, 1, 1, 1, 1, 1, 1, 1, 1]] rfl ?_
        refine j_true rfl rfl ?_
        refine j_nf [.o [1, 1, 1, 1, 1, 1, 1, 1, 1, 0, 1, 0, 0, 1, 0, 0, 1, 0, 1, 0, 0] 0, .c [1, 1, 1, 1, 1, 1, 1, 1, 1, 0, 1, 0, 0, 1, 0, 0, 1, 0, 1, 0, 1], .c [1, 1, 1, 1, 1, 1, 1, 1, 1, 0, 1, 0, 0, 1, 0, 0, 1, 1], .blk 3, .c [1, 1, 1, 1, 1, 1, 1, 1, 1, 0, 1, 0, 0, 1, 1], .lp [1, 1, 1, 1, 1, 1, 1, 1, 1, 0, 1, 0, 0], .blk 2, .c [1, 1, 1, 1, 1, 1, 1, 1, 1, 1]] rfl ?_
        refine j_run it 2 rfl (by simp) ?_
        refine j_nf [.c [1, 1, 1, 1, 1, 1, 1, 1, 1, 0, 1, 0, 0, 1, 0, 0, 1, 0, 1, 0, 1], .c [1, 1, 1, 1, 1, 1, 1, 1, 1, 0, 1, 0, 0, 1, 0, 0, 1, 1], .blk 3, .c [1, 1, 1, 1, 1, 1, 1, 1, 1, 0, 1, 0, 0, 1, 1], .lp [1, 1, 1, 1, 1, 1, 1, 1, 1, 0, 1, 0, 0], .blk 2, .c [1, 1, 1, 1, 1, 1, 1, 1, 1, 1]] rfl ?_
        refine j_add (slF NatE none 0 0 []) (fun w A _ => slF_nil _ _ _ _ _) ?_
        refine j_giv [0] rfl rfl rfl ⟨_, _, rfl, rfl, rfl⟩
    · obtain rfl : n + 1 = j := by omega
      have e1 : duAll q n L := hjo
      rw [duR, duE, if_pos e1, if_pos e1, show ((List.range (n + 1)).map fun j => limbs (duV q n L j)).length = n + 1 by simp]
      refine j_nf [.o [1, 1, 1, 1, 1, 1, 1, 1, 1, 0, 1, 0, 0, 0, 0] 0, .c [1, 1, 1, 1, 1, 1, 1, 1, 1, 0, 1, 0, 0, 0, 1], .c [1, 1, 1, 1, 1, 1, 1, 1, 1, 0, 1, 0, 0, 1], .lp [1, 1, 1, 1, 1, 1, 1, 1, 1, 0, 1, 0, 0], .blk 2, .c [1, 1, 1, 1, 1, 1, 1, 1, 1, 1]] rfl ?_
      refine j_run it 2 rfl (by simp) ?_
      refine j_step rfl (x_len sl31 rfl ?_)
      refine j_run it 1 rfl (by simp) ?_
      refine j_nf [.c [1, 1, 1, 1, 1, 1, 1, 1, 1, 0, 1, 0, 0, 0, 1], .c [1, 1, 1, 1, 1, 1, 1, 1, 1, 0, 1, 0, 0, 1], .lp [1, 1, 1, 1, 1, 1, 1, 1, 1, 0, 1, 0, 0], .blk 2, .c [1, 1, 1, 1, 1, 1, 1, 1, 1, 1]] rfl ?_
      refine j_if rfl rfl (fun h5 => by exfalso; omega) (fun h5 => ?_)
      refine j_nf [.o [1, 1, 1, 1, 1, 1, 1, 1, 1, 1, 0] 0, .c [1, 1, 1, 1, 1, 1, 1, 1, 1, 1, 1]] rfl ?_
      refine j_run it 3 rfl (by simp) ?_
      refine j_nf [.c [1, 1, 1, 1, 1, 1, 1, 1, 1, 1, 1]] rfl ?_
      refine j_pubR 0 0 rfl rfl (by show (n + 1) * 24 ≤ 140737488355328; omega) ?_
      refine j_giv [0] rfl rfl rfl ⟨_, _, rfl, rfl, rfl⟩

theorem S_codewrightref24_Dual {q : Int} {n K : Nat} {pa : Option Addr} {ca : Nat} {L : List (List Nat)} (hK : K ≤ 9000) (hL : ∀ l ∈ L, okN K l) :
    Ctr Try.prog 12 [.int .i64 q, .slice pa n ca] [] [slF NatE pa n ca L] (SvE NatE (DR q n L).length (DR q n L) (DE q n L)) := by
  by_cases h1 : wrongOf q n = 0
  · obtain ⟨p, m, rfl, rfl, h2, h3, h4⟩ := wrong_zero h1
    by_cases h5 : sumV L = 0
    · rw [DR, DE, if_neg (not_not_intro h1), if_neg (not_not_intro h1), if_pos h5, if_pos h5]
      refine Ctr_of_j' (F := F_codewrightref24_Dual) rfl fun C => ?_
      refine j_len 0 rfl fun hn _ _ => ?_
      have ho : orderOf (p : Int) = 0 := if_neg (by omega)
      have hsh : shapeOf (m + 1) = 0 := if_neg (by omega)
      have hK2 : K ≤ 10000 := by omega
      have hT0 : (trim (limbs (sumV L))).length = 0 := by rw [h5, limbs_zero]; rfl
      refine j_nf [.o [0] 0, .c [1]] rfl ?_
      refine j_run it 2 rfl (by simp) ?_
      refine j_nf [.o [1, 0, 0] 0, .c [1, 0, 1], .c [1, 1]] rfl ?_
      refine j_run it 1 rfl (by simp) ?_
      refine j_step rfl (x_call [] rfl (S_codewrightref24_Order) rfl ?_)
      rintro _ _ _ ⟨rfl, rfl, rfl⟩
      simp only [List.cons_append, List.nil_append]
      refine j_run it 1 rfl (by simp) ?_
      refine j_nf [.c [1, 0, 1], .c [1, 1]] rfl ?_
      refine j_ifn rfl rfl (fun h6 => by exfalso; omega) (fun h6 => ?_)
      refine j_nf [.o [1, 1, 0, 0] 0, .c [1, 1, 0, 1], .c [1, 1, 1]] rfl ?_
      refine j_run it 1 rfl (by simp) ?_
      refine j_step rfl (x_len sl22 rfl ?_)
      refine j_step rfl (x_call [] rfl (S_codewrightref24_Shape) rfl ?_)
      rintro _ _ _ ⟨rfl, rfl, rfl⟩
      simp only [List.cons_append, List.nil_append]
      refine j_run it 1 rfl (by simp) ?_
      refine j_nf [.c [1, 1, 0, 1], .c [1, 1, 1]] rfl ?_
      refine j_ifn rfl rfl (fun h7 => by exfalso; omega) (fun h7 => ?_)
      refine j_nf [.o [1, 1, 1, 0] 0, .c [1, 1, 1, 1]] rfl ?_
      refine j_run it 1 rfl (by simp) ?_
      refine j_step rfl (x_call [0] rfl (S_codewrightref24_Total (by first | omega | exact side _ (by assumption) | assumption | rfl | (simp; done) | (simp; omega)) (by first | omega | exact side _ (by assumption) | assumption | rfl | (simp; done) | (simp; omega)) (by first | omega | exact side _ (by assumption) | assumption | rfl | (simp; done) | (simp; omega))) rfl ?_)
      rintro _ _ _ ⟨pa1, ca1, rfl, rfl, rfl⟩
      simp only [List.cons_append, List.nil_append]
      refine j_run it 1 rfl (by simp) ?_
      refine j_nf [.o [1, 1, 1, 1, 0, 0] 0, .c [1, 1, 1, 1, 0, 1], .c [1, 1, 1, 1, 1]] rfl ?_
      refine j_run it 1 rfl (by simp) ?_
      refine j_step rfl (x_call [0] rfl (S_codewrightref01_Zero) rfl ?_)
      rintro _ _ _ ⟨rfl, rfl, rfl⟩
      simp only [List.cons_append, List.nil_append]
      refine j_nf [.c [1, 1, 1, 1, 0, 1], .c [1, 1, 1, 1, 1]] rfl ?_
      refine j_if rfl rfl (fun h8 => ?_) (fun h8 => by exfalso; omega)
      refine j_nf [.o [1, 1, 1, 1, 0, 1, 0, 0] 0, .c [1, 1, 1, 1, 0, 1, 0, 1], .c [1, 1, 1, 1, 1]] rfl ?_
      refine j_run it 2 rfl (by simp) ?_
      refine j_nf [.c [1, 1, 1, 1, 0, 1, 0, 1], .c [1, 1, 1, 1, 1]] rfl ?_
      refine j_add (slF NatE none 0 0 []) (fun w A _ => slF_nil _ _ _ _ _) ?_
      refine j_giv [0] rfl rfl rfl ⟨_, _, rfl, rfl, rfl⟩
    · rw [DR, DE, if_neg (not_not_intro h1), if_neg (not_not_intro h1), if_neg h5, if_neg h5, show ((p : Nat) : Int).toNat = p by omega, Nat.add_sub_cancel]
      refine Ctr_len (F := F_codewrightref24_Dual) 0 rfl fun hn => ?_
      exact U_codewrightref24_Dual h2 h3 h4 hn.symm hK hL (by rw [← sum_toP hn.symm]; exact h5)
  · rw [DR, DE, if_pos h1, if_pos h1]
    refine Ctr_of_j' (F := F_codewrightref24_Dual) rfl fun C => ?_
    by_cases hq : q < 2 ∨ 256 < q
    · have ho : orderOf q = 6 := if_pos hq
      rw [wrongOf, if_pos hq]
      refine j_nf [.o [0] 0, .c [1]] rfl ?_
      refine j_run it 2 rfl (by simp) ?_
      refine j_nf [.o [1, 0, 0] 0, .c [1, 0, 1], .c [1, 1]] rfl ?_
      refine j_run it 1 rfl (by simp) ?_
      refine j_step rfl (x_call [] rfl (S_codewrightref24_Order) rfl ?_)
      rintro _ _ _ ⟨rfl, rfl, rfl⟩
      simp only [List.cons_append, List.nil_append]
      refine j_run it 1 rfl (by simp) ?_
      refine j_nf [.c [1, 0, 1], .c [1, 1]] rfl ?_
      refine j_ifn rfl rfl (fun h2 => ?_) (fun h2 => by exfalso; omega)
      refine j_nf [.o [1, 0, 1, 0, 0] 0, .c [1, 0, 1, 0, 1], .c [1, 1]] rfl ?_
      refine j_run it 2 rfl (by simp) ?_
      refine j_nf [.c [1, 0, 1, 0, 1], .c [1, 1]] rfl ?_
      refine j_add (slF NatE none 0 0 []) (fun w A _ => slF_nil _ _ _ _ _) ?_
      refine j_giv [0] rfl rfl rfl ⟨_, _, rfl, rfl, rfl⟩
    · have ho : orderOf q = 0 := if_neg hq
      have hs : n < 1 ∨ 65 < n := by
        rw [wrongOf, if_neg hq, shapeOf] at h1
        by_cases h : n < 1 ∨ 65 < n
        · exact h
        · rw [if_neg h] at h1; exact absurd rfl h1
      have hsh : shapeOf n = 3 := if_pos hs
      rw [wrongOf, if_neg hq, hsh]
      refine j_nf [.o [0] 0, .c [1]] rfl ?_
      refine j_run it 2 rfl (by simp) ?_
      refine j_nf [.o [1, 0, 0] 0, .c [1, 0, 1], .c [1, 1]] rfl ?_
      refine j_run it 1 rfl (by simp) ?_
      refine j_step rfl (x_call [] rfl (S_codewrightref24_Order) rfl ?_)
      rintro _ _ _ ⟨rfl, rfl, rfl⟩
      simp only [List.cons_append, List.nil_append]
      refine j_run it 1 rfl (by simp) ?_
      refine j_nf [.c [1, 0, 1], .c [1, 1]] rfl ?_
      refine j_ifn rfl rfl (fun h2 => by exfalso; omega) (fun h2 => ?_)
      refine j_nf [.o [1, 1, 0, 0] 0, .c [1, 1, 0, 1], .c [1, 1, 1]] rfl ?_
      refine j_run it 1 rfl (by simp) ?_
      refine j_step rfl (x_len sl22 rfl ?_)
      refine j_step rfl (x_call [] rfl (S_codewrightref24_Shape) rfl ?_)
      rintro _ _ _ ⟨rfl, rfl, rfl⟩
      simp only [List.cons_append, List.nil_append]
      refine j_run it 1 rfl (by simp) ?_
      refine j_nf [.c [1, 1, 0, 1], .c [1, 1, 1]] rfl ?_
      refine j_ifn rfl rfl (fun h3 => ?_) (fun h3 => by exfalso; omega)
      refine j_nf [.o [1, 1, 0, 1, 0, 0] 0, .c [1, 1, 0, 1, 0, 1], .c [1, 1, 1]] rfl ?_
      refine j_run it 2 rfl (by simp) ?_
      refine j_nf [.c [1, 1, 0, 1, 0, 1], .c [1, 1, 1]] rfl ?_
      refine j_add (slF NatE none 0 0 []) (fun w A _ => slF_nil _ _ _ _ _) ?_
      refine j_giv [0] rfl rfl rfl ⟨_, _, rfl, rfl, rfl⟩
end Go.Proofs.Ytkchmoahohopiaa

namespace Go.Fw
open Go.ChangeShapes Go.WideShapes Go.RowKit

/-- What is read at a type, is read so. -/
def Opens {α : Type} (P : Program) (t : TypeId) (E : Enc α) : Prop :=
  P.cellsOf t = E.size ∧ P.bytesOf t = E.bytes ∧ ∀ {H : Type} (enc : TypeId × Value → H) (W : World) (fuel : Nat) (cs : List Value) (d : DataW H) (ps : List MemPlace),
    DataW.trod enc P W 0 (fun _ => true) true fuel t cs = some (d, ps) → (∀ n ∈ d.weights P t, n ≤ reachBytes) → ∃ x : α, E.rd W (fun k => k < W.heap.size) cs x

theorem inR_of_wf {k : IntKind} {n : Int} (h : (Lit.int k n).wf = true) : InR k n := by
  cases k <;> simp [Lit.wf, IntKind.min, IntKind.max, IntKind.bits, IntKind.signed] at h <;> simp only [InR] <;> omega

section
variable {P : Program} {t : TypeId}

theorem opens_int {k : IntKind} {by' : Nat} (ht : P.underlying t = some (.int k)) (hc : P.cellsOf t = 1) (hb : P.bytesOf t = by') : Opens P t (encInt k by') :=
  ⟨hc, hb, fun enc W fuel cs d ps h _ => by
    obtain ⟨n, rfl, _, hw⟩ := DataW.trod_int ht h
    exact ⟨n, rfl, inR_of_wf hw⟩⟩

theorem opens_nat {k : IntKind} {by' : Nat} (ht : P.underlying t = some (.int k)) (hc : P.cellsOf t = 1) (hb : P.bytesOf t = by') (hk : ∀ n, InR k n → 0 ≤ n) : Opens P t (encNat k by') :=
  ⟨hc, hb, fun enc W fuel cs d ps h _ => by
    obtain ⟨n, rfl, _, hw⟩ := DataW.trod_int ht h
    have h1 := inR_of_wf hw
    have h0 := hk n h1
    refine ⟨n.toNat, ?_, ?_⟩
    · rw [Int.toNat_of_nonneg h0]
    · rwa [Int.toNat_of_nonneg h0]⟩

theorem opens_bool (ht : P.underlying t = some .bool) (hc : P.cellsOf t = 1) (hb : P.bytesOf t = 1) : Opens P t encBool :=
  ⟨hc, hb, fun enc W fuel cs d ps h _ => by
    obtain ⟨b, rfl, _⟩ := DataW.trod_bool ht h
    exact ⟨b, rfl⟩⟩

theorem cellsAt_of_cells? {W : World} {a : Addr} {n : Nat} {cs : List Value} (h : W.cells? 0 a n = some cs) (hn : 0 < n) : a.spot = none ∧ a.block < W.heap.size ∧ cellsAt W a.block a.off n cs := by
  obtain ⟨_, hl, hc⟩ := World.cells?_some h
  have h0 := hc 0 hn
  rw [List.getElem?_eq_getElem (by omega)] at h0
  have e0 : a.add 0 = a := rfl
  rw [e0] at h0
  unfold World.cell? at h0
  split at h0
  · rename_i c T fr hb
    split at h0
    · cases h0
    · rename_i hs
      have hs' : a.spot = none := by cases ha : a.spot with
        | none => rfl
        | some _ => rw [ha] at hs; simp at hs
      refine ⟨hs', ?_, c, T, fr, hb, ?_, hl⟩
      · rcases Nat.lt_or_ge a.block W.heap.size with h | h
        · exact h
        · rw [Array.getElem?_eq_none h] at hb; cases hb
      · apply List.ext_getElem?
        intro i
        by_cases hi : i < n
        · have := hc i hi
          unfold World.cell? Addr.add at this
          rw [List.getElem?_take, if_pos hi, List.getElem?_drop, ← this]
          by_cases h0 : i = 0
          · subst h0; simp [hb, hs']
          · simp [h0, hb]
        · rw [List.getElem?_take, if_neg hi, List.getElem?_eq_none (by omega)]
  · cases h0

theorem list_of_all {α : Type} : ∀ (n : Nat) (p : Nat → α → Prop), (∀ i, i < n → ∃ x, p i x) → ∃ l : List α, l.length = n ∧ ∀ i x, l[i]? = some x → p i x := by
  intro n p h
  refine ⟨List.ofFn (fun i : Fin n => Classical.choose (h i.1 i.2)), by simp, fun i x hx => ?_⟩
  have hi : i < n := by
    have := (List.getElem?_eq_some_iff.1 hx).1
    simpa using this
  have e : x = Classical.choose (h i hi) := by
    rw [List.getElem?_eq_getElem (by simpa using hi), List.getElem_ofFn] at hx
    exact (Option.some.inj hx).symm
  rw [e]
  exact Classical.choose_spec (h i hi)

theorem weightsAll_of {H : Type} {e : TypeId} : ∀ {l : List (DataW H)} {d : DataW H}, d ∈ l → ∀ n ∈ d.weights P e, n ∈ DataW.weightsAll P e l
  | [], _, hd, _, _ => by cases hd
  | x :: l, d, hd, n, hn => by
    simp only [DataW.weightsAll, List.mem_append]
    rcases List.mem_cons.1 hd with rfl | hd
    · exact .inl hn
    · exact .inr (weightsAll_of hd n hn)

theorem opens_sl {α : Type} {E : Enc α} {e : TypeId} (ht : P.underlying t = some (.slice e)) (hE : Opens P e E) (hc : P.cellsOf t = 1) (hb : P.bytesOf t = 24) (hs : 0 < E.size) : Opens P t (encSl E) :=
  ⟨hc, hb, fun enc W fuel cs d ps h hw => by
    obtain ⟨he, hby, hE⟩ := hE
    rcases Deep.open_slice ht h with ⟨rfl, _⟩ | ⟨a, len, cap, m, n, D, Pl, rfl, _, hl, _, hm, hx, hel⟩
    · exact ⟨[], none, 0, rfl, Nat.zero_le _, by simp, .inl rfl⟩
    · simp only [Prod.mk.injEq] at hx
      obtain ⟨rfl, _⟩ := hx
      simp only [if_true] at hm
      subst hm
      have hsz : len * E.bytes ≤ 140737488355328 := by
        have h1 : ((List.range len).map D).length + ((List.range (m - len)).map fun j => D (len + j)).length = m := by simp; omega
        have h2 := hw (m * P.bytesOf e) (by rw [DataW.weights, ht]; show m * P.bytesOf e ∈ _ :: _; rw [h1]; exact List.mem_cons_self)
        rw [hby] at h2
        exact Nat.le_trans (Nat.mul_le_mul_right _ hl) (Nat.le_trans h2 (by decide))
      have each : ∀ i, i < len → ∃ x : α, (a.spot = none ∧ a.block < W.heap.size) ∧ ∃ vs, cellsAt W a.block (a.off + i * E.size) E.size vs ∧ E.rd W (fun k => k < W.heap.size) vs x := by
        intro i hi
        obtain ⟨cs', h1, h2⟩ := hel i (by omega)
        obtain ⟨x, hxr⟩ := hE enc W n cs' _ _ h2 (fun k hk => hw k (by
          rw [DataW.weights, ht]
          refine List.mem_cons_of_mem _ (List.mem_append_left _ (weightsAll_of (List.mem_map.2 ⟨i, List.mem_range.2 hi, rfl⟩) k hk))))
        rw [he] at h1
        obtain ⟨hsp, hlt, hca⟩ := cellsAt_of_cells? h1 hs
        have hadd : (a.add (i * E.size)).block = a.block ∧ (a.add (i * E.size)).off = a.off + i * E.size := by
          unfold Addr.add
          split
          · rename_i h; rw [h]; exact ⟨rfl, rfl⟩
          · exact ⟨rfl, rfl⟩
        rw [hadd.1] at hlt
        rw [hadd.1, hadd.2] at hca
        have hsp0 : a.spot = none := by
          obtain ⟨cs0, h10, _⟩ := hel 0 (by omega)
          rw [he, Nat.zero_mul] at h10
          exact (cellsAt_of_cells? h10 hs).1
        exact ⟨x, ⟨hsp0, hlt⟩, cs', hca, hxr⟩
      obtain ⟨l, hll, hlx⟩ := list_of_all len _ each
      refine ⟨l, some a, m, by rw [hll], by omega, by rw [hll]; exact hsz, ?_⟩
      cases l with
      | nil => exact .inl rfl
      | cons y l =>
        obtain ⟨⟨h1, h2⟩, _⟩ := hlx 0 y rfl
        refine .inr ⟨a.block, a.off, ?_, h2, fun i x hi => (hlx i x hi).2⟩
        cases a; simp_all⟩

/-- The fields of a struct from one place on. -/
def OpensAll {α : Type} (P : Program) (fs : List Field) (off : Nat) (E : Enc α) : Prop :=
  ∀ {H : Type} (enc : TypeId × Value → H) (W : World) (n : Nat) (cs : List Value) (xs : List (DataW H × List MemPlace)), xs.length = fs.length →
    (∀ (i : Nat) (f : Field), fs[i]? = some f → DataW.trod enc P W 0 (fun _ => true) true n f.type ((cs.drop f.offset).take (P.cellsOf f.type)) = xs[i]?) → cs.length = off + E.size →
    (∀ n ∈ DataW.weightsEach P (fs.map fun f : Field => f.type) (xs.map (·.1)), n ≤ reachBytes) → ∃ x : α, E.rd W (fun k => k < W.heap.size) (cs.drop off) x

theorem opensAll_one {α : Type} {E : Enc α} {f : Field} {off : Nat} (hf : f.offset = off) (hE : Opens P f.type E) : OpensAll P [f] off E := fun enc W n cs xs hl h hc hw => by
  match xs, hl with
  | [x], _ =>
    have h0 := h 0 f rfl
    obtain ⟨d, ps⟩ := x
    rw [hf, hE.1, List.take_of_length_le (by rw [List.length_drop]; omega)] at h0
    exact hE.2.2 enc W n _ d ps h0 (fun k hk => hw k (by simp [DataW.weightsEach, hk]))

theorem opensAll_cons {α β : Type} {E : Enc α} {F : Enc β} {f : Field} {fs : List Field} {off : Nat} (by' : Nat) (hf : f.offset = off) (hE : Opens P f.type E) (hF : OpensAll P fs (off + E.size) F) : OpensAll P (f :: fs) off (encPair E F by') := fun enc W n cs xs hl h hc hw => by
  match xs, hl with
  | x :: xs, hl =>
    have h0 := h 0 f rfl
    obtain ⟨d, ps⟩ := x
    rw [hf, hE.1] at h0
    have hc' : cs.length = off + (E.size + F.size) := hc
    obtain ⟨y, hy⟩ := hE.2.2 enc W n _ d ps h0 (fun k hk => hw k (by simp [DataW.weightsEach, hk]))
    obtain ⟨z, hz⟩ := hF enc W n cs xs (by simpa using hl) (fun i g hg => by simpa using h (i + 1) g (by simpa using hg)) (by omega) (fun k hk => hw k (by
      simp only [List.map_cons, DataW.weightsEach, List.mem_append]; exact .inr hk))
    refine ⟨(y, z), _, _, ?_, hy, hz⟩
    rw [← List.drop_drop, List.take_append_drop]

theorem opens_struct {α : Type} {E : Enc α} {fs : Array Field} (ht : P.underlying t = some (.struct fs)) (hE : OpensAll P fs.toList 0 E) (hc : P.cellsOf t = E.size) (hb : P.bytesOf t = E.bytes) : Opens P t E :=
  ⟨hc, hb, fun enc W fuel cs d ps h hw => by
    obtain ⟨xs, n, _, hx, hl, hlen, hf⟩ := DataW.trod_struct ht h
    simp only [Prod.mk.injEq] at hx
    obtain ⟨rfl, _⟩ := hx
    obtain ⟨x, hx⟩ := hE enc W n cs xs (by simpa using hlen) (fun i f hi => hf i f (by simpa using hi)) (by rw [hl, hc]; omega) (fun k hk => hw k (by rw [DataW.weights, ht]; exact hk))
    exact ⟨x, by simpa using hx⟩⟩

/-! ### Arguments -/

def Arg (P : Program) (W : World) (t : TypeId) (v : Value) : Prop :=
  (∃ b, Value.okWide P W .any b t v) ∧ ∃ (H : Type) (enc : TypeId × Value → H) (d : DataW H) (p : List MemPlace), DataW.Trod enc P W 0 (fun _ => true) true t v d p ∧ ∀ n ∈ d.weights P t, n ≤ reachBytes

def Args (P : Program) (W : World) : List TypeId → List Value → Prop
  | [], [] => True
  | t :: ts, v :: vs => Arg P W t v ∧ Args P W ts vs
  | _, _ => False

variable {W : World} {v : Value}

theorem Arg.slice {α : Type} {E : Enc α} {e : TypeId} (h : Arg P W t v) (ht : P.underlying t = some (.slice e)) (hE : Opens P t (encSl E)) : ∃ pa ca l, v = .slice pa l.length ca ∧ (slF E pa l.length ca l).holds W (fun k => k < W.heap.size) := by
  obtain ⟨⟨b, hv⟩, H, enc, d, p, ⟨fuel, hf⟩, hw⟩ := h
  obtain ⟨a, len, cap, rfl⟩ := okWide_slice ht hv
  obtain ⟨l, pa, ca, e1, hs⟩ := hE.2.2 enc W fuel _ d p hf hw
  have e2 : Value.slice a len cap = .slice pa l.length ca := by simpa [Value.cells] using e1
  exact ⟨pa, ca, l, e2, rfl, hs⟩

theorem Arg.int {k : IntKind} (h : Arg P W t v) (ht : P.underlying t = some (.int k)) : ∃ n, v = .int k n ∧ InR k n := by
  obtain ⟨⟨b, hv⟩, H, enc, d, p, hf, hw⟩ := h
  obtain ⟨n, e, _, _, hn⟩ := open_int ht hv hf
  exact ⟨n, e, inR_of_wf hn⟩

theorem Arg.bool (h : Arg P W t v) (ht : P.underlying t = some .bool) : ∃ b, v = .bool b := by
  obtain ⟨⟨b, hv⟩, H, enc, d, p, hf, hw⟩ := h
  obtain ⟨n, e, _⟩ := open_bool ht hv hf
  exact ⟨n, e⟩

theorem Arg.agg {α : Type} {E : Enc α} {fs : Array Field} (h : Arg P W t v) (ht : P.underlying t = some (.struct fs)) (hE : Opens P t E) : ∃ vs x, v = .agg vs.toArray ∧ (vF E vs x).holds W (fun k => k < W.heap.size) := by
  obtain ⟨⟨b, hv⟩, H, enc, d, p, ⟨fuel, hf⟩, hw⟩ := h
  obtain ⟨cs, rfl, _⟩ := okWide_struct ht hv
  obtain ⟨x, hx⟩ := hE.2.2 enc W fuel _ d p hf hw
  have hx' : E.rd W (fun k => k < W.heap.size) cs.toList x := hx
  exact ⟨cs.toList, x, by simp, hx'⟩

end

theorem trodAll_below {H : Type} {enc : TypeId × Value → H} {P : Program} (hl : laidOutB P = true) {W W' : World} (hb : Below W.heap.size W W') : ∀ {ts : List TypeId} {vs : List Value} {ds : List (DataW H)} {ps : List MemPlace},
    (ts.all fun t => P.readableRec t && decide (t < P.types.size)) = true → DataW.TrodAll enc P W 0 (fun _ => true) true ts vs ds ps → DataW.TrodAll enc P W' 0 (fun b => decide (b < W.heap.size)) true ts vs ds ps
  | [], [], [], _, _, h => h
  | t :: ts, v :: vs, d :: ds, ps, ha, ⟨p, q, h1, h2, e⟩ => by
    simp only [List.all_cons, Bool.and_eq_true, decide_eq_true_eq] at ha
    refine ⟨p, q, Below.trod hl ha.1.1 ha.1.2 h1 hb ?_, trodAll_below hl hb (by simpa using ha.2) h2, e⟩
    obtain ⟨m, hm⟩ := h1
    exact DataW.trod_lt m _ _ _ hm
  | [], _ :: _, _, _, _, h => h.elim
  | [], [], _ :: _, _, _, h => h.elim
  | _ :: _, [], _, _, _, h => h.elim
  | _ :: _, _ :: _, [], _, _, h => h.elim

theorem args_of {H : Type} {enc : TypeId × Value → H} {P : Program} {W : World} {base : Nat} : ∀ (ts : List TypeId) (vs : List Value) (ds : List (DataW H)) (ps : List MemPlace),
    (∀ (j : Nat) t v, ts[j]? = some t → vs[j]? = some v → Value.okWide P W .any base t v) → DataW.TrodAll enc P W 0 (fun _ => true) true ts vs ds ps → (∀ n ∈ DataW.weightsEach P ts ds, n ≤ reachBytes) → Args P W ts vs
  | [], [], [], _, _, _, _ => trivial
  | t :: ts, v :: vs, d :: ds, ps, hv, ⟨p, q, h1, h2, e⟩, hw => by
    refine ⟨⟨⟨base, hv 0 t v rfl rfl⟩, H, enc, d, p, h1, fun n hn => hw n (by simp only [DataW.weightsEach, List.mem_append]; exact .inl hn)⟩, args_of ts vs ds q (fun j t v ht hv' => hv (j + 1) t v (by simpa using ht) (by simpa using hv')) h2 (fun n hn => hw n (by simp only [DataW.weightsEach, List.mem_append]; exact .inr hn))⟩
  | [], _ :: _, _, _, _, h, _ => h.elim
  | [], [], _ :: _, _, _, h, _ => h.elim
  | _ :: _, [], _, _, _, h, _ => h.elim
  | _ :: _, _ :: _, [], _, _, h, _ => h.elim

/-- What a law's call comes to. -/
def LawSays (P : Program) (f : FuncId) (fn : Func) : Prop :=
  ∀ (W : World) (args : List Value), Args P W fn.params.toList args → Calls P f args.toArray W (Ret fun v W' => v = .bool true ∧ Below W.heap.size W W')

theorem law_of_gives {P : Program} {f : FuncId} {args : List Value} {Γ : List Fact} {W : World} {Q : Value → List Fact → List Blk → Prop} (h : Ctr P f args [] Γ Q) (hq : ∀ v Φ β, Q v Φ β → v = .bool true) (hG : ∀ g ∈ Γ, g.holds W (fun k => k < W.heap.size)) :
    Calls P f args.toArray W (Ret fun v W' => v = .bool true ∧ Below W.heap.size W W') := by
  refine (h.2 W (fun k => k < W.heap.size) (fun k hk => hk) (fun x hx => by cases hx) trivial (fun g hg => g.stable (fun k hk => ⟨⟨hk, fun ⟨x, hx, _⟩ => by cases hx⟩, rfl⟩) (hG g hg))).mono ?_
  intro e w' he
  cases e <;> try exact he.elim
  obtain ⟨Φ, β, hQ, hO, _⟩ := he
  exact ⟨hq _ _ _ hQ, hO.ext.os, hO.ext.tape, hO.ext.output, hO.ext.size, fun k hk => hO.ext.block k hk (fun ⟨x, hx, _⟩ => by cases hx)⟩

/-- The law's row, from what its call comes to. -/
theorem law_lift {H : Type} {enc : TypeId × Value → H} {C : Checked} {f : FuncId} {fn : Func} {s : ChangeSpec} {tb : TypeId} {os : Os} {conds : List PathCond}
    (own : ownKnob C.prog.godebug = none) (started : os.Started) (noInit : C.prog.inits.idxOf? f = none) (hfn : C.prog.funcs[f]? = some fn)
    (witness : ∃ (w : World) (tape : Tape) (i : Input), w.os = os ∧ (w.forCall tape i).Shaped C.prog ∧ i.vars = [] ∧ Input.okWide C.prog (w.forCall tape i) .any w.heap.size f i ∧
      s.pre6 enc C.prog fn conds false (w.forCall tape i).memory i.args ∧ (Assume.holds {} C.prog (lone (Frame.enter C.prog f i.args .normal) [] (w.forCall tape i))))
    (laid : laidOutB C.prog = true) (hvars : s.vars = []) (hts : (fn.params.toList.all fun t => C.prog.readableRec t && decide (t < C.prog.types.size)) = true)
    (hres : fn.resultTypes = #[tb]) (htb : C.prog.underlying tb = some .bool)
    (hspec : ∀ ds : List (DataW H), ds.length = fn.params.toList.length → s.fn H ds = { results := [.lit (.bool true)], args := ds })
    (walk : LawSays C.prog f fn) :
    ReturnsInHanded {} C os f .any (s.pre6 enc C.prog fn conds false) (s.post enc C.prog fn false true false false) := by
  refine returnsInHanded_of_change_sized own started noInit hfn witness ?_
  intro W base args ds gs before hval hW _ hsz _
  have hW' := hW
  obtain ⟨p, q, hA, hV, rfl, _, _⟩ := hW
  rw [hvars] at hV
  obtain ⟨rfl, rfl⟩ := trodVars_none hV
  have hlen : ∀ {ts : List TypeId} {vs : List Value} {ds : List (DataW H)} {ps : List MemPlace}, DataW.TrodAll enc C.prog W 0 (fun _ => true) true ts vs ds ps → ds.length = ts.length := by
    intro ts
    induction ts with
    | nil => intro vs ds ps h; cases vs <;> cases ds <;> first | rfl | exact h.elim
    | cons t ts ih =>
      intro vs ds ps h
      cases vs <;> cases ds <;> try exact h.elim
      obtain ⟨p, q, _, h2, _⟩ := h
      simp [ih h2]
  have hw : ∀ n ∈ DataW.weightsEach C.prog fn.params.toList ds, n ≤ reachBytes := fun n hn => by
    have e : s.plain.varTypes C.prog = [] := by
      unfold DataSpec.varTypes ChangeSpec.plain
      rw [hvars]; rfl
    rw [e, List.append_nil, List.append_nil] at hsz
    simpa using List.all_eq_true.1 hsz n hn
  have := walk W args.toList (args_of fn.params.toList args.toList ds p (fun j t v ht hv => hval j t v (by simpa using ht) (by simpa using hv)) hA hw)
  rw [Array.toArray_toList] at this
  refine this.mono fun e W' he => ?_
  cases e <;> try exact he.elim
  obtain ⟨rfl, hb⟩ := he
  refine ⟨_, rfl, ds, [], p ++ [], [], p, [], hW', ?_, ?_, ?_, hb.frame _, fun h => by cases h⟩
  · rw [List.append_nil, hspec ds (hlen hA), hres]
    exact trodAll_mk1 (shut_bool htb _)
  · rw [List.append_nil, hspec ds (hlen hA)]
    exact trodAll_below laid hb hts hA
  · rw [List.append_nil, hspec ds (hlen hA), hvars]
    rfl

end Go.Fw
