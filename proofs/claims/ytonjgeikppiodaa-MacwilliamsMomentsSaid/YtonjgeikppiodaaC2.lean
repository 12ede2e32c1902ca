/-
Contracts of macwilliams.Power and Moment.
-/
import Derived.Test.YtonjgeikppiodaaFuns
import Derived.Test.YtonjgeikppiodaaNatMath
import Derived.Test.YtonjgeikppiodaaNatMath2
import Derived.Test.YtonjgeikppiodaaNatMath3
import Derived.Test.YtonjgeikppiodaaNatMath4
import Derived.Test.YtonjgeikppiodaaA1
import Derived.Test.YtonjgeikppiodaaA2
import Derived.Test.YtonjgeikppiodaaA3
import Derived.Test.YtonjgeikppiodaaA4
import Derived.Test.YtonjgeikppiodaaA5
import Derived.Test.YtonjgeikppiodaaA6
import Derived.Test.YtonjgeikppiodaaA7
import Derived.Test.YtonjgeikppiodaaA8
import Derived.Test.YtonjgeikppiodaaC1
namespace Go.Proofs.Ytonjgeikppiodaa
open Go Go.Fw
set_option maxRecDepth 100000
set_option linter.unusedVariables false
set_option maxHeartbeats 400000
/-- The sum of i^r times the entries, up to k. -/
def psum (ls : List (List Nat)) (r : Nat) : Nat → Nat
  | 0 => 0
  | k + 1 => psum ls r k + k ^ r * val (ls.getD k default)

theorem psum_len {ls : List (List Nat)} {r : Nat} (hr : ∀ l ∈ ls, ∀ x ∈ l, x < 4294967296) (h20 : ∀ l ∈ ls, l.length ≤ 20) (hr64 : r ≤ 64) (hn : ls.length ≤ 65) : ∀ k, k ≤ ls.length → psum ls r k ≤ k * (4294967296 ^ 64 * 4294967296 ^ 20) := by
  intro k
  induction k with
  | zero => intro _; simp [psum]
  | succ k ih =>
    intro hk
    have h1 := ih (by omega)
    have hg : ls.getD k default = ls[k] := by rw [List.getD, List.getElem?_eq_getElem (by omega)]; rfl
    have h2 : val (ls.getD k default) ≤ 4294967296 ^ 20 := by
      rw [hg]
      exact Nat.le_trans (Nat.le_of_lt (val_lt (hr _ (List.getElem_mem _)))) (Nat.pow_le_pow_right (by decide) (h20 _ (List.getElem_mem _)))
    have h3 : k ^ r ≤ 4294967296 ^ 64 := Nat.le_trans (Nat.pow_le_pow_left (show k ≤ 4294967296 by omega) r) (Nat.pow_le_pow_right (by decide) hr64)
    have h4 := Nat.mul_le_mul h3 h2
    rw [psum, Nat.succ_mul]
    exact Nat.add_le_add h1 h4

theorem psum_limbs {ls : List (List Nat)} {r : Nat} (hr : ∀ l ∈ ls, ∀ x ∈ l, x < 4294967296) (h20 : ∀ l ∈ ls, l.length ≤ 20) (hr64 : r ≤ 64) (hn : ls.length ≤ 65) (k : Nat) (hk : k ≤ ls.length) : (limbs (psum ls r k)).length ≤ 85 := by
  refine limbs_length_le (k := 64 + 20 + 1) ?_
  have h := psum_len hr h20 hr64 hn k hk
  rw [← Nat.pow_add] at h
  have h2 : k * 4294967296 ^ (64 + 20) ≤ 65 * 4294967296 ^ (64 + 20) := Nat.mul_le_mul_right _ (by omega)
  have h3 : 0 < 4294967296 ^ (64 + 20) := Nat.pow_pos (by decide)
  rw [Nat.pow_succ]
  generalize 4294967296 ^ (64 + 20) = P at *
  omega

theorem S_macwilliams_Power {pa : Option Addr} {n ca : Nat} {ls : List (List Nat)} {r : Nat} (h20 : ∀ l ∈ ls, l.length ≤ 20) (hn1 : 1 ≤ ls.length) (hn : ls.length ≤ 65) (hr64 : r ≤ 64) :
    Ctr Try.prog 5 [.slice pa n ca, .int .i64 r] [] [slF NatE pa n ca ls] (S2 U32 (limbs (psum ls r ls.length)) 0) := by
  refine Ctr_of_j' (F := F_macwilliams_Power) rfl fun C => ?_
  refine j_len 0 rfl fun hl _ _ => ?_
  subst hl
  refine rows_range 0 rfl fun hr => ?_
  have hs := psum_limbs hr h20 hr64 hn
  have hsh : shapeOf ls.length = 0 := by rw [shapeOf, if_neg (by omega)]
  refine j_nf [.o [0] 0, .c [1]] rfl ?_
  refine j_run it 2 rfl (by simp) ?_
  refine j_nf [.o [1, 0, 0] 0, .c [1, 0, 1], .c [1, 1]] rfl ?_
  refine j_run it 1 rfl (by simp) ?_
  refine j_step rfl (x_len sl22 rfl ?_)
  refine j_step rfl (x_call [] rfl (S_macwilliams_shape) rfl ?_)
  rintro _ _ _ ⟨rfl, rfl, rfl⟩
  simp only [List.cons_append, List.nil_append]
  refine j_run it 1 rfl (by simp) ?_
  refine j_nf [.o [1, 0, 1, 0] 0, .c [1, 0, 1, 1], .c [1, 1]] rfl ?_
  refine j_run it 2 rfl (by simp) ?_
  refine j_nf [.c [1, 0, 1, 1], .c [1, 1]] rfl ?_
  refine j_ifn rfl rfl (fun h1 => by exfalso; omega) (fun h1 => ?_)
  refine j_nf [.o [1, 1, 0, 0] 0, .c [1, 1, 0, 1], .c [1, 1, 1]] rfl ?_
  refine j_run it 6 rfl (by simp) ?_
  refine j_nf [.c [1, 1, 0, 1], .c [1, 1, 1]] rfl ?_
  refine j_if rfl rfl (fun h2 => by exfalso; omega) (fun h2 => ?_)
  refine j_nf [.o [1, 1, 1, 0] 0, .c [1, 1, 1, 1]] rfl ?_
  refine j_run it 1 rfl (by simp) ?_
  refine j_nf [.o [1, 1, 1, 1, 0, 0] 0, .c [1, 1, 1, 1, 0, 1], .c [1, 1, 1, 1, 1]] rfl ?_
  refine j_run it 1 rfl (by simp) ?_
  refine j_step rfl (x_len sl22 rfl ?_)
  refine j_run it 1 rfl (by simp) ?_
  refine j_nf [.c [1, 1, 1, 1, 0, 1, 0], .blk 0, .c [1, 1, 1, 1, 1]] rfl ?_
  refine j_add (slF U32 none (limbs (psum ls r 0)).length 0 (limbs (psum ls r 0))) (fun w A _ => by rw [show psum ls r 0 = 0 from rfl, limbs_zero]; exact slF_nil _ _ _ _ _) ?_
  refine j_loopN (X := Nat × Option Addr × Nat) (fun x => [(1, .int .i64 r), (7, .slice x.2.1 (limbs (psum ls r x.1)).length x.2.2), (24, .slice pa ls.length ca), (25, .int .i64 ls.length), (26, .int .i64 x.1)])
    (fun _ => []) (fun x => [slF U32 x.2.1 (limbs (psum ls r x.1)).length x.2.2 (limbs (psum ls r x.1)), slF NatE pa ls.length ca ls])
    (fun x => x.1 ≤ ls.length) (fun x => ls.length - x.1) (0, none, 0) [0, 1] rfl (Nat.zero_le _) (by
      rw [show (limbs (psum ls r (0, (none : Option Addr), 0).1)).length = 0 by rw [show psum ls r 0 = 0 from rfl, limbs_zero]; rfl]
      repeat (first | exact Fr.sub_nil _ | refine Fr.sub_cons rfl ?_)) rfl rfl ?_
  rintro ⟨k, ps, cs⟩ hk ih
  simp only at hk ih ⊢
  have hsk := hs k hk
  by_cases hkl : k < ls.length
  · have hvk : val (limbs k) < 4294967296 := by rw [val_limbs]; omega
    have hp := pow_len hvk hr64
    refine j_nf [.o [1, 1, 1, 1, 0, 1, 0, 0, 0] 0, .c [1, 1, 1, 1, 0, 1, 0, 0, 1], .lp [1, 1, 1, 1, 0, 1, 0, 0], .blk 0, .c [1, 1, 1, 1, 1]] rfl ?_
    refine j_run it 1 rfl (by simp) ?_
    refine j_nf [.c [1, 1, 1, 1, 0, 1, 0, 0, 1, 0], .c [1, 1, 1, 1, 0, 1, 0, 0, 1, 1], .lp [1, 1, 1, 1, 0, 1, 0, 0], .blk 0, .c [1, 1, 1, 1, 1]] rfl ?_
    refine j_if rfl rfl (fun h3 => ?_) (fun h3 => by exfalso; omega)
    refine j_nf [.o [1, 1, 1, 1, 0, 1, 0, 0, 1, 1, 0, 0, 0] 0, .c [1, 1, 1, 1, 0, 1, 0, 0, 1, 1, 0, 0, 1], .blk 1, .c [1, 1, 1, 1, 0, 1, 0, 0, 1, 1, 1], .lp [1, 1, 1, 1, 0, 1, 0, 0], .blk 0, .c [1, 1, 1, 1, 1]] rfl ?_
    refine j_run it 1 rfl (by simp) ?_
    refine j_step rfl (x_idx 1 (k) rfl rfl rfl sl22 rfl (by omega) fun z1 hz1 b1 o1 => ?_)
    refine j_step rfl (x_ld_sl 0 rfl rfl ld25 fun pa1 ca1 => ?_)
    refine j_run it 2 rfl (by simp) ?_
    refine j_nf [.o [1, 1, 1, 1, 0, 1, 0, 0, 1, 1, 0, 0, 1, 0] 0, .c [1, 1, 1, 1, 0, 1, 0, 0, 1, 1, 0, 0, 1, 1], .blk 1, .c [1, 1, 1, 1, 0, 1, 0, 0, 1, 1, 1], .lp [1, 1, 1, 1, 0, 1, 0, 0], .blk 0, .c [1, 1, 1, 1, 1]] rfl ?_
    refine j_run it 2 rfl (by repeat' first | exact trivial | apply And.intro | omega) ?_
    refine j_step rfl (x_call [] rfl (S_nat_Of (by first | omega | exact side _ (by assumption) | assumption | (simp; done) | (simp; omega))) rfl ?_)
    rintro _ _ _ ⟨pa2, ca2, rfl, rfl, rfl⟩
    simp only [List.cons_append, List.nil_append]
    refine j_run it 1 rfl (by simp) ?_
    refine j_step rfl (x_call [0] rfl (S_nat_Pow (by first | omega | exact side _ (by assumption) | assumption | (simp; done) | (simp; omega)) (by first | omega | exact side _ (by assumption) | assumption | (simp; done) | (simp; omega))) rfl ?_)
    rintro _ _ _ ⟨pa3, ca3, rfl, rfl, rfl⟩
    simp only [List.cons_append, List.nil_append]
    refine j_run it 5 rfl (by simp) ?_
    refine j_nf [.o [1, 1, 1, 1, 0, 1, 0, 0, 1, 1, 0, 0, 1, 1] 0, .blk 1, .c [1, 1, 1, 1, 0, 1, 0, 0, 1, 1, 1], .lp [1, 1, 1, 1, 0, 1, 0, 0], .blk 0, .c [1, 1, 1, 1, 1]] rfl ?_
    refine j_run it 3 rfl (by simp) ?_
    refine j_step rfl (x_lit sl22 zo22e rfl rfl rfl rfl (by decide) (by decide) rfl fun b2 => ?_) --ok
    have hz20 := h20 z1 (List.mem_of_getElem? hz1)
    have hL : lenS [limbs (val (limbs k) ^ r), z1] ≤ 1073741824 := by simp [lenS]; omega
    refine j_pub_row (E := U32) (n := 2) [0, 2] [[.slice pa3 (limbs (val (limbs k) ^ r)).length ca3], [.slice pa1 z1.length ca1]] [limbs (val (limbs k) ^ r), z1] 0 rfl rfl ⟨rfl, rfl, trivial⟩ rfl rfl (by decide) ?_
    have hpr : ∀ l ∈ [limbs (val (limbs k) ^ r), z1], ∀ x ∈ l, x < 4294967296 := fun l hl => by
      rcases List.mem_cons.1 hl with rfl | hl
      · exact limbs_lt _
      · rw [List.mem_singleton.1 hl]; exact hr z1 (List.mem_of_getElem? hz1)
    have hpl : (limbs (prodV [limbs (val (limbs k) ^ r), z1])).length ≤ lenS [limbs (val (limbs k) ^ r), z1] + 1 := prod_len hpr 2
    have hA : ∀ l ∈ [limbs (psum ls r k), limbs (prodV [limbs (val (limbs k) ^ r), z1])], l.length ≤ 1073741824 := fun l hl => by
      rcases List.mem_cons.1 hl with rfl | hl
      · omega
      · rw [List.mem_singleton.1 hl]
        have : lenS [limbs (val (limbs k) ^ r), z1] ≤ 1000 := by simp [lenS]; omega
        omega
    have hsum : sumV [limbs (psum ls r k), limbs (prodV [limbs (val (limbs k) ^ r), z1])] = psum ls r (k + 1) := by
      have hg : ls.getD k default = z1 := by rw [List.getD, hz1]; rfl
      rw [psum, hg]
      simp [sumV, prodV, val_limbs]
    refine j_step rfl (x_call [0] rfl (S_nat_Mul (by first | omega | exact side _ (by assumption) | assumption | (simp; done) | (simp; omega))) rfl ?_)
    rintro _ _ _ ⟨pa4, ca4, rfl, rfl, rfl⟩
    simp only [List.cons_append, List.nil_append]
    refine j_step rfl (x_lit sl22 zo22e rfl rfl rfl rfl (by decide) (by decide) rfl fun b3 => ?_) --ok
    refine j_pub_row (E := U32) (n := 2) [6, 0] [[.slice ps (limbs (psum ls r k)).length cs], [.slice pa4 (limbs (prodV [limbs (val (limbs k) ^ r), z1])).length ca4]] [limbs (psum ls r k), limbs (prodV [limbs (val (limbs k) ^ r), z1])] 0 rfl rfl ⟨rfl, rfl, trivial⟩ rfl rfl (by decide) ?_
    refine j_step rfl (x_call [0] rfl (S_nat_Add (by first | omega | exact side _ (by assumption) | assumption | (simp; done) | (simp; omega)) (by first | omega | exact side _ (by assumption) | assumption | (simp; done) | (simp; omega))) rfl ?_)
    rintro _ _ _ ⟨pa5, ca5, rfl, rfl, rfl⟩
    simp only [List.cons_append, List.nil_append]
    refine j_run it 1 rfl (by simp) ?_
    refine j_nf [.o [1, 1, 1, 1, 0, 1, 0, 0, 1, 1, 1] 0, .lp [1, 1, 1, 1, 0, 1, 0, 0], .blk 0, .c [1, 1, 1, 1, 1]] rfl ?_
    refine j_run it 2 rfl (by repeat' first | exact trivial | apply And.intro | omega) ?_
    refine j_nfn 1 [.lp [1, 1, 1, 1, 0, 1, 0, 0], .blk 0, .c [1, 1, 1, 1, 1]] rfl ?_
    rw [hsum]
    refine j_to [0, 9] (by repeat (first | exact Fr.sub_nil _ | refine Fr.sub_cons rfl ?_ | refine Fr.sub_consI rfl (by omega) ?_ | refine Fr.sub_consS rfl (by omega) (by omega) ?_)) rfl rfl (ih (k + 1, pa5, ca5) (by simp only; omega) (by simp only; omega))
  · refine j_nf [.o [1, 1, 1, 1, 0, 1, 0, 0, 0] 0, .c [1, 1, 1, 1, 0, 1, 0, 0, 1], .lp [1, 1, 1, 1, 0, 1, 0, 0], .blk 0, .c [1, 1, 1, 1, 1]] rfl ?_
    refine j_run it 1 rfl (by simp) ?_
    refine j_nf [.c [1, 1, 1, 1, 0, 1, 0, 0, 1, 0], .c [1, 1, 1, 1, 0, 1, 0, 0, 1, 1], .lp [1, 1, 1, 1, 0, 1, 0, 0], .blk 0, .c [1, 1, 1, 1, 1]] rfl ?_
    refine j_if rfl rfl (fun h3 => by exfalso; omega) (fun h3 => ?_)
    refine j_nf [.o [1, 1, 1, 1, 1, 0] 0, .c [1, 1, 1, 1, 1, 1]] rfl ?_
    refine j_run it 3 rfl (by simp) ?_
    refine j_nf [.c [1, 1, 1, 1, 1, 1]] rfl ?_
    have e : k = ls.length := by omega
    rw [e]
    refine j_giv [0] rfl rfl rfl ⟨_, _, rfl, rfl, rfl⟩
end Go.Proofs.Ytonjgeikppiodaa
