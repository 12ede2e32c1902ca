/-
Contracts of nat.Binomial.
-/
import Derived.Test.YtonjgeikppiodaaFuns
import Derived.Test.YtonjgeikppiodaaNatMath
import Derived.Test.YtonjgeikppiodaaNatMath2
import Derived.Test.YtonjgeikppiodaaNatMath3
import Derived.Test.YtonjgeikppiodaaNatMath4
import Derived.Test.YtonjgeikppiodaaA1
import Derived.Test.YtonjgeikppiodaaA2
import Derived.Test.YtonjgeikppiodaaA3
import Derived.Test.YtonjgeikppiodaaA4
import Derived.Test.YtonjgeikppiodaaA5
import Derived.Test.YtonjgeikppiodaaA6
import Derived.Test.YtonjgeikppiodaaA7
namespace Go.Proofs.Ytonjgeikppiodaa
open Go Go.Fw
set_option maxRecDepth 100000
set_option linter.unusedVariables false
set_option maxHeartbeats 1000000
theorem S_nat_Binomial {n k : Nat} (hn : n ≤ 4096) : Ctr Try.prog 16 [.int .i64 n, .int .i64 k] [] [] (S2 U32 (limbs (binom n k)) 0) := by
  refine Ctr_of_j' (F := F_nat_Binomial) rfl fun C => ?_
  have e1 : limbs (binom n 0) = [1] := by rw [binom_zero, limbs_one]
  by_cases hkn : n < k
  · have hz : limbs (binom n k) = [] := by rw [binom_gt n k hkn, limbs_zero]
    refine j_nf [.o [0] 0, .c [1]] rfl ?_
    refine j_run it 2 rfl (by simp) ?_
    refine j_nf [.o [1, 0, 0] 0, .c [1, 0, 1], .c [1, 1]] rfl ?_
    refine j_run it 6 rfl (by simp) ?_
    refine j_nf [.c [1, 0, 1], .c [1, 1]] rfl ?_
    refine j_if rfl rfl (fun h1 => by exfalso; omega) (fun h1 => ?_)
    refine j_nf [.o [1, 1, 0, 0] 0, .c [1, 1, 0, 1], .c [1, 1, 1]] rfl ?_
    refine j_run it 7 rfl (by simp) ?_
    refine j_nf [.c [1, 1, 0, 1], .c [1, 1, 1]] rfl ?_
    refine j_if rfl rfl (fun h2 => ?_) (fun h2 => by exfalso; omega)
    refine j_nf [.o [1, 1, 0, 1, 0, 0] 0, .c [1, 1, 0, 1, 0, 1], .c [1, 1, 1]] rfl ?_
    refine j_run it 2 rfl (by simp) ?_
    refine j_nf [.c [1, 1, 0, 1, 0, 1], .c [1, 1, 1]] rfl ?_
    refine j_add (slF U32 none 0 0 []) (fun w A _ => slF_nil _ _ _ _ _) ?_
    refine j_giv [0] rfl rfl rfl ⟨_, _, by rw [hz]; rfl, by rw [hz]; rfl, rfl⟩
  have hk : k ≤ n := by omega
  refine j_nf [.o [0] 0, .c [1]] rfl ?_
  refine j_run it 2 rfl (by simp) ?_
  refine j_nf [.o [1, 0, 0] 0, .c [1, 0, 1], .c [1, 1]] rfl ?_
  refine j_run it 6 rfl (by simp) ?_
  refine j_nf [.c [1, 0, 1], .c [1, 1]] rfl ?_
  refine j_if rfl rfl (fun h1 => by exfalso; omega) (fun h1 => ?_)
  refine j_nf [.o [1, 1, 0, 0] 0, .c [1, 1, 0, 1], .c [1, 1, 1]] rfl ?_
  refine j_run it 7 rfl (by simp) ?_
  refine j_nf [.c [1, 1, 0, 1], .c [1, 1, 1]] rfl ?_
  refine j_if rfl rfl (fun h2 => by exfalso; omega) (fun h2 => ?_)
  refine j_nf [.o [1, 1, 1, 0] 0, .c [1, 1, 1, 1]] rfl ?_
  refine j_step rfl (x_lit sl25 zo25e rfl rfl rfl rfl (by decide) (by decide) rfl fun b1 => ?_)
  refine j_run it 1 rfl (by simp) ?_
  refine j_nf [.o [1, 1, 1, 1, 0, 0] 0, .c [1, 1, 1, 1, 0, 1], .c [1, 1, 1, 1, 1]] rfl ?_
  refine j_pub_made (n := 1) (kd := .u32) 4 [1] 0 rfl rfl (by simp [InR]) (by decide) (by decide) ?_
  obtain ⟨M, hM, hMk, hMb⟩ : ∃ M : Nat, (if ((n : Int) - k) < k then ((n : Int) - k) else (k : Int)) = M ∧ M ≤ n ∧ binom n M = binom n k := by
    refine ⟨if n - k < k then n - k else k, ?_, ?_, binom_min hk⟩
    · split <;> split <;> omega
    · split <;> omega
  refine j_run it 4 rfl (by repeat' first | exact trivial | apply And.intro | omega) ?_
  refine j_step rfl (x_min rfl rfl ?_)
  refine j_run it 1 rfl (by simp) ?_
  refine j_nf [.c [1, 1, 1, 1, 0, 1, 0], .blk 0, .c [1, 1, 1, 1, 1]] rfl ?_
  refine j_loopN (X := Nat × Option Addr × Nat) (fun x => [(0, .int .i64 n), (6, .slice x.2.1 (limbs (binom n x.1)).length x.2.2), (26, .int .i64 M), (27, .int .i64 x.1)])
    (fun _ => []) (fun x => [slF U32 x.2.1 (limbs (binom n x.1)).length x.2.2 (limbs (binom n x.1))])
    (fun x => x.1 ≤ M) (fun x => M - x.1) (0, some ⟨b1, 0, none⟩, 1) [0] rfl (Nat.zero_le _) (by simp only [e1]; repeat (first | exact Fr.sub_nil _ | refine Fr.sub_cons rfl ?_ | refine Fr.sub_consI rfl (by first | omega | exact hM) ?_)) rfl (by simp only [e1]; rfl) ?_
  rintro ⟨i, pa, ca⟩ hi ih
  simp only at hi ih ⊢
  have hlen := binom_len hn i
  by_cases hiM : i < M
  · refine j_nf [.o [1, 1, 1, 1, 0, 1, 0, 0, 0] 0, .c [1, 1, 1, 1, 0, 1, 0, 0, 1], .lp [1, 1, 1, 1, 0, 1, 0, 0], .blk 0, .c [1, 1, 1, 1, 1]] rfl ?_
    refine j_run it 1 rfl (by simp) ?_
    refine j_nf [.c [1, 1, 1, 1, 0, 1, 0, 0, 1, 0], .c [1, 1, 1, 1, 0, 1, 0, 0, 1, 1], .lp [1, 1, 1, 1, 0, 1, 0, 0], .blk 0, .c [1, 1, 1, 1, 1]] rfl ?_
    refine j_if rfl rfl (fun h3 => ?_) (fun h3 => by exfalso; omega)
    refine j_nf [.o [1, 1, 1, 1, 0, 1, 0, 0, 1, 1, 0, 0, 0] 0, .c [1, 1, 1, 1, 0, 1, 0, 0, 1, 1, 0, 0, 1], .blk 1, .c [1, 1, 1, 1, 0, 1, 0, 0, 1, 1, 1], .lp [1, 1, 1, 1, 0, 1, 0, 0], .blk 0, .c [1, 1, 1, 1, 1]] rfl ?_
    refine j_run it 2 rfl (by simp) ?_
    refine j_nf [.o [1, 1, 1, 1, 0, 1, 0, 0, 1, 1, 0, 0, 1] 0, .blk 1, .c [1, 1, 1, 1, 0, 1, 0, 0, 1, 1, 1], .lp [1, 1, 1, 1, 0, 1, 0, 0], .blk 0, .c [1, 1, 1, 1, 1]] rfl ?_
    refine j_run it 5 rfl (by repeat' first | exact trivial | apply And.intro | omega) ?_
    refine j_step rfl (x_lit sl25 zo25e rfl rfl rfl rfl (by decide) (by decide) rfl fun b2 => ?_) --ok
    rw [show ((n : Int) - i) = ((n - i : Nat) : Int) by omega]
    refine j_pub_made (n := 1) (kd := .u32) 4 [n - i] 0 rfl rfl (by simp [InR]; omega) (by decide) (by decide) ?_
    have v1 : val (limbs (binom n i)) * val [n - i] = binom n i * (n - i) := by rw [val_limbs]; simp [val]
    refine j_step rfl (x_call [1, 0] rfl (S_nat_times (by first | omega | exact side _ (by assumption) | assumption | (simp; done) | (simp; omega)) (by first | omega | exact side _ (by assumption) | assumption | (simp; done) | (simp; omega))) rfl ?_)
    rintro _ _ _ ⟨pa1, ca1, rfl, rfl, rfl⟩
    simp only [List.cons_append, List.nil_append]
    refine j_run it 3 rfl (by repeat' first | exact trivial | apply And.intro | omega) ?_
    refine j_step rfl (x_call [0] rfl (S_nat_digit (by first | omega | exact side _ (by assumption) | assumption | (simp; done) | (simp; omega)) (by first | omega | exact side _ (by assumption) | assumption | (simp; done) | (simp; omega))) rfl ?_)
    rintro _ _ _ ⟨pa2, ca2, rfl, rfl, rfl⟩
    simp only [List.cons_append, List.nil_append]
    refine j_run it 4 rfl (by simp) ?_
    refine j_nf [.o [1, 1, 1, 1, 0, 1, 0, 0, 1, 1, 1] 0, .lp [1, 1, 1, 1, 0, 1, 0, 0], .blk 0, .c [1, 1, 1, 1, 1]] rfl ?_
    refine j_run it 2 rfl (by repeat' first | exact trivial | apply And.intro | omega) ?_
    refine j_nfn 1 [.lp [1, 1, 1, 1, 0, 1, 0, 0], .blk 0, .c [1, 1, 1, 1, 1]] rfl ?_ --ok
    rw [v1, show ((i : Int) + 1) = ((i + 1 : Nat) : Int) by omega]
    skip
    simp only [val_limbs, binom_next (show i ≤ n by omega)]
    refine j_to [0] (by repeat (first | exact Fr.sub_nil _ | refine Fr.sub_cons rfl ?_ | refine Fr.sub_consI rfl (by omega) ?_ | refine Fr.sub_consS rfl (by omega) (by omega) ?_)) rfl rfl (ih (i + 1, pa2, ca2) (by simp only; omega) (by simp only; omega))
  · refine j_nf [.o [1, 1, 1, 1, 0, 1, 0, 0, 0] 0, .c [1, 1, 1, 1, 0, 1, 0, 0, 1], .lp [1, 1, 1, 1, 0, 1, 0, 0], .blk 0, .c [1, 1, 1, 1, 1]] rfl ?_
    refine j_run it 1 rfl (by simp) ?_
    refine j_nf [.c [1, 1, 1, 1, 0, 1, 0, 0, 1, 0], .c [1, 1, 1, 1, 0, 1, 0, 0, 1, 1], .lp [1, 1, 1, 1, 0, 1, 0, 0], .blk 0, .c [1, 1, 1, 1, 1]] rfl ?_
    refine j_if rfl rfl (fun h3 => by exfalso; omega) (fun h3 => ?_)
    refine j_nf [.o [1, 1, 1, 1, 1, 0] 0, .c [1, 1, 1, 1, 1, 1]] rfl ?_
    refine j_run it 1 rfl (by simp) ?_
    refine j_step rfl (x_call [0] rfl (S_nat_Trim) rfl ?_)
    rintro _ _ _ ⟨pa1, ca1, rfl, rfl, rfl⟩
    simp only [List.cons_append, List.nil_append]
    refine j_run it 2 rfl (by simp) ?_
    refine j_nf [.c [1, 1, 1, 1, 1, 1]] rfl ?_
    have e : i = M := by omega
    rw [trim_limbs, e, hMb]
    refine j_giv [0] rfl rfl rfl ⟨_, _, rfl, rfl, rfl⟩
end Go.Proofs.Ytonjgeikppiodaa
