/-
RepairApplies returns true: a plan applied rebuilds the same rows as in the document.
-/
import Derived.Test.YtlecjbjgbcdilaaRows
import Derived.ProofKit
import Derived.JoinedOf
import Derived.Test.YtlecjbjgbcdilaaRC7
namespace Go.Proofs.Ytlecjbjgbcdilaa
open Go Go.Fw
set_option maxRecDepth 100000
set_option linter.unusedVariables false
set_option linter.unusedSimpArgs false
set_option maxHeartbeats 4000000

theorem op3 : Opens Try.prog 3 (encInt .i64 8) := opens_int rfl rfl rfl
theorem op22 : Opens Try.prog 22 (encSl (encInt .i64 8)) := opens_sl rfl op3 rfl rfl (by decide)
theorem op24 : Opens Try.prog 24 (encPair (encInt .i64 8) (encPair (encInt .i64 8) (encSl (encInt .i64 8)) 32) 40) := opens_struct rfl (opensAll_cons 40 rfl op3 (opensAll_cons 32 rfl op3 (opensAll_one rfl op22))) rfl rfl
theorem op25 : Opens Try.prog 25 (encSl (encSl (encInt .i64 8))) := opens_sl rfl op22 rfl rfl (by decide)
theorem op4 : Opens Try.prog 4 encBool := opens_bool rfl rfl rfl
theorem op41 : Opens Try.prog 41 (encPair (encSl (encInt .i64 8)) (encPair (encSl (encInt .i64 8)) (encPair (encSl (encSl (encInt .i64 8))) (encPair encBool (encSl (encSl (encInt .i64 8))) 32) 56) 80) 104) := opens_struct rfl (opensAll_cons 104 rfl op22 (opensAll_cons 80 rfl op22 (opensAll_cons 56 rfl op25 (opensAll_cons 32 rfl op4 (opensAll_one rfl op25))))) rfl rfl

theorem repairApplies_says : LawSays Try.prog 5 Try.f5 := by
  intro W args h
  have h : Args Try.prog W [24, 41, 25] args := h
  match args, h with
  | [v0, v1, v2], ⟨h0, h1, h2, _⟩ =>
    obtain ⟨vs, x, rfl, hx⟩ := h0.agg Try.underlying24 op24
    obtain ⟨_, _, rfl, ⟨rfl, _⟩, _, _, rfl, ⟨rfl, _⟩, ⟨pm, cm, rfl, hm⟩⟩ := hx
    obtain ⟨vs, y, rfl, hy⟩ := h1.agg Try.underlying41 op41
    obtain ⟨_, _, rfl, ⟨p1, c1, rfl, k1⟩, _, _, rfl, ⟨p2, c2, rfl, k2⟩, _, _, rfl, ⟨p3, c3, rfl, k3⟩, _, _, rfl, hb, ⟨p4, c4, rfl, k4⟩⟩ := hy
    obtain rfl := hb
    obtain ⟨pb, cb, bs, rfl, k5⟩ := h2.slice Try.underlying25 op25
    refine law_of_gives (S_RepairApplies (md := x.2.2) (lost := y.1) (hs := y.2.1) (coef := y.2.2.1) (bs := bs)) (fun v Φ β h => h.1) ?_
    intro g hg'
    simp only [List.mem_cons, List.not_mem_nil, or_false] at hg'
    rcases hg' with rfl | rfl | rfl | rfl | rfl
    · exact ⟨rfl, hm⟩
    · exact ⟨rfl, k1⟩
    · exact ⟨rfl, k2⟩
    · exact ⟨rfl, k3⟩
    · exact k5


/-! ### The row -/

theorem repairApplies_lifted (os : Os) (started : os.Started) (H : Type) (enc : TypeId × Value → H) :
    ReturnsInHanded {} Try.checked os 5 .any (Rows.repairAppliesSpec.pre6 enc Try.prog Try.f5 Rows.repairAppliesRow.domain false) (Rows.repairAppliesSpec.post enc Try.prog Try.f5 false true false false) :=
  law_lift (C := Try.checked) (by kernel_rfl) started (by kernel_rfl) Try.func5
    (ChangeSpec.witness6 (enc := enc) (C := Try.checked) false ⟨#[], #[.agg #[.int .i64 0, .int .i64 0, .slice none 0 0], .agg #[.slice none 0 0, .slice none 0 0, .slice none 0 0, .bool false, .slice none 0 0], .slice none 0 0], []⟩ 8 (by kernel_rfl) (by kernel_rfl) (by kernel_rfl) (by kernel_rfl))
    (by kernel_rfl) rfl (by kernel_rfl) rfl Try.underlying4 (fun ds h => match ds, h with | [d0, d1, d2], _ => rfl) repairApplies_says

theorem repairApplies_holds : Rows.RepairAppliesSaid :=
  OpenClaim.holds_of_wide 5 Try.f5 rfl rfl rfl rfl rfl rfl rfl ⟨rfl, rfl, rfl, rfl, rfl⟩ rfl rfl rfl rfl rfl (by kernel_rfl) Try.func5 (by kernel_rfl)
    (of_decide_eq_true (by kernel_rfl)) (by unfold Func.isWrapper; first | (rw [if_pos (by decide +kernel)]; kernel_rfl) | (rw [if_neg (by decide +kernel)]; exact ⟨rfl, rfl⟩))
    (fun os started H enc _ => repairApplies_lifted os started H enc)
#print axioms repairApplies_holds
end Go.Proofs.Ytlecjbjgbcdilaa
