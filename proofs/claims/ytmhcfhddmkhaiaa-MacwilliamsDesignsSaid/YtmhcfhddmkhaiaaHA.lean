/-
MacwilliamsDesigns returns true: Design of the program is the document's.
-/
import Derived.Test.YtmhcfhddmkhaiaaRows
import Derived.ProofKit
import Derived.JoinedOf
import Derived.Test.YtmhcfhddmkhaiaaHA3
namespace Go.Proofs.Ytmhcfhddmkhaiaa
open Go Go.Fw
set_option maxRecDepth 100000
set_option linter.unusedVariables false
set_option linter.unusedSimpArgs false
set_option maxHeartbeats 4000000
theorem op3 : Opens Try.prog 3 (encInt .i64 8) := opens_int rfl rfl rfl
theorem op29 : Opens Try.prog 29 (encSl (encInt .i64 8)) := opens_sl rfl op3 rfl rfl (by decide)
theorem op22 : Opens Try.prog 22 (encSl (encSl (encInt .i64 8))) := opens_sl rfl op29 rfl rfl (by decide)

theorem macwilliamsDesigns_says : LawSays Try.prog 3 Try.f3 := by
  intro W args h
  have h : Args Try.prog W [3, 22, 3] args := h
  match args, h with
  | [v0, v1, v2], ⟨h0, h1, h2, _⟩ =>
    obtain ⟨n0, rfl, r0⟩ := h0.int Try.underlying3
    obtain ⟨p1, c1, l1, rfl, k1⟩ := h1.slice Try.underlying22 op22
    obtain ⟨n2, rfl, r2⟩ := h2.int Try.underlying3
    refine law_of_gives (S_MacwilliamsDesigns (L := l1) r0 r2) (fun v Φ β h => h.1) ?_
    intro g hg
    simp only [List.mem_cons, List.not_mem_nil, or_false] at hg
    subst hg
    · exact k1


/-! ### The row -/

theorem macwilliamsDesigns_lifted (os : Os) (started : os.Started) (H : Type) (enc : TypeId × Value → H) :
    ReturnsInHanded {} Try.checked os 3 .any (Rows.macwilliamsDesignsSpec.pre6 enc Try.prog Try.f3 Rows.macwilliamsDesignsRow.domain false) (Rows.macwilliamsDesignsSpec.post enc Try.prog Try.f3 false true false false) :=
  law_lift (C := Try.checked) (by kernel_rfl) started (by kernel_rfl) Try.func3
    (ChangeSpec.witness6 (enc := enc) (C := Try.checked) false ⟨#[], #[.int .i64 0, .slice none 0 0, .int .i64 0], []⟩ 8 (by kernel_rfl) (by kernel_rfl) (by kernel_rfl) (by kernel_rfl))
    (by kernel_rfl) rfl (by kernel_rfl) rfl Try.underlying4 (fun ds h => match ds, h with | [d0, d1, d2], _ => rfl) macwilliamsDesigns_says

theorem macwilliamsDesigns_holds : Rows.MacwilliamsDesignsSaid :=
  OpenClaim.holds_of_wide 3 Try.f3 rfl rfl rfl rfl rfl rfl rfl ⟨rfl, rfl, rfl, rfl, rfl⟩ rfl rfl rfl rfl rfl (by kernel_rfl) Try.func3 (by kernel_rfl)
    (of_decide_eq_true (by kernel_rfl)) (by unfold Func.isWrapper; first | (rw [if_pos (by decide +kernel)]; kernel_rfl) | (rw [if_neg (by decide +kernel)]; exact ⟨rfl, rfl⟩))
    (fun os started H enc _ => macwilliamsDesigns_lifted os started H enc)
#print axioms macwilliamsDesigns_holds
end Go.Proofs.Ytmhcfhddmkhaiaa
