/-
MacwilliamsDerived returns true: a design is a design with fewer points, with the counting identity.
-/
import Derived.Test.YtmhcfhddmkhaiaaRows
import Derived.ProofKit
import Derived.JoinedOf
import Derived.Test.YtmhcfhddmkhaiaaHB3
namespace Go.Proofs.Ytmhcfhddmkhaiaa
open Go Go.Fw
set_option maxRecDepth 100000
set_option linter.unusedVariables false
set_option linter.unusedSimpArgs false
set_option maxHeartbeats 4000000
theorem op3 : Opens Try.prog 3 (encInt .i64 8) := opens_int rfl rfl rfl
theorem op29 : Opens Try.prog 29 (encSl (encInt .i64 8)) := opens_sl rfl op3 rfl rfl (by decide)
theorem op22 : Opens Try.prog 22 (encSl (encSl (encInt .i64 8))) := opens_sl rfl op29 rfl rfl (by decide)
theorem op5 : Opens Try.prog 5 (encNat .u8 1) := opens_nat rfl rfl rfl (fun n h => h.1)

theorem macwilliamsDerived_says : LawSays Try.prog 4 Try.f4 := by
  intro W args h
  have h : Args Try.prog W [22, 5, 5, 5] args := h
  match args, h with
  | [v0, v1, v2, v3], ⟨h0, h1, h2, h3, _⟩ =>
    obtain ⟨p0, c0, l0, rfl, k0⟩ := h0.slice Try.underlying22 op22
    obtain ⟨n1, rfl, r1⟩ := h1.int Try.underlying5
    simp only [InR] at r1
    obtain ⟨n1, rfl⟩ : ∃ a : Nat, n1 = a := ⟨n1.toNat, by omega⟩
    obtain ⟨n2, rfl, r2⟩ := h2.int Try.underlying5
    simp only [InR] at r2
    obtain ⟨n2, rfl⟩ : ∃ a : Nat, n2 = a := ⟨n2.toNat, by omega⟩
    obtain ⟨n3, rfl, r3⟩ := h3.int Try.underlying5
    simp only [InR] at r3
    obtain ⟨n3, rfl⟩ : ∃ a : Nat, n3 = a := ⟨n3.toNat, by omega⟩
    refine law_of_gives (S_MacwilliamsDerived (L := l0) (by omega) (by omega) (by omega)) (fun v Φ β h => h.1) ?_
    intro g hg
    simp only [List.mem_cons, List.not_mem_nil, or_false] at hg
    subst hg
    · exact k0


/-! ### The row -/

theorem macwilliamsDerived_lifted (os : Os) (started : os.Started) (H : Type) (enc : TypeId × Value → H) :
    ReturnsInHanded {} Try.checked os 4 .any (Rows.macwilliamsDerivedSpec.pre6 enc Try.prog Try.f4 Rows.macwilliamsDerivedRow.domain false) (Rows.macwilliamsDerivedSpec.post enc Try.prog Try.f4 false true false false) :=
  law_lift (C := Try.checked) (by kernel_rfl) started (by kernel_rfl) Try.func4
    (ChangeSpec.witness6 (enc := enc) (C := Try.checked) false ⟨#[], #[.slice none 0 0, .int .u8 0, .int .u8 0, .int .u8 0], []⟩ 8 (by kernel_rfl) (by kernel_rfl) (by kernel_rfl) (by kernel_rfl))
    (by kernel_rfl) rfl (by kernel_rfl) rfl Try.underlying4 (fun ds h => match ds, h with | [d0, d1, d2, d3], _ => rfl) macwilliamsDerived_says

theorem macwilliamsDerived_holds : Rows.MacwilliamsDerivedSaid :=
  OpenClaim.holds_of_wide 4 Try.f4 rfl rfl rfl rfl rfl rfl rfl ⟨rfl, rfl, rfl, rfl, rfl⟩ rfl rfl rfl rfl rfl (by kernel_rfl) Try.func4 (by kernel_rfl)
    (of_decide_eq_true (by kernel_rfl)) (by unfold Func.isWrapper; first | (rw [if_pos (by decide +kernel)]; kernel_rfl) | (rw [if_neg (by decide +kernel)]; exact ⟨rfl, rfl⟩))
    (fun os started H enc _ => macwilliamsDerived_lifted os started H enc)
#print axioms macwilliamsDerived_holds
end Go.Proofs.Ytmhcfhddmkhaiaa
