/-
SimplexConstraints returns true: one more constraint never makes an infeasible program feasible, a bounded one unbounded, or an optimum greater.
-/
import Derived.Test.YthahejfpdhcpiaaRows
import Derived.ProofKit
import Derived.JoinedOf
import Derived.Test.YthahejfpdhcpiaaHC8
namespace Go.Proofs.Ythahejfpdhcpiaa
open Go Go.Fw
set_option maxRecDepth 100000
set_option linter.unusedVariables false
set_option linter.unusedSimpArgs false
set_option maxHeartbeats 4000000

theorem op4 : Opens Try.prog 4 encBool := opens_bool rfl rfl rfl
theorem op94 : Opens Try.prog 94 (encNat .u32 4) := opens_nat rfl rfl rfl (fun n h => h.1)
theorem op42 : Opens Try.prog 42 (encSl (encNat .u32 4)) := opens_sl rfl op94 rfl rfl (by decide)
theorem op44 : Opens Try.prog 44 (encPair encBool (encPair (encSl (encNat .u32 4)) (encSl (encNat .u32 4)) 48) 56) := opens_struct rfl (opensAll_cons 56 rfl op4 (opensAll_cons 48 rfl op42 (opensAll_one rfl op42))) rfl rfl
theorem op23 : Opens Try.prog 23 (encSl (encPair encBool (encPair (encSl (encNat .u32 4)) (encSl (encNat .u32 4)) 48) 56)) := opens_sl rfl op44 rfl rfl (by decide)
theorem op24 : Opens Try.prog 24 (encSl (encSl (encPair encBool (encPair (encSl (encNat .u32 4)) (encSl (encNat .u32 4)) 48) 56))) := opens_sl rfl op23 rfl rfl (by decide)
theorem op26 : Opens Try.prog 26 (encPair (encSl (encPair encBool (encPair (encSl (encNat .u32 4)) (encSl (encNat .u32 4)) 48) 56)) (encPair (encSl (encSl (encPair encBool (encPair (encSl (encNat .u32 4)) (encSl (encNat .u32 4)) 48) 56))) (encSl (encPair encBool (encPair (encSl (encNat .u32 4)) (encSl (encNat .u32 4)) 48) 56)) 48) 72) := opens_struct rfl (opensAll_cons 72 rfl op23 (opensAll_cons 48 rfl op24 (opensAll_one rfl op23))) rfl rfl

theorem simplexConstraints_says : LawSays Try.prog 6 Try.f6 := by
  intro W args h
  have h : Args Try.prog W [26, 23, 44] args := h
  match args, h with
  | [v0, v1, v2], ⟨h0, h1, h2, _⟩ =>
    obtain ⟨vs0, l0, rfl, k0⟩ := h0.agg Try.underlying26 op26
    obtain ⟨p01, c01, p02, c02, p03, c03, rfl, a01, a02, a03⟩ := lin_open k0
    obtain ⟨p1, c1, l1, rfl, k1⟩ := h1.slice Try.underlying23 op23
    obtain ⟨vs2, l2, rfl, k2⟩ := h2.agg Try.underlying44 op44
    obtain ⟨pn2, cn2, pd2, cd2, rfl, a21, a22⟩ := rt_open k2
    refine law_of_gives S_SimplexConstraints (fun v Φ β h => h.1) ?_
    intro g hg
    simp only [List.mem_cons, List.not_mem_nil, or_false] at hg
    rcases hg with rfl | rfl | rfl | rfl | rfl | rfl
    · exact ⟨rfl, a01⟩
    · exact ⟨rfl, a02⟩
    · exact ⟨rfl, a03⟩
    · exact k1
    · exact ⟨rfl, a21⟩
    · exact ⟨rfl, a22⟩


/-! ### The row -/

theorem simplexConstraints_lifted (os : Os) (started : os.Started) (H : Type) (enc : TypeId × Value → H) :
    ReturnsInHanded {} Try.checked os 6 .any (Rows.simplexConstraintsSpec.pre6 enc Try.prog Try.f6 Rows.simplexConstraintsRow.domain false) (Rows.simplexConstraintsSpec.post enc Try.prog Try.f6 false true false false) :=
  law_lift (C := Try.checked) (by kernel_rfl) started (by kernel_rfl) Try.func6
    (ChangeSpec.witness6 (enc := enc) (C := Try.checked) false ⟨#[], #[.agg #[.slice none 0 0, .slice none 0 0, .slice none 0 0], .slice none 0 0, .agg #[.bool false, .slice none 0 0, .slice none 0 0]], []⟩ 8 (by kernel_rfl) (by kernel_rfl) (by kernel_rfl) (by kernel_rfl))
    (by kernel_rfl) rfl (by kernel_rfl) rfl Try.underlying4 (fun ds h => match ds, h with | [d0, d1, d2], _ => rfl) simplexConstraints_says

theorem simplexConstraints_holds : Rows.SimplexConstraintsSaid :=
  OpenClaim.holds_of_wide 6 Try.f6 rfl rfl rfl rfl rfl rfl rfl ⟨rfl, rfl, rfl, rfl, rfl⟩ rfl rfl rfl rfl rfl (by kernel_rfl) Try.func6 (by kernel_rfl)
    (of_decide_eq_true (by kernel_rfl)) (by unfold Func.isWrapper; first | (rw [if_pos (by decide +kernel)]; kernel_rfl) | (rw [if_neg (by decide +kernel)]; exact ⟨rfl, rfl⟩))
    (fun os started H enc _ => simplexConstraints_lifted os started H enc)
#print axioms simplexConstraints_holds
end Go.Proofs.Ythahejfpdhcpiaa
