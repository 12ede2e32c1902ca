/-
SimplexRays returns true: along the ray of an accepted unbounded solution all points are feasible, and their values exceed any bound.
-/
import Derived.Test.YtkchmoahohopiaaRows
import Derived.ProofKit
import Derived.JoinedOf
import Derived.Test.YtkchmoahohopiaaHN6
namespace Go.Proofs.Ytkchmoahohopiaa
open Go Go.Fw
set_option maxRecDepth 100000
set_option linter.unusedVariables false
set_option linter.unusedSimpArgs false
set_option maxHeartbeats 4000000

theorem op4 : Opens Try.prog 4 encBool := opens_bool rfl rfl rfl
theorem op84 : Opens Try.prog 84 (encNat .u32 4) := opens_nat rfl rfl rfl (fun n h => h.1)
theorem op42 : Opens Try.prog 42 (encSl (encNat .u32 4)) := opens_sl rfl op84 rfl rfl (by decide)
theorem op44 : Opens Try.prog 44 (encPair encBool (encPair (encSl (encNat .u32 4)) (encSl (encNat .u32 4)) 48) 56) := opens_struct rfl (opensAll_cons 56 rfl op4 (opensAll_cons 48 rfl op42 (opensAll_one rfl op42))) rfl rfl
theorem op31 : Opens Try.prog 31 (encSl (encPair encBool (encPair (encSl (encNat .u32 4)) (encSl (encNat .u32 4)) 48) 56)) := opens_sl rfl op44 rfl rfl (by decide)
theorem op32 : Opens Try.prog 32 (encSl (encSl (encPair encBool (encPair (encSl (encNat .u32 4)) (encSl (encNat .u32 4)) 48) 56))) := opens_sl rfl op31 rfl rfl (by decide)
theorem op34 : Opens Try.prog 34 (encPair (encSl (encPair encBool (encPair (encSl (encNat .u32 4)) (encSl (encNat .u32 4)) 48) 56)) (encPair (encSl (encSl (encPair encBool (encPair (encSl (encNat .u32 4)) (encSl (encNat .u32 4)) 48) 56))) (encSl (encPair encBool (encPair (encSl (encNat .u32 4)) (encSl (encNat .u32 4)) 48) 56)) 48) 72) := opens_struct rfl (opensAll_cons 72 rfl op31 (opensAll_cons 48 rfl op32 (opensAll_one rfl op31))) rfl rfl
theorem op3 : Opens Try.prog 3 (encInt .i64 8) := opens_int rfl rfl rfl
theorem op36 : Opens Try.prog 36 (encPair (encInt .i64 8) (encPair (encSl (encPair encBool (encPair (encSl (encNat .u32 4)) (encSl (encNat .u32 4)) 48) 56)) (encPair (encSl (encPair encBool (encPair (encSl (encNat .u32 4)) (encSl (encNat .u32 4)) 48) 56)) (encSl (encPair encBool (encPair (encSl (encNat .u32 4)) (encSl (encNat .u32 4)) 48) 56)) 48) 72) 80) := opens_struct rfl (opensAll_cons 80 rfl op3 (opensAll_cons 72 rfl op31 (opensAll_cons 48 rfl op31 (opensAll_one rfl op31)))) rfl rfl

theorem simplexRays_says : LawSays Try.prog 8 Try.f8 := by
  intro W args h
  have h : Args Try.prog W [34, 36, 44] args := h
  match args, h with
  | [v0, v1, v2], ⟨h0, h1, h2, _⟩ =>
    obtain ⟨vs0, l0, rfl, k0⟩ := h0.agg Try.underlying34 op34
    obtain ⟨p01, c01, p02, c02, p03, c03, rfl, a01, a02, a03⟩ := lin_open k0
    obtain ⟨vs1, l1, rfl, k1⟩ := h1.agg Try.underlying36 op36
    obtain ⟨p11, c11, p12, c12, p13, c13, rfl, a11, a12, a13⟩ := sol_open k1
    obtain ⟨vs2, l2, rfl, k2⟩ := h2.agg Try.underlying44 op44
    obtain ⟨pn2, cn2, pd2, cd2, rfl, a21, a22⟩ := rt_open k2
    refine law_of_gives S_SimplexRays (fun v Φ β h => h.1) ?_
    intro g hg
    simp only [List.mem_cons, List.not_mem_nil, or_false] at hg
    rcases hg with rfl | rfl | rfl | rfl | rfl | rfl | rfl | rfl
    · exact ⟨rfl, a01⟩
    · exact ⟨rfl, a02⟩
    · exact ⟨rfl, a03⟩
    · exact ⟨rfl, a11⟩
    · exact ⟨rfl, a12⟩
    · exact ⟨rfl, a13⟩
    · exact ⟨rfl, a21⟩
    · exact ⟨rfl, a22⟩


/-! ### The row -/

theorem simplexRays_lifted (os : Os) (started : os.Started) (H : Type) (enc : TypeId × Value → H) :
    ReturnsInHanded {} Try.checked os 8 .any (Rows.simplexRaysSpec.pre6 enc Try.prog Try.f8 Rows.simplexRaysRow.domain false) (Rows.simplexRaysSpec.post enc Try.prog Try.f8 false true false false) :=
  law_lift (C := Try.checked) (by kernel_rfl) started (by kernel_rfl) Try.func8
    (ChangeSpec.witness6 (enc := enc) (C := Try.checked) false ⟨#[], #[.agg #[.slice none 0 0, .slice none 0 0, .slice none 0 0], .agg #[.int .i64 0, .slice none 0 0, .slice none 0 0, .slice none 0 0], .agg #[.bool false, .slice none 0 0, .slice none 0 0]], []⟩ 8 (by kernel_rfl) (by kernel_rfl) (by kernel_rfl) (by kernel_rfl))
    (by kernel_rfl) rfl (by kernel_rfl) rfl Try.underlying4 (fun ds h => match ds, h with | [d0, d1, d2], _ => rfl) simplexRays_says

theorem simplexRays_holds : Rows.SimplexRaysSaid :=
  OpenClaim.holds_of_wide 8 Try.f8 rfl rfl rfl rfl rfl rfl rfl ⟨rfl, rfl, rfl, rfl, rfl⟩ rfl rfl rfl rfl rfl (by kernel_rfl) Try.func8 (by kernel_rfl)
    (of_decide_eq_true (by kernel_rfl)) (by unfold Func.isWrapper; first | (rw [if_pos (by decide +kernel)]; kernel_rfl) | (rw [if_neg (by decide +kernel)]; exact ⟨rfl, rfl⟩))
    (fun os started H enc _ => simplexRays_lifted os started H enc)
#print axioms simplexRays_holds
end Go.Proofs.Ytkchmoahohopiaa
