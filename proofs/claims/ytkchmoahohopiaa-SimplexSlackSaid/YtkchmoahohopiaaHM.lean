/-
SimplexSlack returns true: complementary slackness of an accepted optimal solution.
-/
import Derived.Test.YtkchmoahohopiaaRows
import Derived.ProofKit
import Derived.JoinedOf
import Derived.Test.YtkchmoahohopiaaHM6
namespace Go.Proofs.Ytkchmoahohopiaa
open Go Go.Fw
set_option maxRecDepth 100000
set_option linter.unusedVariables false
set_option linter.unusedSimpArgs false
set_option maxHeartbeats 4000000
theorem op4 : Opens Try.prog 4 encBool := opens_bool rfl rfl rfl
theorem op84 : Opens Try.prog 84 (encNat .u32 4) := opens_nat rfl rfl rfl (fun n h => h.1)
theorem op42 : Opens Try.prog 42 (encSl (encNat .u32 4)) := opens_sl rfl op84 rfl rfl (by decide)
theorem op44 : Opens Try.prog 44 (encPair encBool (encPair (encSl (encNat .u32 4)) (encSl (encNat .u32 4)) 48) 56) := opens_struct rfl (opensAll_cons 56 rfl op4 (opensAll_cons 48 rfl op42 (opensAll_one rfl op42))) rfl rfl
theorem op31 : Opens Try.prog 31 (encSl (encPair encBool (encPair (encSl (encNat .u32 4)) (encSl (encNat .u32 4)) 48) 56)) := opens_sl rfl op44 rfl rfl (by decide)
theorem op32 : Opens Try.prog 32 (encSl (encSl (encPair encBool (encPair (encSl (encNat .u32 4)) (encSl (encNat .u32 4)) 48) 56))) := opens_sl rfl op31 rfl rfl (by decide)
theorem op34 : Opens Try.prog 34 (encPair (encSl (encPair encBool (encPair (encSl (encNat .u32 4)) (encSl (encNat .u32 4)) 48) 56)) (encPair (encSl (encSl (encPair encBool (encPair (encSl (encNat .u32 4)) (encSl (encNat .u32 4)) 48) 56))) (encSl (encPair encBool (encPair (encSl (encNat .u32 4)) (encSl (encNat .u32 4)) 48) 56)) 48) 72) := opens_struct rfl (opensAll_cons 72 rfl op31 (opensAll_cons 48 rfl op32 (opensAll_one rfl op31))) rfl rfl
theorem op3 : Opens Try.prog 3 (encInt .i64 8) := opens_int rfl rfl rfl
theorem op36 : Opens Try.prog 36 (encPair (encInt .i64 8) (encPair (encSl (encPair encBool (encPair (encSl (encNat .u32 4)) (encSl (encNat .u32 4)) 48) 56)) (encPair (encSl (encPair encBool (encPair (encSl (encNat .u32 4)) (encSl (encNat .u32 4)) 48) 56)) (encSl (encPair encBool (encPair (encSl (encNat .u32 4)) (encSl (encNat .u32 4)) 48) 56)) 48) 72) 80) := opens_struct rfl (opensAll_cons 80 rfl op3 (opensAll_cons 72 rfl op31 (opensAll_cons 48 rfl op31 (opensAll_one rfl op31)))) rfl rfl

theorem simplexSlack_says : LawSays Try.prog 9 Try.f9 := by
  intro W args h
  have h : Args Try.prog W [34, 36] args := h
  match args, h with
  | [v0, v1], ⟨h0, h1, _⟩ =>
    obtain ⟨vs0, l0, rfl, k0⟩ := h0.agg Try.underlying34 op34
    obtain ⟨p01, c01, p02, c02, p03, c03, rfl, a01, a02, a03⟩ := lin_open k0
    obtain ⟨vs1, l1, rfl, k1⟩ := h1.agg Try.underlying36 op36
    obtain ⟨p11, c11, p12, c12, p13, c13, rfl, a11, a12, a13⟩ := sol_open k1
    refine law_of_gives S_SimplexSlack (fun v Φ β h => h.1) ?_
    intro g hg
    simp only [List.mem_cons, List.not_mem_nil, or_false] at hg
    rcases hg with rfl | rfl | rfl | rfl | rfl | rfl
    · exact ⟨rfl, a01⟩
    · exact ⟨rfl, a02⟩
    · exact ⟨rfl, a03⟩
    · exact ⟨rfl, a11⟩
    · exact ⟨rfl, a12⟩
    · exact ⟨rfl, a13⟩


/-! ### The row -/

theorem simplexSlack_lifted (os : Os) (started : os.Started) (H : Type) (enc : TypeId × Value → H) :
    ReturnsInHanded {} Try.checked os 9 .any (Rows.simplexSlackSpec.pre6 enc Try.prog Try.f9 Rows.simplexSlackRow.domain false) (Rows.simplexSlackSpec.post enc Try.prog Try.f9 false true false false) :=
  law_lift (C := Try.checked) (by kernel_rfl) started (by kernel_rfl) Try.func9
    (ChangeSpec.witness6 (enc := enc) (C := Try.checked) false ⟨#[], #[.agg #[.slice none 0 0, .slice none 0 0, .slice none 0 0], .agg #[.int .i64 0, .slice none 0 0, .slice none 0 0, .slice none 0 0]], []⟩ 8 (by kernel_rfl) (by kernel_rfl) (by kernel_rfl) (by kernel_rfl))
    (by kernel_rfl) rfl (by kernel_rfl) rfl Try.underlying4 (fun ds h => match ds, h with | [d0, d1], _ => rfl) simplexSlack_says

theorem simplexSlack_holds : Rows.SimplexSlackSaid :=
  OpenClaim.holds_of_wide 9 Try.f9 rfl rfl rfl rfl rfl rfl rfl ⟨rfl, rfl, rfl, rfl, rfl⟩ rfl rfl rfl rfl rfl (by kernel_rfl) Try.func9 (by kernel_rfl)
    (of_decide_eq_true (by kernel_rfl)) (by unfold Func.isWrapper; first | (rw [if_pos (by decide +kernel)]; kernel_rfl) | (rw [if_neg (by decide +kernel)]; exact ⟨rfl, rfl⟩))
    (fun os started H enc _ => simplexSlack_lifted os started H enc)
#print axioms simplexSlack_holds
end Go.Proofs.Ytkchmoahohopiaa
