/-
SimplexDuals returns true: for every linear program the dual is what the document says, and the dual of the dual is the program itself in least form; the argument reads afterwards as it read before.
-/
import Derived.Test.YtpoonnjaobjdgaaFuns
import Derived.Test.YtpoonnjaobjdgaaNatMath
import Derived.Test.YtpoonnjaobjdgaaNatMath5
import Derived.Test.YtpoonnjaobjdgaaRatMath
import Derived.Test.YtpoonnjaobjdgaaA1
import Derived.Test.YtpoonnjaobjdgaaD1
import Derived.Test.YtpoonnjaobjdgaaD3
import Derived.Test.YtpoonnjaobjdgaaE1
import Derived.Test.YtpoonnjaobjdgaaE3
import Derived.Test.YtpoonnjaobjdgaaS1
import Derived.Test.YtpoonnjaobjdgaaSChecks
import Derived.Test.YtpoonnjaobjdgaaS2
import Derived.Test.YtpoonnjaobjdgaaS3
import Derived.Test.YtpoonnjaobjdgaaS4
import Derived.Test.YtpoonnjaobjdgaaS5
import Derived.Test.YtpoonnjaobjdgaaFwL
import Derived.Test.YtpoonnjaobjdgaaRows
import Derived.ProofKit
import Derived.JoinedOf
namespace Go.Proofs.Ytpoonnjaobjdgaa
open Go Go.Fw
set_option maxRecDepth 100000
set_option linter.unusedVariables false
theorem op4 : Opens Try.prog 4 encBool := opens_bool rfl rfl rfl
theorem op52 : Opens Try.prog 52 (encNat .u32 4) := opens_nat rfl rfl rfl (fun n h => h.1)
theorem op35 : Opens Try.prog 35 (encSl (encNat .u32 4)) := opens_sl rfl op52 rfl rfl (by decide)
theorem op37 : Opens Try.prog 37 (encPair encBool (encPair (encSl (encNat .u32 4)) (encSl (encNat .u32 4)) 48) 56) := opens_struct rfl (opensAll_cons 56 rfl op4 (opensAll_cons 48 rfl op35 (opensAll_one rfl op35))) rfl rfl
theorem op22 : Opens Try.prog 22 (encSl (encPair encBool (encPair (encSl (encNat .u32 4)) (encSl (encNat .u32 4)) 48) 56)) := opens_sl rfl op37 rfl rfl (by decide)
theorem op23 : Opens Try.prog 23 (encSl (encSl (encPair encBool (encPair (encSl (encNat .u32 4)) (encSl (encNat .u32 4)) 48) 56))) := opens_sl rfl op22 rfl rfl (by decide)
theorem op25 : Opens Try.prog 25 (encPair (encSl (encPair encBool (encPair (encSl (encNat .u32 4)) (encSl (encNat .u32 4)) 48) 56)) (encPair (encSl (encSl (encPair encBool (encPair (encSl (encNat .u32 4)) (encSl (encNat .u32 4)) 48) 56))) (encSl (encPair encBool (encPair (encSl (encNat .u32 4)) (encSl (encNat .u32 4)) 48) 56)) 48) 72) := opens_struct rfl (opensAll_cons 72 rfl op22 (opensAll_cons 48 rfl op23 (opensAll_one rfl op22))) rfl rfl

theorem simplexDuals_says : LawSays Try.prog 3 Try.f3 := by
  intro W args h
  have h : Args Try.prog W [25] args := h
  match args, h with
  | [v0], ⟨h0, _⟩ =>
    obtain ⟨vs, x, rfl, hx⟩ := h0.agg Try.underlying25 op25
    obtain ⟨p1, c1, p2, c2, p3, c3, rfl, h1, h2, h3⟩ := lin_open hx
    refine law_of_gives S_SimplexDuals (fun v Φ β h => h.1) ?_
    intro g hg
    simp only [List.mem_cons, List.not_mem_nil, or_false] at hg
    rcases hg with rfl | rfl | rfl
    · exact ⟨rfl, h1⟩
    · exact ⟨rfl, h2⟩
    · exact ⟨rfl, h3⟩


/-! ### The row -/

theorem simplexDuals_lifted (os : Os) (started : os.Started) (H : Type) (enc : TypeId × Value → H) :
    ReturnsInHanded {} Try.checked os 3 .any (Rows.simplexDualsSpec.pre6 enc Try.prog Try.f3 Rows.simplexDualsRow.domain false) (Rows.simplexDualsSpec.post enc Try.prog Try.f3 false true false false) :=
  law_lift (C := Try.checked) (by kernel_rfl) started (by kernel_rfl) Try.func3
    (ChangeSpec.witness6 (enc := enc) (C := Try.checked) false ⟨#[], #[.agg #[.slice none 0 0, .slice none 0 0, .slice none 0 0]], []⟩ 8 (by kernel_rfl) (by kernel_rfl) (by kernel_rfl) (by kernel_rfl))
    (by kernel_rfl) rfl (by kernel_rfl) rfl Try.underlying4 (fun ds h => match ds, h with | [d0], _ => rfl) simplexDuals_says

theorem simplexDuals_holds : Rows.SimplexDualsSaid :=
  OpenClaim.holds_of_wide 3 Try.f3 rfl rfl rfl rfl rfl rfl rfl ⟨rfl, rfl, rfl, rfl, rfl⟩ rfl rfl rfl rfl rfl (by kernel_rfl) Try.func3 (by kernel_rfl)
    (of_decide_eq_true (by kernel_rfl)) (by unfold Func.isWrapper; first | (rw [if_pos (by decide +kernel)]; kernel_rfl) | (rw [if_neg (by decide +kernel)]; exact ⟨rfl, rfl⟩))
    (fun os started H enc _ => simplexDuals_lifted os started H enc)
#print axioms simplexDuals_holds
end Go.Proofs.Ytpoonnjaobjdgaa
