/-
DelsarteBounds returns true: no list of words with distance d has more words than the bound of an accepted certificate.
-/
import Derived.Test.YtlhgkefaflpgeaaRows
import Derived.ProofKit
import Derived.JoinedOf
import Derived.Test.YtlhgkefaflpgeaaHU7
namespace Go.Proofs.Ytlhgkefaflpgeaa
open Go Go.Fw
set_option maxRecDepth 100000
set_option linter.unusedVariables false
set_option linter.unusedSimpArgs false
set_option maxHeartbeats 4000000

theorem op3 : Opens Try.prog 3 (encInt .i64 8) := opens_int rfl rfl rfl
theorem op31 : Opens Try.prog 31 (encSl (encInt .i64 8)) := opens_sl rfl op3 rfl rfl (by decide)
theorem op22 : Opens Try.prog 22 (encSl (encSl (encInt .i64 8))) := opens_sl rfl op31 rfl rfl (by decide)
theorem op4 : Opens Try.prog 4 encBool := opens_bool rfl rfl rfl
theorem op78 : Opens Try.prog 78 (encNat .u32 4) := opens_nat rfl rfl rfl (fun n h => h.1)
theorem op33 : Opens Try.prog 33 (encSl (encNat .u32 4)) := opens_sl rfl op78 rfl rfl (by decide)
theorem op35 : Opens Try.prog 35 (encPair encBool (encPair (encSl (encNat .u32 4)) (encSl (encNat .u32 4)) 48) 56) := opens_struct rfl (opensAll_cons 56 rfl op4 (opensAll_cons 48 rfl op33 (opensAll_one rfl op33))) rfl rfl
theorem op23 : Opens Try.prog 23 (encSl (encPair encBool (encPair (encSl (encNat .u32 4)) (encSl (encNat .u32 4)) 48) 56)) := opens_sl rfl op35 rfl rfl (by decide)

theorem delsarteBounds_says : LawSays Try.prog 7 Try.f7 := by
  intro W args h
  have h : Args Try.prog W [3, 3, 22, 23] args := h
  match args, h with
  | [v0, v1, v2, v3], ⟨h0, h1, h2, h3, _⟩ =>
    obtain ⟨q0, rfl, _⟩ := h0.int Try.underlying3
    obtain ⟨q1, rfl, _⟩ := h1.int Try.underlying3
    obtain ⟨p2, c2, l2, rfl, k2⟩ := h2.slice Try.underlying22 op22
    obtain ⟨p3, c3, l3, rfl, k3⟩ := h3.slice Try.underlying23 op23
    refine law_of_gives (S_DelsarteBounds (W := l2) (f := l3)) (fun v Φ β h => h.1) ?_
    intro g hg
    simp only [List.mem_cons, List.not_mem_nil, or_false] at hg
    rcases hg with rfl | rfl
    · exact k2
    · exact k3


/-! ### The row -/

theorem delsarteBounds_lifted (os : Os) (started : os.Started) (H : Type) (enc : TypeId × Value → H) :
    ReturnsInHanded {} Try.checked os 7 .any (Rows.delsarteBoundsSpec.pre6 enc Try.prog Try.f7 Rows.delsarteBoundsRow.domain false) (Rows.delsarteBoundsSpec.post enc Try.prog Try.f7 false true false false) :=
  law_lift (C := Try.checked) (by kernel_rfl) started (by kernel_rfl) Try.func7
    (ChangeSpec.witness6 (enc := enc) (C := Try.checked) false ⟨#[], #[.int .i64 0, .int .i64 0, .slice none 0 0, .slice none 0 0], []⟩ 8 (by kernel_rfl) (by kernel_rfl) (by kernel_rfl) (by kernel_rfl))
    (by kernel_rfl) rfl (by kernel_rfl) rfl Try.underlying4 (fun ds h => match ds, h with | [d0, d1, d2, d3], _ => rfl) delsarteBounds_says

theorem delsarteBounds_holds : Rows.DelsarteBoundsSaid :=
  OpenClaim.holds_of_wide 7 Try.f7 rfl rfl rfl rfl rfl rfl rfl ⟨rfl, rfl, rfl, rfl, rfl⟩ rfl rfl rfl rfl rfl (by kernel_rfl) Try.func7 (by kernel_rfl)
    (of_decide_eq_true (by kernel_rfl)) (by unfold Func.isWrapper; first | (rw [if_pos (by decide +kernel)]; kernel_rfl) | (rw [if_neg (by decide +kernel)]; exact ⟨rfl, rfl⟩))
    (fun os started H enc _ => delsarteBounds_lifted os started H enc)
#print axioms delsarteBounds_holds
end Go.Proofs.Ytlhgkefaflpgeaa
