/-
ModifyParity returns true: extended codes and what is made from them.
-/
import Derived.Test.YtpienolhkccpnaaGreatRows
import Derived.ProofKit
import Derived.JoinedOf
import Derived.Test.YtpienolhkccpnaaGreatXC8
namespace Go.Proofs.YtpienolhkccpnaaGreat
open Go Go.Fw
set_option maxRecDepth 100000
set_option linter.unusedVariables false
set_option linter.unusedSimpArgs false
set_option maxHeartbeats 0
theorem AGq {w : World} {A : Nat → Prop} {vs : List Value} {x : (Int × Int × List Int) × Int × List (List Int)} (h : (Fh (Fh Ai (Fh Ai (Aj Ai) 32) 40) (Fh Ai (Aj (Aj Ai)) 32) 72).rd w A vs x) :
    ∃ pm cm ps c, vs=[.int .i64 x.1.1, .int .i64 x.1.2.1, .slice pm x.1.2.2.length cm, .int .i64 x.2.1, .slice ps x.2.2.length c]∧Bv .i64 x.2.1∧Np Ai w A pm cm x.1.2.2∧Np (Aj Ai) w A ps c x.2.2 := by
  obtain ⟨_, _, rfl, ⟨_, _, rfl, ⟨rfl, _⟩, _, _, rfl, ⟨rfl, _⟩, ⟨pm, cm, rfl, h3⟩⟩, _, _, rfl, ⟨rfl, h4⟩, ⟨ps, c, rfl, h5⟩⟩ := h
  exact ⟨pm, cm, ps, c, rfl, h4, h3, h5⟩

theorem op3:Ow Tryz.prog 3 (Dy .i64 8) := AGo rfl rfl rfl
theorem AMb:Ow Tryz.prog 22 (Aj (Dy .i64 8)) := ADH rfl op3 rfl rfl (by decide)
theorem AML:Ow Tryz.prog 24 (Fh (Dy .i64 8) (Fh (Dy .i64 8) (Aj (Dy .i64 8)) 32) 40) := Vv rfl (J0 40 rfl op3 (J0 32 rfl op3 (Vr rfl AMb))) rfl rfl
theorem AM8:Ow Tryz.prog 25 (Aj (Aj (Dy .i64 8))) := ADH rfl AMb rfl rfl (by decide)
theorem AMJ:Ow Tryz.prog 27 (Fh (Fh (Dy .i64 8) (Fh (Dy .i64 8) (Aj (Dy .i64 8)) 32) 40) (Fh (Dy .i64 8) (Aj (Aj (Dy .i64 8))) 32) 72) := Vv rfl (J0 72 rfl AML (J0 32 rfl op3 (Vr rfl AM8))) rfl rfl

theorem Vm:AFm Tryz.prog 7 Tryz.f7 := by
  intro W args h
  have h:AJh Tryz.prog W [27] args := h
  match args, h with
  | [v0], ⟨h0, _⟩ =>
    obtain ⟨vs, x, rfl, hc⟩ := h0.agg Tryz.underlying27 AMJ
    obtain ⟨pm, cm, ps, c, rfl, hN, hm, hg⟩ := AGq hc
    refine ACa (Jm (md := x.1.2.2) (rows := x.2.2) hN) (fun v Φ β h => h.1) ?_
    intro g hg'
    simp only [List.mem_cons, List.not_mem_nil, or_false] at hg'
    rcases hg' with rfl|rfl
    · exact ⟨rfl, hm⟩
    · exact ⟨rfl, hg⟩


/-! ### The row -/

theorem Tf (os : Os) (started : os.Started) (H : Type) (enc : TypeId × Value → H) :
    ReturnsInHanded {} Tryz.checked os 7 .any (Rows.modifyParitySpec.pre6 enc Tryz.prog Tryz.f7 Rows.modifyParityRow.domain false) (Rows.modifyParitySpec.post enc Tryz.prog Tryz.f7 false true false false) :=
  AIe (C := Tryz.checked) (by kernel_rfl) started (by kernel_rfl) Tryz.func7
    (ChangeSpec.witness6 (enc := enc) (C := Tryz.checked) false ⟨#[], #[.agg #[.int .i64 0, .int .i64 0, .slice none 0 0, .int .i64 0, .slice none 0 0]], []⟩ 8 (by kernel_rfl) (by kernel_rfl) (by kernel_rfl) (by kernel_rfl))
    (by kernel_rfl) rfl (by kernel_rfl) rfl Tryz.underlying4 (fun ds h => match ds, h with|[d0], _ => rfl) Vm

theorem modifyParity_holds:Rows.ModifyParitySaid :=
  OpenClaim.holds_of_wide 7 Tryz.f7 rfl rfl rfl rfl rfl rfl rfl ⟨rfl, rfl, rfl, rfl, rfl⟩ rfl rfl rfl rfl rfl (by kernel_rfl) Tryz.func7 (by kernel_rfl)
    (of_decide_eq_true (by kernel_rfl)) (by unfold Func.isWrapper; first|(rw [if_pos (by decide +kernel)]; kernel_rfl)|(rw [if_neg (by decide +kernel)]; exact ⟨rfl, rfl⟩))
    (fun os started H enc _ => Tf os started H enc)
#print axioms modifyParity_holds
end Go.Proofs.YtpienolhkccpnaaGreat
