/-
ModifyDual returns true: duals of punctured and of shortened codes.
-/
import Derived.Test.YtpienolhkccpnaaGreatRows
import Derived.ProofKit
import Derived.JoinedOf
import Derived.Test.YtpienolhkccpnaaGreatXB8
namespace Go.Proofs.YtpienolhkccpnaaGreat
open Go Go.Fw
set_option maxRecDepth 100000
set_option linter.unusedVariables false
set_option linter.unusedSimpArgs false
set_option maxHeartbeats 0
theorem AF5 {w : World} {A : Nat → Prop} {vs : List Value} {x : (Int × Int × List Int) × Int × List (List Int)} (h : (Fv (Fv Ai (Fv Ai (Aj Ai) 32) 40) (Fv Ai (Aj (Aj Ai)) 32) 72).rd w A vs x) :
    ∃ pm cm ps c, vs=[.int .i64 x.1.1, .int .i64 x.1.2.1, .slice pm x.1.2.2.length cm, .int .i64 x.2.1, .slice ps x.2.2.length c]∧Bv .i64 x.2.1∧Nu Ai w A pm cm x.1.2.2∧Nu (Aj Ai) w A ps c x.2.2 := by
  obtain ⟨_, _, rfl, ⟨_, _, rfl, ⟨rfl, _⟩, _, _, rfl, ⟨rfl, _⟩, ⟨pm, cm, rfl, h3⟩⟩, _, _, rfl, ⟨rfl, h4⟩, ⟨ps, c, rfl, h5⟩⟩ := h
  exact ⟨pm, cm, ps, c, rfl, h4, h3, h5⟩

theorem op3:L6 Tryz.prog 3 (Dv .i64 8) := AFZ rfl rfl rfl
theorem AMm:L6 Tryz.prog 22 (Aj (Dv .i64 8)) := ADK rfl op3 rfl rfl (by decide)
theorem AML:L6 Tryz.prog 24 (Fv (Dv .i64 8) (Fv (Dv .i64 8) (Aj (Dv .i64 8)) 32) 40) := Wc rfl (Jv 40 rfl op3 (Jv 32 rfl op3 (Vt rfl AMm))) rfl rfl
theorem AMM:L6 Tryz.prog 25 (Aj (Aj (Dv .i64 8))) := ADK rfl AMm rfl rfl (by decide)
theorem AMV:L6 Tryz.prog 27 (Fv (Fv (Dv .i64 8) (Fv (Dv .i64 8) (Aj (Dv .i64 8)) 32) 40) (Fv (Dv .i64 8) (Aj (Aj (Dv .i64 8))) 32) 72) := Wc rfl (Jv 72 rfl AML (Jv 32 rfl op3 (Vt rfl AMM))) rfl rfl
theorem ANP:L6 Tryz.prog 40 (ABZ .u32 4) := AFU rfl rfl rfl (fun n h => h.1)

theorem Yp:AE4 Tryz.prog 6 Tryz.f6 := by
  intro W args h
  have h:AJo Tryz.prog W [27, 40] args := h
  match args, h with
  | [v0, v1], ⟨h0, h1, _⟩ =>
    obtain ⟨vs, x, rfl, hc⟩ := h0.agg Tryz.underlying27 AMV
    obtain ⟨pm, cm, ps, c, rfl, hN, hm, hg⟩ := AF5 hc
    obtain ⟨n1, rfl, r1⟩ := h1.int Tryz.underlying40
    simp only [Bv] at r1
    obtain ⟨b, rfl⟩:∃ b:Nat, n1=b := ⟨n1.toNat, by omega⟩
    refine ABS (Ke (md := x.1.2.2) (rows := x.2.2) (bits := b) hN (by omega)) (fun v Φ β h => h.1) ?_
    intro g hg'
    simp only [List.mem_cons, List.not_mem_nil, or_false] at hg'
    rcases hg' with rfl|rfl
    · exact ⟨rfl, hm⟩
    · exact ⟨rfl, hg⟩


/-! ### The row -/

theorem U3 (os : Os) (started : os.Started) (H : Type) (enc : TypeId × Value → H) :
    ReturnsInHanded {} Tryz.checked os 6 .any (Rows.modifyDualSpec.pre6 enc Tryz.prog Tryz.f6 Rows.modifyDualRow.domain false) (Rows.modifyDualSpec.post enc Tryz.prog Tryz.f6 false true false false) :=
  AG2 (C := Tryz.checked) (by kernel_rfl) started (by kernel_rfl) Tryz.func6
    (ChangeSpec.witness6 (enc := enc) (C := Tryz.checked) false ⟨#[], #[.agg #[.int .i64 0, .int .i64 0, .slice none 0 0, .int .i64 0, .slice none 0 0], .int .u32 0], []⟩ 8 (by kernel_rfl) (by kernel_rfl) (by kernel_rfl) (by kernel_rfl))
    (by kernel_rfl) rfl (by kernel_rfl) rfl Tryz.underlying4 (fun ds h => match ds, h with|[d0, d1], _ => rfl) Yp

theorem modifyDual_holds:Rows.ModifyDualSaid :=
  OpenClaim.holds_of_wide 6 Tryz.f6 rfl rfl rfl rfl rfl rfl rfl ⟨rfl, rfl, rfl, rfl, rfl⟩ rfl rfl rfl rfl rfl (by kernel_rfl) Tryz.func6 (by kernel_rfl)
    (of_decide_eq_true (by kernel_rfl)) (by unfold Func.isWrapper; first|(rw [if_pos (by decide +kernel)]; kernel_rfl)|(rw [if_neg (by decide +kernel)]; exact ⟨rfl, rfl⟩))
    (fun os started H enc _ => U3 os started H enc)
#print axioms modifyDual_holds
end Go.Proofs.YtpienolhkccpnaaGreat
