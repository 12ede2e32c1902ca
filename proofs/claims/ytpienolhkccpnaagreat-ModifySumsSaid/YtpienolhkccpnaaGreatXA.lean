/-
ModifySums returns true: the program and the document make the same extended, expurgated and augmented codes.
-/
import Derived.Test.YtpienolhkccpnaaGreatRows
import Derived.ProofKit
import Derived.JoinedOf
import Derived.Test.YtpienolhkccpnaaGreatXA8
namespace Go.Proofs.YtpienolhkccpnaaGreat
open Go Go.Fw
set_option maxRecDepth 100000
set_option linter.unusedVariables false
set_option linter.unusedSimpArgs false
set_option maxHeartbeats 0
theorem AG2 {w : World} {A : Nat → Prop} {vs : List Value} {x : (Int × Int × List Int) × Int × List (List Int)} (h : (F3 (F3 Aj (F3 Aj (Ah Aj) 32) 40) (F3 Aj (Ah (Ah Aj)) 32) 72).rd w A vs x) :
    ∃ pm cm ps c, vs=[.int .i64 x.1.1, .int .i64 x.1.2.1, .slice pm x.1.2.2.length cm, .int .i64 x.2.1, .slice ps x.2.2.length c]∧Bx .i64 x.2.1∧N6 Aj w A pm cm x.1.2.2∧N6 (Ah Aj) w A ps c x.2.2 := by
  obtain ⟨_, _, rfl, ⟨_, _, rfl, ⟨rfl, _⟩, _, _, rfl, ⟨rfl, _⟩, ⟨pm, cm, rfl, h3⟩⟩, _, _, rfl, ⟨rfl, h4⟩, ⟨ps, c, rfl, h5⟩⟩ := h
  exact ⟨pm, cm, ps, c, rfl, h4, h3, h5⟩

theorem op3:P1 Tryz.prog 3 (Ds .i64 8) := AGD rfl rfl rfl
theorem ALU:P1 Tryz.prog 22 (Ah (Ds .i64 8)) := AD2 rfl op3 rfl rfl (by decide)
theorem ANl:P1 Tryz.prog 24 (F3 (Ds .i64 8) (F3 (Ds .i64 8) (Ah (Ds .i64 8)) 32) 40) := W4 rfl (Kf 40 rfl op3 (Kf 32 rfl op3 (W2 rfl ALU))) rfl rfl
theorem ANj:P1 Tryz.prog 25 (Ah (Ah (Ds .i64 8))) := AD2 rfl ALU rfl rfl (by decide)
theorem ANa:P1 Tryz.prog 27 (F3 (F3 (Ds .i64 8) (F3 (Ds .i64 8) (Ah (Ds .i64 8)) 32) 40) (F3 (Ds .i64 8) (Ah (Ah (Ds .i64 8))) 32) 72) := W4 rfl (Kf 72 rfl ANl (Kf 32 rfl op3 (W2 rfl ANj))) rfl rfl

theorem Ze:AFQ Tryz.prog 4 Tryz.f4 := by
  intro W args h
  have h:AJp Tryz.prog W [27] args := h
  match args, h with
  | [v0], ⟨h0, _⟩ =>
    obtain ⟨vs, x, rfl, hc⟩ := h0.agg Tryz.underlying27 ANa
    obtain ⟨pm, cm, ps, c, rfl, hN, hm, hg⟩ := AG2 hc
    refine ACl (Lc (md := x.1.2.2) (rows := x.2.2) hN) (fun v Φ β h => h.1) ?_
    intro g hg'
    simp only [List.mem_cons, List.not_mem_nil, or_false] at hg'
    rcases hg' with rfl|rfl
    · exact ⟨rfl, hm⟩
    · exact ⟨rfl, hg⟩


/-! ### The row -/

theorem W7 (os : Os) (started : os.Started) (H : Type) (enc : TypeId × Value → H) :
    ReturnsInHanded {} Tryz.checked os 4 .any (Rows.modifySumsSpec.pre6 enc Tryz.prog Tryz.f4 Rows.modifySumsRow.domain false) (Rows.modifySumsSpec.post enc Tryz.prog Tryz.f4 false true false false) :=
  AHt (C := Tryz.checked) (by kernel_rfl) started (by kernel_rfl) Tryz.func4
    (ChangeSpec.witness6 (enc := enc) (C := Tryz.checked) false ⟨#[], #[.agg #[.int .i64 0, .int .i64 0, .slice none 0 0, .int .i64 0, .slice none 0 0]], []⟩ 8 (by kernel_rfl) (by kernel_rfl) (by kernel_rfl) (by kernel_rfl))
    (by kernel_rfl) rfl (by kernel_rfl) rfl Tryz.underlying4 (fun ds h => match ds, h with|[d0], _ => rfl) Ze

theorem modifySums_holds:Rows.ModifySumsSaid :=
  OpenClaim.holds_of_wide 4 Tryz.f4 rfl rfl rfl rfl rfl rfl rfl ⟨rfl, rfl, rfl, rfl, rfl⟩ rfl rfl rfl rfl rfl (by kernel_rfl) Tryz.func4 (by kernel_rfl)
    (of_decide_eq_true (by kernel_rfl)) (by unfold Func.isWrapper; first|(rw [if_pos (by decide +kernel)]; kernel_rfl)|(rw [if_neg (by decide +kernel)]; exact ⟨rfl, rfl⟩))
    (fun os started H enc _ => W7 os started H enc)
#print axioms modifySums_holds
end Go.Proofs.YtpienolhkccpnaaGreat
