/-
MacwilliamsAssmus returns true: the supports of the words of the least weight are a design.
-/
import Derived.Test.YtmhcfhddmkhaiaaRows
import Derived.ProofKit
import Derived.JoinedOf
import Derived.Test.YtmhcfhddmkhaiaaHC7
namespace Go.Proofs.Ytmhcfhddmkhaiaa
open Go Go.Fw
set_option maxRecDepth 100000
set_option linter.unusedVariables false
set_option linter.unusedSimpArgs false
set_option maxHeartbeats 4000000
theorem fld_open {w : World} {A : Nat → Prop} {vs : List Value} {x : Int × Int × List Int} (h : (encPair I64 (encPair I64 (encSl I64) 32) 40).rd w A vs x) :
    ∃ pm cm, vs = [.int .i64 x.1, .int .i64 x.2.1, .slice pm x.2.2.length cm] ∧ SlRd I64 w A pm cm x.2.2 := by
  obtain ⟨_, _, rfl, ⟨rfl, _⟩, _, _, rfl, ⟨rfl, _⟩, ⟨pm, cm, rfl, h3⟩⟩ := h
  exact ⟨pm, cm, rfl, h3⟩

theorem op3 : Opens Try.prog 3 (encInt .i64 8) := opens_int rfl rfl rfl
theorem op29 : Opens Try.prog 29 (encSl (encInt .i64 8)) := opens_sl rfl op3 rfl rfl (by decide)
theorem op33 : Opens Try.prog 33 (encPair (encInt .i64 8) (encPair (encInt .i64 8) (encSl (encInt .i64 8)) 32) 40) := opens_struct rfl (opensAll_cons 40 rfl op3 (opensAll_cons 32 rfl op3 (opensAll_one rfl op29))) rfl rfl
theorem op5 : Opens Try.prog 5 (encNat .u8 1) := opens_nat rfl rfl rfl (fun n h => h.1)
theorem op22 : Opens Try.prog 22 (encSl (encSl (encInt .i64 8))) := opens_sl rfl op29 rfl rfl (by decide)

theorem macwilliamsAssmus_says : LawSays Try.prog 5 Try.f5 := by
  intro W args h
  have h : Args Try.prog W [33, 5, 22] args := h
  match args, h with
  | [v0, v1, v2], ⟨h0, h1, h2, _⟩ =>
    obtain ⟨vs, x, rfl, hx⟩ := h0.agg Try.underlying33 op33
    obtain ⟨pm, cm, rfl, hm⟩ := fld_open hx
    obtain ⟨n1, rfl, r1⟩ := h1.int Try.underlying5
    simp only [InR] at r1
    obtain ⟨n1, rfl⟩ : ∃ a : Nat, n1 = a := ⟨n1.toNat, by omega⟩
    obtain ⟨p2, c2, l2, rfl, k2⟩ := h2.slice Try.underlying22 op22
    refine law_of_gives (S_MacwilliamsAssmus (md := x.2.2) (rows := l2) (by omega)) (fun v Φ β h => h.1) ?_
    intro g hg
    simp only [List.mem_cons, List.not_mem_nil, or_false] at hg
    rcases hg with rfl | rfl
    · exact ⟨rfl, hm⟩
    · exact k2


/-! ### The row -/

theorem macwilliamsAssmus_lifted (os : Os) (started : os.Started) (H : Type) (enc : TypeId × Value → H) :
    ReturnsInHanded {} Try.checked os 5 .any (Rows.macwilliamsAssmusSpec.pre6 enc Try.prog Try.f5 Rows.macwilliamsAssmusRow.domain false) (Rows.macwilliamsAssmusSpec.post enc Try.prog Try.f5 false true false false) :=
  law_lift (C := Try.checked) (by kernel_rfl) started (by kernel_rfl) Try.func5
    (ChangeSpec.witness6 (enc := enc) (C := Try.checked) false ⟨#[], #[.agg #[.int .i64 0, .int .i64 0, .slice none 0 0], .int .u8 0, .slice none 0 0], []⟩ 8 (by kernel_rfl) (by kernel_rfl) (by kernel_rfl) (by kernel_rfl))
    (by kernel_rfl) rfl (by kernel_rfl) rfl Try.underlying4 (fun ds h => match ds, h with | [d0, d1, d2], _ => rfl) macwilliamsAssmus_says

theorem macwilliamsAssmus_holds : Rows.MacwilliamsAssmusSaid :=
  OpenClaim.holds_of_wide 5 Try.f5 rfl rfl rfl rfl rfl rfl rfl ⟨rfl, rfl, rfl, rfl, rfl⟩ rfl rfl rfl rfl rfl (by kernel_rfl) Try.func5 (by kernel_rfl)
    (of_decide_eq_true (by kernel_rfl)) (by unfold Func.isWrapper; first | (rw [if_pos (by decide +kernel)]; kernel_rfl) | (rw [if_neg (by decide +kernel)]; exact ⟨rfl, rfl⟩))
    (fun os started H enc _ => macwilliamsAssmus_lifted os started H enc)
#print axioms macwilliamsAssmus_holds
end Go.Proofs.Ytmhcfhddmkhaiaa
