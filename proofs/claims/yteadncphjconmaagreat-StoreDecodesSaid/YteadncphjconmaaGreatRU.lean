/-
StoreDecodes returns true: the program and the document decode a stripe alike.
-/
import Derived.Test.YteadncphjconmaaGreatRows
import Derived.ProofKit
import Derived.JoinedOf
import Derived.Test.YteadncphjconmaaGreatRU7
namespace Go.Proofs.YteadncphjconmaaGreat
open Go Go.Fw
set_option maxRecDepth 100000
set_option linter.unusedVariables false
set_option linter.unusedSimpArgs false
set_option maxHeartbeats 0
theorem code_open {w : World} {A : Nat → Prop} {vs : List Value} {x : (Int × Int × List Int) × Int × List (List Int)} (h : (encPair (encPair I64 (encPair I64 (encSl I64) 32) 40) (encPair I64 (encSl (encSl I64)) 32) 72).rd w A vs x) :
    ∃ pm cm ps c, vs = [.int .i64 x.1.1, .int .i64 x.1.2.1, .slice pm x.1.2.2.length cm, .int .i64 x.2.1, .slice ps x.2.2.length c] ∧ InR .i64 x.2.1 ∧ SlRd I64 w A pm cm x.1.2.2 ∧ SlRd (encSl I64) w A ps c x.2.2 := by
  obtain ⟨_, _, rfl, ⟨_, _, rfl, ⟨rfl, _⟩, _, _, rfl, ⟨rfl, _⟩, ⟨pm, cm, rfl, h3⟩⟩, _, _, rfl, ⟨rfl, h4⟩, ⟨ps, c, rfl, h5⟩⟩ := h
  exact ⟨pm, cm, ps, c, rfl, h4, h3, h5⟩

theorem op3 : Opens Tryz.prog 3 (encInt .i64 8) := opens_int rfl rfl rfl
theorem op22 : Opens Tryz.prog 22 (encSl (encInt .i64 8)) := opens_sl rfl op3 rfl rfl (by decide)
theorem op24 : Opens Tryz.prog 24 (encPair (encInt .i64 8) (encPair (encInt .i64 8) (encSl (encInt .i64 8)) 32) 40) := opens_struct rfl (opensAll_cons 40 rfl op3 (opensAll_cons 32 rfl op3 (opensAll_one rfl op22))) rfl rfl
theorem op25 : Opens Tryz.prog 25 (encSl (encSl (encInt .i64 8))) := opens_sl rfl op22 rfl rfl (by decide)
theorem op27 : Opens Tryz.prog 27 (encPair (encPair (encInt .i64 8) (encPair (encInt .i64 8) (encSl (encInt .i64 8)) 32) 40) (encPair (encInt .i64 8) (encSl (encSl (encInt .i64 8))) 32) 72) := opens_struct rfl (opensAll_cons 72 rfl op24 (opensAll_cons 32 rfl op3 (opensAll_one rfl op25))) rfl rfl
theorem op29 : Opens Tryz.prog 29 (encSl (encSl (encInt .i64 8))) := opens_struct rfl (opensAll_one rfl op25) rfl rfl
theorem op31 : Opens Tryz.prog 31 (encPair (encPair (encPair (encInt .i64 8) (encPair (encInt .i64 8) (encSl (encInt .i64 8)) 32) 40) (encPair (encInt .i64 8) (encSl (encSl (encInt .i64 8))) 32) 72) (encPair (encInt .i64 8) (encPair (encSl (encSl (encInt .i64 8))) (encPair (encSl (encInt .i64 8)) (encInt .i64 8) 32) 56) 64) 136) := opens_struct rfl (opensAll_cons 136 rfl op27 (opensAll_cons 64 rfl op3 (opensAll_cons 56 rfl op29 (opensAll_cons 32 rfl op22 (opensAll_one rfl op3))))) rfl rfl

theorem storeDecodes_says : LawSays Tryz.prog 7 Tryz.f7 := by
  intro W args h
  have h : Args Tryz.prog W [31, 25] args := h
  match args, h with
  | [v0, v1], ⟨h0, h1, _⟩ =>
    obtain ⟨vs, x, rfl, hx⟩ := h0.agg Tryz.underlying31 op31
    obtain ⟨_, _, rfl, hc, _, _, rfl, ⟨rfl, hd⟩, _, _, rfl, ⟨p1, c1, rfl, k1⟩, _, _, rfl, ⟨p2, c2, rfl, k2⟩, ⟨rfl, hw⟩⟩ := hx
    obtain ⟨pm, cm, ps, c, rfl, hN, hm, hg⟩ := code_open hc
    obtain ⟨p3, c3, l3, rfl, k3⟩ := h1.slice Tryz.underlying25 op25
    refine law_of_gives (S_codewrightlaw54_StoreDecodes (md := x.1.1.2.2) (rows := x.1.2.2) (sets := x.2.2.1) (racks := x.2.2.2.1) (blocks := l3) hN hd) (fun v Φ β h => h.1) ?_
    intro g hg'
    simp only [List.mem_cons, List.not_mem_nil, or_false] at hg'
    rcases hg' with rfl | rfl | rfl | rfl | rfl
    · exact ⟨rfl, hm⟩
    · exact ⟨rfl, hg⟩
    · exact ⟨rfl, k1⟩
    · exact ⟨rfl, k2⟩
    · exact k3


/-! ### The row -/

theorem storeDecodes_lifted (os : Os) (started : os.Started) (H : Type) (enc : TypeId × Value → H) :
    ReturnsInHanded {} Tryz.checked os 7 .any (Rows.storeDecodesSpec.pre6 enc Tryz.prog Tryz.f7 Rows.storeDecodesRow.domain false) (Rows.storeDecodesSpec.post enc Tryz.prog Tryz.f7 false true false false) :=
  law_lift (C := Tryz.checked) (by kernel_rfl) started (by kernel_rfl) Tryz.func7
    (ChangeSpec.witness6 (enc := enc) (C := Tryz.checked) false ⟨#[], #[.agg #[.int .i64 0, .int .i64 0, .slice none 0 0, .int .i64 0, .slice none 0 0, .int .i64 0, .slice none 0 0, .slice none 0 0, .int .i64 0], .slice none 0 0], []⟩ 8 (by kernel_rfl) (by kernel_rfl) (by kernel_rfl) (by kernel_rfl))
    (by kernel_rfl) rfl (by kernel_rfl) rfl Tryz.underlying4 (fun ds h => match ds, h with | [d0, d1], _ => rfl) storeDecodes_says

theorem storeDecodes_holds : Rows.StoreDecodesSaid :=
  OpenClaim.holds_of_wide 7 Tryz.f7 rfl rfl rfl rfl rfl rfl rfl ⟨rfl, rfl, rfl, rfl, rfl⟩ rfl rfl rfl rfl rfl (by kernel_rfl) Tryz.func7 (by kernel_rfl)
    (of_decide_eq_true (by kernel_rfl)) (by unfold Func.isWrapper; first | (rw [if_pos (by decide +kernel)]; kernel_rfl) | (rw [if_neg (by decide +kernel)]; exact ⟨rfl, rfl⟩))
    (fun os started H enc _ => storeDecodes_lifted os started H enc)
#print axioms storeDecodes_holds
end Go.Proofs.YteadncphjconmaaGreat
