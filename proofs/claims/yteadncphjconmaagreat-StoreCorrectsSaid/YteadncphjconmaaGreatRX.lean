/-
StoreCorrects returns true: a stripe that is spoiled in few places is decoded right, and the wrong blocks are named.
-/
import Derived.Test.YteadncphjconmaaGreatRows
import Derived.ProofKit
import Derived.JoinedOf
import Derived.Test.YteadncphjconmaaGreatRX8
namespace Go.Proofs.YteadncphjconmaaGreat
open Go Go.Fw
set_option maxRecDepth 100000
set_option linter.unusedVariables false
set_option linter.unusedSimpArgs false
set_option maxHeartbeats 0
theorem AFX {w : World} {A : Nat → Prop} {vs : List Value} {x : (Int × Int × List Int) × Int × List (List Int)} (h : (Ch (Ch Ao (Ch Ao (Ai Ao) 32) 40) (Ch Ao (Ai (Ai Ao)) 32) 72).rd w A vs x) :
    ∃ pm cm ps c, vs=[.int .i64 x.1.1, .int .i64 x.1.2.1, .slice pm x.1.2.2.length cm, .int .i64 x.2.1, .slice ps x.2.2.length c]∧Ca .i64 x.2.1∧M2 Ao w A pm cm x.1.2.2∧M2 (Ai Ao) w A ps c x.2.2 := by
  obtain ⟨_, _, rfl, ⟨_, _, rfl, ⟨rfl, _⟩, _, _, rfl, ⟨rfl, _⟩, ⟨pm, cm, rfl, h3⟩⟩, _, _, rfl, ⟨rfl, h4⟩, ⟨ps, c, rfl, h5⟩⟩ := h
  exact ⟨pm, cm, ps, c, rfl, h4, h3, h5⟩

theorem op3:I6 Tryz.prog 3 (Bt .i64 8) := AFV rfl rfl rfl
theorem AHe:I6 Tryz.prog 22 (Ai (Bt .i64 8)) := Yk rfl op3 rfl rfl (by decide)
theorem AL6:I6 Tryz.prog 24 (Ch (Bt .i64 8) (Ch (Bt .i64 8) (Ai (Bt .i64 8)) 32) 40) := I9 rfl (Df 40 rfl op3 (Df 32 rfl op3 (Iw rfl AHe))) rfl rfl
theorem ALj:I6 Tryz.prog 25 (Ai (Ai (Bt .i64 8))) := Yk rfl AHe rfl rfl (by decide)
theorem ALW:I6 Tryz.prog 27 (Ch (Ch (Bt .i64 8) (Ch (Bt .i64 8) (Ai (Bt .i64 8)) 32) 40) (Ch (Bt .i64 8) (Ai (Ai (Bt .i64 8))) 32) 72) := I9 rfl (Df 72 rfl AL6 (Df 32 rfl op3 (Iw rfl ALj))) rfl rfl
theorem AL4:I6 Tryz.prog 29 (Ai (Ai (Bt .i64 8))) := I9 rfl (Iw rfl ALj) rfl rfl
theorem AL1:I6 Tryz.prog 31 (Ch (Ch (Ch (Bt .i64 8) (Ch (Bt .i64 8) (Ai (Bt .i64 8)) 32) 40) (Ch (Bt .i64 8) (Ai (Ai (Bt .i64 8))) 32) 72) (Ch (Bt .i64 8) (Ch (Ai (Ai (Bt .i64 8))) (Ch (Ai (Bt .i64 8)) (Bt .i64 8) 32) 56) 64) 136) := I9 rfl (Df 136 rfl ALW (Df 64 rfl op3 (Df 56 rfl AL4 (Df 32 rfl AHe (Iw rfl op3))))) rfl rfl
theorem op4:I6 Tryz.prog 4 Qq := ADO rfl rfl rfl
theorem ALM:I6 Tryz.prog 52 (Ch (Bt .i64 8) (Ch Qq (Ai (Bt .i64 8)) 32) 40) := I9 rfl (Df 40 rfl op3 (Df 32 rfl op4 (Iw rfl AHe))) rfl rfl
theorem AL5:I6 Tryz.prog 50 (Ai (Ch (Bt .i64 8) (Ch Qq (Ai (Bt .i64 8)) 32) 40)) := Yk rfl ALM rfl rfl (by decide)

theorem Ud:AEM Tryz.prog 8 Tryz.f8 := by
  intro W args h
  have h:AIw Tryz.prog W [31, 22, 50] args := h
  match args, h with
  | [v0, v1, v2], ⟨h0, h1, h2, _⟩ =>
    obtain ⟨vs, x, rfl, hx⟩ := h0.agg Tryz.underlying31 AL1
    obtain ⟨_, _, rfl, hc, _, _, rfl, ⟨rfl, hd⟩, _, _, rfl, ⟨p1, c1, rfl, k1⟩, _, _, rfl, ⟨p2, c2, rfl, k2⟩, ⟨rfl, hw⟩⟩ := hx
    obtain ⟨pm, cm, ps, c, rfl, hN, hm, hg⟩ := AFX hc
    obtain ⟨p3, c3, l3, rfl, k3⟩ := h1.slice Tryz.underlying22 AHe
    obtain ⟨p4, c4, l4, rfl, k4⟩ := h2.slice Tryz.underlying50 AL5
    refine ABp (Jf (md := x.1.1.2.2) (Aa := x.1.2.2) (sets := x.2.2.1) (racks := x.2.2.2.1) (data := l3) (sp := l4) hN hd) (fun v Φ β h => h.1) ?_
    intro g hg'
    simp only [List.mem_cons, List.not_mem_nil, or_false] at hg'
    rcases hg' with rfl|rfl|rfl|rfl|rfl|rfl
    · exact ⟨rfl, hm⟩
    · exact ⟨rfl, hg⟩
    · exact ⟨rfl, k1⟩
    · exact ⟨rfl, k2⟩
    · exact k3
    · exact k4


/-! ### The row -/

theorem R8 (os : Os) (started : os.Started) (H : Type) (enc : TypeId × Value → H) :
    ReturnsInHanded {} Tryz.checked os 8 .any (Rows.storeCorrectsSpec.pre6 enc Tryz.prog Tryz.f8 Rows.storeCorrectsRow.domain false) (Rows.storeCorrectsSpec.post enc Tryz.prog Tryz.f8 false true false false) :=
  AG9 (C := Tryz.checked) (by kernel_rfl) started (by kernel_rfl) Tryz.func8
    (ChangeSpec.witness6 (enc := enc) (C := Tryz.checked) false ⟨#[], #[.agg #[.int .i64 0, .int .i64 0, .slice none 0 0, .int .i64 0, .slice none 0 0, .int .i64 0, .slice none 0 0, .slice none 0 0, .int .i64 0], .slice none 0 0, .slice none 0 0], []⟩ 8 (by kernel_rfl) (by kernel_rfl) (by kernel_rfl) (by kernel_rfl))
    (by kernel_rfl) rfl (by kernel_rfl) rfl Tryz.underlying4 (fun ds h => match ds, h with|[d0, d1, d2], _ => rfl) Ud

theorem storeCorrects_holds:Rows.StoreCorrectsSaid :=
  OpenClaim.holds_of_wide 8 Tryz.f8 rfl rfl rfl rfl rfl rfl rfl ⟨rfl, rfl, rfl, rfl, rfl⟩ rfl rfl rfl rfl rfl (by kernel_rfl) Tryz.func8 (by kernel_rfl)
    (of_decide_eq_true (by kernel_rfl)) (by unfold Func.isWrapper; first|(rw [if_pos (by decide +kernel)]; kernel_rfl)|(rw [if_neg (by decide +kernel)]; exact ⟨rfl, rfl⟩))
    (fun os started H enc _ => R8 os started H enc)
#print axioms storeCorrects_holds
end Go.Proofs.YteadncphjconmaaGreat
