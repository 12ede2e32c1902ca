/-
StoreTolerates returns true: the program and the document find the same number of racks that may be lost.
-/
import Derived.Test.YteadncphjconmaaGreatRows
import Derived.ProofKit
import Derived.JoinedOf
import Derived.Test.YteadncphjconmaaGreatRZ7
namespace Go.Proofs.YteadncphjconmaaGreat
open Go Go.Fw
set_option maxRecDepth 100000
set_option linter.unusedVariables false
set_option linter.unusedSimpArgs false
set_option maxHeartbeats 0
theorem AFu {w : World} {A : Nat → Prop} {vs : List Value} {x : (Int × Int × List Int) × Int × List (List Int)} (h : (C7 (C7 Ak (C7 Ak (Ar Ak) 32) 40) (C7 Ak (Ar (Ar Ak)) 32) 72).rd w A vs x) :
    ∃ pm cm ps c, vs=[.int .i64 x.1.1, .int .i64 x.1.2.1, .slice pm x.1.2.2.length cm, .int .i64 x.2.1, .slice ps x.2.2.length c]∧Bf .i64 x.2.1∧N6 Ak w A pm cm x.1.2.2∧N6 (Ar Ak) w A ps c x.2.2 := by
  obtain ⟨_, _, rfl, ⟨_, _, rfl, ⟨rfl, _⟩, _, _, rfl, ⟨rfl, _⟩, ⟨pm, cm, rfl, h3⟩⟩, _, _, rfl, ⟨rfl, h4⟩, ⟨ps, c, rfl, h5⟩⟩ := h
  exact ⟨pm, cm, ps, c, rfl, h4, h3, h5⟩

theorem op3:Mq Tryz.prog 3 (Ca .i64 8) := AFv rfl rfl rfl
theorem AJt:Mq Tryz.prog 22 (Ar (Ca .i64 8)) := ACu rfl op3 rfl rfl (by decide)
theorem AK8:Mq Tryz.prog 24 (C7 (Ca .i64 8) (C7 (Ca .i64 8) (Ar (Ca .i64 8)) 32) 40) := K4 rfl (Eh 40 rfl op3 (Eh 32 rfl op3 (K6 rfl AJt))) rfl rfl
theorem AKi:Mq Tryz.prog 25 (Ar (Ar (Ca .i64 8))) := ACu rfl AJt rfl rfl (by decide)
theorem ALg:Mq Tryz.prog 27 (C7 (C7 (Ca .i64 8) (C7 (Ca .i64 8) (Ar (Ca .i64 8)) 32) 40) (C7 (Ca .i64 8) (Ar (Ar (Ca .i64 8))) 32) 72) := K4 rfl (Eh 72 rfl AK8 (Eh 32 rfl op3 (K6 rfl AKi))) rfl rfl
theorem ALu:Mq Tryz.prog 29 (Ar (Ar (Ca .i64 8))) := K4 rfl (K6 rfl AKi) rfl rfl
theorem ALf:Mq Tryz.prog 31 (C7 (C7 (C7 (Ca .i64 8) (C7 (Ca .i64 8) (Ar (Ca .i64 8)) 32) 40) (C7 (Ca .i64 8) (Ar (Ar (Ca .i64 8))) 32) 72) (C7 (Ca .i64 8) (C7 (Ar (Ar (Ca .i64 8))) (C7 (Ar (Ca .i64 8)) (Ca .i64 8) 32) 56) 64) 136) := K4 rfl (Eh 136 rfl ALg (Eh 64 rfl op3 (Eh 56 rfl ALu (Eh 32 rfl AJt (K6 rfl op3))))) rfl rfl

theorem Uc:AEd Tryz.prog 5 Tryz.f5 := by
  intro W args h
  have h:AHz Tryz.prog W [31] args := h
  match args, h with
  | [v0], ⟨h0, _⟩ =>
    obtain ⟨vs, x, rfl, hx⟩ := h0.agg Tryz.underlying31 ALf
    obtain ⟨_, _, rfl, hc, _, _, rfl, ⟨rfl, hd⟩, _, _, rfl, ⟨p1, c1, rfl, k1⟩, _, _, rfl, ⟨p2, c2, rfl, k2⟩, ⟨rfl, hw⟩⟩ := hx
    obtain ⟨pm, cm, ps, c, rfl, hN, hm, hg⟩ := AFu hc
    refine ABP (Il (md := x.1.1.2.2) (Aa := x.1.2.2) (sets := x.2.2.1) (racks := x.2.2.2.1) hN hd) (fun v Φ β h => h.1) ?_
    intro g hg'
    simp only [List.mem_cons, List.not_mem_nil, or_false] at hg'
    rcases hg' with rfl|rfl|rfl|rfl
    · exact ⟨rfl, hm⟩
    · exact ⟨rfl, hg⟩
    · exact ⟨rfl, k1⟩
    · exact ⟨rfl, k2⟩


/-! ### The row -/

theorem Rz (os : Os) (started : os.Started) (H : Type) (enc : TypeId × Value → H) :
    ReturnsInHanded {} Tryz.checked os 5 .any (Rows.storeToleratesSpec.pre6 enc Tryz.prog Tryz.f5 Rows.storeToleratesRow.domain false) (Rows.storeToleratesSpec.post enc Tryz.prog Tryz.f5 false true false false) :=
  AF9 (C := Tryz.checked) (by kernel_rfl) started (by kernel_rfl) Tryz.func5
    (ChangeSpec.witness6 (enc := enc) (C := Tryz.checked) false ⟨#[], #[.agg #[.int .i64 0, .int .i64 0, .slice none 0 0, .int .i64 0, .slice none 0 0, .int .i64 0, .slice none 0 0, .slice none 0 0, .int .i64 0]], []⟩ 8 (by kernel_rfl) (by kernel_rfl) (by kernel_rfl) (by kernel_rfl))
    (by kernel_rfl) rfl (by kernel_rfl) rfl Tryz.underlying4 (fun ds h => match ds, h with|[d0], _ => rfl) Uc

theorem storeTolerates_holds:Rows.StoreToleratesSaid :=
  OpenClaim.holds_of_wide 5 Tryz.f5 rfl rfl rfl rfl rfl rfl rfl ⟨rfl, rfl, rfl, rfl, rfl⟩ rfl rfl rfl rfl rfl (by kernel_rfl) Tryz.func5 (by kernel_rfl)
    (of_decide_eq_true (by kernel_rfl)) (by unfold Func.isWrapper; first|(rw [if_pos (by decide +kernel)]; kernel_rfl)|(rw [if_neg (by decide +kernel)]; exact ⟨rfl, rfl⟩))
    (fun os started H enc _ => Rz os started H enc)
#print axioms storeTolerates_holds
end Go.Proofs.YteadncphjconmaaGreat
