/-
StoreEncodes returns true: the program and the document cut data into stripes and code them alike.
-/
import Derived.Test.YteadncphjconmaaGreatRows
import Derived.ProofKit
import Derived.JoinedOf
import Derived.Test.YteadncphjconmaaGreatRY7
namespace Go.Proofs.YteadncphjconmaaGreat
open Go Go.Fw
set_option maxRecDepth 100000
set_option linter.unusedVariables false
set_option linter.unusedSimpArgs false
set_option maxHeartbeats 0
theorem AE0 {w : World} {A : Nat → Prop} {vs : List Value} {x : (Int × Int × List Int) × Int × List (List Int)} (h : (Cq (Cq Aj (Cq Aj (Af Aj) 32) 40) (Cq Aj (Af (Af Aj)) 32) 72).rd w A vs x) :
    ∃ pm cm ps c, vs=[.int .i64 x.1.1, .int .i64 x.1.2.1, .slice pm x.1.2.2.length cm, .int .i64 x.2.1, .slice ps x.2.2.length c]∧Cg .i64 x.2.1∧Ln Aj w A pm cm x.1.2.2∧Ln (Af Aj) w A ps c x.2.2 := by
  obtain ⟨_, _, rfl, ⟨_, _, rfl, ⟨rfl, _⟩, _, _, rfl, ⟨rfl, _⟩, ⟨pm, cm, rfl, h3⟩⟩, _, _, rfl, ⟨rfl, h4⟩, ⟨ps, c, rfl, h5⟩⟩ := h
  exact ⟨pm, cm, ps, c, rfl, h4, h3, h5⟩

theorem op3:K5 Tryz.prog 3 (Bt .i64 8) := AE2 rfl rfl rfl
theorem AHc:K5 Tryz.prog 22 (Af (Bt .i64 8)) := AB6 rfl op3 rfl rfl (by decide)
theorem AKn:K5 Tryz.prog 24 (Cq (Bt .i64 8) (Cq (Bt .i64 8) (Af (Bt .i64 8)) 32) 40) := Ka rfl (D0 40 rfl op3 (D0 32 rfl op3 (Kk rfl AHc))) rfl rfl
theorem AJx:K5 Tryz.prog 25 (Af (Af (Bt .i64 8))) := AB6 rfl AHc rfl rfl (by decide)
theorem AKp:K5 Tryz.prog 27 (Cq (Cq (Bt .i64 8) (Cq (Bt .i64 8) (Af (Bt .i64 8)) 32) 40) (Cq (Bt .i64 8) (Af (Af (Bt .i64 8))) 32) 72) := Ka rfl (D0 72 rfl AKn (D0 32 rfl op3 (Kk rfl AJx))) rfl rfl
theorem AKs:K5 Tryz.prog 29 (Af (Af (Bt .i64 8))) := Ka rfl (Kk rfl AJx) rfl rfl
theorem AKe:K5 Tryz.prog 31 (Cq (Cq (Cq (Bt .i64 8) (Cq (Bt .i64 8) (Af (Bt .i64 8)) 32) 40) (Cq (Bt .i64 8) (Af (Af (Bt .i64 8))) 32) 72) (Cq (Bt .i64 8) (Cq (Af (Af (Bt .i64 8))) (Cq (Af (Bt .i64 8)) (Bt .i64 8) 32) 56) 64) 136) := Ka rfl (D0 136 rfl AKp (D0 64 rfl op3 (D0 56 rfl AKs (D0 32 rfl AHc (Kk rfl op3))))) rfl rfl

theorem Tz:ADZ Tryz.prog 6 Tryz.f6 := by
  intro W args h
  have h:AHg Tryz.prog W [31, 22] args := h
  match args, h with
  | [v0, v1], ⟨h0, h1, _⟩ =>
    obtain ⟨vs, x, rfl, hx⟩ := h0.agg Tryz.underlying31 AKe
    obtain ⟨_, _, rfl, hc, _, _, rfl, ⟨rfl, hd⟩, _, _, rfl, ⟨p1, c1, rfl, k1⟩, _, _, rfl, ⟨p2, c2, rfl, k2⟩, ⟨rfl, hw⟩⟩ := hx
    obtain ⟨pm, cm, ps, c, rfl, hN, hm, hg⟩ := AE0 hc
    obtain ⟨p3, c3, l3, rfl, k3⟩ := h1.slice Tryz.underlying22 AHc
    refine AA2 (Il (md := x.1.1.2.2) (Aa := x.1.2.2) (sets := x.2.2.1) (racks := x.2.2.2.1) (data := l3) hN hd) (fun v Φ β h => h.1) ?_
    intro g hg'
    simp only [List.mem_cons, List.not_mem_nil, or_false] at hg'
    rcases hg' with rfl|rfl|rfl|rfl|rfl
    · exact ⟨rfl, hm⟩
    · exact ⟨rfl, hg⟩
    · exact ⟨rfl, k1⟩
    · exact ⟨rfl, k2⟩
    · exact k3


/-! ### The row -/

theorem St (os : Os) (started : os.Started) (H : Type) (enc : TypeId × Value → H) :
    ReturnsInHanded {} Tryz.checked os 6 .any (Rows.storeEncodesSpec.pre6 enc Tryz.prog Tryz.f6 Rows.storeEncodesRow.domain false) (Rows.storeEncodesSpec.post enc Tryz.prog Tryz.f6 false true false false) :=
  AFi (C := Tryz.checked) (by kernel_rfl) started (by kernel_rfl) Tryz.func6
    (ChangeSpec.witness6 (enc := enc) (C := Tryz.checked) false ⟨#[], #[.agg #[.int .i64 0, .int .i64 0, .slice none 0 0, .int .i64 0, .slice none 0 0, .int .i64 0, .slice none 0 0, .slice none 0 0, .int .i64 0], .slice none 0 0], []⟩ 8 (by kernel_rfl) (by kernel_rfl) (by kernel_rfl) (by kernel_rfl))
    (by kernel_rfl) rfl (by kernel_rfl) rfl Tryz.underlying4 (fun ds h => match ds, h with|[d0, d1], _ => rfl) Tz

theorem storeEncodes_holds:Rows.StoreEncodesSaid :=
  OpenClaim.holds_of_wide 6 Tryz.f6 rfl rfl rfl rfl rfl rfl rfl ⟨rfl, rfl, rfl, rfl, rfl⟩ rfl rfl rfl rfl rfl (by kernel_rfl) Tryz.func6 (by kernel_rfl)
    (of_decide_eq_true (by kernel_rfl)) (by unfold Func.isWrapper; first|(rw [if_pos (by decide +kernel)]; kernel_rfl)|(rw [if_neg (by decide +kernel)]; exact ⟨rfl, rfl⟩))
    (fun os started H enc _ => St os started H enc)
#print axioms storeEncodes_holds
end Go.Proofs.YteadncphjconmaaGreat
