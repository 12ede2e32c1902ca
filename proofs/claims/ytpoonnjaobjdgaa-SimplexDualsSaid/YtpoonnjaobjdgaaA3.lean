/-
Contracts of nat.plus and nat.Add.
-/
import Derived.Test.YtpoonnjaobjdgaaFuns
import Derived.Test.YtpoonnjaobjdgaaNatMath
import Derived.Test.YtpoonnjaobjdgaaNatMath2
import Derived.Test.YtpoonnjaobjdgaaA1
import Derived.Test.YtpoonnjaobjdgaaA2
namespace Go.Proofs.Ytpoonnjaobjdgaa
open Go Go.Fw
set_option maxRecDepth 100000
set_option linter.unusedVariables false
set_option maxHeartbeats 1000000
/-- Rows of limbs: what a fact on them says outside of memory. -/
theorem rows_range {P : Program} {F : Fun P} {C : Cx} {S : List It} {σ : Fr} {β : List Blk} {Γ : List Fact} {R : Value → World → Prop} {pa : Option Addr} {n ca : Nat} {ls : List (List Nat)} (k : Nat) (hk : nth Γ k = some (slF NatE pa n ca ls))
    (h : (∀ l ∈ ls, ∀ x ∈ l, x < 4294967296) → J F C S σ β Γ R) : J F C S σ β Γ R :=
  j_know (fun w A hG l hl x hx => by
    obtain ⟨_, _, _, hs⟩ := hG _ (fact_mem hk)
    rcases hs with rfl | ⟨b, o, _, _, hel⟩
    · cases hl
    · obtain ⟨i, hi⟩ := List.getElem?_of_mem hl
      obtain ⟨vs, _, pa', ca', _, _, _, hr⟩ := hel i l hi
      rcases hr with rfl | ⟨b', o', _, _, hel'⟩
      · cases hx
      · obtain ⟨j, hj⟩ := List.getElem?_of_mem hx
        obtain ⟨vs, _, _, hR⟩ := hel' j x hj
        simp only [InR] at hR; omega) h
end Go.Proofs.Ytpoonnjaobjdgaa
