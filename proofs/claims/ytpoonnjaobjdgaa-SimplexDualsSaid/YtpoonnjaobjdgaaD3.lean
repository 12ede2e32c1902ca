/-
The contracts of rational.Sub, Cmp, Mul.
-/
import Derived.Test.YtpoonnjaobjdgaaFuns
import Derived.Test.YtpoonnjaobjdgaaNatMath
import Derived.Test.YtpoonnjaobjdgaaNatMath2
import Derived.Test.YtpoonnjaobjdgaaNatMath3
import Derived.Test.YtpoonnjaobjdgaaNatMath5
import Derived.Test.YtpoonnjaobjdgaaRatMath
import Derived.Test.YtpoonnjaobjdgaaA1
import Derived.Test.YtpoonnjaobjdgaaA2
import Derived.Test.YtpoonnjaobjdgaaA3
import Derived.Test.YtpoonnjaobjdgaaA4
import Derived.Test.YtpoonnjaobjdgaaA9
import Derived.Test.YtpoonnjaobjdgaaA2b
import Derived.Test.YtpoonnjaobjdgaaA13
import Derived.Test.YtpoonnjaobjdgaaD1
import Derived.Test.YtpoonnjaobjdgaaD2
namespace Go.Proofs.Ytpoonnjaobjdgaa
open Go Go.Fw
set_option maxRecDepth 100000
set_option linter.unusedVariables false
set_option maxHeartbeats 2000000
theorem rt_len {g : Bool} {N D : List Nat} {k : Nat} (hN : ∀ x ∈ N, x < 4294967296) (hD : ∀ x ∈ D, x < 4294967296) (lN : N.length ≤ k) (lD : D.length ≤ k) (hk : 1 ≤ k) : (rt (vq (g, N, D))).2.1.length ≤ k ∧ (rt (vq (g, N, D))).2.2.length ≤ k :=
  bd_len (bd_vq hN hD lN lD hk)
theorem rt_len_neg {g : Bool} {N D : List Nat} {k : Nat} (hN : ∀ x ∈ N, x < 4294967296) (hD : ∀ x ∈ D, x < 4294967296) (lN : N.length ≤ k) (lD : D.length ≤ k) (hk : 1 ≤ k) : (rt (-vq (g, N, D))).2.1.length ≤ k ∧ (rt (-vq (g, N, D))).2.2.length ≤ k :=
  bd_len (bd_neg (bd_vq hN hD lN lD hk))

/-- Rows of fractions: what a fact on them says outside of memory. -/
theorem rts_range {P : Program} {F : Fun P} {C : Cx} {S : List It} {σ : Fr} {β : List Blk} {Γ : List Fact} {R : Value → World → Prop} {pa : Option Addr} {n ca : Nat} {ls : List Rt} (k : Nat) (hk : nth Γ k = some (slF RatE pa n ca ls))
    (h : (∀ r ∈ ls, (∀ x ∈ r.2.1, x < 4294967296) ∧ (∀ x ∈ r.2.2, x < 4294967296)) → J F C S σ β Γ R) : J F C S σ β Γ R :=
  j_know (fun w A hG r hr => by
    obtain ⟨_, _, _, hs⟩ := hG _ (fact_mem hk)
    rcases hs with rfl | ⟨b, o, _, _, hel⟩
    · cases hr
    · obtain ⟨i, hi⟩ := List.getElem?_of_mem hr
      obtain ⟨vs, _, hrd⟩ := hel i r hi
      obtain ⟨_, _, _, _, _, h1, h2⟩ := rt_open hrd
      have key : ∀ {pa ca} {l : List Nat}, SlRd U32 w A pa ca l → ∀ x ∈ l, x < 4294967296 := by
        intro pa ca l hs x hx
        obtain ⟨_, _, hs⟩ := hs
        rcases hs with rfl | ⟨b', o', _, _, hel'⟩
        · cases hx
        · obtain ⟨j, hj⟩ := List.getElem?_of_mem hx
          obtain ⟨vs, _, _, hR⟩ := hel' j x hj
          simp only [InR] at hR; omega
      exact ⟨key h1, key h2⟩) h
end Go.Proofs.Ytpoonnjaobjdgaa
