/-
  No cell of these rows narrows 'for every input' (looked for: loops, veiled, ifaces, maps, wideKeys, modest, calm, conditions, laid).
  DERIVED. THE GIVEN ROWS OF THIS SEAT. 3 by the template 'for every input the law returns true; each argument reads behind the call as it read before'; 0 by the template 'total and deterministic' (their statements: YtmhcfhddmkhaiaaTotals.lean).
  GIVEN WITH THE SEED: the statements are not yours to turn. If you find one false, say at which input.
  Laid BY PROGRAM, IN A SANDBOX (cutbox-rows.mjs): the forced cells as the released guide's own fill.sh prints them over the translation 5f7096c45a9d5551… (all of the seat's roots in one cut). By AI agents, Wed Nov 11 2026. No macro, syntax, notation, axiom, sorry.
-/
import Derived.Test.YtmhcfhddmkhaiaaChecked
import GoSem.Claim
import GoSem.ClaimJoined
import GoSem.ClaimMapViews
import Derived.JoinedTies
import Derived.KernelRfl
namespace Go.Proofs.Ytmhcfhddmkhaiaa
/- THE CELL 'sum', in the pinned program and in every row, IS THE sha256 OF THE DUMP (.gsa) THAT YtmhcfhddmkhaiaaProg.lean LOADS. Nothing in Lean hashes anything: it is a label: what it is worth is what the hold of that sum in a sandbox is worth. -/
noncomputable def Try.pinned : Pinned := { name := "ytmhcfhddmkhaiaa", sum := "5f7096c45a9d5551392c6f112de32746c276602fe91d628f452260739a9b36a5", checked := Try.checked }
namespace Rows
def none {H : Type} : Left H := { results := [], args := [] }

/-- 'codewrightlaw24.MacwilliamsDesigns': WHATEVER THE INPUT: true; the input reads as it did. -/
def macwilliamsDesignsSpec : ChangeSpec := { name := "macwilliamsDesigns", fn := fun _ => fun
  | [d1, d2, d3] => { results := [.lit (.bool true)], args := [d1, d2, d3] }
  | _ => none }
def macwilliamsDesignsRow : OpenClaim := { program := "ytmhcfhddmkhaiaa", sum := "5f7096c45a9d5551392c6f112de32746c276602fe91d628f452260739a9b36a5", func := "codewright/codewrightlaw24.MacwilliamsDesigns", spec := "macwilliamsDesigns", unfollowed := true, recurses := true, apart := false }
def MacwilliamsDesignsSaid : Prop := macwilliamsDesignsRow.holds Try.pinned (OpenSpec.ofChange macwilliamsDesignsSpec)

/-- ITS FALSE NEIGHBOUR: 'it returns false'. Refute it at one input. -/
def macwilliamsDesignsWrong : ChangeSpec := { name := "macwilliamsDesigns", fn := fun _ => fun
  | [d1, d2, d3] => { results := [.lit (.bool false)], args := [d1, d2, d3] }
  | _ => none }
def MacwilliamsDesignsWrongFalsely : Prop := macwilliamsDesignsRow.holds Try.pinned (OpenSpec.ofChange macwilliamsDesignsWrong)

/-- 'codewrightlaw24.MacwilliamsDerived': WHATEVER THE INPUT: true; the input reads as it did. -/
def macwilliamsDerivedSpec : ChangeSpec := { name := "macwilliamsDerived", fn := fun _ => fun
  | [d1, d2, d3, d4] => { results := [.lit (.bool true)], args := [d1, d2, d3, d4] }
  | _ => none }
def macwilliamsDerivedRow : OpenClaim := { program := "ytmhcfhddmkhaiaa", sum := "5f7096c45a9d5551392c6f112de32746c276602fe91d628f452260739a9b36a5", func := "codewright/codewrightlaw24.MacwilliamsDerived", spec := "macwilliamsDerived", unfollowed := true, recurses := true, apart := false }
def MacwilliamsDerivedSaid : Prop := macwilliamsDerivedRow.holds Try.pinned (OpenSpec.ofChange macwilliamsDerivedSpec)

/-- ITS FALSE NEIGHBOUR: 'it returns false'. Refute it at one input. -/
def macwilliamsDerivedWrong : ChangeSpec := { name := "macwilliamsDerived", fn := fun _ => fun
  | [d1, d2, d3, d4] => { results := [.lit (.bool false)], args := [d1, d2, d3, d4] }
  | _ => none }
def MacwilliamsDerivedWrongFalsely : Prop := macwilliamsDerivedRow.holds Try.pinned (OpenSpec.ofChange macwilliamsDerivedWrong)

/-- 'codewrightlaw24.MacwilliamsAssmus': WHATEVER THE INPUT: true; the input reads as it did. -/
def macwilliamsAssmusSpec : ChangeSpec := { name := "macwilliamsAssmus", fn := fun _ => fun
  | [d1, d2, d3] => { results := [.lit (.bool true)], args := [d1, d2, d3] }
  | _ => none }
def macwilliamsAssmusRow : OpenClaim := { program := "ytmhcfhddmkhaiaa", sum := "5f7096c45a9d5551392c6f112de32746c276602fe91d628f452260739a9b36a5", func := "codewright/codewrightlaw24.MacwilliamsAssmus", spec := "macwilliamsAssmus", unfollowed := true, recurses := true, apart := false }
def MacwilliamsAssmusSaid : Prop := macwilliamsAssmusRow.holds Try.pinned (OpenSpec.ofChange macwilliamsAssmusSpec)

/-- ITS FALSE NEIGHBOUR: 'it returns false'. Refute it at one input. -/
def macwilliamsAssmusWrong : ChangeSpec := { name := "macwilliamsAssmus", fn := fun _ => fun
  | [d1, d2, d3] => { results := [.lit (.bool false)], args := [d1, d2, d3] }
  | _ => none }
def MacwilliamsAssmusWrongFalsely : Prop := macwilliamsAssmusRow.holds Try.pinned (OpenSpec.ofChange macwilliamsAssmusWrong)

/- THE SECOND FORM. 'bulk': how many values and letters a reading holds, each counted each time it is reached (what is shared counts as often as it is met; a slice's spare places count too). A statement '..UptoSaid' is the law's where the arguments, and the package variables that the reading takes, are together of bulk at most 1048576: NARROWER than '..Said'. Prove '..Said' where nothing that the law and all that it calls make is longer than what came in: it says more and counts as full. Else prove '..UptoSaid'. A law counts once. -/
mutual
def uptoBulk {H : Type} : DataW H → Nat
  | .lit (.string bytes) => bytes.length + 1
  | .lit _ => 1
  | .nil => 1
  | .ptr d => uptoBulk d + 1
  | .slice elems spare => uptoBulkAll elems + uptoBulkAll spare + 1
  | .agg parts => uptoBulkAll parts + 1
  | .iface _ d => uptoBulk d + 1
  | .map entries => uptoBulkEntries entries + 1
  | .held _ => 1
def uptoBulkAll {H : Type} : List (DataW H) → Nat
  | [] => 0
  | d :: r => uptoBulk d + uptoBulkAll r
def uptoBulkEntries {H : Type} : List (Lit × DataW H) → Nat
  | [] => 0
  | x :: r => uptoBulkEntry x + uptoBulkEntries r
def uptoBulkEntry {H : Type} : Lit × DataW H → Nat
  | (.string bytes, d) => bytes.length + uptoBulk d + 1
  | (_, d) => uptoBulk d + 1
 end
def uptoSmall : (H : Type) → List (DataW H) → Bool := fun _ ds => decide (uptoBulkAll ds ≤ 1048576)
def OpenSpec.upto (s : _root_.Go.ChangeSpec) : _root_.Go.OpenSpec := { _root_.Go.OpenSpec.ofChange s with cond := some uptoSmall }

/-- 'codewrightlaw24.MacwilliamsDesigns', WHERE WHAT IT READS IS OF BULK AT MOST 1048576: true; the input reads as it did. -/
def macwilliamsDesignsUptoRow : OpenClaim := { program := "ytmhcfhddmkhaiaa", sum := "5f7096c45a9d5551392c6f112de32746c276602fe91d628f452260739a9b36a5", func := "codewright/codewrightlaw24.MacwilliamsDesigns", spec := "macwilliamsDesigns", unfollowed := true, recurses := true, apart := false, narrowed := true }
def MacwilliamsDesignsUptoSaid : Prop := macwilliamsDesignsUptoRow.holds Try.pinned (OpenSpec.upto macwilliamsDesignsSpec)

/-- 'codewrightlaw24.MacwilliamsDerived', WHERE WHAT IT READS IS OF BULK AT MOST 1048576: true; the input reads as it did. -/
def macwilliamsDerivedUptoRow : OpenClaim := { program := "ytmhcfhddmkhaiaa", sum := "5f7096c45a9d5551392c6f112de32746c276602fe91d628f452260739a9b36a5", func := "codewright/codewrightlaw24.MacwilliamsDerived", spec := "macwilliamsDerived", unfollowed := true, recurses := true, apart := false, narrowed := true }
def MacwilliamsDerivedUptoSaid : Prop := macwilliamsDerivedUptoRow.holds Try.pinned (OpenSpec.upto macwilliamsDerivedSpec)

/-- 'codewrightlaw24.MacwilliamsAssmus', WHERE WHAT IT READS IS OF BULK AT MOST 1048576: true; the input reads as it did. -/
def macwilliamsAssmusUptoRow : OpenClaim := { program := "ytmhcfhddmkhaiaa", sum := "5f7096c45a9d5551392c6f112de32746c276602fe91d628f452260739a9b36a5", func := "codewright/codewrightlaw24.MacwilliamsAssmus", spec := "macwilliamsAssmus", unfollowed := true, recurses := true, apart := false, narrowed := true }
def MacwilliamsAssmusUptoSaid : Prop := macwilliamsAssmusUptoRow.holds Try.pinned (OpenSpec.upto macwilliamsAssmusSpec)

end Rows
end Go.Proofs.Ytmhcfhddmkhaiaa
