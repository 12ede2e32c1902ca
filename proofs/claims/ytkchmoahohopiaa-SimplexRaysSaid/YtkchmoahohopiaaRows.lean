/-
  No cell of these rows narrows 'for every input' (looked for: loops, veiled, ifaces, maps, wideKeys, modest, calm, conditions, laid).
  DERIVED. THE GIVEN ROWS OF THIS SEAT. 7 by the template 'for every input the law returns true; each argument reads behind the call as it read before'; 0 by the template 'total and deterministic' (their statements: YtkchmoahohopiaaTotals.lean).
  GIVEN WITH THE SEED: the statements are not yours to turn. If you find one false, say at which input.
  Laid BY PROGRAM, IN A SANDBOX (cutbox-rows.mjs): the forced cells as the released guide's own fill.sh prints them over the translation f9f4e78c98c64ce6… (all of the seat's roots in one cut). By AI agents, Wed Nov 11 2026. No macro, syntax, notation, axiom, sorry.
-/
import Derived.Test.YtkchmoahohopiaaChecked
import GoSem.Claim
import GoSem.ClaimJoined
import GoSem.ClaimMapViews
import Derived.JoinedTies
import Derived.KernelRfl
namespace Go.Proofs.Ytkchmoahohopiaa
/- THE CELL 'sum', in the pinned program and in every row, IS THE sha256 OF THE DUMP (.gsa) THAT YtkchmoahohopiaaProg.lean LOADS. Nothing in Lean hashes anything: it is a label: what it is worth is what the hold of that sum in a sandbox is worth. -/
noncomputable def Try.pinned : Pinned := { name := "ytkchmoahohopiaa", sum := "f9f4e78c98c64ce66363f8704bf997455a74fdcca73bd9e486617eb88abda1e4", checked := Try.checked }
namespace Rows
def none {H : Type} : Left H := { results := [], args := [] }

/-- 'codewrightlaw24.MacwilliamsExternals': WHATEVER THE INPUT: true; the input reads as it did. -/
def macwilliamsExternalsSpec : ChangeSpec := { name := "macwilliamsExternals", fn := fun _ => fun
  | [d1, d2] => { results := [.lit (.bool true)], args := [d1, d2] }
  | _ => none }
def macwilliamsExternalsRow : OpenClaim := { program := "ytkchmoahohopiaa", sum := "f9f4e78c98c64ce66363f8704bf997455a74fdcca73bd9e486617eb88abda1e4", func := "codewright/codewrightlaw24.MacwilliamsExternals", spec := "macwilliamsExternals", apart := false }
def MacwilliamsExternalsSaid : Prop := macwilliamsExternalsRow.holds Try.pinned (OpenSpec.ofChange macwilliamsExternalsSpec)

/-- ITS FALSE NEIGHBOUR: 'it returns false'. Refute it at one input. -/
def macwilliamsExternalsWrong : ChangeSpec := { name := "macwilliamsExternals", fn := fun _ => fun
  | [d1, d2] => { results := [.lit (.bool false)], args := [d1, d2] }
  | _ => none }
def MacwilliamsExternalsWrongFalsely : Prop := macwilliamsExternalsRow.holds Try.pinned (OpenSpec.ofChange macwilliamsExternalsWrong)

/-- 'codewrightlaw24.MacwilliamsStrengths': WHATEVER THE INPUT: true; the input reads as it did. -/
def macwilliamsStrengthsSpec : ChangeSpec := { name := "macwilliamsStrengths", fn := fun _ => fun
  | [d1, d2] => { results := [.lit (.bool true)], args := [d1, d2] }
  | _ => none }
def macwilliamsStrengthsRow : OpenClaim := { program := "ytkchmoahohopiaa", sum := "f9f4e78c98c64ce66363f8704bf997455a74fdcca73bd9e486617eb88abda1e4", func := "codewright/codewrightlaw24.MacwilliamsStrengths", spec := "macwilliamsStrengths", apart := false }
def MacwilliamsStrengthsSaid : Prop := macwilliamsStrengthsRow.holds Try.pinned (OpenSpec.ofChange macwilliamsStrengthsSpec)

/-- ITS FALSE NEIGHBOUR: 'it returns false'. Refute it at one input. -/
def macwilliamsStrengthsWrong : ChangeSpec := { name := "macwilliamsStrengths", fn := fun _ => fun
  | [d1, d2] => { results := [.lit (.bool false)], args := [d1, d2] }
  | _ => none }
def MacwilliamsStrengthsWrongFalsely : Prop := macwilliamsStrengthsRow.holds Try.pinned (OpenSpec.ofChange macwilliamsStrengthsWrong)

/-- 'codewrightlaw35.SimplexOne': WHATEVER THE INPUT: true; the input reads as it did. -/
def simplexOneSpec : ChangeSpec := { name := "simplexOne", fn := fun _ => fun
  | [d1, d2, d3] => { results := [.lit (.bool true)], args := [d1, d2, d3] }
  | _ => none }
def simplexOneRow : OpenClaim := { program := "ytkchmoahohopiaa", sum := "f9f4e78c98c64ce66363f8704bf997455a74fdcca73bd9e486617eb88abda1e4", func := "codewright/codewrightlaw35.SimplexOne", spec := "simplexOne", apart := false }
def SimplexOneSaid : Prop := simplexOneRow.holds Try.pinned (OpenSpec.ofChange simplexOneSpec)

/-- ITS FALSE NEIGHBOUR: 'it returns false'. Refute it at one input. -/
def simplexOneWrong : ChangeSpec := { name := "simplexOne", fn := fun _ => fun
  | [d1, d2, d3] => { results := [.lit (.bool false)], args := [d1, d2, d3] }
  | _ => none }
def SimplexOneWrongFalsely : Prop := simplexOneRow.holds Try.pinned (OpenSpec.ofChange simplexOneWrong)

/-- 'codewrightlaw35.SimplexWeak': WHATEVER THE INPUT: true; the input reads as it did. -/
def simplexWeakSpec : ChangeSpec := { name := "simplexWeak", fn := fun _ => fun
  | [d1, d2, d3] => { results := [.lit (.bool true)], args := [d1, d2, d3] }
  | _ => none }
def simplexWeakRow : OpenClaim := { program := "ytkchmoahohopiaa", sum := "f9f4e78c98c64ce66363f8704bf997455a74fdcca73bd9e486617eb88abda1e4", func := "codewright/codewrightlaw35.SimplexWeak", spec := "simplexWeak", apart := false }
def SimplexWeakSaid : Prop := simplexWeakRow.holds Try.pinned (OpenSpec.ofChange simplexWeakSpec)

/-- ITS FALSE NEIGHBOUR: 'it returns false'. Refute it at one input. -/
def simplexWeakWrong : ChangeSpec := { name := "simplexWeak", fn := fun _ => fun
  | [d1, d2, d3] => { results := [.lit (.bool false)], args := [d1, d2, d3] }
  | _ => none }
def SimplexWeakWrongFalsely : Prop := simplexWeakRow.holds Try.pinned (OpenSpec.ofChange simplexWeakWrong)

/-- 'codewrightlaw35.SimplexFarkas': WHATEVER THE INPUT: true; the input reads as it did. -/
def simplexFarkasSpec : ChangeSpec := { name := "simplexFarkas", fn := fun _ => fun
  | [d1, d2, d3] => { results := [.lit (.bool true)], args := [d1, d2, d3] }
  | _ => none }
def simplexFarkasRow : OpenClaim := { program := "ytkchmoahohopiaa", sum := "f9f4e78c98c64ce66363f8704bf997455a74fdcca73bd9e486617eb88abda1e4", func := "codewright/codewrightlaw35.SimplexFarkas", spec := "simplexFarkas", apart := false }
def SimplexFarkasSaid : Prop := simplexFarkasRow.holds Try.pinned (OpenSpec.ofChange simplexFarkasSpec)

/-- ITS FALSE NEIGHBOUR: 'it returns false'. Refute it at one input. -/
def simplexFarkasWrong : ChangeSpec := { name := "simplexFarkas", fn := fun _ => fun
  | [d1, d2, d3] => { results := [.lit (.bool false)], args := [d1, d2, d3] }
  | _ => none }
def SimplexFarkasWrongFalsely : Prop := simplexFarkasRow.holds Try.pinned (OpenSpec.ofChange simplexFarkasWrong)

/-- 'codewrightlaw35.SimplexRays': WHATEVER THE INPUT: true; the input reads as it did. -/
def simplexRaysSpec : ChangeSpec := { name := "simplexRays", fn := fun _ => fun
  | [d1, d2, d3] => { results := [.lit (.bool true)], args := [d1, d2, d3] }
  | _ => none }
def simplexRaysRow : OpenClaim := { program := "ytkchmoahohopiaa", sum := "f9f4e78c98c64ce66363f8704bf997455a74fdcca73bd9e486617eb88abda1e4", func := "codewright/codewrightlaw35.SimplexRays", spec := "simplexRays", apart := false }
def SimplexRaysSaid : Prop := simplexRaysRow.holds Try.pinned (OpenSpec.ofChange simplexRaysSpec)

/-- ITS FALSE NEIGHBOUR: 'it returns false'. Refute it at one input. -/
def simplexRaysWrong : ChangeSpec := { name := "simplexRays", fn := fun _ => fun
  | [d1, d2, d3] => { results := [.lit (.bool false)], args := [d1, d2, d3] }
  | _ => none }
def SimplexRaysWrongFalsely : Prop := simplexRaysRow.holds Try.pinned (OpenSpec.ofChange simplexRaysWrong)

/-- 'codewrightlaw35.SimplexSlack': WHATEVER THE INPUT: true; the input reads as it did. -/
def simplexSlackSpec : ChangeSpec := { name := "simplexSlack", fn := fun _ => fun
  | [d1, d2] => { results := [.lit (.bool true)], args := [d1, d2] }
  | _ => none }
def simplexSlackRow : OpenClaim := { program := "ytkchmoahohopiaa", sum := "f9f4e78c98c64ce66363f8704bf997455a74fdcca73bd9e486617eb88abda1e4", func := "codewright/codewrightlaw35.SimplexSlack", spec := "simplexSlack", apart := false }
def SimplexSlackSaid : Prop := simplexSlackRow.holds Try.pinned (OpenSpec.ofChange simplexSlackSpec)

/-- ITS FALSE NEIGHBOUR: 'it returns false'. Refute it at one input. -/
def simplexSlackWrong : ChangeSpec := { name := "simplexSlack", fn := fun _ => fun
  | [d1, d2] => { results := [.lit (.bool false)], args := [d1, d2] }
  | _ => none }
def SimplexSlackWrongFalsely : Prop := simplexSlackRow.holds Try.pinned (OpenSpec.ofChange simplexSlackWrong)

/- THE SECOND FORM. 'bulk': how many values and letters a reading holds, each counted each time it is reached (what is shared counts as often as it is met; a slice's spare places count too). A statement '..UptoSaid' is the law's where the arguments, and the package variables that the reading takes, are together of bulk at most 1048576: NARROWER than '..Said'. Prove '..Said' where nothing that the law and all that it calls make is longer than what came in: it says more and counts as full. Else prove '..UptoSaid'. A law counts once. -/
mutual
def uptoBulk {H : Type} : DataW H → Nat
  | .lit (.string bytes) => bytes.length + 1
  | .lit _ => 1
  | .nil => 1
  | .ptr d => uptoBulk d + 1
  | .slice elems spare => uptoBulkAll elems + uptoBulkAll spare + 1
  | .agg parts => uptoBulkAll parts + 1
  | .iface _ d => uptoBulk d + 1
  | .map entries => uptoBulkEntries entries + 1
  | .held _ => 1
def uptoBulkAll {H : Type} : List (DataW H) → Nat
  | [] => 0
  | d :: r => uptoBulk d + uptoBulkAll r
def uptoBulkEntries {H : Type} : List (Lit × DataW H) → Nat
  | [] => 0
  | x :: r => uptoBulkEntry x + uptoBulkEntries r
def uptoBulkEntry {H : Type} : Lit × DataW H → Nat
  | (.string bytes, d) => bytes.length + uptoBulk d + 1
  | (_, d) => uptoBulk d + 1
 end
def uptoSmall : (H : Type) → List (DataW H) → Bool := fun _ ds => decide (uptoBulkAll ds ≤ 1048576)
def OpenSpec.upto (s : _root_.Go.ChangeSpec) : _root_.Go.OpenSpec := { _root_.Go.OpenSpec.ofChange s with cond := some uptoSmall }

/-- 'codewrightlaw24.MacwilliamsExternals', WHERE WHAT IT READS IS OF BULK AT MOST 1048576: true; the input reads as it did. -/
def macwilliamsExternalsUptoRow : OpenClaim := { program := "ytkchmoahohopiaa", sum := "f9f4e78c98c64ce66363f8704bf997455a74fdcca73bd9e486617eb88abda1e4", func := "codewright/codewrightlaw24.MacwilliamsExternals", spec := "macwilliamsExternals", apart := false, narrowed := true }
def MacwilliamsExternalsUptoSaid : Prop := macwilliamsExternalsUptoRow.holds Try.pinned (OpenSpec.upto macwilliamsExternalsSpec)

/-- 'codewrightlaw24.MacwilliamsStrengths', WHERE WHAT IT READS IS OF BULK AT MOST 1048576: true; the input reads as it did. -/
def macwilliamsStrengthsUptoRow : OpenClaim := { program := "ytkchmoahohopiaa", sum := "f9f4e78c98c64ce66363f8704bf997455a74fdcca73bd9e486617eb88abda1e4", func := "codewright/codewrightlaw24.MacwilliamsStrengths", spec := "macwilliamsStrengths", apart := false, narrowed := true }
def MacwilliamsStrengthsUptoSaid : Prop := macwilliamsStrengthsUptoRow.holds Try.pinned (OpenSpec.upto macwilliamsStrengthsSpec)

/-- 'codewrightlaw35.SimplexOne', WHERE WHAT IT READS IS OF BULK AT MOST 1048576: true; the input reads as it did. -/
def simplexOneUptoRow : OpenClaim := { program := "ytkchmoahohopiaa", sum := "f9f4e78c98c64ce66363f8704bf997455a74fdcca73bd9e486617eb88abda1e4", func := "codewright/codewrightlaw35.SimplexOne", spec := "simplexOne", apart := false, narrowed := true }
def SimplexOneUptoSaid : Prop := simplexOneUptoRow.holds Try.pinned (OpenSpec.upto simplexOneSpec)

/-- 'codewrightlaw35.SimplexWeak', WHERE WHAT IT READS IS OF BULK AT MOST 1048576: true; the input reads as it did. -/
def simplexWeakUptoRow : OpenClaim := { program := "ytkchmoahohopiaa", sum := "f9f4e78c98c64ce66363f8704bf997455a74fdcca73bd9e486617eb88abda1e4", func := "codewright/codewrightlaw35.SimplexWeak", spec := "simplexWeak", apart := false, narrowed := true }
def SimplexWeakUptoSaid : Prop := simplexWeakUptoRow.holds Try.pinned (OpenSpec.upto simplexWeakSpec)

/-- 'codewrightlaw35.SimplexFarkas', WHERE WHAT IT READS IS OF BULK AT MOST 1048576: true; the input reads as it did. -/
def simplexFarkasUptoRow : OpenClaim := { program := "ytkchmoahohopiaa", sum := "f9f4e78c98c64ce66363f8704bf997455a74fdcca73bd9e486617eb88abda1e4", func := "codewright/codewrightlaw35.SimplexFarkas", spec := "simplexFarkas", apart := false, narrowed := true }
def SimplexFarkasUptoSaid : Prop := simplexFarkasUptoRow.holds Try.pinned (OpenSpec.upto simplexFarkasSpec)

/-- 'codewrightlaw35.SimplexRays', WHERE WHAT IT READS IS OF BULK AT MOST 1048576: true; the input reads as it did. -/
def simplexRaysUptoRow : OpenClaim := { program := "ytkchmoahohopiaa", sum := "f9f4e78c98c64ce66363f8704bf997455a74fdcca73bd9e486617eb88abda1e4", func := "codewright/codewrightlaw35.SimplexRays", spec := "simplexRays", apart := false, narrowed := true }
def SimplexRaysUptoSaid : Prop := simplexRaysUptoRow.holds Try.pinned (OpenSpec.upto simplexRaysSpec)

/-- 'codewrightlaw35.SimplexSlack', WHERE WHAT IT READS IS OF BULK AT MOST 1048576: true; the input reads as it did. -/
def simplexSlackUptoRow : OpenClaim := { program := "ytkchmoahohopiaa", sum := "f9f4e78c98c64ce66363f8704bf997455a74fdcca73bd9e486617eb88abda1e4", func := "codewright/codewrightlaw35.SimplexSlack", spec := "simplexSlack", apart := false, narrowed := true }
def SimplexSlackUptoSaid : Prop := simplexSlackUptoRow.holds Try.pinned (OpenSpec.upto simplexSlackSpec)

end Rows
end Go.Proofs.Ytkchmoahohopiaa
