/-
  No cell of these rows narrows 'for every input' (looked for: loops, veiled, ifaces, maps, wideKeys, modest, calm, conditions, laid).
  DERIVED. THE GIVEN ROWS OF THIS SEAT. 9 by the template 'for every input the law returns true; each argument reads behind the call as it read before'; 0 by the template 'total and deterministic' (their statements: YtamkmihhpadamaaTotals.lean).
  GIVEN WITH THE SEED: the statements are not yours to turn. If you find one false, say at which input.
  Laid BY PROGRAM, IN A SANDBOX (cutbox-rows.mjs): the forced cells as the released guide's own fill.sh prints them over the translation 48452c923a05b025… (all of the seat's roots in one cut). By AI agents, Wed Nov 11 2026. No macro, syntax, notation, axiom, sorry.
-/
import Derived.Test.YtamkmihhpadamaaChecked
import GoSem.Claim
import GoSem.ClaimJoined
import GoSem.ClaimMapViews
import Derived.JoinedTies
import Derived.KernelRfl
namespace Go.Proofs.Ytamkmihhpadamaa
/- THE CELL 'sum', in the pinned program and in every row, IS THE sha256 OF THE DUMP (.gsa) THAT YtamkmihhpadamaaProg.lean LOADS. Nothing in Lean hashes anything: it is a label: what it is worth is what the hold of that sum in a sandbox is worth. -/
noncomputable def Try.pinned : Pinned := { name := "ytamkmihhpadamaa", sum := "48452c923a05b02517e9fd6dfcb45f5b3c01450bd07b647b273ab1fede8b52ae", checked := Try.checked }
namespace Rows
def none {H : Type} : Left H := { results := [], args := [] }

/-- 'codewrightlaw24.MacwilliamsKrawtchouk': WHATEVER THE INPUT: true; the input reads as it did. -/
def macwilliamsKrawtchoukSpec : ChangeSpec := { name := "macwilliamsKrawtchouk", fn := fun _ => fun
  | [d1, d2, d3, d4] => { results := [.lit (.bool true)], args := [d1, d2, d3, d4] }
  | _ => none }
def macwilliamsKrawtchoukRow : OpenClaim := { program := "ytamkmihhpadamaa", sum := "48452c923a05b02517e9fd6dfcb45f5b3c01450bd07b647b273ab1fede8b52ae", func := "codewright/codewrightlaw24.MacwilliamsKrawtchouk", spec := "macwilliamsKrawtchouk", apart := false }
def MacwilliamsKrawtchoukSaid : Prop := macwilliamsKrawtchoukRow.holds Try.pinned (OpenSpec.ofChange macwilliamsKrawtchoukSpec)

/-- ITS FALSE NEIGHBOUR: 'it returns false'. Refute it at one input. -/
def macwilliamsKrawtchoukWrong : ChangeSpec := { name := "macwilliamsKrawtchouk", fn := fun _ => fun
  | [d1, d2, d3, d4] => { results := [.lit (.bool false)], args := [d1, d2, d3, d4] }
  | _ => none }
def MacwilliamsKrawtchoukWrongFalsely : Prop := macwilliamsKrawtchoukRow.holds Try.pinned (OpenSpec.ofChange macwilliamsKrawtchoukWrong)

/-- 'codewrightlaw24.MacwilliamsGenerating': WHATEVER THE INPUT: true; the input reads as it did. -/
def macwilliamsGeneratingSpec : ChangeSpec := { name := "macwilliamsGenerating", fn := fun _ => fun
  | [d1, d2, d3, d4] => { results := [.lit (.bool true)], args := [d1, d2, d3, d4] }
  | _ => none }
def macwilliamsGeneratingRow : OpenClaim := { program := "ytamkmihhpadamaa", sum := "48452c923a05b02517e9fd6dfcb45f5b3c01450bd07b647b273ab1fede8b52ae", func := "codewright/codewrightlaw24.MacwilliamsGenerating", spec := "macwilliamsGenerating", apart := false }
def MacwilliamsGeneratingSaid : Prop := macwilliamsGeneratingRow.holds Try.pinned (OpenSpec.ofChange macwilliamsGeneratingSpec)

/-- ITS FALSE NEIGHBOUR: 'it returns false'. Refute it at one input. -/
def macwilliamsGeneratingWrong : ChangeSpec := { name := "macwilliamsGenerating", fn := fun _ => fun
  | [d1, d2, d3, d4] => { results := [.lit (.bool false)], args := [d1, d2, d3, d4] }
  | _ => none }
def MacwilliamsGeneratingWrongFalsely : Prop := macwilliamsGeneratingRow.holds Try.pinned (OpenSpec.ofChange macwilliamsGeneratingWrong)

/-- 'codewrightlaw24.MacwilliamsOrthogonal': WHATEVER THE INPUT: true; the input reads as it did. -/
def macwilliamsOrthogonalSpec : ChangeSpec := { name := "macwilliamsOrthogonal", fn := fun _ => fun
  | [d1, d2, d3, d4] => { results := [.lit (.bool true)], args := [d1, d2, d3, d4] }
  | _ => none }
def macwilliamsOrthogonalRow : OpenClaim := { program := "ytamkmihhpadamaa", sum := "48452c923a05b02517e9fd6dfcb45f5b3c01450bd07b647b273ab1fede8b52ae", func := "codewright/codewrightlaw24.MacwilliamsOrthogonal", spec := "macwilliamsOrthogonal", apart := false }
def MacwilliamsOrthogonalSaid : Prop := macwilliamsOrthogonalRow.holds Try.pinned (OpenSpec.ofChange macwilliamsOrthogonalSpec)

/-- ITS FALSE NEIGHBOUR: 'it returns false'. Refute it at one input. -/
def macwilliamsOrthogonalWrong : ChangeSpec := { name := "macwilliamsOrthogonal", fn := fun _ => fun
  | [d1, d2, d3, d4] => { results := [.lit (.bool false)], args := [d1, d2, d3, d4] }
  | _ => none }
def MacwilliamsOrthogonalWrongFalsely : Prop := macwilliamsOrthogonalRow.holds Try.pinned (OpenSpec.ofChange macwilliamsOrthogonalWrong)

/-- 'codewrightlaw24.MacwilliamsReciprocal': WHATEVER THE INPUT: true; the input reads as it did. -/
def macwilliamsReciprocalSpec : ChangeSpec := { name := "macwilliamsReciprocal", fn := fun _ => fun
  | [d1, d2, d3, d4] => { results := [.lit (.bool true)], args := [d1, d2, d3, d4] }
  | _ => none }
def macwilliamsReciprocalRow : OpenClaim := { program := "ytamkmihhpadamaa", sum := "48452c923a05b02517e9fd6dfcb45f5b3c01450bd07b647b273ab1fede8b52ae", func := "codewright/codewrightlaw24.MacwilliamsReciprocal", spec := "macwilliamsReciprocal", apart := false }
def MacwilliamsReciprocalSaid : Prop := macwilliamsReciprocalRow.holds Try.pinned (OpenSpec.ofChange macwilliamsReciprocalSpec)

/-- ITS FALSE NEIGHBOUR: 'it returns false'. Refute it at one input. -/
def macwilliamsReciprocalWrong : ChangeSpec := { name := "macwilliamsReciprocal", fn := fun _ => fun
  | [d1, d2, d3, d4] => { results := [.lit (.bool false)], args := [d1, d2, d3, d4] }
  | _ => none }
def MacwilliamsReciprocalWrongFalsely : Prop := macwilliamsReciprocalRow.holds Try.pinned (OpenSpec.ofChange macwilliamsReciprocalWrong)

/-- 'codewrightlaw24.MacwilliamsRecurrence': WHATEVER THE INPUT: true; the input reads as it did. -/
def macwilliamsRecurrenceSpec : ChangeSpec := { name := "macwilliamsRecurrence", fn := fun _ => fun
  | [d1, d2, d3, d4] => { results := [.lit (.bool true)], args := [d1, d2, d3, d4] }
  | _ => none }
def macwilliamsRecurrenceRow : OpenClaim := { program := "ytamkmihhpadamaa", sum := "48452c923a05b02517e9fd6dfcb45f5b3c01450bd07b647b273ab1fede8b52ae", func := "codewright/codewrightlaw24.MacwilliamsRecurrence", spec := "macwilliamsRecurrence", apart := false }
def MacwilliamsRecurrenceSaid : Prop := macwilliamsRecurrenceRow.holds Try.pinned (OpenSpec.ofChange macwilliamsRecurrenceSpec)

/-- ITS FALSE NEIGHBOUR: 'it returns false'. Refute it at one input. -/
def macwilliamsRecurrenceWrong : ChangeSpec := { name := "macwilliamsRecurrence", fn := fun _ => fun
  | [d1, d2, d3, d4] => { results := [.lit (.bool false)], args := [d1, d2, d3, d4] }
  | _ => none }
def MacwilliamsRecurrenceWrongFalsely : Prop := macwilliamsRecurrenceRow.holds Try.pinned (OpenSpec.ofChange macwilliamsRecurrenceWrong)

/-- 'codewrightlaw24.MacwilliamsTransforms': WHATEVER THE INPUT: true; the input reads as it did. -/
def macwilliamsTransformsSpec : ChangeSpec := { name := "macwilliamsTransforms", fn := fun _ => fun
  | [d1, d2] => { results := [.lit (.bool true)], args := [d1, d2] }
  | _ => none }
def macwilliamsTransformsRow : OpenClaim := { program := "ytamkmihhpadamaa", sum := "48452c923a05b02517e9fd6dfcb45f5b3c01450bd07b647b273ab1fede8b52ae", func := "codewright/codewrightlaw24.MacwilliamsTransforms", spec := "macwilliamsTransforms", apart := false }
def MacwilliamsTransformsSaid : Prop := macwilliamsTransformsRow.holds Try.pinned (OpenSpec.ofChange macwilliamsTransformsSpec)

/-- ITS FALSE NEIGHBOUR: 'it returns false'. Refute it at one input. -/
def macwilliamsTransformsWrong : ChangeSpec := { name := "macwilliamsTransforms", fn := fun _ => fun
  | [d1, d2] => { results := [.lit (.bool false)], args := [d1, d2] }
  | _ => none }
def MacwilliamsTransformsWrongFalsely : Prop := macwilliamsTransformsRow.holds Try.pinned (OpenSpec.ofChange macwilliamsTransformsWrong)

/-- 'codewrightlaw24.MacwilliamsInverts': WHATEVER THE INPUT: true; the input reads as it did. -/
def macwilliamsInvertsSpec : ChangeSpec := { name := "macwilliamsInverts", fn := fun _ => fun
  | [d1, d2] => { results := [.lit (.bool true)], args := [d1, d2] }
  | _ => none }
def macwilliamsInvertsRow : OpenClaim := { program := "ytamkmihhpadamaa", sum := "48452c923a05b02517e9fd6dfcb45f5b3c01450bd07b647b273ab1fede8b52ae", func := "codewright/codewrightlaw24.MacwilliamsInverts", spec := "macwilliamsInverts", apart := false }
def MacwilliamsInvertsSaid : Prop := macwilliamsInvertsRow.holds Try.pinned (OpenSpec.ofChange macwilliamsInvertsSpec)

/-- ITS FALSE NEIGHBOUR: 'it returns false'. Refute it at one input. -/
def macwilliamsInvertsWrong : ChangeSpec := { name := "macwilliamsInverts", fn := fun _ => fun
  | [d1, d2] => { results := [.lit (.bool false)], args := [d1, d2] }
  | _ => none }
def MacwilliamsInvertsWrongFalsely : Prop := macwilliamsInvertsRow.holds Try.pinned (OpenSpec.ofChange macwilliamsInvertsWrong)

/-- 'codewrightlaw24.MacwilliamsExternals': WHATEVER THE INPUT: true; the input reads as it did. -/
def macwilliamsExternalsSpec : ChangeSpec := { name := "macwilliamsExternals", fn := fun _ => fun
  | [d1, d2] => { results := [.lit (.bool true)], args := [d1, d2] }
  | _ => none }
def macwilliamsExternalsRow : OpenClaim := { program := "ytamkmihhpadamaa", sum := "48452c923a05b02517e9fd6dfcb45f5b3c01450bd07b647b273ab1fede8b52ae", func := "codewright/codewrightlaw24.MacwilliamsExternals", spec := "macwilliamsExternals", apart := false }
def MacwilliamsExternalsSaid : Prop := macwilliamsExternalsRow.holds Try.pinned (OpenSpec.ofChange macwilliamsExternalsSpec)

/-- ITS FALSE NEIGHBOUR: 'it returns false'. Refute it at one input. -/
def macwilliamsExternalsWrong : ChangeSpec := { name := "macwilliamsExternals", fn := fun _ => fun
  | [d1, d2] => { results := [.lit (.bool false)], args := [d1, d2] }
  | _ => none }
def MacwilliamsExternalsWrongFalsely : Prop := macwilliamsExternalsRow.holds Try.pinned (OpenSpec.ofChange macwilliamsExternalsWrong)

/-- 'codewrightlaw24.MacwilliamsStrengths': WHATEVER THE INPUT: true; the input reads as it did. -/
def macwilliamsStrengthsSpec : ChangeSpec := { name := "macwilliamsStrengths", fn := fun _ => fun
  | [d1, d2] => { results := [.lit (.bool true)], args := [d1, d2] }
  | _ => none }
def macwilliamsStrengthsRow : OpenClaim := { program := "ytamkmihhpadamaa", sum := "48452c923a05b02517e9fd6dfcb45f5b3c01450bd07b647b273ab1fede8b52ae", func := "codewright/codewrightlaw24.MacwilliamsStrengths", spec := "macwilliamsStrengths", apart := false }
def MacwilliamsStrengthsSaid : Prop := macwilliamsStrengthsRow.holds Try.pinned (OpenSpec.ofChange macwilliamsStrengthsSpec)

/-- ITS FALSE NEIGHBOUR: 'it returns false'. Refute it at one input. -/
def macwilliamsStrengthsWrong : ChangeSpec := { name := "macwilliamsStrengths", fn := fun _ => fun
  | [d1, d2] => { results := [.lit (.bool false)], args := [d1, d2] }
  | _ => none }
def MacwilliamsStrengthsWrongFalsely : Prop := macwilliamsStrengthsRow.holds Try.pinned (OpenSpec.ofChange macwilliamsStrengthsWrong)

/- THE SECOND FORM. 'bulk': how many values and letters a reading holds, each counted each time it is reached (what is shared counts as often as it is met; a slice's spare places count too). A statement '..UptoSaid' is the law's where the arguments, and the package variables that the reading takes, are together of bulk at most 1048576: NARROWER than '..Said'. Prove '..Said' where nothing that the law and all that it calls make is longer than what came in: it says more and counts as full. Else prove '..UptoSaid'. A law counts once. -/
mutual
def uptoBulk {H : Type} : DataW H → Nat
  | .lit (.string bytes) => bytes.length + 1
  | .lit _ => 1
  | .nil => 1
  | .ptr d => uptoBulk d + 1
  | .slice elems spare => uptoBulkAll elems + uptoBulkAll spare + 1
  | .agg parts => uptoBulkAll parts + 1
  | .iface _ d => uptoBulk d + 1
  | .map entries => uptoBulkEntries entries + 1
  | .held _ => 1
def uptoBulkAll {H : Type} : List (DataW H) → Nat
  | [] => 0
  | d :: r => uptoBulk d + uptoBulkAll r
def uptoBulkEntries {H : Type} : List (Lit × DataW H) → Nat
  | [] => 0
  | x :: r => uptoBulkEntry x + uptoBulkEntries r
def uptoBulkEntry {H : Type} : Lit × DataW H → Nat
  | (.string bytes, d) => bytes.length + uptoBulk d + 1
  | (_, d) => uptoBulk d + 1
 end
def uptoSmall : (H : Type) → List (DataW H) → Bool := fun _ ds => decide (uptoBulkAll ds ≤ 1048576)
def OpenSpec.upto (s : _root_.Go.ChangeSpec) : _root_.Go.OpenSpec := { _root_.Go.OpenSpec.ofChange s with cond := some uptoSmall }

/-- 'codewrightlaw24.MacwilliamsKrawtchouk', WHERE WHAT IT READS IS OF BULK AT MOST 1048576: true; the input reads as it did. -/
def macwilliamsKrawtchoukUptoRow : OpenClaim := { program := "ytamkmihhpadamaa", sum := "48452c923a05b02517e9fd6dfcb45f5b3c01450bd07b647b273ab1fede8b52ae", func := "codewright/codewrightlaw24.MacwilliamsKrawtchouk", spec := "macwilliamsKrawtchouk", apart := false, narrowed := true }
def MacwilliamsKrawtchoukUptoSaid : Prop := macwilliamsKrawtchoukUptoRow.holds Try.pinned (OpenSpec.upto macwilliamsKrawtchoukSpec)

/-- 'codewrightlaw24.MacwilliamsGenerating', WHERE WHAT IT READS IS OF BULK AT MOST 1048576: true; the input reads as it did. -/
def macwilliamsGeneratingUptoRow : OpenClaim := { program := "ytamkmihhpadamaa", sum := "48452c923a05b02517e9fd6dfcb45f5b3c01450bd07b647b273ab1fede8b52ae", func := "codewright/codewrightlaw24.MacwilliamsGenerating", spec := "macwilliamsGenerating", apart := false, narrowed := true }
def MacwilliamsGeneratingUptoSaid : Prop := macwilliamsGeneratingUptoRow.holds Try.pinned (OpenSpec.upto macwilliamsGeneratingSpec)

/-- 'codewrightlaw24.MacwilliamsOrthogonal', WHERE WHAT IT READS IS OF BULK AT MOST 1048576: true; the input reads as it did. -/
def macwilliamsOrthogonalUptoRow : OpenClaim := { program := "ytamkmihhpadamaa", sum := "48452c923a05b02517e9fd6dfcb45f5b3c01450bd07b647b273ab1fede8b52ae", func := "codewright/codewrightlaw24.MacwilliamsOrthogonal", spec := "macwilliamsOrthogonal", apart := false, narrowed := true }
def MacwilliamsOrthogonalUptoSaid : Prop := macwilliamsOrthogonalUptoRow.holds Try.pinned (OpenSpec.upto macwilliamsOrthogonalSpec)

/-- 'codewrightlaw24.MacwilliamsReciprocal', WHERE WHAT IT READS IS OF BULK AT MOST 1048576: true; the input reads as it did. -/
def macwilliamsReciprocalUptoRow : OpenClaim := { program := "ytamkmihhpadamaa", sum := "48452c923a05b02517e9fd6dfcb45f5b3c01450bd07b647b273ab1fede8b52ae", func := "codewright/codewrightlaw24.MacwilliamsReciprocal", spec := "macwilliamsReciprocal", apart := false, narrowed := true }
def MacwilliamsReciprocalUptoSaid : Prop := macwilliamsReciprocalUptoRow.holds Try.pinned (OpenSpec.upto macwilliamsReciprocalSpec)

/-- 'codewrightlaw24.MacwilliamsRecurrence', WHERE WHAT IT READS IS OF BULK AT MOST 1048576: true; the input reads as it did. -/
def macwilliamsRecurrenceUptoRow : OpenClaim := { program := "ytamkmihhpadamaa", sum := "48452c923a05b02517e9fd6dfcb45f5b3c01450bd07b647b273ab1fede8b52ae", func := "codewright/codewrightlaw24.MacwilliamsRecurrence", spec := "macwilliamsRecurrence", apart := false, narrowed := true }
def MacwilliamsRecurrenceUptoSaid : Prop := macwilliamsRecurrenceUptoRow.holds Try.pinned (OpenSpec.upto macwilliamsRecurrenceSpec)

/-- 'codewrightlaw24.MacwilliamsTransforms', WHERE WHAT IT READS IS OF BULK AT MOST 1048576: true; the input reads as it did. -/
def macwilliamsTransformsUptoRow : OpenClaim := { program := "ytamkmihhpadamaa", sum := "48452c923a05b02517e9fd6dfcb45f5b3c01450bd07b647b273ab1fede8b52ae", func := "codewright/codewrightlaw24.MacwilliamsTransforms", spec := "macwilliamsTransforms", apart := false, narrowed := true }
def MacwilliamsTransformsUptoSaid : Prop := macwilliamsTransformsUptoRow.holds Try.pinned (OpenSpec.upto macwilliamsTransformsSpec)

/-- 'codewrightlaw24.MacwilliamsInverts', WHERE WHAT IT READS IS OF BULK AT MOST 1048576: true; the input reads as it did. -/
def macwilliamsInvertsUptoRow : OpenClaim := { program := "ytamkmihhpadamaa", sum := "48452c923a05b02517e9fd6dfcb45f5b3c01450bd07b647b273ab1fede8b52ae", func := "codewright/codewrightlaw24.MacwilliamsInverts", spec := "macwilliamsInverts", apart := false, narrowed := true }
def MacwilliamsInvertsUptoSaid : Prop := macwilliamsInvertsUptoRow.holds Try.pinned (OpenSpec.upto macwilliamsInvertsSpec)

/-- 'codewrightlaw24.MacwilliamsExternals', WHERE WHAT IT READS IS OF BULK AT MOST 1048576: true; the input reads as it did. -/
def macwilliamsExternalsUptoRow : OpenClaim := { program := "ytamkmihhpadamaa", sum := "48452c923a05b02517e9fd6dfcb45f5b3c01450bd07b647b273ab1fede8b52ae", func := "codewright/codewrightlaw24.MacwilliamsExternals", spec := "macwilliamsExternals", apart := false, narrowed := true }
def MacwilliamsExternalsUptoSaid : Prop := macwilliamsExternalsUptoRow.holds Try.pinned (OpenSpec.upto macwilliamsExternalsSpec)

/-- 'codewrightlaw24.MacwilliamsStrengths', WHERE WHAT IT READS IS OF BULK AT MOST 1048576: true; the input reads as it did. -/
def macwilliamsStrengthsUptoRow : OpenClaim := { program := "ytamkmihhpadamaa", sum := "48452c923a05b02517e9fd6dfcb45f5b3c01450bd07b647b273ab1fede8b52ae", func := "codewright/codewrightlaw24.MacwilliamsStrengths", spec := "macwilliamsStrengths", apart := false, narrowed := true }
def MacwilliamsStrengthsUptoSaid : Prop := macwilliamsStrengthsUptoRow.holds Try.pinned (OpenSpec.upto macwilliamsStrengthsSpec)

end Rows
end Go.Proofs.Ytamkmihhpadamaa
