/-
  No cell of these rows narrows 'for every input' (looked for: loops, veiled, ifaces, maps, wideKeys, modest, calm, conditions, laid).
  DERIVED. THE GIVEN ROWS OF THIS SEAT. 10 by the template 'for every input the law returns true; each argument reads behind the call as it read before'; 0 by the template 'total and deterministic' (their statements: YtpienolhkccpnaaGreatTotals.lean).
  GIVEN WITH THE SEED: the statements are not yours to turn. If you find one false, say at which input.
  Laid BY PROGRAM, IN A SANDBOX (cutbox-rows.mjs): the forced cells as the released guide's own fill.sh prints them over the translation 7b327be4a5a0b209… (all of the seat's roots in one cut). By AI agents, Wed Nov 11 2026. No macro, syntax, notation, axiom, sorry.
-/
import Derived.Test.YtpienolhkccpnaaGreatChecked
import GoSem.Claim
import GoSem.ClaimJoined
import GoSem.ClaimMapViews
import Derived.JoinedTies
import Derived.KernelRfl
namespace Go.Proofs.YtpienolhkccpnaaGreat
/- THE CELL 'sum', in the pinned program and in every row, IS THE sha256 OF THE DUMP (.gsa) THAT YtpienolhkccpnaaGreatProg.lean LOADS. Nothing in Lean hashes anything: it is a label: what it is worth is what the hold of that sum in a sandbox is worth. -/
noncomputable def Tryz.pinned : Pinned := { name := "ytpienolhkccpnaagreat", sum := "7b327be4a5a0b2092b9c33d03e9d8001496765c6d9f30bd57bf78e8176b40e8d", checked := Tryz.checked }
namespace Rows
def none {H : Type} : Left H := { results := [], args := [] }

/-- 'codewrightlaw13.ModifyPositions': WHATEVER THE INPUT: true; the input reads as it did. -/
def modifyPositionsSpec : ChangeSpec := { name := "modifyPositions", fn := fun _ => fun
  | [d1, d2] => { results := [.lit (.bool true)], args := [d1, d2] }
  | _ => none }
def modifyPositionsRow : OpenClaim := { program := "ytpienolhkccpnaagreat", sum := "7b327be4a5a0b2092b9c33d03e9d8001496765c6d9f30bd57bf78e8176b40e8d", func := "codewright/codewrightlaw13.ModifyPositions", spec := "modifyPositions", unfollowed := true, recurses := true, apart := false }
def ModifyPositionsSaid : Prop := modifyPositionsRow.holds Tryz.pinned (OpenSpec.ofChange modifyPositionsSpec)

/-- ITS FALSE NEIGHBOUR: 'it returns false'. Refute it at one input. -/
def modifyPositionsWrong : ChangeSpec := { name := "modifyPositions", fn := fun _ => fun
  | [d1, d2] => { results := [.lit (.bool false)], args := [d1, d2] }
  | _ => none }
def ModifyPositionsWrongFalsely : Prop := modifyPositionsRow.holds Tryz.pinned (OpenSpec.ofChange modifyPositionsWrong)

/-- 'codewrightlaw13.ModifySums': WHATEVER THE INPUT: true; the input reads as it did. -/
def modifySumsSpec : ChangeSpec := { name := "modifySums", fn := fun _ => fun
  | [d] => { results := [.lit (.bool true)], args := [d] }
  | _ => none }
def modifySumsRow : OpenClaim := { program := "ytpienolhkccpnaagreat", sum := "7b327be4a5a0b2092b9c33d03e9d8001496765c6d9f30bd57bf78e8176b40e8d", func := "codewright/codewrightlaw13.ModifySums", spec := "modifySums", unfollowed := true, recurses := true, apart := false }
def ModifySumsSaid : Prop := modifySumsRow.holds Tryz.pinned (OpenSpec.ofChange modifySumsSpec)

/-- ITS FALSE NEIGHBOUR: 'it returns false'. Refute it at one input. -/
def modifySumsWrong : ChangeSpec := { name := "modifySums", fn := fun _ => fun
  | [d] => { results := [.lit (.bool false)], args := [d] }
  | _ => none }
def ModifySumsWrongFalsely : Prop := modifySumsRow.holds Tryz.pinned (OpenSpec.ofChange modifySumsWrong)

/-- 'codewrightlaw13.ModifyFields': WHATEVER THE INPUT: true; the input reads as it did. -/
def modifyFieldsSpec : ChangeSpec := { name := "modifyFields", fn := fun _ => fun
  | [d1, d2] => { results := [.lit (.bool true)], args := [d1, d2] }
  | _ => none }
def modifyFieldsRow : OpenClaim := { program := "ytpienolhkccpnaagreat", sum := "7b327be4a5a0b2092b9c33d03e9d8001496765c6d9f30bd57bf78e8176b40e8d", func := "codewright/codewrightlaw13.ModifyFields", spec := "modifyFields", unfollowed := true, recurses := true, apart := false }
def ModifyFieldsSaid : Prop := modifyFieldsRow.holds Tryz.pinned (OpenSpec.ofChange modifyFieldsSpec)

/-- ITS FALSE NEIGHBOUR: 'it returns false'. Refute it at one input. -/
def modifyFieldsWrong : ChangeSpec := { name := "modifyFields", fn := fun _ => fun
  | [d1, d2] => { results := [.lit (.bool false)], args := [d1, d2] }
  | _ => none }
def ModifyFieldsWrongFalsely : Prop := modifyFieldsRow.holds Tryz.pinned (OpenSpec.ofChange modifyFieldsWrong)

/-- 'codewrightlaw13.ModifyDual': WHATEVER THE INPUT: true; the input reads as it did. -/
def modifyDualSpec : ChangeSpec := { name := "modifyDual", fn := fun _ => fun
  | [d1, d2] => { results := [.lit (.bool true)], args := [d1, d2] }
  | _ => none }
def modifyDualRow : OpenClaim := { program := "ytpienolhkccpnaagreat", sum := "7b327be4a5a0b2092b9c33d03e9d8001496765c6d9f30bd57bf78e8176b40e8d", func := "codewright/codewrightlaw13.ModifyDual", spec := "modifyDual", unfollowed := true, recurses := true, apart := false }
def ModifyDualSaid : Prop := modifyDualRow.holds Tryz.pinned (OpenSpec.ofChange modifyDualSpec)

/-- ITS FALSE NEIGHBOUR: 'it returns false'. Refute it at one input. -/
def modifyDualWrong : ChangeSpec := { name := "modifyDual", fn := fun _ => fun
  | [d1, d2] => { results := [.lit (.bool false)], args := [d1, d2] }
  | _ => none }
def ModifyDualWrongFalsely : Prop := modifyDualRow.holds Tryz.pinned (OpenSpec.ofChange modifyDualWrong)

/-- 'codewrightlaw13.ModifyParity': WHATEVER THE INPUT: true; the input reads as it did. -/
def modifyParitySpec : ChangeSpec := { name := "modifyParity", fn := fun _ => fun
  | [d] => { results := [.lit (.bool true)], args := [d] }
  | _ => none }
def modifyParityRow : OpenClaim := { program := "ytpienolhkccpnaagreat", sum := "7b327be4a5a0b2092b9c33d03e9d8001496765c6d9f30bd57bf78e8176b40e8d", func := "codewright/codewrightlaw13.ModifyParity", spec := "modifyParity", unfollowed := true, recurses := true, apart := false }
def ModifyParitySaid : Prop := modifyParityRow.holds Tryz.pinned (OpenSpec.ofChange modifyParitySpec)

/-- ITS FALSE NEIGHBOUR: 'it returns false'. Refute it at one input. -/
def modifyParityWrong : ChangeSpec := { name := "modifyParity", fn := fun _ => fun
  | [d] => { results := [.lit (.bool false)], args := [d] }
  | _ => none }
def ModifyParityWrongFalsely : Prop := modifyParityRow.holds Tryz.pinned (OpenSpec.ofChange modifyParityWrong)

/-- 'codewrightlaw13.ModifyPermutes': WHATEVER THE INPUT: true; the input reads as it did. -/
def modifyPermutesSpec : ChangeSpec := { name := "modifyPermutes", fn := fun _ => fun
  | [d1, d2] => { results := [.lit (.bool true)], args := [d1, d2] }
  | _ => none }
def modifyPermutesRow : OpenClaim := { program := "ytpienolhkccpnaagreat", sum := "7b327be4a5a0b2092b9c33d03e9d8001496765c6d9f30bd57bf78e8176b40e8d", func := "codewright/codewrightlaw13.ModifyPermutes", spec := "modifyPermutes", unfollowed := true, recurses := true, apart := false }
def ModifyPermutesSaid : Prop := modifyPermutesRow.holds Tryz.pinned (OpenSpec.ofChange modifyPermutesSpec)

/-- ITS FALSE NEIGHBOUR: 'it returns false'. Refute it at one input. -/
def modifyPermutesWrong : ChangeSpec := { name := "modifyPermutes", fn := fun _ => fun
  | [d1, d2] => { results := [.lit (.bool false)], args := [d1, d2] }
  | _ => none }
def ModifyPermutesWrongFalsely : Prop := modifyPermutesRow.holds Tryz.pinned (OpenSpec.ofChange modifyPermutesWrong)

/-- 'codewrightlaw13.ModifyDelsarte': WHATEVER THE INPUT: true; the input reads as it did. -/
def modifyDelsarteSpec : ChangeSpec := { name := "modifyDelsarte", fn := fun _ => fun
  | [d1, d2] => { results := [.lit (.bool true)], args := [d1, d2] }
  | _ => none }
def modifyDelsarteRow : OpenClaim := { program := "ytpienolhkccpnaagreat", sum := "7b327be4a5a0b2092b9c33d03e9d8001496765c6d9f30bd57bf78e8176b40e8d", func := "codewright/codewrightlaw13.ModifyDelsarte", spec := "modifyDelsarte", unfollowed := true, recurses := true, apart := false }
def ModifyDelsarteSaid : Prop := modifyDelsarteRow.holds Tryz.pinned (OpenSpec.ofChange modifyDelsarteSpec)

/-- ITS FALSE NEIGHBOUR: 'it returns false'. Refute it at one input. -/
def modifyDelsarteWrong : ChangeSpec := { name := "modifyDelsarte", fn := fun _ => fun
  | [d1, d2] => { results := [.lit (.bool false)], args := [d1, d2] }
  | _ => none }
def ModifyDelsarteWrongFalsely : Prop := modifyDelsarteRow.holds Tryz.pinned (OpenSpec.ofChange modifyDelsarteWrong)

/-- 'codewrightlaw13.ModifyLifts': WHATEVER THE INPUT: true; the input reads as it did. -/
def modifyLiftsSpec : ChangeSpec := { name := "modifyLifts", fn := fun _ => fun
  | [d1, d2] => { results := [.lit (.bool true)], args := [d1, d2] }
  | _ => none }
def modifyLiftsRow : OpenClaim := { program := "ytpienolhkccpnaagreat", sum := "7b327be4a5a0b2092b9c33d03e9d8001496765c6d9f30bd57bf78e8176b40e8d", func := "codewright/codewrightlaw13.ModifyLifts", spec := "modifyLifts", unfollowed := true, recurses := true, apart := false }
def ModifyLiftsSaid : Prop := modifyLiftsRow.holds Tryz.pinned (OpenSpec.ofChange modifyLiftsSpec)

/-- ITS FALSE NEIGHBOUR: 'it returns false'. Refute it at one input. -/
def modifyLiftsWrong : ChangeSpec := { name := "modifyLifts", fn := fun _ => fun
  | [d1, d2] => { results := [.lit (.bool false)], args := [d1, d2] }
  | _ => none }
def ModifyLiftsWrongFalsely : Prop := modifyLiftsRow.holds Tryz.pinned (OpenSpec.ofChange modifyLiftsWrong)

/-- 'codewrightlaw13.ModifyWords': WHATEVER THE INPUT: true; the input reads as it did. -/
def modifyWordsSpec : ChangeSpec := { name := "modifyWords", fn := fun _ => fun
  | [d1, d2, d3] => { results := [.lit (.bool true)], args := [d1, d2, d3] }
  | _ => none }
def modifyWordsRow : OpenClaim := { program := "ytpienolhkccpnaagreat", sum := "7b327be4a5a0b2092b9c33d03e9d8001496765c6d9f30bd57bf78e8176b40e8d", func := "codewright/codewrightlaw13.ModifyWords", spec := "modifyWords", unfollowed := true, recurses := true, apart := false }
def ModifyWordsSaid : Prop := modifyWordsRow.holds Tryz.pinned (OpenSpec.ofChange modifyWordsSpec)

/-- ITS FALSE NEIGHBOUR: 'it returns false'. Refute it at one input. -/
def modifyWordsWrong : ChangeSpec := { name := "modifyWords", fn := fun _ => fun
  | [d1, d2, d3] => { results := [.lit (.bool false)], args := [d1, d2, d3] }
  | _ => none }
def ModifyWordsWrongFalsely : Prop := modifyWordsRow.holds Tryz.pinned (OpenSpec.ofChange modifyWordsWrong)

/-- 'codewrightlaw13.ModifyImages': WHATEVER THE INPUT: true; the input reads as it did. -/
def modifyImagesSpec : ChangeSpec := { name := "modifyImages", fn := fun _ => fun
  | [d1, d2, d3] => { results := [.lit (.bool true)], args := [d1, d2, d3] }
  | _ => none }
def modifyImagesRow : OpenClaim := { program := "ytpienolhkccpnaagreat", sum := "7b327be4a5a0b2092b9c33d03e9d8001496765c6d9f30bd57bf78e8176b40e8d", func := "codewright/codewrightlaw13.ModifyImages", spec := "modifyImages", unfollowed := true, recurses := true, apart := false }
def ModifyImagesSaid : Prop := modifyImagesRow.holds Tryz.pinned (OpenSpec.ofChange modifyImagesSpec)

/-- ITS FALSE NEIGHBOUR: 'it returns false'. Refute it at one input. -/
def modifyImagesWrong : ChangeSpec := { name := "modifyImages", fn := fun _ => fun
  | [d1, d2, d3] => { results := [.lit (.bool false)], args := [d1, d2, d3] }
  | _ => none }
def ModifyImagesWrongFalsely : Prop := modifyImagesRow.holds Tryz.pinned (OpenSpec.ofChange modifyImagesWrong)

/- THE SECOND FORM. 'bulk': how many values and letters a reading holds, each counted each time it is reached (what is shared counts as often as it is met; a slice's spare places count too). A statement '..UptoSaid' is the law's where the arguments, and the package variables that the reading takes, are together of bulk at most 1048576: NARROWER than '..Said'. Prove '..Said' where nothing that the law and all that it calls make is longer than what came in: it says more and counts as full. Else prove '..UptoSaid'. A law counts once. -/
mutual
def uptoBulk {H : Type} : DataW H → Nat
  | .lit (.string bytes) => bytes.length + 1
  | .lit _ => 1
  | .nil => 1
  | .ptr d => uptoBulk d + 1
  | .slice elems spare => uptoBulkAll elems + uptoBulkAll spare + 1
  | .agg parts => uptoBulkAll parts + 1
  | .iface _ d => uptoBulk d + 1
  | .map entries => uptoBulkEntries entries + 1
  | .held _ => 1
def uptoBulkAll {H : Type} : List (DataW H) → Nat
  | [] => 0
  | d :: r => uptoBulk d + uptoBulkAll r
def uptoBulkEntries {H : Type} : List (Lit × DataW H) → Nat
  | [] => 0
  | x :: r => uptoBulkEntry x + uptoBulkEntries r
def uptoBulkEntry {H : Type} : Lit × DataW H → Nat
  | (.string bytes, d) => bytes.length + uptoBulk d + 1
  | (_, d) => uptoBulk d + 1
 end
def uptoSmall : (H : Type) → List (DataW H) → Bool := fun _ ds => decide (uptoBulkAll ds ≤ 1048576)
def OpenSpec.upto (s : _root_.Go.ChangeSpec) : _root_.Go.OpenSpec := { _root_.Go.OpenSpec.ofChange s with cond := some uptoSmall }

/-- 'codewrightlaw13.ModifyPositions', WHERE WHAT IT READS IS OF BULK AT MOST 1048576: true; the input reads as it did. -/
def modifyPositionsUptoRow : OpenClaim := { program := "ytpienolhkccpnaagreat", sum := "7b327be4a5a0b2092b9c33d03e9d8001496765c6d9f30bd57bf78e8176b40e8d", func := "codewright/codewrightlaw13.ModifyPositions", spec := "modifyPositions", unfollowed := true, recurses := true, apart := false, narrowed := true }
def ModifyPositionsUptoSaid : Prop := modifyPositionsUptoRow.holds Tryz.pinned (OpenSpec.upto modifyPositionsSpec)

/-- 'codewrightlaw13.ModifySums', WHERE WHAT IT READS IS OF BULK AT MOST 1048576: true; the input reads as it did. -/
def modifySumsUptoRow : OpenClaim := { program := "ytpienolhkccpnaagreat", sum := "7b327be4a5a0b2092b9c33d03e9d8001496765c6d9f30bd57bf78e8176b40e8d", func := "codewright/codewrightlaw13.ModifySums", spec := "modifySums", unfollowed := true, recurses := true, apart := false, narrowed := true }
def ModifySumsUptoSaid : Prop := modifySumsUptoRow.holds Tryz.pinned (OpenSpec.upto modifySumsSpec)

/-- 'codewrightlaw13.ModifyFields', WHERE WHAT IT READS IS OF BULK AT MOST 1048576: true; the input reads as it did. -/
def modifyFieldsUptoRow : OpenClaim := { program := "ytpienolhkccpnaagreat", sum := "7b327be4a5a0b2092b9c33d03e9d8001496765c6d9f30bd57bf78e8176b40e8d", func := "codewright/codewrightlaw13.ModifyFields", spec := "modifyFields", unfollowed := true, recurses := true, apart := false, narrowed := true }
def ModifyFieldsUptoSaid : Prop := modifyFieldsUptoRow.holds Tryz.pinned (OpenSpec.upto modifyFieldsSpec)

/-- 'codewrightlaw13.ModifyDual', WHERE WHAT IT READS IS OF BULK AT MOST 1048576: true; the input reads as it did. -/
def modifyDualUptoRow : OpenClaim := { program := "ytpienolhkccpnaagreat", sum := "7b327be4a5a0b2092b9c33d03e9d8001496765c6d9f30bd57bf78e8176b40e8d", func := "codewright/codewrightlaw13.ModifyDual", spec := "modifyDual", unfollowed := true, recurses := true, apart := false, narrowed := true }
def ModifyDualUptoSaid : Prop := modifyDualUptoRow.holds Tryz.pinned (OpenSpec.upto modifyDualSpec)

/-- 'codewrightlaw13.ModifyParity', WHERE WHAT IT READS IS OF BULK AT MOST 1048576: true; the input reads as it did. -/
def modifyParityUptoRow : OpenClaim := { program := "ytpienolhkccpnaagreat", sum := "7b327be4a5a0b2092b9c33d03e9d8001496765c6d9f30bd57bf78e8176b40e8d", func := "codewright/codewrightlaw13.ModifyParity", spec := "modifyParity", unfollowed := true, recurses := true, apart := false, narrowed := true }
def ModifyParityUptoSaid : Prop := modifyParityUptoRow.holds Tryz.pinned (OpenSpec.upto modifyParitySpec)

/-- 'codewrightlaw13.ModifyPermutes', WHERE WHAT IT READS IS OF BULK AT MOST 1048576: true; the input reads as it did. -/
def modifyPermutesUptoRow : OpenClaim := { program := "ytpienolhkccpnaagreat", sum := "7b327be4a5a0b2092b9c33d03e9d8001496765c6d9f30bd57bf78e8176b40e8d", func := "codewright/codewrightlaw13.ModifyPermutes", spec := "modifyPermutes", unfollowed := true, recurses := true, apart := false, narrowed := true }
def ModifyPermutesUptoSaid : Prop := modifyPermutesUptoRow.holds Tryz.pinned (OpenSpec.upto modifyPermutesSpec)

/-- 'codewrightlaw13.ModifyDelsarte', WHERE WHAT IT READS IS OF BULK AT MOST 1048576: true; the input reads as it did. -/
def modifyDelsarteUptoRow : OpenClaim := { program := "ytpienolhkccpnaagreat", sum := "7b327be4a5a0b2092b9c33d03e9d8001496765c6d9f30bd57bf78e8176b40e8d", func := "codewright/codewrightlaw13.ModifyDelsarte", spec := "modifyDelsarte", unfollowed := true, recurses := true, apart := false, narrowed := true }
def ModifyDelsarteUptoSaid : Prop := modifyDelsarteUptoRow.holds Tryz.pinned (OpenSpec.upto modifyDelsarteSpec)

/-- 'codewrightlaw13.ModifyLifts', WHERE WHAT IT READS IS OF BULK AT MOST 1048576: true; the input reads as it did. -/
def modifyLiftsUptoRow : OpenClaim := { program := "ytpienolhkccpnaagreat", sum := "7b327be4a5a0b2092b9c33d03e9d8001496765c6d9f30bd57bf78e8176b40e8d", func := "codewright/codewrightlaw13.ModifyLifts", spec := "modifyLifts", unfollowed := true, recurses := true, apart := false, narrowed := true }
def ModifyLiftsUptoSaid : Prop := modifyLiftsUptoRow.holds Tryz.pinned (OpenSpec.upto modifyLiftsSpec)

/-- 'codewrightlaw13.ModifyWords', WHERE WHAT IT READS IS OF BULK AT MOST 1048576: true; the input reads as it did. -/
def modifyWordsUptoRow : OpenClaim := { program := "ytpienolhkccpnaagreat", sum := "7b327be4a5a0b2092b9c33d03e9d8001496765c6d9f30bd57bf78e8176b40e8d", func := "codewright/codewrightlaw13.ModifyWords", spec := "modifyWords", unfollowed := true, recurses := true, apart := false, narrowed := true }
def ModifyWordsUptoSaid : Prop := modifyWordsUptoRow.holds Tryz.pinned (OpenSpec.upto modifyWordsSpec)

/-- 'codewrightlaw13.ModifyImages', WHERE WHAT IT READS IS OF BULK AT MOST 1048576: true; the input reads as it did. -/
def modifyImagesUptoRow : OpenClaim := { program := "ytpienolhkccpnaagreat", sum := "7b327be4a5a0b2092b9c33d03e9d8001496765c6d9f30bd57bf78e8176b40e8d", func := "codewright/codewrightlaw13.ModifyImages", spec := "modifyImages", unfollowed := true, recurses := true, apart := false, narrowed := true }
def ModifyImagesUptoSaid : Prop := modifyImagesUptoRow.holds Tryz.pinned (OpenSpec.upto modifyImagesSpec)

end Rows
end Go.Proofs.YtpienolhkccpnaaGreat
