/-
  No cell of these rows narrows 'for every input' (looked for: loops, veiled, ifaces, maps, wideKeys, modest, calm, conditions, laid).
  DERIVED. THE GIVEN ROWS OF THIS SEAT. 6 by the template 'for every input the law returns true; each argument reads behind the call as it read before'; 0 by the template 'total and deterministic' (their statements: YteadncphjconmaaGreatTotals.lean).
  GIVEN WITH THE SEED: the statements are not yours to turn. If you find one false, say at which input.
  Laid BY PROGRAM, IN A SANDBOX (cutbox-rows.mjs): the forced cells as the released guide's own fill.sh prints them over the translation 01ae3b6010dec926… (all of the seat's roots in one cut). By AI agents, Wed Nov 11 2026. No macro, syntax, notation, axiom, sorry.
-/
import Derived.Test.YteadncphjconmaaGreatChecked
import GoSem.Claim
import GoSem.ClaimJoined
import GoSem.ClaimMapViews
import Derived.JoinedTies
import Derived.KernelRfl
namespace Go.Proofs.YteadncphjconmaaGreat
/- THE CELL 'sum', in the pinned program and in every row, IS THE sha256 OF THE DUMP (.gsa) THAT YteadncphjconmaaGreatProg.lean LOADS. Nothing in Lean hashes anything: it is a label: what it is worth is what the hold of that sum in a sandbox is worth. -/
noncomputable def Tryz.pinned : Pinned := { name := "yteadncphjconmaagreat", sum := "01ae3b6010dec92652e9b998f5b71a609d274c880776e291d8ab5384c43cc2d6", checked := Tryz.checked }
namespace Rows
def none {H : Type} : Left H := { results := [], args := [] }

/-- 'codewrightlaw54.StoreConfigs': WHATEVER THE INPUT: true; the input reads as it did. -/
def storeConfigsSpec : ChangeSpec := { name := "storeConfigs", fn := fun _ => fun
  | [d] => { results := [.lit (.bool true)], args := [d] }
  | _ => none }
def storeConfigsRow : OpenClaim := { program := "yteadncphjconmaagreat", sum := "01ae3b6010dec92652e9b998f5b71a609d274c880776e291d8ab5384c43cc2d6", func := "codewright/codewrightlaw54.StoreConfigs", spec := "storeConfigs", unfollowed := true, recurses := true, apart := false }
def StoreConfigsSaid : Prop := storeConfigsRow.holds Tryz.pinned (OpenSpec.ofChange storeConfigsSpec)

/-- ITS FALSE NEIGHBOUR: 'it returns false'. Refute it at one input. -/
def storeConfigsWrong : ChangeSpec := { name := "storeConfigs", fn := fun _ => fun
  | [d] => { results := [.lit (.bool false)], args := [d] }
  | _ => none }
def StoreConfigsWrongFalsely : Prop := storeConfigsRow.holds Tryz.pinned (OpenSpec.ofChange storeConfigsWrong)

/-- 'codewrightlaw54.StorePlaces': WHATEVER THE INPUT: true; the input reads as it did. -/
def storePlacesSpec : ChangeSpec := { name := "storePlaces", fn := fun _ => fun
  | [d1, d2, d3] => { results := [.lit (.bool true)], args := [d1, d2, d3] }
  | _ => none }
def storePlacesRow : OpenClaim := { program := "yteadncphjconmaagreat", sum := "01ae3b6010dec92652e9b998f5b71a609d274c880776e291d8ab5384c43cc2d6", func := "codewright/codewrightlaw54.StorePlaces", spec := "storePlaces", unfollowed := true, recurses := true, apart := false }
def StorePlacesSaid : Prop := storePlacesRow.holds Tryz.pinned (OpenSpec.ofChange storePlacesSpec)

/-- ITS FALSE NEIGHBOUR: 'it returns false'. Refute it at one input. -/
def storePlacesWrong : ChangeSpec := { name := "storePlaces", fn := fun _ => fun
  | [d1, d2, d3] => { results := [.lit (.bool false)], args := [d1, d2, d3] }
  | _ => none }
def StorePlacesWrongFalsely : Prop := storePlacesRow.holds Tryz.pinned (OpenSpec.ofChange storePlacesWrong)

/-- 'codewrightlaw54.StoreTolerates': WHATEVER THE INPUT: true; the input reads as it did. -/
def storeToleratesSpec : ChangeSpec := { name := "storeTolerates", fn := fun _ => fun
  | [d] => { results := [.lit (.bool true)], args := [d] }
  | _ => none }
def storeToleratesRow : OpenClaim := { program := "yteadncphjconmaagreat", sum := "01ae3b6010dec92652e9b998f5b71a609d274c880776e291d8ab5384c43cc2d6", func := "codewright/codewrightlaw54.StoreTolerates", spec := "storeTolerates", unfollowed := true, recurses := true, apart := false }
def StoreToleratesSaid : Prop := storeToleratesRow.holds Tryz.pinned (OpenSpec.ofChange storeToleratesSpec)

/-- ITS FALSE NEIGHBOUR: 'it returns false'. Refute it at one input. -/
def storeToleratesWrong : ChangeSpec := { name := "storeTolerates", fn := fun _ => fun
  | [d] => { results := [.lit (.bool false)], args := [d] }
  | _ => none }
def StoreToleratesWrongFalsely : Prop := storeToleratesRow.holds Tryz.pinned (OpenSpec.ofChange storeToleratesWrong)

/-- 'codewrightlaw54.StoreEncodes': WHATEVER THE INPUT: true; the input reads as it did. -/
def storeEncodesSpec : ChangeSpec := { name := "storeEncodes", fn := fun _ => fun
  | [d1, d2] => { results := [.lit (.bool true)], args := [d1, d2] }
  | _ => none }
def storeEncodesRow : OpenClaim := { program := "yteadncphjconmaagreat", sum := "01ae3b6010dec92652e9b998f5b71a609d274c880776e291d8ab5384c43cc2d6", func := "codewright/codewrightlaw54.StoreEncodes", spec := "storeEncodes", unfollowed := true, recurses := true, apart := false }
def StoreEncodesSaid : Prop := storeEncodesRow.holds Tryz.pinned (OpenSpec.ofChange storeEncodesSpec)

/-- ITS FALSE NEIGHBOUR: 'it returns false'. Refute it at one input. -/
def storeEncodesWrong : ChangeSpec := { name := "storeEncodes", fn := fun _ => fun
  | [d1, d2] => { results := [.lit (.bool false)], args := [d1, d2] }
  | _ => none }
def StoreEncodesWrongFalsely : Prop := storeEncodesRow.holds Tryz.pinned (OpenSpec.ofChange storeEncodesWrong)

/-- 'codewrightlaw54.StoreDecodes': WHATEVER THE INPUT: true; the input reads as it did. -/
def storeDecodesSpec : ChangeSpec := { name := "storeDecodes", fn := fun _ => fun
  | [d1, d2] => { results := [.lit (.bool true)], args := [d1, d2] }
  | _ => none }
def storeDecodesRow : OpenClaim := { program := "yteadncphjconmaagreat", sum := "01ae3b6010dec92652e9b998f5b71a609d274c880776e291d8ab5384c43cc2d6", func := "codewright/codewrightlaw54.StoreDecodes", spec := "storeDecodes", unfollowed := true, recurses := true, apart := false }
def StoreDecodesSaid : Prop := storeDecodesRow.holds Tryz.pinned (OpenSpec.ofChange storeDecodesSpec)

/-- ITS FALSE NEIGHBOUR: 'it returns false'. Refute it at one input. -/
def storeDecodesWrong : ChangeSpec := { name := "storeDecodes", fn := fun _ => fun
  | [d1, d2] => { results := [.lit (.bool false)], args := [d1, d2] }
  | _ => none }
def StoreDecodesWrongFalsely : Prop := storeDecodesRow.holds Tryz.pinned (OpenSpec.ofChange storeDecodesWrong)

/-- 'codewrightlaw54.StoreCorrects': WHATEVER THE INPUT: true; the input reads as it did. -/
def storeCorrectsSpec : ChangeSpec := { name := "storeCorrects", fn := fun _ => fun
  | [d1, d2, d3] => { results := [.lit (.bool true)], args := [d1, d2, d3] }
  | _ => none }
def storeCorrectsRow : OpenClaim := { program := "yteadncphjconmaagreat", sum := "01ae3b6010dec92652e9b998f5b71a609d274c880776e291d8ab5384c43cc2d6", func := "codewright/codewrightlaw54.StoreCorrects", spec := "storeCorrects", unfollowed := true, recurses := true, apart := false }
def StoreCorrectsSaid : Prop := storeCorrectsRow.holds Tryz.pinned (OpenSpec.ofChange storeCorrectsSpec)

/-- ITS FALSE NEIGHBOUR: 'it returns false'. Refute it at one input. -/
def storeCorrectsWrong : ChangeSpec := { name := "storeCorrects", fn := fun _ => fun
  | [d1, d2, d3] => { results := [.lit (.bool false)], args := [d1, d2, d3] }
  | _ => none }
def StoreCorrectsWrongFalsely : Prop := storeCorrectsRow.holds Tryz.pinned (OpenSpec.ofChange storeCorrectsWrong)

/- THE SECOND FORM. 'bulk': how many values and letters a reading holds, each counted each time it is reached (what is shared counts as often as it is met; a slice's spare places count too). A statement '..UptoSaid' is the law's where the arguments, and the package variables that the reading takes, are together of bulk at most 1048576: NARROWER than '..Said'. Prove '..Said' where nothing that the law and all that it calls make is longer than what came in: it says more and counts as full. Else prove '..UptoSaid'. A law counts once. -/
mutual
def uptoBulk {H : Type} : DataW H → Nat
  | .lit (.string bytes) => bytes.length + 1
  | .lit _ => 1
  | .nil => 1
  | .ptr d => uptoBulk d + 1
  | .slice elems spare => uptoBulkAll elems + uptoBulkAll spare + 1
  | .agg parts => uptoBulkAll parts + 1
  | .iface _ d => uptoBulk d + 1
  | .map entries => uptoBulkEntries entries + 1
  | .held _ => 1
def uptoBulkAll {H : Type} : List (DataW H) → Nat
  | [] => 0
  | d :: r => uptoBulk d + uptoBulkAll r
def uptoBulkEntries {H : Type} : List (Lit × DataW H) → Nat
  | [] => 0
  | x :: r => uptoBulkEntry x + uptoBulkEntries r
def uptoBulkEntry {H : Type} : Lit × DataW H → Nat
  | (.string bytes, d) => bytes.length + uptoBulk d + 1
  | (_, d) => uptoBulk d + 1
 end
def uptoSmall : (H : Type) → List (DataW H) → Bool := fun _ ds => decide (uptoBulkAll ds ≤ 1048576)
def OpenSpec.upto (s : _root_.Go.ChangeSpec) : _root_.Go.OpenSpec := { _root_.Go.OpenSpec.ofChange s with cond := some uptoSmall }

/-- 'codewrightlaw54.StoreConfigs', WHERE WHAT IT READS IS OF BULK AT MOST 1048576: true; the input reads as it did. -/
def storeConfigsUptoRow : OpenClaim := { program := "yteadncphjconmaagreat", sum := "01ae3b6010dec92652e9b998f5b71a609d274c880776e291d8ab5384c43cc2d6", func := "codewright/codewrightlaw54.StoreConfigs", spec := "storeConfigs", unfollowed := true, recurses := true, apart := false, narrowed := true }
def StoreConfigsUptoSaid : Prop := storeConfigsUptoRow.holds Tryz.pinned (OpenSpec.upto storeConfigsSpec)

/-- 'codewrightlaw54.StorePlaces', WHERE WHAT IT READS IS OF BULK AT MOST 1048576: true; the input reads as it did. -/
def storePlacesUptoRow : OpenClaim := { program := "yteadncphjconmaagreat", sum := "01ae3b6010dec92652e9b998f5b71a609d274c880776e291d8ab5384c43cc2d6", func := "codewright/codewrightlaw54.StorePlaces", spec := "storePlaces", unfollowed := true, recurses := true, apart := false, narrowed := true }
def StorePlacesUptoSaid : Prop := storePlacesUptoRow.holds Tryz.pinned (OpenSpec.upto storePlacesSpec)

/-- 'codewrightlaw54.StoreTolerates', WHERE WHAT IT READS IS OF BULK AT MOST 1048576: true; the input reads as it did. -/
def storeToleratesUptoRow : OpenClaim := { program := "yteadncphjconmaagreat", sum := "01ae3b6010dec92652e9b998f5b71a609d274c880776e291d8ab5384c43cc2d6", func := "codewright/codewrightlaw54.StoreTolerates", spec := "storeTolerates", unfollowed := true, recurses := true, apart := false, narrowed := true }
def StoreToleratesUptoSaid : Prop := storeToleratesUptoRow.holds Tryz.pinned (OpenSpec.upto storeToleratesSpec)

/-- 'codewrightlaw54.StoreEncodes', WHERE WHAT IT READS IS OF BULK AT MOST 1048576: true; the input reads as it did. -/
def storeEncodesUptoRow : OpenClaim := { program := "yteadncphjconmaagreat", sum := "01ae3b6010dec92652e9b998f5b71a609d274c880776e291d8ab5384c43cc2d6", func := "codewright/codewrightlaw54.StoreEncodes", spec := "storeEncodes", unfollowed := true, recurses := true, apart := false, narrowed := true }
def StoreEncodesUptoSaid : Prop := storeEncodesUptoRow.holds Tryz.pinned (OpenSpec.upto storeEncodesSpec)

/-- 'codewrightlaw54.StoreDecodes', WHERE WHAT IT READS IS OF BULK AT MOST 1048576: true; the input reads as it did. -/
def storeDecodesUptoRow : OpenClaim := { program := "yteadncphjconmaagreat", sum := "01ae3b6010dec92652e9b998f5b71a609d274c880776e291d8ab5384c43cc2d6", func := "codewright/codewrightlaw54.StoreDecodes", spec := "storeDecodes", unfollowed := true, recurses := true, apart := false, narrowed := true }
def StoreDecodesUptoSaid : Prop := storeDecodesUptoRow.holds Tryz.pinned (OpenSpec.upto storeDecodesSpec)

/-- 'codewrightlaw54.StoreCorrects', WHERE WHAT IT READS IS OF BULK AT MOST 1048576: true; the input reads as it did. -/
def storeCorrectsUptoRow : OpenClaim := { program := "yteadncphjconmaagreat", sum := "01ae3b6010dec92652e9b998f5b71a609d274c880776e291d8ab5384c43cc2d6", func := "codewright/codewrightlaw54.StoreCorrects", spec := "storeCorrects", unfollowed := true, recurses := true, apart := false, narrowed := true }
def StoreCorrectsUptoSaid : Prop := storeCorrectsUptoRow.holds Tryz.pinned (OpenSpec.upto storeCorrectsSpec)

end Rows
end Go.Proofs.YteadncphjconmaaGreat
