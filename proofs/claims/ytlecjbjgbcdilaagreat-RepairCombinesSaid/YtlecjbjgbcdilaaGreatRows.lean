/-
  No cell of these rows narrows 'for every input' (looked for: loops, veiled, ifaces, maps, wideKeys, modest, calm, conditions, laid).
  DERIVED. THE GIVEN ROWS OF THIS SEAT. 3 by the template 'for every input the law returns true; each argument reads behind the call as it read before'; 0 by the template 'total and deterministic' (their statements: YtlecjbjgbcdilaaGreatTotals.lean).
  GIVEN WITH THE SEED: the statements are not yours to turn. If you find one false, say at which input.
  Laid BY PROGRAM, IN A SANDBOX (cutbox-rows.mjs): the forced cells as the released guide's own fill.sh prints them over the translation 14d038c5eb9c07a5… (all of the seat's roots in one cut). By AI agents, Wed Nov 11 2026. No macro, syntax, notation, axiom, sorry.
-/
import Derived.Test.YtlecjbjgbcdilaaGreatChecked
import GoSem.Claim
import GoSem.ClaimJoined
import GoSem.ClaimMapViews
import Derived.JoinedTies
import Derived.KernelRfl
namespace Go.Proofs.YtlecjbjgbcdilaaGreat
/- THE CELL 'sum', in the pinned program and in every row, IS THE sha256 OF THE DUMP (.gsa) THAT YtlecjbjgbcdilaaGreatProg.lean LOADS. Nothing in Lean hashes anything: it is a label: what it is worth is what the hold of that sum in a sandbox is worth. -/
noncomputable def Tryz.pinned : Pinned := { name := "ytlecjbjgbcdilaagreat", sum := "14d038c5eb9c07a58c7e7d8c4c9228ee4041d4d15ab14d5563d1e36a4e3dec44", checked := Tryz.checked }
namespace Rows
def none {H : Type} : Left H := { results := [], args := [] }

/-- 'codewrightlaw53.RepairCombines': WHATEVER THE INPUT: true; the input reads as it did. -/
def repairCombinesSpec : ChangeSpec := { name := "repairCombines", fn := fun _ => fun
  | [d] => { results := [.lit (.bool true)], args := [d] }
  | _ => none }
def repairCombinesRow : OpenClaim := { program := "ytlecjbjgbcdilaagreat", sum := "14d038c5eb9c07a58c7e7d8c4c9228ee4041d4d15ab14d5563d1e36a4e3dec44", func := "codewright/codewrightlaw53.RepairCombines", spec := "repairCombines", unfollowed := true, recurses := true, apart := false }
def RepairCombinesSaid : Prop := repairCombinesRow.holds Tryz.pinned (OpenSpec.ofChange repairCombinesSpec)

/-- ITS FALSE NEIGHBOUR: 'it returns false'. Refute it at one input. -/
def repairCombinesWrong : ChangeSpec := { name := "repairCombines", fn := fun _ => fun
  | [d] => { results := [.lit (.bool false)], args := [d] }
  | _ => none }
def RepairCombinesWrongFalsely : Prop := repairCombinesRow.holds Tryz.pinned (OpenSpec.ofChange repairCombinesWrong)

/-- 'codewrightlaw53.RepairSound': WHATEVER THE INPUT: true; the input reads as it did. -/
def repairSoundSpec : ChangeSpec := { name := "repairSound", fn := fun _ => fun
  | [d] => { results := [.lit (.bool true)], args := [d] }
  | _ => none }
def repairSoundRow : OpenClaim := { program := "ytlecjbjgbcdilaagreat", sum := "14d038c5eb9c07a58c7e7d8c4c9228ee4041d4d15ab14d5563d1e36a4e3dec44", func := "codewright/codewrightlaw53.RepairSound", spec := "repairSound", unfollowed := true, recurses := true, apart := false }
def RepairSoundSaid : Prop := repairSoundRow.holds Tryz.pinned (OpenSpec.ofChange repairSoundSpec)

/-- ITS FALSE NEIGHBOUR: 'it returns false'. Refute it at one input. -/
def repairSoundWrong : ChangeSpec := { name := "repairSound", fn := fun _ => fun
  | [d] => { results := [.lit (.bool false)], args := [d] }
  | _ => none }
def RepairSoundWrongFalsely : Prop := repairSoundRow.holds Tryz.pinned (OpenSpec.ofChange repairSoundWrong)

/-- 'codewrightlaw53.RepairChecks': WHATEVER THE INPUT: true; the input reads as it did. -/
def repairChecksSpec : ChangeSpec := { name := "repairChecks", fn := fun _ => fun
  | [d] => { results := [.lit (.bool true)], args := [d] }
  | _ => none }
def repairChecksRow : OpenClaim := { program := "ytlecjbjgbcdilaagreat", sum := "14d038c5eb9c07a58c7e7d8c4c9228ee4041d4d15ab14d5563d1e36a4e3dec44", func := "codewright/codewrightlaw53.RepairChecks", spec := "repairChecks", unfollowed := true, recurses := true, apart := false }
def RepairChecksSaid : Prop := repairChecksRow.holds Tryz.pinned (OpenSpec.ofChange repairChecksSpec)

/-- ITS FALSE NEIGHBOUR: 'it returns false'. Refute it at one input. -/
def repairChecksWrong : ChangeSpec := { name := "repairChecks", fn := fun _ => fun
  | [d] => { results := [.lit (.bool false)], args := [d] }
  | _ => none }
def RepairChecksWrongFalsely : Prop := repairChecksRow.holds Tryz.pinned (OpenSpec.ofChange repairChecksWrong)

/- THE SECOND FORM. 'bulk': how many values and letters a reading holds, each counted each time it is reached (what is shared counts as often as it is met; a slice's spare places count too). A statement '..UptoSaid' is the law's where the arguments, and the package variables that the reading takes, are together of bulk at most 1048576: NARROWER than '..Said'. Prove '..Said' where nothing that the law and all that it calls make is longer than what came in: it says more and counts as full. Else prove '..UptoSaid'. A law counts once. -/
mutual
def uptoBulk {H : Type} : DataW H → Nat
  | .lit (.string bytes) => bytes.length + 1
  | .lit _ => 1
  | .nil => 1
  | .ptr d => uptoBulk d + 1
  | .slice elems spare => uptoBulkAll elems + uptoBulkAll spare + 1
  | .agg parts => uptoBulkAll parts + 1
  | .iface _ d => uptoBulk d + 1
  | .map entries => uptoBulkEntries entries + 1
  | .held _ => 1
def uptoBulkAll {H : Type} : List (DataW H) → Nat
  | [] => 0
  | d :: r => uptoBulk d + uptoBulkAll r
def uptoBulkEntries {H : Type} : List (Lit × DataW H) → Nat
  | [] => 0
  | x :: r => uptoBulkEntry x + uptoBulkEntries r
def uptoBulkEntry {H : Type} : Lit × DataW H → Nat
  | (.string bytes, d) => bytes.length + uptoBulk d + 1
  | (_, d) => uptoBulk d + 1
 end
def uptoSmall : (H : Type) → List (DataW H) → Bool := fun _ ds => decide (uptoBulkAll ds ≤ 1048576)
def OpenSpec.upto (s : _root_.Go.ChangeSpec) : _root_.Go.OpenSpec := { _root_.Go.OpenSpec.ofChange s with cond := some uptoSmall }

/-- 'codewrightlaw53.RepairCombines', WHERE WHAT IT READS IS OF BULK AT MOST 1048576: true; the input reads as it did. -/
def repairCombinesUptoRow : OpenClaim := { program := "ytlecjbjgbcdilaagreat", sum := "14d038c5eb9c07a58c7e7d8c4c9228ee4041d4d15ab14d5563d1e36a4e3dec44", func := "codewright/codewrightlaw53.RepairCombines", spec := "repairCombines", unfollowed := true, recurses := true, apart := false, narrowed := true }
def RepairCombinesUptoSaid : Prop := repairCombinesUptoRow.holds Tryz.pinned (OpenSpec.upto repairCombinesSpec)

/-- 'codewrightlaw53.RepairSound', WHERE WHAT IT READS IS OF BULK AT MOST 1048576: true; the input reads as it did. -/
def repairSoundUptoRow : OpenClaim := { program := "ytlecjbjgbcdilaagreat", sum := "14d038c5eb9c07a58c7e7d8c4c9228ee4041d4d15ab14d5563d1e36a4e3dec44", func := "codewright/codewrightlaw53.RepairSound", spec := "repairSound", unfollowed := true, recurses := true, apart := false, narrowed := true }
def RepairSoundUptoSaid : Prop := repairSoundUptoRow.holds Tryz.pinned (OpenSpec.upto repairSoundSpec)

/-- 'codewrightlaw53.RepairChecks', WHERE WHAT IT READS IS OF BULK AT MOST 1048576: true; the input reads as it did. -/
def repairChecksUptoRow : OpenClaim := { program := "ytlecjbjgbcdilaagreat", sum := "14d038c5eb9c07a58c7e7d8c4c9228ee4041d4d15ab14d5563d1e36a4e3dec44", func := "codewright/codewrightlaw53.RepairChecks", spec := "repairChecks", unfollowed := true, recurses := true, apart := false, narrowed := true }
def RepairChecksUptoSaid : Prop := repairChecksUptoRow.holds Tryz.pinned (OpenSpec.upto repairChecksSpec)

end Rows
end Go.Proofs.YtlecjbjgbcdilaaGreat
