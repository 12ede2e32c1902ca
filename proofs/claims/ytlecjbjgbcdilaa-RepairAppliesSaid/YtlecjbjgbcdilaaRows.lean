/-
  No cell of these rows narrows 'for every input' (looked for: loops, veiled, ifaces, maps, wideKeys, modest, calm, conditions, laid).
  DERIVED. THE GIVEN ROWS OF THIS SEAT. 3 by the template 'for every input the law returns true; each argument reads behind the call as it read before'; 0 by the template 'total and deterministic' (their statements: YtlecjbjgbcdilaaTotals.lean).
  GIVEN WITH THE SEED: the statements are not yours to turn. If you find one false, say at which input.
  Laid BY PROGRAM, IN A SANDBOX (cutbox-rows.mjs): the forced cells as the released guide's own fill.sh prints them over the translation 2c803438283fc888… (all of the seat's roots in one cut). By AI agents, Wed Nov 11 2026. No macro, syntax, notation, axiom, sorry.
-/
import Derived.Test.YtlecjbjgbcdilaaChecked
import GoSem.Claim
import GoSem.ClaimJoined
import GoSem.ClaimMapViews
import Derived.JoinedTies
import Derived.KernelRfl
namespace Go.Proofs.Ytlecjbjgbcdilaa
/- THE CELL 'sum', in the pinned program and in every row, IS THE sha256 OF THE DUMP (.gsa) THAT YtlecjbjgbcdilaaProg.lean LOADS. Nothing in Lean hashes anything: it is a label: what it is worth is what the hold of that sum in a sandbox is worth. -/
noncomputable def Try.pinned : Pinned := { name := "ytlecjbjgbcdilaa", sum := "2c803438283fc888c187d7589b195e9b97103a74ab675b99587c0c3246e8775e", checked := Try.checked }
namespace Rows
def none {H : Type} : Left H := { results := [], args := [] }

/-- 'codewrightlaw53.RepairSuffices': WHATEVER THE INPUT: true; the input reads as it did. -/
def repairSufficesSpec : ChangeSpec := { name := "repairSuffices", fn := fun _ => fun
  | [d1, d2, d3] => { results := [.lit (.bool true)], args := [d1, d2, d3] }
  | _ => none }
def repairSufficesRow : OpenClaim := { program := "ytlecjbjgbcdilaa", sum := "2c803438283fc888c187d7589b195e9b97103a74ab675b99587c0c3246e8775e", func := "codewright/codewrightlaw53.RepairSuffices", spec := "repairSuffices", unfollowed := true, recurses := true, apart := false }
def RepairSufficesSaid : Prop := repairSufficesRow.holds Try.pinned (OpenSpec.ofChange repairSufficesSpec)

/-- ITS FALSE NEIGHBOUR: 'it returns false'. Refute it at one input. -/
def repairSufficesWrong : ChangeSpec := { name := "repairSuffices", fn := fun _ => fun
  | [d1, d2, d3] => { results := [.lit (.bool false)], args := [d1, d2, d3] }
  | _ => none }
def RepairSufficesWrongFalsely : Prop := repairSufficesRow.holds Try.pinned (OpenSpec.ofChange repairSufficesWrong)

/-- 'codewrightlaw53.RepairDetermines': WHATEVER THE INPUT: true; the input reads as it did. -/
def repairDeterminesSpec : ChangeSpec := { name := "repairDetermines", fn := fun _ => fun
  | [d] => { results := [.lit (.bool true)], args := [d] }
  | _ => none }
def repairDeterminesRow : OpenClaim := { program := "ytlecjbjgbcdilaa", sum := "2c803438283fc888c187d7589b195e9b97103a74ab675b99587c0c3246e8775e", func := "codewright/codewrightlaw53.RepairDetermines", spec := "repairDetermines", unfollowed := true, recurses := true, apart := false }
def RepairDeterminesSaid : Prop := repairDeterminesRow.holds Try.pinned (OpenSpec.ofChange repairDeterminesSpec)

/-- ITS FALSE NEIGHBOUR: 'it returns false'. Refute it at one input. -/
def repairDeterminesWrong : ChangeSpec := { name := "repairDetermines", fn := fun _ => fun
  | [d] => { results := [.lit (.bool false)], args := [d] }
  | _ => none }
def RepairDeterminesWrongFalsely : Prop := repairDeterminesRow.holds Try.pinned (OpenSpec.ofChange repairDeterminesWrong)

/-- 'codewrightlaw53.RepairApplies': WHATEVER THE INPUT: true; the input reads as it did. -/
def repairAppliesSpec : ChangeSpec := { name := "repairApplies", fn := fun _ => fun
  | [d1, d2, d3] => { results := [.lit (.bool true)], args := [d1, d2, d3] }
  | _ => none }
def repairAppliesRow : OpenClaim := { program := "ytlecjbjgbcdilaa", sum := "2c803438283fc888c187d7589b195e9b97103a74ab675b99587c0c3246e8775e", func := "codewright/codewrightlaw53.RepairApplies", spec := "repairApplies", unfollowed := true, recurses := true, apart := false }
def RepairAppliesSaid : Prop := repairAppliesRow.holds Try.pinned (OpenSpec.ofChange repairAppliesSpec)

/-- ITS FALSE NEIGHBOUR: 'it returns false'. Refute it at one input. -/
def repairAppliesWrong : ChangeSpec := { name := "repairApplies", fn := fun _ => fun
  | [d1, d2, d3] => { results := [.lit (.bool false)], args := [d1, d2, d3] }
  | _ => none }
def RepairAppliesWrongFalsely : Prop := repairAppliesRow.holds Try.pinned (OpenSpec.ofChange repairAppliesWrong)

/- THE SECOND FORM. 'bulk': how many values and letters a reading holds, each counted each time it is reached (what is shared counts as often as it is met; a slice's spare places count too). A statement '..UptoSaid' is the law's where the arguments, and the package variables that the reading takes, are together of bulk at most 1048576: NARROWER than '..Said'. Prove '..Said' where nothing that the law and all that it calls make is longer than what came in: it says more and counts as full. Else prove '..UptoSaid'. A law counts once. -/
mutual
def uptoBulk {H : Type} : DataW H → Nat
  | .lit (.string bytes) => bytes.length + 1
  | .lit _ => 1
  | .nil => 1
  | .ptr d => uptoBulk d + 1
  | .slice elems spare => uptoBulkAll elems + uptoBulkAll spare + 1
  | .agg parts => uptoBulkAll parts + 1
  | .iface _ d => uptoBulk d + 1
  | .map entries => uptoBulkEntries entries + 1
  | .held _ => 1
def uptoBulkAll {H : Type} : List (DataW H) → Nat
  | [] => 0
  | d :: r => uptoBulk d + uptoBulkAll r
def uptoBulkEntries {H : Type} : List (Lit × DataW H) → Nat
  | [] => 0
  | x :: r => uptoBulkEntry x + uptoBulkEntries r
def uptoBulkEntry {H : Type} : Lit × DataW H → Nat
  | (.string bytes, d) => bytes.length + uptoBulk d + 1
  | (_, d) => uptoBulk d + 1
 end
def uptoSmall : (H : Type) → List (DataW H) → Bool := fun _ ds => decide (uptoBulkAll ds ≤ 1048576)
def OpenSpec.upto (s : _root_.Go.ChangeSpec) : _root_.Go.OpenSpec := { _root_.Go.OpenSpec.ofChange s with cond := some uptoSmall }

/-- 'codewrightlaw53.RepairSuffices', WHERE WHAT IT READS IS OF BULK AT MOST 1048576: true; the input reads as it did. -/
def repairSufficesUptoRow : OpenClaim := { program := "ytlecjbjgbcdilaa", sum := "2c803438283fc888c187d7589b195e9b97103a74ab675b99587c0c3246e8775e", func := "codewright/codewrightlaw53.RepairSuffices", spec := "repairSuffices", unfollowed := true, recurses := true, apart := false, narrowed := true }
def RepairSufficesUptoSaid : Prop := repairSufficesUptoRow.holds Try.pinned (OpenSpec.upto repairSufficesSpec)

/-- 'codewrightlaw53.RepairDetermines', WHERE WHAT IT READS IS OF BULK AT MOST 1048576: true; the input reads as it did. -/
def repairDeterminesUptoRow : OpenClaim := { program := "ytlecjbjgbcdilaa", sum := "2c803438283fc888c187d7589b195e9b97103a74ab675b99587c0c3246e8775e", func := "codewright/codewrightlaw53.RepairDetermines", spec := "repairDetermines", unfollowed := true, recurses := true, apart := false, narrowed := true }
def RepairDeterminesUptoSaid : Prop := repairDeterminesUptoRow.holds Try.pinned (OpenSpec.upto repairDeterminesSpec)

/-- 'codewrightlaw53.RepairApplies', WHERE WHAT IT READS IS OF BULK AT MOST 1048576: true; the input reads as it did. -/
def repairAppliesUptoRow : OpenClaim := { program := "ytlecjbjgbcdilaa", sum := "2c803438283fc888c187d7589b195e9b97103a74ab675b99587c0c3246e8775e", func := "codewright/codewrightlaw53.RepairApplies", spec := "repairApplies", unfollowed := true, recurses := true, apart := false, narrowed := true }
def RepairAppliesUptoSaid : Prop := repairAppliesUptoRow.holds Try.pinned (OpenSpec.upto repairAppliesSpec)

end Rows
end Go.Proofs.Ytlecjbjgbcdilaa
