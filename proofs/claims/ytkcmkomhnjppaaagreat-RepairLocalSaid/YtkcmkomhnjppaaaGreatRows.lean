/-
  No cell of these rows narrows 'for every input' (looked for: loops, veiled, ifaces, maps, wideKeys, modest, calm, conditions, laid).
  DERIVED. THE GIVEN ROWS OF THIS SEAT. 6 by the template 'for every input the law returns true; each argument reads behind the call as it read before'; 0 by the template 'total and deterministic' (their statements: YtkcmkomhnjppaaaGreatTotals.lean).
  GIVEN WITH THE SEED: the statements are not yours to turn. If you find one false, say at which input.
  Laid BY PROGRAM, IN A SANDBOX (cutbox-rows.mjs): the forced cells as the released guide's own fill.sh prints them over the translation 1cb11360c45dc6d1… (all of the seat's roots in one cut). By AI agents, Wed Nov 11 2026. No macro, syntax, notation, axiom, sorry.
-/
import Derived.Test.YtkcmkomhnjppaaaGreatChecked
import GoSem.Claim
import GoSem.ClaimJoined
import GoSem.ClaimMapViews
import Derived.JoinedTies
import Derived.KernelRfl
namespace Go.Proofs.YtkcmkomhnjppaaaGreat
/- THE CELL 'sum', in the pinned program and in every row, IS THE sha256 OF THE DUMP (.gsa) THAT YtkcmkomhnjppaaaGreatProg.lean LOADS. Nothing in Lean hashes anything: it is a label: what it is worth is what the hold of that sum in a sandbox is worth. -/
noncomputable def Tryz.pinned : Pinned := { name := "ytkcmkomhnjppaaagreat", sum := "1cb11360c45dc6d185d6d5397cc9bdb3af65faae0c1cb3a210315aec810eb079", checked := Tryz.checked }
namespace Rows
def none {H : Type} : Left H := { results := [], args := [] }

/-- 'codewrightlaw53.RepairSound': WHATEVER THE INPUT: true; the input reads as it did. -/
def repairSoundSpec : ChangeSpec := { name := "repairSound", fn := fun _ => fun
  | [d] => { results := [.lit (.bool true)], args := [d] }
  | _ => none }
def repairSoundRow : OpenClaim := { program := "ytkcmkomhnjppaaagreat", sum := "1cb11360c45dc6d185d6d5397cc9bdb3af65faae0c1cb3a210315aec810eb079", func := "codewright/codewrightlaw53.RepairSound", spec := "repairSound", unfollowed := true, recurses := true, apart := false }
def RepairSoundSaid : Prop := repairSoundRow.holds Tryz.pinned (OpenSpec.ofChange repairSoundSpec)

/-- ITS FALSE NEIGHBOUR: 'it returns false'. Refute it at one input. -/
def repairSoundWrong : ChangeSpec := { name := "repairSound", fn := fun _ => fun
  | [d] => { results := [.lit (.bool false)], args := [d] }
  | _ => none }
def RepairSoundWrongFalsely : Prop := repairSoundRow.holds Tryz.pinned (OpenSpec.ofChange repairSoundWrong)

/-- 'codewrightlaw53.RepairChecks': WHATEVER THE INPUT: true; the input reads as it did. -/
def repairChecksSpec : ChangeSpec := { name := "repairChecks", fn := fun _ => fun
  | [d] => { results := [.lit (.bool true)], args := [d] }
  | _ => none }
def repairChecksRow : OpenClaim := { program := "ytkcmkomhnjppaaagreat", sum := "1cb11360c45dc6d185d6d5397cc9bdb3af65faae0c1cb3a210315aec810eb079", func := "codewright/codewrightlaw53.RepairChecks", spec := "repairChecks", unfollowed := true, recurses := true, apart := false }
def RepairChecksSaid : Prop := repairChecksRow.holds Tryz.pinned (OpenSpec.ofChange repairChecksSpec)

/-- ITS FALSE NEIGHBOUR: 'it returns false'. Refute it at one input. -/
def repairChecksWrong : ChangeSpec := { name := "repairChecks", fn := fun _ => fun
  | [d] => { results := [.lit (.bool false)], args := [d] }
  | _ => none }
def RepairChecksWrongFalsely : Prop := repairChecksRow.holds Tryz.pinned (OpenSpec.ofChange repairChecksWrong)

/-- 'codewrightlaw53.RepairMinimal': WHATEVER THE INPUT: true; the input reads as it did. -/
def repairMinimalSpec : ChangeSpec := { name := "repairMinimal", fn := fun _ => fun
  | [d] => { results := [.lit (.bool true)], args := [d] }
  | _ => none }
def repairMinimalRow : OpenClaim := { program := "ytkcmkomhnjppaaagreat", sum := "1cb11360c45dc6d185d6d5397cc9bdb3af65faae0c1cb3a210315aec810eb079", func := "codewright/codewrightlaw53.RepairMinimal", spec := "repairMinimal", unfollowed := true, recurses := true, apart := false }
def RepairMinimalSaid : Prop := repairMinimalRow.holds Tryz.pinned (OpenSpec.ofChange repairMinimalSpec)

/-- ITS FALSE NEIGHBOUR: 'it returns false'. Refute it at one input. -/
def repairMinimalWrong : ChangeSpec := { name := "repairMinimal", fn := fun _ => fun
  | [d] => { results := [.lit (.bool false)], args := [d] }
  | _ => none }
def RepairMinimalWrongFalsely : Prop := repairMinimalRow.holds Tryz.pinned (OpenSpec.ofChange repairMinimalWrong)

/-- 'codewrightlaw53.RepairLocal': WHATEVER THE INPUT: true; the input reads as it did. -/
def repairLocalSpec : ChangeSpec := { name := "repairLocal", fn := fun _ => fun
  | [d] => { results := [.lit (.bool true)], args := [d] }
  | _ => none }
def repairLocalRow : OpenClaim := { program := "ytkcmkomhnjppaaagreat", sum := "1cb11360c45dc6d185d6d5397cc9bdb3af65faae0c1cb3a210315aec810eb079", func := "codewright/codewrightlaw53.RepairLocal", spec := "repairLocal", unfollowed := true, recurses := true, apart := false }
def RepairLocalSaid : Prop := repairLocalRow.holds Tryz.pinned (OpenSpec.ofChange repairLocalSpec)

/-- ITS FALSE NEIGHBOUR: 'it returns false'. Refute it at one input. -/
def repairLocalWrong : ChangeSpec := { name := "repairLocal", fn := fun _ => fun
  | [d] => { results := [.lit (.bool false)], args := [d] }
  | _ => none }
def RepairLocalWrongFalsely : Prop := repairLocalRow.holds Tryz.pinned (OpenSpec.ofChange repairLocalWrong)

/-- 'codewrightlaw53.RepairRestores': WHATEVER THE INPUT: true; the input reads as it did. -/
def repairRestoresSpec : ChangeSpec := { name := "repairRestores", fn := fun _ => fun
  | [d] => { results := [.lit (.bool true)], args := [d] }
  | _ => none }
def repairRestoresRow : OpenClaim := { program := "ytkcmkomhnjppaaagreat", sum := "1cb11360c45dc6d185d6d5397cc9bdb3af65faae0c1cb3a210315aec810eb079", func := "codewright/codewrightlaw53.RepairRestores", spec := "repairRestores", unfollowed := true, recurses := true, apart := false }
def RepairRestoresSaid : Prop := repairRestoresRow.holds Tryz.pinned (OpenSpec.ofChange repairRestoresSpec)

/-- ITS FALSE NEIGHBOUR: 'it returns false'. Refute it at one input. -/
def repairRestoresWrong : ChangeSpec := { name := "repairRestores", fn := fun _ => fun
  | [d] => { results := [.lit (.bool false)], args := [d] }
  | _ => none }
def RepairRestoresWrongFalsely : Prop := repairRestoresRow.holds Tryz.pinned (OpenSpec.ofChange repairRestoresWrong)

/-- 'codewrightlaw53.RepairPlans': WHATEVER THE INPUT: true; the input reads as it did. -/
def repairPlansSpec : ChangeSpec := { name := "repairPlans", fn := fun _ => fun
  | [d1, d2, d3] => { results := [.lit (.bool true)], args := [d1, d2, d3] }
  | _ => none }
def repairPlansRow : OpenClaim := { program := "ytkcmkomhnjppaaagreat", sum := "1cb11360c45dc6d185d6d5397cc9bdb3af65faae0c1cb3a210315aec810eb079", func := "codewright/codewrightlaw53.RepairPlans", spec := "repairPlans", unfollowed := true, recurses := true, apart := false }
def RepairPlansSaid : Prop := repairPlansRow.holds Tryz.pinned (OpenSpec.ofChange repairPlansSpec)

/-- ITS FALSE NEIGHBOUR: 'it returns false'. Refute it at one input. -/
def repairPlansWrong : ChangeSpec := { name := "repairPlans", fn := fun _ => fun
  | [d1, d2, d3] => { results := [.lit (.bool false)], args := [d1, d2, d3] }
  | _ => none }
def RepairPlansWrongFalsely : Prop := repairPlansRow.holds Tryz.pinned (OpenSpec.ofChange repairPlansWrong)

/- THE SECOND FORM. 'bulk': how many values and letters a reading holds, each counted each time it is reached (what is shared counts as often as it is met; a slice's spare places count too). A statement '..UptoSaid' is the law's where the arguments, and the package variables that the reading takes, are together of bulk at most 1048576: NARROWER than '..Said'. Prove '..Said' where nothing that the law and all that it calls make is longer than what came in: it says more and counts as full. Else prove '..UptoSaid'. A law counts once. -/
mutual
def uptoBulk {H : Type} : DataW H → Nat
  | .lit (.string bytes) => bytes.length + 1
  | .lit _ => 1
  | .nil => 1
  | .ptr d => uptoBulk d + 1
  | .slice elems spare => uptoBulkAll elems + uptoBulkAll spare + 1
  | .agg parts => uptoBulkAll parts + 1
  | .iface _ d => uptoBulk d + 1
  | .map entries => uptoBulkEntries entries + 1
  | .held _ => 1
def uptoBulkAll {H : Type} : List (DataW H) → Nat
  | [] => 0
  | d :: r => uptoBulk d + uptoBulkAll r
def uptoBulkEntries {H : Type} : List (Lit × DataW H) → Nat
  | [] => 0
  | x :: r => uptoBulkEntry x + uptoBulkEntries r
def uptoBulkEntry {H : Type} : Lit × DataW H → Nat
  | (.string bytes, d) => bytes.length + uptoBulk d + 1
  | (_, d) => uptoBulk d + 1
 end
def uptoSmall : (H : Type) → List (DataW H) → Bool := fun _ ds => decide (uptoBulkAll ds ≤ 1048576)
def OpenSpec.upto (s : _root_.Go.ChangeSpec) : _root_.Go.OpenSpec := { _root_.Go.OpenSpec.ofChange s with cond := some uptoSmall }

/-- 'codewrightlaw53.RepairSound', WHERE WHAT IT READS IS OF BULK AT MOST 1048576: true; the input reads as it did. -/
def repairSoundUptoRow : OpenClaim := { program := "ytkcmkomhnjppaaagreat", sum := "1cb11360c45dc6d185d6d5397cc9bdb3af65faae0c1cb3a210315aec810eb079", func := "codewright/codewrightlaw53.RepairSound", spec := "repairSound", unfollowed := true, recurses := true, apart := false, narrowed := true }
def RepairSoundUptoSaid : Prop := repairSoundUptoRow.holds Tryz.pinned (OpenSpec.upto repairSoundSpec)

/-- 'codewrightlaw53.RepairChecks', WHERE WHAT IT READS IS OF BULK AT MOST 1048576: true; the input reads as it did. -/
def repairChecksUptoRow : OpenClaim := { program := "ytkcmkomhnjppaaagreat", sum := "1cb11360c45dc6d185d6d5397cc9bdb3af65faae0c1cb3a210315aec810eb079", func := "codewright/codewrightlaw53.RepairChecks", spec := "repairChecks", unfollowed := true, recurses := true, apart := false, narrowed := true }
def RepairChecksUptoSaid : Prop := repairChecksUptoRow.holds Tryz.pinned (OpenSpec.upto repairChecksSpec)

/-- 'codewrightlaw53.RepairMinimal', WHERE WHAT IT READS IS OF BULK AT MOST 1048576: true; the input reads as it did. -/
def repairMinimalUptoRow : OpenClaim := { program := "ytkcmkomhnjppaaagreat", sum := "1cb11360c45dc6d185d6d5397cc9bdb3af65faae0c1cb3a210315aec810eb079", func := "codewright/codewrightlaw53.RepairMinimal", spec := "repairMinimal", unfollowed := true, recurses := true, apart := false, narrowed := true }
def RepairMinimalUptoSaid : Prop := repairMinimalUptoRow.holds Tryz.pinned (OpenSpec.upto repairMinimalSpec)

/-- 'codewrightlaw53.RepairLocal', WHERE WHAT IT READS IS OF BULK AT MOST 1048576: true; the input reads as it did. -/
def repairLocalUptoRow : OpenClaim := { program := "ytkcmkomhnjppaaagreat", sum := "1cb11360c45dc6d185d6d5397cc9bdb3af65faae0c1cb3a210315aec810eb079", func := "codewright/codewrightlaw53.RepairLocal", spec := "repairLocal", unfollowed := true, recurses := true, apart := false, narrowed := true }
def RepairLocalUptoSaid : Prop := repairLocalUptoRow.holds Tryz.pinned (OpenSpec.upto repairLocalSpec)

/-- 'codewrightlaw53.RepairRestores', WHERE WHAT IT READS IS OF BULK AT MOST 1048576: true; the input reads as it did. -/
def repairRestoresUptoRow : OpenClaim := { program := "ytkcmkomhnjppaaagreat", sum := "1cb11360c45dc6d185d6d5397cc9bdb3af65faae0c1cb3a210315aec810eb079", func := "codewright/codewrightlaw53.RepairRestores", spec := "repairRestores", unfollowed := true, recurses := true, apart := false, narrowed := true }
def RepairRestoresUptoSaid : Prop := repairRestoresUptoRow.holds Tryz.pinned (OpenSpec.upto repairRestoresSpec)

/-- 'codewrightlaw53.RepairPlans', WHERE WHAT IT READS IS OF BULK AT MOST 1048576: true; the input reads as it did. -/
def repairPlansUptoRow : OpenClaim := { program := "ytkcmkomhnjppaaagreat", sum := "1cb11360c45dc6d185d6d5397cc9bdb3af65faae0c1cb3a210315aec810eb079", func := "codewright/codewrightlaw53.RepairPlans", spec := "repairPlans", unfollowed := true, recurses := true, apart := false, narrowed := true }
def RepairPlansUptoSaid : Prop := repairPlansUptoRow.holds Tryz.pinned (OpenSpec.upto repairPlansSpec)

end Rows
end Go.Proofs.YtkcmkomhnjppaaaGreat
