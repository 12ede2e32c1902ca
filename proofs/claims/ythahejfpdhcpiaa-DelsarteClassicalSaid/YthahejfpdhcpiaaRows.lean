/-
  No cell of these rows narrows 'for every input' (looked for: loops, veiled, ifaces, maps, wideKeys, modest, calm, conditions, laid).
  DERIVED. THE GIVEN ROWS OF THIS SEAT. 6 by the template 'for every input the law returns true; each argument reads behind the call as it read before'; 0 by the template 'total and deterministic' (their statements: YthahejfpdhcpiaaTotals.lean).
  GIVEN WITH THE SEED: the statements are not yours to turn. If you find one false, say at which input.
  Laid BY PROGRAM, IN A SANDBOX (cutbox-rows.mjs): the forced cells as the released guide's own fill.sh prints them over the translation 2026fc45a519d2e2… (all of the seat's roots in one cut). By AI agents, Wed Nov 11 2026. No macro, syntax, notation, axiom, sorry.
-/
import Derived.Test.YthahejfpdhcpiaaChecked
import GoSem.Claim
import GoSem.ClaimJoined
import GoSem.ClaimMapViews
import Derived.JoinedTies
import Derived.KernelRfl
namespace Go.Proofs.Ythahejfpdhcpiaa
/- THE CELL 'sum', in the pinned program and in every row, IS THE sha256 OF THE DUMP (.gsa) THAT YthahejfpdhcpiaaProg.lean LOADS. Nothing in Lean hashes anything: it is a label: what it is worth is what the hold of that sum in a sandbox is worth. -/
noncomputable def Try.pinned : Pinned := { name := "ythahejfpdhcpiaa", sum := "2026fc45a519d2e22e26f9d6ba73f712dfed29ca984a60dff6df2ff44c158e7a", checked := Try.checked }
namespace Rows
def none {H : Type} : Left H := { results := [], args := [] }

/-- 'codewrightlaw36.DelsartePrograms': WHATEVER THE INPUT: true; the input reads as it did. -/
def delsarteProgramsSpec : ChangeSpec := { name := "delsartePrograms", fn := fun _ => fun
  | [d1, d2, d3] => { results := [.lit (.bool true)], args := [d1, d2, d3] }
  | _ => none }
def delsarteProgramsRow : OpenClaim := { program := "ythahejfpdhcpiaa", sum := "2026fc45a519d2e22e26f9d6ba73f712dfed29ca984a60dff6df2ff44c158e7a", func := "codewright/codewrightlaw36.DelsartePrograms", spec := "delsartePrograms", apart := false }
def DelsarteProgramsSaid : Prop := delsarteProgramsRow.holds Try.pinned (OpenSpec.ofChange delsarteProgramsSpec)

/-- ITS FALSE NEIGHBOUR: 'it returns false'. Refute it at one input. -/
def delsarteProgramsWrong : ChangeSpec := { name := "delsartePrograms", fn := fun _ => fun
  | [d1, d2, d3] => { results := [.lit (.bool false)], args := [d1, d2, d3] }
  | _ => none }
def DelsarteProgramsWrongFalsely : Prop := delsarteProgramsRow.holds Try.pinned (OpenSpec.ofChange delsarteProgramsWrong)

/-- 'codewrightlaw35.SimplexSolves': WHATEVER THE INPUT: true; the input reads as it did. -/
def simplexSolvesSpec : ChangeSpec := { name := "simplexSolves", fn := fun _ => fun
  | [d] => { results := [.lit (.bool true)], args := [d] }
  | _ => none }
def simplexSolvesRow : OpenClaim := { program := "ythahejfpdhcpiaa", sum := "2026fc45a519d2e22e26f9d6ba73f712dfed29ca984a60dff6df2ff44c158e7a", func := "codewright/codewrightlaw35.SimplexSolves", spec := "simplexSolves", apart := false }
def SimplexSolvesSaid : Prop := simplexSolvesRow.holds Try.pinned (OpenSpec.ofChange simplexSolvesSpec)

/-- ITS FALSE NEIGHBOUR: 'it returns false'. Refute it at one input. -/
def simplexSolvesWrong : ChangeSpec := { name := "simplexSolves", fn := fun _ => fun
  | [d] => { results := [.lit (.bool false)], args := [d] }
  | _ => none }
def SimplexSolvesWrongFalsely : Prop := simplexSolvesRow.holds Try.pinned (OpenSpec.ofChange simplexSolvesWrong)

/-- 'codewrightlaw35.SimplexStrong': WHATEVER THE INPUT: true; the input reads as it did. -/
def simplexStrongSpec : ChangeSpec := { name := "simplexStrong", fn := fun _ => fun
  | [d] => { results := [.lit (.bool true)], args := [d] }
  | _ => none }
def simplexStrongRow : OpenClaim := { program := "ythahejfpdhcpiaa", sum := "2026fc45a519d2e22e26f9d6ba73f712dfed29ca984a60dff6df2ff44c158e7a", func := "codewright/codewrightlaw35.SimplexStrong", spec := "simplexStrong", apart := false }
def SimplexStrongSaid : Prop := simplexStrongRow.holds Try.pinned (OpenSpec.ofChange simplexStrongSpec)

/-- ITS FALSE NEIGHBOUR: 'it returns false'. Refute it at one input. -/
def simplexStrongWrong : ChangeSpec := { name := "simplexStrong", fn := fun _ => fun
  | [d] => { results := [.lit (.bool false)], args := [d] }
  | _ => none }
def SimplexStrongWrongFalsely : Prop := simplexStrongRow.holds Try.pinned (OpenSpec.ofChange simplexStrongWrong)

/-- 'codewrightlaw35.SimplexConstraints': WHATEVER THE INPUT: true; the input reads as it did. -/
def simplexConstraintsSpec : ChangeSpec := { name := "simplexConstraints", fn := fun _ => fun
  | [d1, d2, d3] => { results := [.lit (.bool true)], args := [d1, d2, d3] }
  | _ => none }
def simplexConstraintsRow : OpenClaim := { program := "ythahejfpdhcpiaa", sum := "2026fc45a519d2e22e26f9d6ba73f712dfed29ca984a60dff6df2ff44c158e7a", func := "codewright/codewrightlaw35.SimplexConstraints", spec := "simplexConstraints", apart := false }
def SimplexConstraintsSaid : Prop := simplexConstraintsRow.holds Try.pinned (OpenSpec.ofChange simplexConstraintsSpec)

/-- ITS FALSE NEIGHBOUR: 'it returns false'. Refute it at one input. -/
def simplexConstraintsWrong : ChangeSpec := { name := "simplexConstraints", fn := fun _ => fun
  | [d1, d2, d3] => { results := [.lit (.bool false)], args := [d1, d2, d3] }
  | _ => none }
def SimplexConstraintsWrongFalsely : Prop := simplexConstraintsRow.holds Try.pinned (OpenSpec.ofChange simplexConstraintsWrong)

/-- 'codewrightlaw35.SimplexFeasible': WHATEVER THE INPUT: true; the input reads as it did. -/
def simplexFeasibleSpec : ChangeSpec := { name := "simplexFeasible", fn := fun _ => fun
  | [d1, d2] => { results := [.lit (.bool true)], args := [d1, d2] }
  | _ => none }
def simplexFeasibleRow : OpenClaim := { program := "ythahejfpdhcpiaa", sum := "2026fc45a519d2e22e26f9d6ba73f712dfed29ca984a60dff6df2ff44c158e7a", func := "codewright/codewrightlaw35.SimplexFeasible", spec := "simplexFeasible", apart := false }
def SimplexFeasibleSaid : Prop := simplexFeasibleRow.holds Try.pinned (OpenSpec.ofChange simplexFeasibleSpec)

/-- ITS FALSE NEIGHBOUR: 'it returns false'. Refute it at one input. -/
def simplexFeasibleWrong : ChangeSpec := { name := "simplexFeasible", fn := fun _ => fun
  | [d1, d2] => { results := [.lit (.bool false)], args := [d1, d2] }
  | _ => none }
def SimplexFeasibleWrongFalsely : Prop := simplexFeasibleRow.holds Try.pinned (OpenSpec.ofChange simplexFeasibleWrong)

/-- 'codewrightlaw36.DelsarteClassical': WHATEVER THE INPUT: true; the input reads as it did. -/
def delsarteClassicalSpec : ChangeSpec := { name := "delsarteClassical", fn := fun _ => fun
  | [d1, d2, d3] => { results := [.lit (.bool true)], args := [d1, d2, d3] }
  | _ => none }
def delsarteClassicalRow : OpenClaim := { program := "ythahejfpdhcpiaa", sum := "2026fc45a519d2e22e26f9d6ba73f712dfed29ca984a60dff6df2ff44c158e7a", func := "codewright/codewrightlaw36.DelsarteClassical", spec := "delsarteClassical", apart := false }
def DelsarteClassicalSaid : Prop := delsarteClassicalRow.holds Try.pinned (OpenSpec.ofChange delsarteClassicalSpec)

/-- ITS FALSE NEIGHBOUR: 'it returns false'. Refute it at one input. -/
def delsarteClassicalWrong : ChangeSpec := { name := "delsarteClassical", fn := fun _ => fun
  | [d1, d2, d3] => { results := [.lit (.bool false)], args := [d1, d2, d3] }
  | _ => none }
def DelsarteClassicalWrongFalsely : Prop := delsarteClassicalRow.holds Try.pinned (OpenSpec.ofChange delsarteClassicalWrong)

/- THE SECOND FORM. 'bulk': how many values and letters a reading holds, each counted each time it is reached (what is shared counts as often as it is met; a slice's spare places count too). A statement '..UptoSaid' is the law's where the arguments, and the package variables that the reading takes, are together of bulk at most 1048576: NARROWER than '..Said'. Prove '..Said' where nothing that the law and all that it calls make is longer than what came in: it says more and counts as full. Else prove '..UptoSaid'. A law counts once. -/
mutual
def uptoBulk {H : Type} : DataW H → Nat
  | .lit (.string bytes) => bytes.length + 1
  | .lit _ => 1
  | .nil => 1
  | .ptr d => uptoBulk d + 1
  | .slice elems spare => uptoBulkAll elems + uptoBulkAll spare + 1
  | .agg parts => uptoBulkAll parts + 1
  | .iface _ d => uptoBulk d + 1
  | .map entries => uptoBulkEntries entries + 1
  | .held _ => 1
def uptoBulkAll {H : Type} : List (DataW H) → Nat
  | [] => 0
  | d :: r => uptoBulk d + uptoBulkAll r
def uptoBulkEntries {H : Type} : List (Lit × DataW H) → Nat
  | [] => 0
  | x :: r => uptoBulkEntry x + uptoBulkEntries r
def uptoBulkEntry {H : Type} : Lit × DataW H → Nat
  | (.string bytes, d) => bytes.length + uptoBulk d + 1
  | (_, d) => uptoBulk d + 1
 end
def uptoSmall : (H : Type) → List (DataW H) → Bool := fun _ ds => decide (uptoBulkAll ds ≤ 1048576)
def OpenSpec.upto (s : _root_.Go.ChangeSpec) : _root_.Go.OpenSpec := { _root_.Go.OpenSpec.ofChange s with cond := some uptoSmall }

/-- 'codewrightlaw36.DelsartePrograms', WHERE WHAT IT READS IS OF BULK AT MOST 1048576: true; the input reads as it did. -/
def delsarteProgramsUptoRow : OpenClaim := { program := "ythahejfpdhcpiaa", sum := "2026fc45a519d2e22e26f9d6ba73f712dfed29ca984a60dff6df2ff44c158e7a", func := "codewright/codewrightlaw36.DelsartePrograms", spec := "delsartePrograms", apart := false, narrowed := true }
def DelsarteProgramsUptoSaid : Prop := delsarteProgramsUptoRow.holds Try.pinned (OpenSpec.upto delsarteProgramsSpec)

/-- 'codewrightlaw35.SimplexSolves', WHERE WHAT IT READS IS OF BULK AT MOST 1048576: true; the input reads as it did. -/
def simplexSolvesUptoRow : OpenClaim := { program := "ythahejfpdhcpiaa", sum := "2026fc45a519d2e22e26f9d6ba73f712dfed29ca984a60dff6df2ff44c158e7a", func := "codewright/codewrightlaw35.SimplexSolves", spec := "simplexSolves", apart := false, narrowed := true }
def SimplexSolvesUptoSaid : Prop := simplexSolvesUptoRow.holds Try.pinned (OpenSpec.upto simplexSolvesSpec)

/-- 'codewrightlaw35.SimplexStrong', WHERE WHAT IT READS IS OF BULK AT MOST 1048576: true; the input reads as it did. -/
def simplexStrongUptoRow : OpenClaim := { program := "ythahejfpdhcpiaa", sum := "2026fc45a519d2e22e26f9d6ba73f712dfed29ca984a60dff6df2ff44c158e7a", func := "codewright/codewrightlaw35.SimplexStrong", spec := "simplexStrong", apart := false, narrowed := true }
def SimplexStrongUptoSaid : Prop := simplexStrongUptoRow.holds Try.pinned (OpenSpec.upto simplexStrongSpec)

/-- 'codewrightlaw35.SimplexConstraints', WHERE WHAT IT READS IS OF BULK AT MOST 1048576: true; the input reads as it did. -/
def simplexConstraintsUptoRow : OpenClaim := { program := "ythahejfpdhcpiaa", sum := "2026fc45a519d2e22e26f9d6ba73f712dfed29ca984a60dff6df2ff44c158e7a", func := "codewright/codewrightlaw35.SimplexConstraints", spec := "simplexConstraints", apart := false, narrowed := true }
def SimplexConstraintsUptoSaid : Prop := simplexConstraintsUptoRow.holds Try.pinned (OpenSpec.upto simplexConstraintsSpec)

/-- 'codewrightlaw35.SimplexFeasible', WHERE WHAT IT READS IS OF BULK AT MOST 1048576: true; the input reads as it did. -/
def simplexFeasibleUptoRow : OpenClaim := { program := "ythahejfpdhcpiaa", sum := "2026fc45a519d2e22e26f9d6ba73f712dfed29ca984a60dff6df2ff44c158e7a", func := "codewright/codewrightlaw35.SimplexFeasible", spec := "simplexFeasible", apart := false, narrowed := true }
def SimplexFeasibleUptoSaid : Prop := simplexFeasibleUptoRow.holds Try.pinned (OpenSpec.upto simplexFeasibleSpec)

/-- 'codewrightlaw36.DelsarteClassical', WHERE WHAT IT READS IS OF BULK AT MOST 1048576: true; the input reads as it did. -/
def delsarteClassicalUptoRow : OpenClaim := { program := "ythahejfpdhcpiaa", sum := "2026fc45a519d2e22e26f9d6ba73f712dfed29ca984a60dff6df2ff44c158e7a", func := "codewright/codewrightlaw36.DelsarteClassical", spec := "delsarteClassical", apart := false, narrowed := true }
def DelsarteClassicalUptoSaid : Prop := delsarteClassicalUptoRow.holds Try.pinned (OpenSpec.upto delsarteClassicalSpec)

end Rows
end Go.Proofs.Ythahejfpdhcpiaa
