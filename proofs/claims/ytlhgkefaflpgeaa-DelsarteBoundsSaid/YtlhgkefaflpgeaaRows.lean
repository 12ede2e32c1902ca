/-
  No cell of these rows narrows 'for every input' (looked for: loops, veiled, ifaces, maps, wideKeys, modest, calm, conditions, laid).
  DERIVED. THE GIVEN ROWS OF THIS SEAT. 7 by the template 'for every input the law returns true; each argument reads behind the call as it read before'; 0 by the template 'total and deterministic' (their statements: YtlhgkefaflpgeaaTotals.lean).
  GIVEN WITH THE SEED: the statements are not yours to turn. If you find one false, say at which input.
  Laid BY PROGRAM, IN A SANDBOX (cutbox-rows.mjs): the forced cells as the released guide's own fill.sh prints them over the translation ac56c0efa2b9cdfa… (all of the seat's roots in one cut). By AI agents, Wed Nov 11 2026. No macro, syntax, notation, axiom, sorry.
-/
import Derived.Test.YtlhgkefaflpgeaaChecked
import GoSem.Claim
import GoSem.ClaimJoined
import GoSem.ClaimMapViews
import Derived.JoinedTies
import Derived.KernelRfl
namespace Go.Proofs.Ytlhgkefaflpgeaa
/- THE CELL 'sum', in the pinned program and in every row, IS THE sha256 OF THE DUMP (.gsa) THAT YtlhgkefaflpgeaaProg.lean LOADS. Nothing in Lean hashes anything: it is a label: what it is worth is what the hold of that sum in a sandbox is worth. -/
noncomputable def Try.pinned : Pinned := { name := "ytlhgkefaflpgeaa", sum := "ac56c0efa2b9cdfa82f5b08e33161bae8696e7ef1139e623426ae27143be552e", checked := Try.checked }
namespace Rows
def none {H : Type} : Left H := { results := [], args := [] }

/-- 'codewrightlaw36.DelsarteDistances': WHATEVER THE INPUT: true; the input reads as it did. -/
def delsarteDistancesSpec : ChangeSpec := { name := "delsarteDistances", fn := fun _ => fun
  | [d1, d2] => { results := [.lit (.bool true)], args := [d1, d2] }
  | _ => none }
def delsarteDistancesRow : OpenClaim := { program := "ytlhgkefaflpgeaa", sum := "ac56c0efa2b9cdfa82f5b08e33161bae8696e7ef1139e623426ae27143be552e", func := "codewright/codewrightlaw36.DelsarteDistances", spec := "delsarteDistances", apart := false }
def DelsarteDistancesSaid : Prop := delsarteDistancesRow.holds Try.pinned (OpenSpec.ofChange delsarteDistancesSpec)

/-- ITS FALSE NEIGHBOUR: 'it returns false'. Refute it at one input. -/
def delsarteDistancesWrong : ChangeSpec := { name := "delsarteDistances", fn := fun _ => fun
  | [d1, d2] => { results := [.lit (.bool false)], args := [d1, d2] }
  | _ => none }
def DelsarteDistancesWrongFalsely : Prop := delsarteDistancesRow.holds Try.pinned (OpenSpec.ofChange delsarteDistancesWrong)

/-- 'codewrightlaw36.DelsarteSums': WHATEVER THE INPUT: true; the input reads as it did. -/
def delsarteSumsSpec : ChangeSpec := { name := "delsarteSums", fn := fun _ => fun
  | [d1, d2] => { results := [.lit (.bool true)], args := [d1, d2] }
  | _ => none }
def delsarteSumsRow : OpenClaim := { program := "ytlhgkefaflpgeaa", sum := "ac56c0efa2b9cdfa82f5b08e33161bae8696e7ef1139e623426ae27143be552e", func := "codewright/codewrightlaw36.DelsarteSums", spec := "delsarteSums", apart := false }
def DelsarteSumsSaid : Prop := delsarteSumsRow.holds Try.pinned (OpenSpec.ofChange delsarteSumsSpec)

/-- ITS FALSE NEIGHBOUR: 'it returns false'. Refute it at one input. -/
def delsarteSumsWrong : ChangeSpec := { name := "delsarteSums", fn := fun _ => fun
  | [d1, d2] => { results := [.lit (.bool false)], args := [d1, d2] }
  | _ => none }
def DelsarteSumsWrongFalsely : Prop := delsarteSumsRow.holds Try.pinned (OpenSpec.ofChange delsarteSumsWrong)

/-- 'codewrightlaw36.DelsarteInequalities': WHATEVER THE INPUT: true; the input reads as it did. -/
def delsarteInequalitiesSpec : ChangeSpec := { name := "delsarteInequalities", fn := fun _ => fun
  | [d1, d2] => { results := [.lit (.bool true)], args := [d1, d2] }
  | _ => none }
def delsarteInequalitiesRow : OpenClaim := { program := "ytlhgkefaflpgeaa", sum := "ac56c0efa2b9cdfa82f5b08e33161bae8696e7ef1139e623426ae27143be552e", func := "codewright/codewrightlaw36.DelsarteInequalities", spec := "delsarteInequalities", apart := false }
def DelsarteInequalitiesSaid : Prop := delsarteInequalitiesRow.holds Try.pinned (OpenSpec.ofChange delsarteInequalitiesSpec)

/-- ITS FALSE NEIGHBOUR: 'it returns false'. Refute it at one input. -/
def delsarteInequalitiesWrong : ChangeSpec := { name := "delsarteInequalities", fn := fun _ => fun
  | [d1, d2] => { results := [.lit (.bool false)], args := [d1, d2] }
  | _ => none }
def DelsarteInequalitiesWrongFalsely : Prop := delsarteInequalitiesRow.holds Try.pinned (OpenSpec.ofChange delsarteInequalitiesWrong)

/-- 'codewrightlaw36.DelsarteAccepts': WHATEVER THE INPUT: true; the input reads as it did. -/
def delsarteAcceptsSpec : ChangeSpec := { name := "delsarteAccepts", fn := fun _ => fun
  | [d1, d2, d3, d4] => { results := [.lit (.bool true)], args := [d1, d2, d3, d4] }
  | _ => none }
def delsarteAcceptsRow : OpenClaim := { program := "ytlhgkefaflpgeaa", sum := "ac56c0efa2b9cdfa82f5b08e33161bae8696e7ef1139e623426ae27143be552e", func := "codewright/codewrightlaw36.DelsarteAccepts", spec := "delsarteAccepts", apart := false }
def DelsarteAcceptsSaid : Prop := delsarteAcceptsRow.holds Try.pinned (OpenSpec.ofChange delsarteAcceptsSpec)

/-- ITS FALSE NEIGHBOUR: 'it returns false'. Refute it at one input. -/
def delsarteAcceptsWrong : ChangeSpec := { name := "delsarteAccepts", fn := fun _ => fun
  | [d1, d2, d3, d4] => { results := [.lit (.bool false)], args := [d1, d2, d3, d4] }
  | _ => none }
def DelsarteAcceptsWrongFalsely : Prop := delsarteAcceptsRow.holds Try.pinned (OpenSpec.ofChange delsarteAcceptsWrong)

/-- 'codewrightlaw36.DelsarteBounds': WHATEVER THE INPUT: true; the input reads as it did. -/
def delsarteBoundsSpec : ChangeSpec := { name := "delsarteBounds", fn := fun _ => fun
  | [d1, d2, d3, d4] => { results := [.lit (.bool true)], args := [d1, d2, d3, d4] }
  | _ => none }
def delsarteBoundsRow : OpenClaim := { program := "ytlhgkefaflpgeaa", sum := "ac56c0efa2b9cdfa82f5b08e33161bae8696e7ef1139e623426ae27143be552e", func := "codewright/codewrightlaw36.DelsarteBounds", spec := "delsarteBounds", apart := false }
def DelsarteBoundsSaid : Prop := delsarteBoundsRow.holds Try.pinned (OpenSpec.ofChange delsarteBoundsSpec)

/-- ITS FALSE NEIGHBOUR: 'it returns false'. Refute it at one input. -/
def delsarteBoundsWrong : ChangeSpec := { name := "delsarteBounds", fn := fun _ => fun
  | [d1, d2, d3, d4] => { results := [.lit (.bool false)], args := [d1, d2, d3, d4] }
  | _ => none }
def DelsarteBoundsWrongFalsely : Prop := delsarteBoundsRow.holds Try.pinned (OpenSpec.ofChange delsarteBoundsWrong)

/-- 'codewrightlaw36.DelsarteSingleton': WHATEVER THE INPUT: true; the input reads as it did. -/
def delsarteSingletonSpec : ChangeSpec := { name := "delsarteSingleton", fn := fun _ => fun
  | [d1, d2, d3] => { results := [.lit (.bool true)], args := [d1, d2, d3] }
  | _ => none }
def delsarteSingletonRow : OpenClaim := { program := "ytlhgkefaflpgeaa", sum := "ac56c0efa2b9cdfa82f5b08e33161bae8696e7ef1139e623426ae27143be552e", func := "codewright/codewrightlaw36.DelsarteSingleton", spec := "delsarteSingleton", apart := false }
def DelsarteSingletonSaid : Prop := delsarteSingletonRow.holds Try.pinned (OpenSpec.ofChange delsarteSingletonSpec)

/-- ITS FALSE NEIGHBOUR: 'it returns false'. Refute it at one input. -/
def delsarteSingletonWrong : ChangeSpec := { name := "delsarteSingleton", fn := fun _ => fun
  | [d1, d2, d3] => { results := [.lit (.bool false)], args := [d1, d2, d3] }
  | _ => none }
def DelsarteSingletonWrongFalsely : Prop := delsarteSingletonRow.holds Try.pinned (OpenSpec.ofChange delsarteSingletonWrong)

/-- 'codewrightlaw36.DelsartePrograms': WHATEVER THE INPUT: true; the input reads as it did. -/
def delsarteProgramsSpec : ChangeSpec := { name := "delsartePrograms", fn := fun _ => fun
  | [d1, d2, d3] => { results := [.lit (.bool true)], args := [d1, d2, d3] }
  | _ => none }
def delsarteProgramsRow : OpenClaim := { program := "ytlhgkefaflpgeaa", sum := "ac56c0efa2b9cdfa82f5b08e33161bae8696e7ef1139e623426ae27143be552e", func := "codewright/codewrightlaw36.DelsartePrograms", spec := "delsartePrograms", apart := false }
def DelsarteProgramsSaid : Prop := delsarteProgramsRow.holds Try.pinned (OpenSpec.ofChange delsarteProgramsSpec)

/-- ITS FALSE NEIGHBOUR: 'it returns false'. Refute it at one input. -/
def delsarteProgramsWrong : ChangeSpec := { name := "delsartePrograms", fn := fun _ => fun
  | [d1, d2, d3] => { results := [.lit (.bool false)], args := [d1, d2, d3] }
  | _ => none }
def DelsarteProgramsWrongFalsely : Prop := delsarteProgramsRow.holds Try.pinned (OpenSpec.ofChange delsarteProgramsWrong)

/- THE SECOND FORM. 'bulk': how many values and letters a reading holds, each counted each time it is reached (what is shared counts as often as it is met; a slice's spare places count too). A statement '..UptoSaid' is the law's where the arguments, and the package variables that the reading takes, are together of bulk at most 1048576: NARROWER than '..Said'. Prove '..Said' where nothing that the law and all that it calls make is longer than what came in: it says more and counts as full. Else prove '..UptoSaid'. A law counts once. -/
mutual
def uptoBulk {H : Type} : DataW H → Nat
  | .lit (.string bytes) => bytes.length + 1
  | .lit _ => 1
  | .nil => 1
  | .ptr d => uptoBulk d + 1
  | .slice elems spare => uptoBulkAll elems + uptoBulkAll spare + 1
  | .agg parts => uptoBulkAll parts + 1
  | .iface _ d => uptoBulk d + 1
  | .map entries => uptoBulkEntries entries + 1
  | .held _ => 1
def uptoBulkAll {H : Type} : List (DataW H) → Nat
  | [] => 0
  | d :: r => uptoBulk d + uptoBulkAll r
def uptoBulkEntries {H : Type} : List (Lit × DataW H) → Nat
  | [] => 0
  | x :: r => uptoBulkEntry x + uptoBulkEntries r
def uptoBulkEntry {H : Type} : Lit × DataW H → Nat
  | (.string bytes, d) => bytes.length + uptoBulk d + 1
  | (_, d) => uptoBulk d + 1
 end
def uptoSmall : (H : Type) → List (DataW H) → Bool := fun _ ds => decide (uptoBulkAll ds ≤ 1048576)
def OpenSpec.upto (s : _root_.Go.ChangeSpec) : _root_.Go.OpenSpec := { _root_.Go.OpenSpec.ofChange s with cond := some uptoSmall }

/-- 'codewrightlaw36.DelsarteDistances', WHERE WHAT IT READS IS OF BULK AT MOST 1048576: true; the input reads as it did. -/
def delsarteDistancesUptoRow : OpenClaim := { program := "ytlhgkefaflpgeaa", sum := "ac56c0efa2b9cdfa82f5b08e33161bae8696e7ef1139e623426ae27143be552e", func := "codewright/codewrightlaw36.DelsarteDistances", spec := "delsarteDistances", apart := false, narrowed := true }
def DelsarteDistancesUptoSaid : Prop := delsarteDistancesUptoRow.holds Try.pinned (OpenSpec.upto delsarteDistancesSpec)

/-- 'codewrightlaw36.DelsarteSums', WHERE WHAT IT READS IS OF BULK AT MOST 1048576: true; the input reads as it did. -/
def delsarteSumsUptoRow : OpenClaim := { program := "ytlhgkefaflpgeaa", sum := "ac56c0efa2b9cdfa82f5b08e33161bae8696e7ef1139e623426ae27143be552e", func := "codewright/codewrightlaw36.DelsarteSums", spec := "delsarteSums", apart := false, narrowed := true }
def DelsarteSumsUptoSaid : Prop := delsarteSumsUptoRow.holds Try.pinned (OpenSpec.upto delsarteSumsSpec)

/-- 'codewrightlaw36.DelsarteInequalities', WHERE WHAT IT READS IS OF BULK AT MOST 1048576: true; the input reads as it did. -/
def delsarteInequalitiesUptoRow : OpenClaim := { program := "ytlhgkefaflpgeaa", sum := "ac56c0efa2b9cdfa82f5b08e33161bae8696e7ef1139e623426ae27143be552e", func := "codewright/codewrightlaw36.DelsarteInequalities", spec := "delsarteInequalities", apart := false, narrowed := true }
def DelsarteInequalitiesUptoSaid : Prop := delsarteInequalitiesUptoRow.holds Try.pinned (OpenSpec.upto delsarteInequalitiesSpec)

/-- 'codewrightlaw36.DelsarteAccepts', WHERE WHAT IT READS IS OF BULK AT MOST 1048576: true; the input reads as it did. -/
def delsarteAcceptsUptoRow : OpenClaim := { program := "ytlhgkefaflpgeaa", sum := "ac56c0efa2b9cdfa82f5b08e33161bae8696e7ef1139e623426ae27143be552e", func := "codewright/codewrightlaw36.DelsarteAccepts", spec := "delsarteAccepts", apart := false, narrowed := true }
def DelsarteAcceptsUptoSaid : Prop := delsarteAcceptsUptoRow.holds Try.pinned (OpenSpec.upto delsarteAcceptsSpec)

/-- 'codewrightlaw36.DelsarteBounds', WHERE WHAT IT READS IS OF BULK AT MOST 1048576: true; the input reads as it did. -/
def delsarteBoundsUptoRow : OpenClaim := { program := "ytlhgkefaflpgeaa", sum := "ac56c0efa2b9cdfa82f5b08e33161bae8696e7ef1139e623426ae27143be552e", func := "codewright/codewrightlaw36.DelsarteBounds", spec := "delsarteBounds", apart := false, narrowed := true }
def DelsarteBoundsUptoSaid : Prop := delsarteBoundsUptoRow.holds Try.pinned (OpenSpec.upto delsarteBoundsSpec)

/-- 'codewrightlaw36.DelsarteSingleton', WHERE WHAT IT READS IS OF BULK AT MOST 1048576: true; the input reads as it did. -/
def delsarteSingletonUptoRow : OpenClaim := { program := "ytlhgkefaflpgeaa", sum := "ac56c0efa2b9cdfa82f5b08e33161bae8696e7ef1139e623426ae27143be552e", func := "codewright/codewrightlaw36.DelsarteSingleton", spec := "delsarteSingleton", apart := false, narrowed := true }
def DelsarteSingletonUptoSaid : Prop := delsarteSingletonUptoRow.holds Try.pinned (OpenSpec.upto delsarteSingletonSpec)

/-- 'codewrightlaw36.DelsartePrograms', WHERE WHAT IT READS IS OF BULK AT MOST 1048576: true; the input reads as it did. -/
def delsarteProgramsUptoRow : OpenClaim := { program := "ytlhgkefaflpgeaa", sum := "ac56c0efa2b9cdfa82f5b08e33161bae8696e7ef1139e623426ae27143be552e", func := "codewright/codewrightlaw36.DelsartePrograms", spec := "delsartePrograms", apart := false, narrowed := true }
def DelsarteProgramsUptoSaid : Prop := delsarteProgramsUptoRow.holds Try.pinned (OpenSpec.upto delsarteProgramsSpec)

end Rows
end Go.Proofs.Ytlhgkefaflpgeaa
