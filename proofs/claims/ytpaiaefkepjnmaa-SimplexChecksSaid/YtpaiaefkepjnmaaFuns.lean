/-
The functions of the program, each with its body.
-/
import Derived.Test.YtpaiaefkepjnmaaTab
namespace Go.Proofs.Ytpaiaefkepjnmaa
open Go Go.Fw
noncomputable def F_codewrightlaw35_SimplexChecks : Fun Try.prog := ⟨3, Try.f3, _, Try.func3, rfl, rfl⟩
noncomputable def F_simplex_Check : Fun Try.prog := ⟨4, Try.f4, _, Try.func4, rfl, rfl⟩
noncomputable def F_codewrightref35_Check : Fun Try.prog := ⟨5, Try.f5, _, Try.func5, rfl, rfl⟩
end Go.Proofs.Ytpaiaefkepjnmaa
