/-
SimplexChecks returns true: for every linear program, whatever its parts, Check of the program and Check of the document's answer give the same error; the argument reads afterwards as it read before.
-/
import Derived.Test.YtpaiaefkepjnmaaFuns
import Derived.Test.YtpaiaefkepjnmaaSChecks
import Derived.Test.YtpaiaefkepjnmaaFwL
import Derived.Test.YtpaiaefkepjnmaaRows
import Derived.ProofKit
import Derived.JoinedOf
namespace Go.Proofs.Ytpaiaefkepjnmaa
open Go Go.Fw
set_option maxRecDepth 100000
set_option linter.unusedVariables false
theorem S_SimplexChecks {p1 p2 p3 : Option Addr} {c1 c2 c3 : Nat} {C A B} : Ctr Try.prog 3 [.agg [.slice p1 C.length c1, .slice p2 A.length c2, .slice p3 B.length c3].toArray] [] [slF RatE p1 C.length c1 C, slF (encSl RatE) p2 A.length c2 A, slF RatE p3 B.length c3 B]
    (Rv (.bool true) []) := by
  refine Ctr_of_j' (F := F_codewrightlaw35_SimplexChecks) rfl fun Cx => ?_
  refine j_nf [.o [0] 0, .c [1]] rfl ?_
  refine j_step rfl (x_box rfl rfl fun b1 => ?_)
  refine j_run it 1 rfl (by simp) ?_
  refine j_nf [.c [1, 0], .c [1, 1]] rfl ?_
  (apply j_drawK it mx 6; (· rfl); (· rfl))
  (apply lxk_eq; (· rfl); (· exact d_bld_agg 0 rfl rfl ld25 rfl rfl))
  (apply lxk_eq; (· rfl); (· exact d_x fun _ => x_call [0, 1, 2] rfl (S_simplex_Check) rfl (by rintro _ _ _ ⟨rfl, rfl, rfl⟩; exact dk_eq)))
  (apply lxk_eq; (· rfl); (· exact d_bld_agg 0 rfl rfl ld25 rfl rfl))
  (apply lxk_eq; (· rfl); (· exact d_x fun _ => x_call [0, 1, 2] rfl (S_codewrightref35_Check) rfl (by rintro _ _ _ ⟨rfl, rfl, rfl⟩; exact dk_eq)))
  (apply lxk_run 2; (· rfl); (· simp))
  refine lxk_end rfl ?_
  simp only [List.map_cons, List.map_nil, List.cons_append, List.nil_append]
  refine j_nf [.c [1, 1]] rfl ?_
  refine j_giv [] rfl rfl rfl ⟨by simp [resVal], rfl, rfl⟩

theorem op4 : Opens Try.prog 4 encBool := opens_bool rfl rfl rfl
theorem op36 : Opens Try.prog 36 (encNat .u32 4) := opens_nat rfl rfl rfl (fun n h => h.1)
theorem op46 : Opens Try.prog 46 (encSl (encNat .u32 4)) := opens_sl rfl op36 rfl rfl (by decide)
theorem op48 : Opens Try.prog 48 (encPair encBool (encPair (encSl (encNat .u32 4)) (encSl (encNat .u32 4)) 48) 56) := opens_struct rfl (opensAll_cons 56 rfl op4 (opensAll_cons 48 rfl op46 (opensAll_one rfl op46))) rfl rfl
theorem op22 : Opens Try.prog 22 (encSl (encPair encBool (encPair (encSl (encNat .u32 4)) (encSl (encNat .u32 4)) 48) 56)) := opens_sl rfl op48 rfl rfl (by decide)
theorem op23 : Opens Try.prog 23 (encSl (encSl (encPair encBool (encPair (encSl (encNat .u32 4)) (encSl (encNat .u32 4)) 48) 56))) := opens_sl rfl op22 rfl rfl (by decide)
theorem op25 : Opens Try.prog 25 (encPair (encSl (encPair encBool (encPair (encSl (encNat .u32 4)) (encSl (encNat .u32 4)) 48) 56)) (encPair (encSl (encSl (encPair encBool (encPair (encSl (encNat .u32 4)) (encSl (encNat .u32 4)) 48) 56))) (encSl (encPair encBool (encPair (encSl (encNat .u32 4)) (encSl (encNat .u32 4)) 48) 56)) 48) 72) := opens_struct rfl (opensAll_cons 72 rfl op22 (opensAll_cons 48 rfl op23 (opensAll_one rfl op22))) rfl rfl

theorem simplexChecks_says : LawSays Try.prog 3 Try.f3 := by
  intro W args h
  have h : Args Try.prog W [25] args := h
  match args, h with
  | [v0], ⟨h0, _⟩ =>
    obtain ⟨vs, x, rfl, hx⟩ := h0.agg Try.underlying25 op25
    obtain ⟨p1, c1, p2, c2, p3, c3, rfl, h1, h2, h3⟩ := lin_open hx
    refine law_of_gives S_SimplexChecks (fun v Φ β h => h.1) ?_
    intro g hg
    simp only [List.mem_cons, List.not_mem_nil, or_false] at hg
    rcases hg with rfl | rfl | rfl
    · exact ⟨rfl, h1⟩
    · exact ⟨rfl, h2⟩
    · exact ⟨rfl, h3⟩


/-! ### The row -/

theorem simplexChecks_lifted (os : Os) (started : os.Started) (H : Type) (enc : TypeId × Value → H) :
    ReturnsInHanded {} Try.checked os 3 .any (Rows.simplexChecksSpec.pre6 enc Try.prog Try.f3 Rows.simplexChecksRow.domain false) (Rows.simplexChecksSpec.post enc Try.prog Try.f3 false true false false) :=
  law_lift (C := Try.checked) (by kernel_rfl) started (by kernel_rfl) Try.func3
    (ChangeSpec.witness6 (enc := enc) (C := Try.checked) false ⟨#[], #[.agg #[.slice none 0 0, .slice none 0 0, .slice none 0 0]], []⟩ 8 (by kernel_rfl) (by kernel_rfl) (by kernel_rfl) (by kernel_rfl))
    (by kernel_rfl) rfl (by kernel_rfl) rfl Try.underlying4 (fun ds h => match ds, h with | [d0], _ => rfl) simplexChecks_says

theorem simplexChecks_holds : Rows.SimplexChecksSaid :=
  OpenClaim.holds_of_wide 3 Try.f3 rfl rfl rfl rfl rfl rfl rfl ⟨rfl, rfl, rfl, rfl, rfl⟩ rfl rfl rfl rfl rfl (by kernel_rfl) Try.func3 (by kernel_rfl)
    (of_decide_eq_true (by kernel_rfl)) (by unfold Func.isWrapper; first | (rw [if_pos (by decide +kernel)]; kernel_rfl) | (rw [if_neg (by decide +kernel)]; exact ⟨rfl, rfl⟩))
    (fun os started H enc _ => simplexChecks_lifted os started H enc)
#print axioms simplexChecks_holds
end Go.Proofs.Ytpaiaefkepjnmaa
