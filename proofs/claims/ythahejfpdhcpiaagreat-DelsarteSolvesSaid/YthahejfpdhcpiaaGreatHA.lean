/-
DelsarteSolves returns true: Bound returns an accepted certificate with its bound, or the error.
-/
import Derived.Test.YthahejfpdhcpiaaGreatRows
import Derived.ProofKit
import Derived.JoinedOf
import Derived.Test.YthahejfpdhcpiaaGreatHA7
namespace Go.Proofs.YthahejfpdhcpiaaGreat
open Go Go.Fw
set_option maxRecDepth 100000
set_option linter.unusedVariables false
set_option linter.unusedSimpArgs false
set_option maxHeartbeats 4000000
theorem S_DelsarteSolves {q n d : Int} : Ctr Tryz.prog 3 [.int .i64 q, .int .i64 n, .int .i64 d] [] [] (Rv (.bool true) []) := by
  refine Ctr_of_j' (F := F_codewrightlaw36_DelsarteSolves) rfl fun Cx => ?_
  by_cases hr : rangeP q n d
  · have hr' : decide (rangeP q n d) = true := decide_eq_true hr
    by_cases h8 : 8 < n
    · refine j_nf [.o [0] 0, .c [1]] rfl ?_
      refine j_run it 1 rfl (by simp) ?_
      refine j_nf [.o [1, 0, 0] 0, .c [1, 0, 1], .c [1, 1]] rfl ?_
      refine j_run it 3 rfl (by simp) ?_
      refine j_step rfl (x_call [] rfl (S_codewrightref34_Range (by omega)) rfl ?_)
      rintro _ _ _ ⟨rfl, rfl, rfl⟩
      simp only [List.cons_append, List.nil_append]
      refine j_run it 1 rfl (by simp) ?_
      refine j_nf [.c [1, 0, 1], .c [1, 1]] rfl ?_
      refine j_false rfl rfl ?_
      refine j_nf [.o [1, 1, 0, 0] 0, .c [1, 1, 0, 1], .c [1, 1, 1]] rfl ?_
      refine j_run it 2 rfl (by simp) ?_
      refine j_nf [.c [1, 1, 0, 1], .c [1, 1, 1]] rfl ?_
      refine j_if rfl rfl (fun h1 => ?_) (fun h1 => by exfalso; omega)
      refine j_nf [.o [1, 1, 0, 1, 0, 0] 0, .c [1, 1, 0, 1, 0, 1], .c [1, 1, 1]] rfl ?_
      refine j_run it 1 rfl (by simp) ?_
      refine j_nf [.c [1, 1, 0, 1, 0, 1], .c [1, 1, 1]] rfl ?_
      refine j_giv [] rfl rfl rfl ⟨rfl, rfl, rfl⟩
    · obtain ⟨p, m, k, rfl, rfl, rfl, h1, h2, h3, h4, h5, h6⟩ := range_nat hr
      have hm8 : m ≤ 8 := by omega
      refine j_nf [.o [0] 0, .c [1]] rfl ?_
      refine j_run it 1 rfl (by simp) ?_
      refine j_nf [.o [1, 0, 0] 0, .c [1, 0, 1], .c [1, 1]] rfl ?_
      refine j_run it 3 rfl (by simp) ?_
      refine j_step rfl (x_call [] rfl (S_codewrightref34_Range (by omega)) rfl ?_)
      rintro _ _ _ ⟨rfl, rfl, rfl⟩
      simp only [List.cons_append, List.nil_append]
      refine j_run it 1 rfl (by simp) ?_
      refine j_nf [.c [1, 0, 1], .c [1, 1]] rfl ?_
      refine j_false rfl rfl ?_
      refine j_nf [.o [1, 1, 0, 0] 0, .c [1, 1, 0, 1], .c [1, 1, 1]] rfl ?_
      refine j_run it 2 rfl (by simp) ?_
      refine j_nf [.c [1, 1, 0, 1], .c [1, 1, 1]] rfl ?_
      refine j_if rfl rfl (fun h7 => by exfalso; omega) (fun h7 => ?_)
      refine j_nf [.o [1, 1, 1, 0] 0, .c [1, 1, 1, 1]] rfl ?_
      refine j_run it 3 rfl (by simp) ?_
      refine j_step rfl (x_call [] rfl (S_delsarte_Bound (by omega) (by omega) (by omega) (by omega) (by omega)) rfl ?_)
      rintro _ _ _ ⟨f1, r1, pn1, cn1, pd1, cd1, pf1, cf1, h9, rfl, h10, rfl, rfl, rfl⟩
      simp only [List.cons_append, List.nil_append]
      have hL : leastP p m k f1 := by assumption
      have oF : ∀ x ∈ f1, okR 250000 x := by assumption
      obtain ⟨g1, g2⟩ := accD_yes hL.1
      have c_codewrightref36_Accept := fun {pa : Option Addr} {nf ca : Nat} => S_codewrightref36_AcceptN (q := p) (n := m) (d := k) (K := 250000) (pa := pa) (nf := nf) (ca := ca) (f := f1) h1 h2 h4 h5 h6 (by decide) (by decide) (by omega) oF g2 g1
      refine j_run it 4 rfl (by simp) ?_
      refine j_step rfl (x_alloc zo26 fun b1 => ?_)
      refine j_step rfl (x_bst_all 0 rfl rfl rfl ld26 rfl rfl (by simp [Value.oneCell']) ?_)
      refine j_run it 2 rfl (by simp) ?_
      refine j_nf [.o [1, 1, 1, 1, 0] 0, .c [1, 1, 1, 1, 1]] rfl ?_
      refine j_run it 4 rfl (by simp) ?_
      refine j_step rfl (x_call [2] rfl (c_codewrightref36_Accept) rfl ?_)
      rintro _ _ _ ⟨pn2, cn2, pd2, cd2, rfl, rfl, rfl⟩
      simp only [List.cons_append, List.nil_append]
      refine j_run it 3 rfl (by simp) ?_
      refine j_step rfl (x_alloc zo26 fun b2 => ?_)
      refine j_step rfl (x_bst_all 0 rfl rfl rfl ld26 rfl rfl (by simp [Value.oneCell']) ?_)
      refine j_run it 1 rfl (by simp) ?_
      refine j_nf [.o [1, 1, 1, 1, 1, 0] 0, .c [1, 1, 1, 1, 1, 1]] rfl ?_
      refine j_run it 2 rfl (by simp) ?_
      refine j_step rfl (x_call [] rfl (S_codewrightref36_Sure (by omega) (by omega) (by omega)) rfl ?_)
      rintro _ _ _ ⟨rfl, rfl, rfl⟩
      simp only [List.cons_append, List.nil_append]
      refine j_run it 9 rfl (by simp) ?_
      refine j_split_dec (t := 68) rfl (fun h11 => ?_) (fun h11 => by exfalso; omega)
      refine j_gstep rfl rfl (x_bld_all 1 rfl rfl ld26 rfl ?_)
      refine j_gstep rfl rfl (x_bld_all 0 rfl rfl ld26 rfl ?_)
      refine j_gstep rfl rfl (x_call [2, 3, 0, 1] rfl (S_codewrightref02_Same) rfl ?_)
      rintro _ _ _ ⟨rfl, rfl, rfl⟩
      simp only [List.cons_append, List.nil_append]
      simp only [decide_true]
      refine j_run it 2 rfl (by simp) ?_
      refine j_nf [.c [1, 1, 1, 1, 1, 1]] rfl ?_
      refine j_giv [] rfl rfl rfl ⟨rfl, rfl, rfl⟩
  · have hr' : decide (rangeP q n d) = false := decide_eq_false hr
    have c_delsarte_Bound := S_delsarte_Bound_err hr
    refine j_nf [.o [0] 0, .c [1]] rfl ?_
    refine j_run it 1 rfl (by simp) ?_
    refine j_nf [.o [1, 0, 0] 0, .c [1, 0, 1], .c [1, 1]] rfl ?_
    refine j_run it 3 rfl (by simp) ?_
    refine j_step rfl (x_call [] rfl (S_codewrightref34_Range (by omega)) rfl ?_)
    rintro _ _ _ ⟨rfl, rfl, rfl⟩
    simp only [List.cons_append, List.nil_append]
    refine j_run it 1 rfl (by simp) ?_
    refine j_nf [.c [1, 0, 1], .c [1, 1]] rfl ?_
    refine j_true rfl rfl ?_
    refine j_nf [.o [1, 0, 1, 0, 0] 0, .c [1, 0, 1, 0, 1], .c [1, 1]] rfl ?_
    refine j_run it 3 rfl (by simp) ?_
    refine j_step rfl (x_call [] rfl (c_delsarte_Bound) rfl ?_)
    rintro _ _ _ ⟨f1, r1, pn1, cn1, pd1, cd1, pf1, cf1, rfl, rfl, rfl, rfl, rfl⟩
    simp only [List.cons_append, List.nil_append]
    refine j_run it 4 rfl (by simp) ?_
    refine j_step rfl (x_alloc zo26 fun b1 => ?_)
    refine j_step rfl (x_bst_all 0 rfl rfl rfl ld26 rfl rfl (by simp [Value.oneCell']) ?_)
    refine j_run it 2 rfl (by simp) ?_
    refine j_nf [.o [1, 0, 1, 0, 1, 0] 0, .c [1, 0, 1, 0, 1, 1], .c [1, 1]] rfl ?_
    refine j_run it 3 rfl (by simp) ?_
    refine j_split_dec (t := 30) rfl (fun h1 => ?_) (fun h1 => by exfalso; omega)
    refine j_gstep rfl rfl (x_bld_all 0 rfl rfl ld26 rfl ?_)
    refine j_gstep rfl rfl (x_call [] rfl (S_codewrightref02_Nil) rfl ?_)
    rintro _ _ _ ⟨rfl, rfl, rfl⟩
    simp only [List.cons_append, List.nil_append]
    simp only [decide_true]
    refine j_run it 3 rfl (by simp) ?_
    refine j_gstep rfl rfl (x_len sl27 rfl ?_)
    refine j_run it 3 rfl (by simp) ?_
    refine j_nf [.c [1, 0, 1, 0, 1, 1], .c [1, 1]] rfl ?_
    refine j_giv [] rfl rfl rfl ⟨rfl, rfl, rfl⟩

theorem op3 : Opens Tryz.prog 3 (encInt .i64 8) := opens_int rfl rfl rfl

theorem delsarteSolves_says : LawSays Tryz.prog 3 Tryz.f3 := by
  intro W args h
  have h : Args Tryz.prog W [3, 3, 3] args := h
  match args, h with
  | [v0, v1, v2], ⟨h0, h1, h2, _⟩ =>
    obtain ⟨q0, rfl, _⟩ := h0.int Tryz.underlying3
    obtain ⟨q1, rfl, _⟩ := h1.int Tryz.underlying3
    obtain ⟨q2, rfl, _⟩ := h2.int Tryz.underlying3
    exact law_of_gives S_DelsarteSolves (fun v Φ β h => h.1) (fun g hg => by cases hg)


/-! ### The row -/

theorem delsarteSolves_lifted (os : Os) (started : os.Started) (H : Type) (enc : TypeId × Value → H) :
    ReturnsInHanded {} Tryz.checked os 3 .any (Rows.delsarteSolvesSpec.pre6 enc Tryz.prog Tryz.f3 Rows.delsarteSolvesRow.domain false) (Rows.delsarteSolvesSpec.post enc Tryz.prog Tryz.f3 false true false false) :=
  law_lift (C := Tryz.checked) (by kernel_rfl) started (by kernel_rfl) Tryz.func3
    (ChangeSpec.witness6 (enc := enc) (C := Tryz.checked) false ⟨#[], #[.int .i64 0, .int .i64 0, .int .i64 0], []⟩ 8 (by kernel_rfl) (by kernel_rfl) (by kernel_rfl) (by kernel_rfl))
    (by kernel_rfl) rfl (by kernel_rfl) rfl Tryz.underlying4 (fun ds h => match ds, h with | [d0, d1, d2], _ => rfl) delsarteSolves_says

theorem delsarteSolves_holds : Rows.DelsarteSolvesSaid :=
  OpenClaim.holds_of_wide 3 Tryz.f3 rfl rfl rfl rfl rfl rfl rfl ⟨rfl, rfl, rfl, rfl, rfl⟩ rfl rfl rfl rfl rfl (by kernel_rfl) Tryz.func3 (by kernel_rfl)
    (of_decide_eq_true (by kernel_rfl)) (by unfold Func.isWrapper; first | (rw [if_pos (by decide +kernel)]; kernel_rfl) | (rw [if_neg (by decide +kernel)]; exact ⟨rfl, rfl⟩))
    (fun os started H enc _ => delsarteSolves_lifted os started H enc)
#print axioms delsarteSolves_holds
end Go.Proofs.YthahejfpdhcpiaaGreat
