/-
The program's Value and Accept. The fits of the laws on linear programs, with lists. The example of the laws on linear programs: one. What accepted solutions say: weak duality, the lemma of Farkas, rays, slackness, one kind and one value. The document's inverse; points along a ray. The walk of SimplexRays.
-/
import Derived.Test.YtkchmoahohopiaaHN5
set_option linter.unusedVariables false
set_option linter.unusedSimpArgs false

namespace Go.Proofs.Ytkchmoahohopiaa
open Go Go.Fw
set_option maxRecDepth 100000
set_option linter.unusedVariables false
set_option linter.unusedSimpArgs false
set_option maxHeartbeats 4000000
theorem check_zero {C B : List Rt} {M : List (List Rt)} (h : checkOf (C, M, B) = 0) : C.length ≤ 80 ∧ M.length ≤ 80 ∧ M.length = B.length ∧ ∀ row ∈ M, row.length = C.length := by
  unfold checkOf at h
  by_cases h1 : 80 < C.length ∨ 80 < M.length ∨ 80 < B.length
  · rw [if_pos h1] at h; cases h
  · rw [if_neg h1] at h
    by_cases h2 : M.length = B.length
    · rw [if_neg (not_not_intro h2)] at h
      by_cases h3 : (M.all fun r => r.length == C.length) = true
      · refine ⟨by omega, by omega, h2, fun row hr => ?_⟩
        have := List.all_eq_true.1 h3 row hr
        simpa using this
      · rw [if_neg h3] at h; cases h
    · rw [if_pos h2] at h; cases h
/-- The error of Value, and its number. -/
def valE (C : List Rt) (M : List (List Rt)) (B x : List Rt) : Int := if checkOf (C, M, B) = 0 then (if x.length = C.length then (if feasB C.length M B x then 0 else 13) else 3) else checkOf (C, M, B)
def valR (C : List Rt) (M : List (List Rt)) (B x : List Rt) : Rt := if valE C M B x = 0 then rt (dotR C x) else (false, [], [])
def accE (kind : Int) (C : List Rt) (M : List (List Rt)) (B X Y R : List Rt) : Int := if checkOf (C, M, B) = 0 then (if accB kind C M B X Y R then 0 else 13) else checkOf (C, M, B)

theorem S_simplex_Value {p1 p2 p3 px : Option Addr} {n1 n2 n3 c1 c2 c3 n cx K : Nat} {C B x : List Rt} {M : List (List Rt)} (hK : 1 ≤ K) (hK2 : K ≤ 100000) (hC : ∀ r ∈ C, okR K r) (hM : ∀ row ∈ M, ∀ r ∈ row, okR K r) (hB : ∀ r ∈ B, okR K r) (hx : ∀ r ∈ x, okR K r) {vr : Rt} {ve : Int} (hvr : valR C M B x = vr) (hve : valE C M B x = ve) :
    Ctr Try.prog 22 [.agg #[.slice p1 n1 c1, .slice p2 n2 c2, .slice p3 n3 c3], .slice px n cx] [] [slF RatE p1 n1 c1 C, slF (encSl RatE) p2 n2 c2 M, slF RatE p3 n3 c3 B, slF RatE px n cx x] (RtErr vr ve) := by
  subst hvr; subst hve
  refine Ctr_of_j' (F := F_simplex_Value) rfl fun Cx => ?_
  refine j_len 0 rfl fun e1 _ _ => ?_
  refine j_len 1 rfl fun e2 _ _ => ?_
  refine j_len 2 rfl fun e3 _ _ => ?_
  refine j_len 3 rfl fun ex _ _ => ?_
  subst e1; subst e2; subst e3
  subst ex
  by_cases h : checkOf (C, M, B) = 0
  · obtain ⟨lC, lM, hMB, hrow⟩ := check_zero h
    have hM' : ∀ row ∈ M, row.length = C.length ∧ ∀ r ∈ row, okR K r := fun row hr => ⟨hrow row hr, hM row hr⟩
    by_cases hl : x.length = C.length
    · cases hf : feasB C.length M B x with
      | false =>
        have e : valE C M B x = 13 := by rw [valE, if_pos h, if_pos hl, hf]; rfl
        rw [valR, if_neg (by rw [e]; decide), e]
        refine j_nf [.o [0] 0, .c [1]] rfl ?_
        refine j_step rfl (x_box_agg rfl fun b1 => ?_)
        refine j_step rfl (x_alloc zo44 fun b2 => ?_)
        refine j_run it 1 rfl (by simp) ?_
        refine j_nf [.o [1, 0, 0] 0, .c [1, 0, 1], .c [1, 1]] rfl ?_
        refine j_step rfl (x_bld_all 1 rfl rfl ld34 rfl ?_)
        refine j_step rfl (x_call [0, 1, 2] rfl (S_simplex_Check) rfl ?_)
        rintro _ _ _ ⟨rfl, rfl, rfl⟩
        simp only [List.cons_append, List.nil_append]
        refine j_run it 1 rfl (by simp) ?_
        refine j_nf [.o [1, 0, 1, 0] 0, .c [1, 0, 1, 1], .c [1, 1]] rfl ?_
        refine j_run it 2 rfl (by simp) ?_
        refine j_nf [.c [1, 0, 1, 1], .c [1, 1]] rfl ?_
        refine j_ifn rfl rfl (fun h1 => by exfalso; omega) (fun h1 => ?_)
        refine j_nf [.o [1, 1, 0, 0] 0, .c [1, 1, 0, 1], .c [1, 1, 1]] rfl ?_
        refine j_run it 1 rfl (by simp) ?_
        refine j_step rfl (x_len sl31 rfl ?_)
        refine j_step rfl (x_field rfl fd34_0 ?_)
        refine j_step rfl (x_bld 1 rfl rfl ld31 rfl ?_)
        refine j_step rfl (x_len sl31 rfl ?_)
        refine j_run it 1 rfl (by simp) ?_
        refine j_nf [.c [1, 1, 0, 1], .c [1, 1, 1]] rfl ?_
        refine j_ifn rfl rfl (fun h2 => by exfalso; omega) (fun h2 => ?_)
        refine j_nf [.o [1, 1, 1, 0, 0] 0, .c [1, 1, 1, 0, 1], .c [1, 1, 1, 1]] rfl ?_
        refine j_step rfl (x_bld_all 1 rfl rfl ld34 rfl ?_)
        refine j_run it 1 rfl (by simp) ?_
        refine j_step rfl (x_call [1, 2, 3] rfl (S_simplex_feasible (by first | omega | exact side _ (by assumption) | assumption | rfl | (simp; done) | (simp; omega)) (by first | omega | exact side _ (by assumption) | assumption | rfl | (simp; done) | (simp; omega)) (by first | omega | exact side _ (by assumption) | assumption | rfl | (simp; done) | (simp; omega)) (by first | omega | exact side _ (by assumption) | assumption | rfl | (simp; done) | (simp; omega)) (by first | omega | exact side _ (by assumption) | assumption | rfl | (simp; done) | (simp; omega)) (by first | omega | exact side _ (by assumption) | assumption | rfl | (simp; done) | (simp; omega)) (by first | omega | exact side _ (by assumption) | assumption | rfl | (simp; done) | (simp; omega)) (by first | omega | exact side _ (by assumption) | assumption | rfl | (simp; done) | (simp; omega)) (by first | omega | exact side _ (by assumption) | assumption | rfl | (simp; done) | (simp; omega))) rfl ?_)
        rintro _ _ _ ⟨rfl, rfl, rfl⟩
        simp only [List.cons_append, List.nil_append]
        refine j_run it 1 rfl (by simp) ?_
        refine j_nf [.c [1, 1, 1, 0, 1], .c [1, 1, 1, 1]] rfl ?_
        refine j_true rfl rfl ?_
        refine j_nf [.o [1, 1, 1, 0, 1, 0, 0] 0, .c [1, 1, 1, 0, 1, 0, 1], .c [1, 1, 1, 1]] rfl ?_
        refine j_step rfl (x_build (cs := [Value.bool false, Value.slice none 0 0, Value.slice none 0 0]) st44 zo44 rfl rfl ?_)
        refine j_step rfl (x_bst_all 0 rfl rfl rfl ld44 rfl rfl (by simp [Value.oneCell']) ?_)
        refine j_run it 1 rfl (by simp) ?_
        refine j_nf [.c [1, 1, 1, 0, 1, 0, 1], .c [1, 1, 1, 1]] rfl ?_
        refine j_add (slF U32 none 0 0 []) (fun w A _ => slF_nil _ _ _ _ _) ?_
        refine j_givC [0, 0] rfl (.agg 0 rfl rfl ld44 rfl (.tmp rfl .nil)) rfl ⟨_, _, _, _, rfl, rfl, rfl⟩
      | true =>
        have e : valE C M B x = 0 := by rw [valE, if_pos h, if_pos hl, hf]; rfl
        rw [valR, if_pos e, e]
        refine j_nf [.o [0] 0, .c [1]] rfl ?_
        refine j_step rfl (x_box_agg rfl fun b1 => ?_)
        refine j_step rfl (x_alloc zo44 fun b2 => ?_)
        refine j_run it 1 rfl (by simp) ?_
        refine j_nf [.o [1, 0, 0] 0, .c [1, 0, 1], .c [1, 1]] rfl ?_
        refine j_step rfl (x_bld_all 1 rfl rfl ld34 rfl ?_)
        refine j_step rfl (x_call [0, 1, 2] rfl (S_simplex_Check) rfl ?_)
        rintro _ _ _ ⟨rfl, rfl, rfl⟩
        simp only [List.cons_append, List.nil_append]
        refine j_run it 1 rfl (by simp) ?_
        refine j_nf [.o [1, 0, 1, 0] 0, .c [1, 0, 1, 1], .c [1, 1]] rfl ?_
        refine j_run it 2 rfl (by simp) ?_
        refine j_nf [.c [1, 0, 1, 1], .c [1, 1]] rfl ?_
        refine j_ifn rfl rfl (fun h1 => by exfalso; omega) (fun h1 => ?_)
        refine j_nf [.o [1, 1, 0, 0] 0, .c [1, 1, 0, 1], .c [1, 1, 1]] rfl ?_
        refine j_run it 1 rfl (by simp) ?_
        refine j_step rfl (x_len sl31 rfl ?_)
        refine j_step rfl (x_field rfl fd34_0 ?_)
        refine j_step rfl (x_bld 1 rfl rfl ld31 rfl ?_)
        refine j_step rfl (x_len sl31 rfl ?_)
        refine j_run it 1 rfl (by simp) ?_
        refine j_nf [.c [1, 1, 0, 1], .c [1, 1, 1]] rfl ?_
        refine j_ifn rfl rfl (fun h2 => by exfalso; omega) (fun h2 => ?_)
        refine j_nf [.o [1, 1, 1, 0, 0] 0, .c [1, 1, 1, 0, 1], .c [1, 1, 1, 1]] rfl ?_
        refine j_step rfl (x_bld_all 1 rfl rfl ld34 rfl ?_)
        refine j_run it 1 rfl (by simp) ?_
        refine j_step rfl (x_call [1, 2, 3] rfl (S_simplex_feasible (by first | omega | exact side _ (by assumption) | assumption | rfl | (simp; done) | (simp; omega)) (by first | omega | exact side _ (by assumption) | assumption | rfl | (simp; done) | (simp; omega)) (by first | omega | exact side _ (by assumption) | assumption | rfl | (simp; done) | (simp; omega)) (by first | omega | exact side _ (by assumption) | assumption | rfl | (simp; done) | (simp; omega)) (by first | omega | exact side _ (by assumption) | assumption | rfl | (simp; done) | (simp; omega)) (by first | omega | exact side _ (by assumption) | assumption | rfl | (simp; done) | (simp; omega)) (by first | omega | exact side _ (by assumption) | assumption | rfl | (simp; done) | (simp; omega)) (by first | omega | exact side _ (by assumption) | assumption | rfl | (simp; done) | (simp; omega)) (by first | omega | exact side _ (by assumption) | assumption | rfl | (simp; done) | (simp; omega))) rfl ?_)
        rintro _ _ _ ⟨rfl, rfl, rfl⟩
        simp only [List.cons_append, List.nil_append]
        refine j_run it 1 rfl (by simp) ?_
        refine j_nf [.c [1, 1, 1, 0, 1], .c [1, 1, 1, 1]] rfl ?_
        refine j_false rfl rfl ?_
        refine j_nf [.o [1, 1, 1, 1, 0] 0, .c [1, 1, 1, 1, 1]] rfl ?_
        refine j_step rfl (x_field rfl fd34_0 ?_)
        refine j_step rfl (x_bld 1 rfl rfl ld31 rfl ?_)
        refine j_run it 1 rfl (by simp) ?_
        refine j_step rfl (x_call [0, 3] rfl (S_simplex_product (by first | omega | exact side _ (by assumption) | assumption | rfl | (simp; done) | (simp; omega)) (by first | omega | exact side _ (by assumption) | assumption | rfl | (simp; done) | (simp; omega)) (by first | omega | exact side _ (by assumption) | assumption | rfl | (simp; done) | (simp; omega)) (by first | omega | exact side _ (by assumption) | assumption | rfl | (simp; done) | (simp; omega)) (by first | omega | exact side _ (by assumption) | assumption | rfl | (simp; done) | (simp; omega)) (by first | omega | exact side _ (by assumption) | assumption | rfl | (simp; done) | (simp; omega))) rfl ?_)
        rintro _ _ _ ⟨pn1, cn1, pd1, cd1, rfl, rfl, rfl⟩
        simp only [List.cons_append, List.nil_append]
        refine j_step rfl (x_bst_all 0 rfl rfl rfl ld44 rfl rfl (by simp [Value.oneCell']) ?_)
        refine j_run it 1 rfl (by simp) ?_
        refine j_nf [.c [1, 1, 1, 1, 1]] rfl ?_
        refine j_givC [0, 1] rfl (.agg 0 rfl rfl ld44 rfl (.tmp rfl .nil)) rfl ⟨_, _, _, _, rfl, rfl, rfl⟩
    · have e : valE C M B x = 3 := by rw [valE, if_pos h, if_neg hl]
      rw [valR, if_neg (by rw [e]; decide), e]
      refine j_nf [.o [0] 0, .c [1]] rfl ?_
      refine j_step rfl (x_box_agg rfl fun b1 => ?_)
      refine j_step rfl (x_alloc zo44 fun b2 => ?_)
      refine j_run it 1 rfl (by simp) ?_
      refine j_nf [.o [1, 0, 0] 0, .c [1, 0, 1], .c [1, 1]] rfl ?_
      refine j_step rfl (x_bld_all 1 rfl rfl ld34 rfl ?_)
      refine j_step rfl (x_call [0, 1, 2] rfl (S_simplex_Check) rfl ?_)
      rintro _ _ _ ⟨rfl, rfl, rfl⟩
      simp only [List.cons_append, List.nil_append]
      refine j_run it 1 rfl (by simp) ?_
      refine j_nf [.o [1, 0, 1, 0] 0, .c [1, 0, 1, 1], .c [1, 1]] rfl ?_
      refine j_run it 2 rfl (by simp) ?_
      refine j_nf [.c [1, 0, 1, 1], .c [1, 1]] rfl ?_
      refine j_ifn rfl rfl (fun h1 => by exfalso; omega) (fun h1 => ?_)
      refine j_nf [.o [1, 1, 0, 0] 0, .c [1, 1, 0, 1], .c [1, 1, 1]] rfl ?_
      refine j_run it 1 rfl (by simp) ?_
      refine j_step rfl (x_len sl31 rfl ?_)
      refine j_step rfl (x_field rfl fd34_0 ?_)
      refine j_step rfl (x_bld 1 rfl rfl ld31 rfl ?_)
      refine j_step rfl (x_len sl31 rfl ?_)
      refine j_run it 1 rfl (by simp) ?_
      refine j_nf [.c [1, 1, 0, 1], .c [1, 1, 1]] rfl ?_
      refine j_ifn rfl rfl (fun h2 => ?_) (fun h2 => by exfalso; omega)
      refine j_nf [.o [1, 1, 0, 1, 0, 0] 0, .c [1, 1, 0, 1, 0, 1], .c [1, 1, 1]] rfl ?_
      refine j_step rfl (x_build (cs := [Value.bool false, Value.slice none 0 0, Value.slice none 0 0]) st44 zo44 rfl rfl ?_)
      refine j_step rfl (x_bst_all 0 rfl rfl rfl ld44 rfl rfl (by simp [Value.oneCell']) ?_)
      refine j_run it 1 rfl (by simp) ?_
      refine j_nf [.c [1, 1, 0, 1, 0, 1], .c [1, 1, 1]] rfl ?_
      refine j_add (slF U32 none 0 0 []) (fun w A _ => slF_nil _ _ _ _ _) ?_
      refine j_givC [0, 0] rfl (.agg 0 rfl rfl ld44 rfl (.tmp rfl .nil)) rfl ⟨_, _, _, _, rfl, rfl, rfl⟩
  · have e : valE C M B x = checkOf (C, M, B) := by rw [valE, if_neg h]
    rw [valR, if_neg (by rw [e]; exact h), e]
    refine j_nf [.o [0] 0, .c [1]] rfl ?_
    refine j_step rfl (x_box_agg rfl fun b1 => ?_)
    refine j_step rfl (x_alloc zo44 fun b2 => ?_)
    refine j_run it 1 rfl (by simp) ?_
    refine j_nf [.o [1, 0, 0] 0, .c [1, 0, 1], .c [1, 1]] rfl ?_
    refine j_step rfl (x_bld_all 1 rfl rfl ld34 rfl ?_)
    refine j_step rfl (x_call [0, 1, 2] rfl (S_simplex_Check) rfl ?_)
    rintro _ _ _ ⟨rfl, rfl, rfl⟩
    simp only [List.cons_append, List.nil_append]
    refine j_run it 1 rfl (by simp) ?_
    refine j_nf [.o [1, 0, 1, 0] 0, .c [1, 0, 1, 1], .c [1, 1]] rfl ?_
    refine j_run it 2 rfl (by simp) ?_
    refine j_nf [.c [1, 0, 1, 1], .c [1, 1]] rfl ?_
    refine j_ifn rfl rfl (fun h1 => ?_) (fun h1 => by exfalso; omega)
    refine j_nf [.o [1, 0, 1, 1, 0, 0] 0, .c [1, 0, 1, 1, 0, 1], .c [1, 1]] rfl ?_
    refine j_step rfl (x_build (cs := [Value.bool false, Value.slice none 0 0, Value.slice none 0 0]) st44 zo44 rfl rfl ?_)
    refine j_run it 1 rfl (by simp) ?_
    refine j_step rfl (x_bst_all 0 rfl rfl rfl ld44 rfl rfl (by simp [Value.oneCell']) ?_)
    refine j_run it 1 rfl (by simp) ?_
    refine j_nf [.c [1, 0, 1, 1, 0, 1], .c [1, 1]] rfl ?_
    refine j_add (slF U32 none 0 0 []) (fun w A _ => slF_nil _ _ _ _ _) ?_
    refine j_givC [0, 0] rfl (.agg 0 rfl rfl ld44 rfl (.tmp rfl .nil)) rfl ⟨_, _, _, _, rfl, rfl, rfl⟩

theorem zeros_ok {K : Nat} (n : Nat) : ∀ r ∈ List.replicate n (default : Rt), okR K r := fun r hr => by
  rw [(List.mem_replicate.1 hr).2]
  exact ⟨(fun x h => by cases h), (fun x h => by cases h), Nat.zero_le _, Nat.zero_le _⟩
theorem dot_lens {K : Nat} (hK : 1 ≤ K) (hK2 : K ≤ 100000) {a b : List Rt} (ha : ∀ r ∈ a, okR K r) (hb : ∀ r ∈ b, okR K r) (hn : a.length ≤ 80) : (rt (dotR a b)).2.1.length ≤ 33554432 ∧ (rt (dotR a b)).2.2.length ≤ 33554432 :=
  bd_len (bd_mono (dotR_bd hK ha hb) (by
    have := Nat.mul_le_mul (show 2 * K + 1 ≤ 200001 by omega) hn
    omega))

theorem S_simplex_Accept {p1 p2 p3 q1 q2 q3 : Option Addr} {n1 n2 n3 m1 m2 m3 c1 c2 c3 d1 d2 d3 K : Nat} {kind : Int} {C B X Y R : List Rt} {M : List (List Rt)} (hK : 1 ≤ K) (hK2 : K ≤ 100000) (hC : ∀ r ∈ C, okR K r) (hM : ∀ row ∈ M, ∀ r ∈ row, okR K r) (hB : ∀ r ∈ B, okR K r) (hX : ∀ r ∈ X, okR K r) (hY : ∀ r ∈ Y, okR K r) (hR : ∀ r ∈ R, okR K r) {ve : Int} (hve : accE kind C M B X Y R = ve) :
    Ctr Try.prog 19 [.agg #[.slice p1 n1 c1, .slice p2 n2 c2, .slice p3 n3 c3], .agg #[.int .i64 kind, .slice q1 m1 d1, .slice q2 m2 d2, .slice q3 m3 d3]] [] [slF RatE p1 n1 c1 C, slF (encSl RatE) p2 n2 c2 M, slF RatE p3 n3 c3 B, slF RatE q1 m1 d1 X, slF RatE q2 m2 d2 Y, slF RatE q3 m3 d3 R] (Rv (.int .i64 ve) []) := by
  subst hve
  refine Ctr_of_j' (F := F_simplex_Accept) rfl fun Cx => ?_
  refine j_len 0 rfl fun e1 _ _ => ?_
  refine j_len 1 rfl fun e2 _ _ => ?_
  refine j_len 2 rfl fun e3 _ _ => ?_
  refine j_len 3 rfl fun e4 _ _ => ?_
  refine j_len 4 rfl fun e5 _ _ => ?_
  refine j_len 5 rfl fun e6 _ _ => ?_
  subst e1; subst e2; subst e3; subst e4; subst e5; subst e6
  by_cases h : checkOf (C, M, B) = 0
  · obtain ⟨lC, lM, hMB, hrow⟩ := check_zero h
    have hM' : ∀ row ∈ M, row.length = C.length ∧ ∀ r ∈ row, okR K r := fun row hr => ⟨hrow row hr, hM row hr⟩
    have no : accB kind C M B X Y R = false → accE kind C M B X Y R = 13 := fun e => by rw [accE, if_pos h, e]; rfl
    have yes : accB kind C M B X Y R = true → accE kind C M B X Y R = 0 := fun e => by rw [accE, if_pos h, e]; rfl
    by_cases k0 : kind = 0
    · subst k0
      by_cases hr : R.length = 0
      · cases hf : feasB C.length M B X with
        | false =>
          rw [no (by simp only [accB, hf, if_pos]; simp)]
          refine j_nf [.o [0] 0, .c [1]] rfl ?_
          refine j_step rfl (x_box_agg rfl fun b1 => ?_)
          refine j_step rfl (x_box_agg rfl fun b2 => ?_)
          refine j_run it 1 rfl (by simp) ?_
          refine j_nf [.o [1, 0, 0] 0, .c [1, 0, 1], .c [1, 1]] rfl ?_
          refine j_step rfl (x_bld_all 1 rfl rfl ld34 rfl ?_)
          refine j_step rfl (x_call [0, 1, 2] rfl (S_simplex_Check) rfl ?_)
          rintro _ _ _ ⟨rfl, rfl, rfl⟩
          simp only [List.cons_append, List.nil_append]
          refine j_run it 1 rfl (by simp) ?_
          refine j_nf [.o [1, 0, 1, 0] 0, .c [1, 0, 1, 1], .c [1, 1]] rfl ?_
          refine j_run it 2 rfl (by simp) ?_
          refine j_nf [.c [1, 0, 1, 1], .c [1, 1]] rfl ?_
          refine j_ifn rfl rfl (fun h1 => by exfalso; omega) (fun h1 => ?_)
          refine j_nf [.o [1, 1, 0] 0, .c [1, 1, 1]] rfl ?_
          refine j_run it 1 rfl (by simp) ?_
          refine j_nf [.o [1, 1, 1, 0, 0] 0, .c [1, 1, 1, 0, 1], .c [1, 1, 1, 1]] rfl ?_
          refine j_step rfl (x_field rfl fd36_0 ?_)
          refine j_step rfl (x_bld 0 rfl rfl ld3 rfl ?_)
          refine j_nf [.o [1, 1, 1, 0, 1, 0, 0] 0, .c [1, 1, 1, 0, 1, 0, 1], .blk 0, .c [1, 1, 1, 1]] rfl ?_
          refine j_run it 2 rfl (by simp) ?_
          refine j_nf [.c [1, 1, 1, 0, 1, 0, 1], .blk 0, .c [1, 1, 1, 1]] rfl ?_
          refine j_if rfl rfl (fun h2 => ?_) (fun h2 => by exfalso; omega)
          (apply j_drawK it mx 32; (· rfl); (· rfl))
          (apply lxk_eq; (· rfl); (· exact d_x fun _ => x_field rfl fd36_3 dk_eq))
          (apply lxk_eq; (· rfl); (· exact d_bld 0 rfl rfl ld31 rfl))
          (apply lxk_eq; (· rfl); (· exact d_x fun _ => x_len sl31 rfl dk_eq))
          (apply lxk_eq; (· rfl); (· exact d_x fun _ => x_true it rfl (by trivial) (by omega) dk_eq))
          (apply lxk_run 1; (· rfl); (· simp))
          (apply lxk_eq; (· rfl); (· exact d_bld_all 1 rfl rfl ld34 rfl))
          (apply lxk_eq; (· rfl); (· exact d_x fun _ => x_field rfl fd36_1 dk_eq))
          (apply lxk_eq; (· rfl); (· exact d_bld 0 rfl rfl ld31 rfl))
          (apply lxk_eq; (· rfl); (· exact d_x fun _ => x_call [1, 2, 3] rfl (S_simplex_feasible (by first | omega | exact side _ (by assumption) | assumption | rfl | (simp; done) | (simp; omega)) (by first | omega | exact side _ (by assumption) | assumption | rfl | (simp; done) | (simp; omega)) (by first | omega | exact side _ (by assumption) | assumption | rfl | (simp; done) | (simp; omega)) (by first | omega | exact side _ (by assumption) | assumption | rfl | (simp; done) | (simp; omega)) (by first | omega | exact side _ (by assumption) | assumption | rfl | (simp; done) | (simp; omega)) (by first | omega | exact side _ (by assumption) | assumption | rfl | (simp; done) | (simp; omega)) (by first | omega | exact side _ (by assumption) | assumption | rfl | (simp; done) | (simp; omega)) (by first | omega | exact side _ (by assumption) | assumption | rfl | (simp; done) | (simp; omega)) (by first | omega | exact side _ (by assumption) | assumption | rfl | (simp; done) | (simp; omega))) rfl (by rintro _ _ _ ⟨rfl, rfl, rfl⟩; exact dk_eq)))
          (apply lxk_run 21; (· rfl); (· simp))
          (apply lxk_run 2; (· rfl); (· simp))
          refine lxk_end rfl ?_
          simp only [List.map_cons, List.map_nil, List.cons_append, List.nil_append]
          refine j_run it 1 rfl (by simp) ?_
          refine j_nf [.o [1, 1, 1, 1, 0, 0] 0, .c [1, 1, 1, 1, 0, 1], .c [1, 1, 1, 1, 1]] rfl ?_
          refine j_run it 2 rfl (by simp) ?_
          refine j_nf [.c [1, 1, 1, 1, 0, 1], .c [1, 1, 1, 1, 1]] rfl ?_
          refine j_true rfl rfl ?_
          refine j_nf [.o [1, 1, 1, 1, 0, 1, 0, 0] 0, .c [1, 1, 1, 1, 0, 1, 0, 1], .c [1, 1, 1, 1, 1]] rfl ?_
          refine j_run it 1 rfl (by simp) ?_
          refine j_nf [.c [1, 1, 1, 1, 0, 1, 0, 1], .c [1, 1, 1, 1, 1]] rfl ?_
          refine j_giv [] rfl rfl rfl ⟨rfl, rfl, rfl⟩
        | true =>
          have hXl : X.length = C.length := by simp only [feasB, Bool.and_eq_true, decide_eq_true_eq] at hf; exact hf.1.1
          cases hv : covB C.length M Y C with
          | false =>
            rw [no (by simp only [accB, hv, if_pos]; simp)]
            refine j_nf [.o [0] 0, .c [1]] rfl ?_
            refine j_step rfl (x_box_agg rfl fun b1 => ?_)
            refine j_step rfl (x_box_agg rfl fun b2 => ?_)
            refine j_run it 1 rfl (by simp) ?_
            refine j_nf [.o [1, 0, 0] 0, .c [1, 0, 1], .c [1, 1]] rfl ?_
            refine j_step rfl (x_bld_all 1 rfl rfl ld34 rfl ?_)
            refine j_step rfl (x_call [0, 1, 2] rfl (S_simplex_Check) rfl ?_)
            rintro _ _ _ ⟨rfl, rfl, rfl⟩
            simp only [List.cons_append, List.nil_append]
            refine j_run it 1 rfl (by simp) ?_
            refine j_nf [.o [1, 0, 1, 0] 0, .c [1, 0, 1, 1], .c [1, 1]] rfl ?_
            refine j_run it 2 rfl (by simp) ?_
            refine j_nf [.c [1, 0, 1, 1], .c [1, 1]] rfl ?_
            refine j_ifn rfl rfl (fun h1 => by exfalso; omega) (fun h1 => ?_)
            refine j_nf [.o [1, 1, 0] 0, .c [1, 1, 1]] rfl ?_
            refine j_run it 1 rfl (by simp) ?_
            refine j_nf [.o [1, 1, 1, 0, 0] 0, .c [1, 1, 1, 0, 1], .c [1, 1, 1, 1]] rfl ?_
            refine j_step rfl (x_field rfl fd36_0 ?_)
            refine j_step rfl (x_bld 0 rfl rfl ld3 rfl ?_)
            refine j_nf [.o [1, 1, 1, 0, 1, 0, 0] 0, .c [1, 1, 1, 0, 1, 0, 1], .blk 0, .c [1, 1, 1, 1]] rfl ?_
            refine j_run it 2 rfl (by simp) ?_
            refine j_nf [.c [1, 1, 1, 0, 1, 0, 1], .blk 0, .c [1, 1, 1, 1]] rfl ?_
            refine j_if rfl rfl (fun h2 => ?_) (fun h2 => by exfalso; omega)
            (apply j_drawK it mx 32; (· rfl); (· rfl))
            (apply lxk_eq; (· rfl); (· exact d_x fun _ => x_field rfl fd36_3 dk_eq))
            (apply lxk_eq; (· rfl); (· exact d_bld 0 rfl rfl ld31 rfl))
            (apply lxk_eq; (· rfl); (· exact d_x fun _ => x_len sl31 rfl dk_eq))
            (apply lxk_eq; (· rfl); (· exact d_x fun _ => x_true it rfl (by trivial) (by omega) dk_eq))
            (apply lxk_run 1; (· rfl); (· simp))
            (apply lxk_eq; (· rfl); (· exact d_bld_all 1 rfl rfl ld34 rfl))
            (apply lxk_eq; (· rfl); (· exact d_x fun _ => x_field rfl fd36_1 dk_eq))
            (apply lxk_eq; (· rfl); (· exact d_bld 0 rfl rfl ld31 rfl))
            (apply lxk_eq; (· rfl); (· exact d_x fun _ => x_call [1, 2, 3] rfl (S_simplex_feasible (by first | omega | exact side _ (by assumption) | assumption | rfl | (simp; done) | (simp; omega)) (by first | omega | exact side _ (by assumption) | assumption | rfl | (simp; done) | (simp; omega)) (by first | omega | exact side _ (by assumption) | assumption | rfl | (simp; done) | (simp; omega)) (by first | omega | exact side _ (by assumption) | assumption | rfl | (simp; done) | (simp; omega)) (by first | omega | exact side _ (by assumption) | assumption | rfl | (simp; done) | (simp; omega)) (by first | omega | exact side _ (by assumption) | assumption | rfl | (simp; done) | (simp; omega)) (by first | omega | exact side _ (by assumption) | assumption | rfl | (simp; done) | (simp; omega)) (by first | omega | exact side _ (by assumption) | assumption | rfl | (simp; done) | (simp; omega)) (by first | omega | exact side _ (by assumption) | assumption | rfl | (simp; done) | (simp; omega))) rfl (by rintro _ _ _ ⟨rfl, rfl, rfl⟩; exact dk_eq)))
            (apply lxk_run 2; (· rfl); (· simp))
            (apply lxk_eq; (· rfl); (· exact d_bld_all 1 rfl rfl ld34 rfl))
            (apply lxk_eq; (· rfl); (· exact d_x fun _ => x_field rfl fd36_2 dk_eq))
            (apply lxk_eq; (· rfl); (· exact d_bld 0 rfl rfl ld31 rfl))
            (apply lxk_eq; (· rfl); (· exact d_x fun _ => x_field rfl fd34_0 dk_eq))
            (apply lxk_eq; (· rfl); (· exact d_bld 1 rfl rfl ld31 rfl))
            (apply lxk_eq; (· rfl); (· exact d_x fun _ => x_call [1, 4, 0] rfl (S_simplex_covers (by first | omega | exact side _ (by assumption) | assumption | rfl | (simp; done) | (simp; omega)) (by first | omega | exact side _ (by assumption) | assumption | rfl | (simp; done) | (simp; omega)) (by first | omega | exact side _ (by assumption) | assumption | rfl | (simp; done) | (simp; omega)) (by first | omega | exact side _ (by assumption) | assumption | rfl | (simp; done) | (simp; omega)) (by first | omega | exact side _ (by assumption) | assumption | rfl | (simp; done) | (simp; omega)) (by first | omega | exact side _ (by assumption) | assumption | rfl | (simp; done) | (simp; omega)) (by first | omega | exact side _ (by assumption) | assumption | rfl | (simp; done) | (simp; omega)) (by first | omega | exact side _ (by assumption) | assumption | rfl | (simp; done) | (simp; omega)) (by first | omega | exact side _ (by assumption) | assumption | rfl | (simp; done) | (simp; omega))) rfl (by rintro _ _ _ ⟨rfl, rfl, rfl⟩; exact dk_eq)))
            (apply lxk_run 13; (· rfl); (· simp))
            (apply lxk_run 2; (· rfl); (· simp))
            refine lxk_end rfl ?_
            simp only [List.map_cons, List.map_nil, List.cons_append, List.nil_append]
            refine j_run it 1 rfl (by simp) ?_
            refine j_nf [.o [1, 1, 1, 1, 0, 0] 0, .c [1, 1, 1, 1, 0, 1], .c [1, 1, 1, 1, 1]] rfl ?_
            refine j_run it 2 rfl (by simp) ?_
            refine j_nf [.c [1, 1, 1, 1, 0, 1], .c [1, 1, 1, 1, 1]] rfl ?_
            refine j_true rfl rfl ?_
            refine j_nf [.o [1, 1, 1, 1, 0, 1, 0, 0] 0, .c [1, 1, 1, 1, 0, 1, 0, 1], .c [1, 1, 1, 1, 1]] rfl ?_
            refine j_run it 1 rfl (by simp) ?_
            refine j_nf [.c [1, 1, 1, 1, 0, 1, 0, 1], .c [1, 1, 1, 1, 1]] rfl ?_
            refine j_giv [] rfl rfl rfl ⟨rfl, rfl, rfl⟩
          | true =>
            have hYl : Y.length = M.length := by simp only [covB, Bool.and_eq_true, decide_eq_true_eq] at hv; exact hv.1.1
            obtain ⟨w1, w2⟩ := dot_lens hK hK2 hC hX lC
            obtain ⟨w3, w4⟩ := dot_lens hK hK2 hB hY (by omega)
            by_cases hd : dotR C X = dotR B Y
            · have hs := cmp_zero.2 hd
              rw [yes (by simp only [accB, hv, hf, if_pos]; simp [hr, hd])]
              refine j_nf [.o [0] 0, .c [1]] rfl ?_
              refine j_step rfl (x_box_agg rfl fun b1 => ?_)
              refine j_step rfl (x_box_agg rfl fun b2 => ?_)
              refine j_run it 1 rfl (by simp) ?_
              refine j_nf [.o [1, 0, 0] 0, .c [1, 0, 1], .c [1, 1]] rfl ?_
              refine j_step rfl (x_bld_all 1 rfl rfl ld34 rfl ?_)
              refine j_step rfl (x_call [0, 1, 2] rfl (S_simplex_Check) rfl ?_)
              rintro _ _ _ ⟨rfl, rfl, rfl⟩
              simp only [List.cons_append, List.nil_append]
              refine j_run it 1 rfl (by simp) ?_
              refine j_nf [.o [1, 0, 1, 0] 0, .c [1, 0, 1, 1], .c [1, 1]] rfl ?_
              refine j_run it 2 rfl (by simp) ?_
              refine j_nf [.c [1, 0, 1, 1], .c [1, 1]] rfl ?_
              refine j_ifn rfl rfl (fun h1 => by exfalso; omega) (fun h1 => ?_)
              refine j_nf [.o [1, 1, 0] 0, .c [1, 1, 1]] rfl ?_
              refine j_run it 1 rfl (by simp) ?_
              refine j_nf [.o [1, 1, 1, 0, 0] 0, .c [1, 1, 1, 0, 1], .c [1, 1, 1, 1]] rfl ?_
              refine j_step rfl (x_field rfl fd36_0 ?_)
              refine j_step rfl (x_bld 0 rfl rfl ld3 rfl ?_)
              refine j_nf [.o [1, 1, 1, 0, 1, 0, 0] 0, .c [1, 1, 1, 0, 1, 0, 1], .blk 0, .c [1, 1, 1, 1]] rfl ?_
              refine j_run it 2 rfl (by simp) ?_
              refine j_nf [.c [1, 1, 1, 0, 1, 0, 1], .blk 0, .c [1, 1, 1, 1]] rfl ?_
              refine j_if rfl rfl (fun h2 => ?_) (fun h2 => by exfalso; omega)
              (apply j_drawK it mx 32; (· rfl); (· rfl))
              (apply lxk_eq; (· rfl); (· exact d_x fun _ => x_field rfl fd36_3 dk_eq))
              (apply lxk_eq; (· rfl); (· exact d_bld 0 rfl rfl ld31 rfl))
              (apply lxk_eq; (· rfl); (· exact d_x fun _ => x_len sl31 rfl dk_eq))
              (apply lxk_eq; (· rfl); (· exact d_x fun _ => x_true it rfl (by trivial) (by omega) dk_eq))
              (apply lxk_run 1; (· rfl); (· simp))
              (apply lxk_eq; (· rfl); (· exact d_bld_all 1 rfl rfl ld34 rfl))
              (apply lxk_eq; (· rfl); (· exact d_x fun _ => x_field rfl fd36_1 dk_eq))
              (apply lxk_eq; (· rfl); (· exact d_bld 0 rfl rfl ld31 rfl))
              (apply lxk_eq; (· rfl); (· exact d_x fun _ => x_call [1, 2, 3] rfl (S_simplex_feasible (by first | omega | exact side _ (by assumption) | assumption | rfl | (simp; done) | (simp; omega)) (by first | omega | exact side _ (by assumption) | assumption | rfl | (simp; done) | (simp; omega)) (by first | omega | exact side _ (by assumption) | assumption | rfl | (simp; done) | (simp; omega)) (by first | omega | exact side _ (by assumption) | assumption | rfl | (simp; done) | (simp; omega)) (by first | omega | exact side _ (by assumption) | assumption | rfl | (simp; done) | (simp; omega)) (by first | omega | exact side _ (by assumption) | assumption | rfl | (simp; done) | (simp; omega)) (by first | omega | exact side _ (by assumption) | assumption | rfl | (simp; done) | (simp; omega)) (by first | omega | exact side _ (by assumption) | assumption | rfl | (simp; done) | (simp; omega)) (by first | omega | exact side _ (by assumption) | assumption | rfl | (simp; done) | (simp; omega))) rfl (by rintro _ _ _ ⟨rfl, rfl, rfl⟩; exact dk_eq)))
              (apply lxk_run 2; (· rfl); (· simp))
              (apply lxk_eq; (· rfl); (· exact d_bld_all 1 rfl rfl ld34 rfl))
              (apply lxk_eq; (· rfl); (· exact d_x fun _ => x_field rfl fd36_2 dk_eq))
              (apply lxk_eq; (· rfl); (· exact d_bld 0 rfl rfl ld31 rfl))
              (apply lxk_eq; (· rfl); (· exact d_x fun _ => x_field rfl fd34_0 dk_eq))
              (apply lxk_eq; (· rfl); (· exact d_bld 1 rfl rfl ld31 rfl))
              (apply lxk_eq; (· rfl); (· exact d_x fun _ => x_call [1, 4, 0] rfl (S_simplex_covers (by first | omega | exact side _ (by assumption) | assumption | rfl | (simp; done) | (simp; omega)) (by first | omega | exact side _ (by assumption) | assumption | rfl | (simp; done) | (simp; omega)) (by first | omega | exact side _ (by assumption) | assumption | rfl | (simp; done) | (simp; omega)) (by first | omega | exact side _ (by assumption) | assumption | rfl | (simp; done) | (simp; omega)) (by first | omega | exact side _ (by assumption) | assumption | rfl | (simp; done) | (simp; omega)) (by first | omega | exact side _ (by assumption) | assumption | rfl | (simp; done) | (simp; omega)) (by first | omega | exact side _ (by assumption) | assumption | rfl | (simp; done) | (simp; omega)) (by first | omega | exact side _ (by assumption) | assumption | rfl | (simp; done) | (simp; omega)) (by first | omega | exact side _ (by assumption) | assumption | rfl | (simp; done) | (simp; omega))) rfl (by rintro _ _ _ ⟨rfl, rfl, rfl⟩; exact dk_eq)))
              (apply lxk_run 2; (· rfl); (· simp))
              (apply lxk_eq; (· rfl); (· exact d_x fun _ => x_field rfl fd34_0 dk_eq))
              (apply lxk_eq; (· rfl); (· exact d_bld 1 rfl rfl ld31 rfl))
              (apply lxk_eq; (· rfl); (· exact d_x fun _ => x_field rfl fd36_1 dk_eq))
              (apply lxk_eq; (· rfl); (· exact d_bld 0 rfl rfl ld31 rfl))
              (apply lxk_rq; (· rfl); (· exact d_x fun _ => x_call [0, 3] rfl (S_simplex_product (by first | omega | exact side _ (by assumption) | assumption | rfl | (simp; done) | (simp; omega)) (by first | omega | exact side _ (by assumption) | assumption | rfl | (simp; done) | (simp; omega)) (by first | omega | exact side _ (by assumption) | assumption | rfl | (simp; done) | (simp; omega)) (by first | omega | exact side _ (by assumption) | assumption | rfl | (simp; done) | (simp; omega)) (by first | omega | exact side _ (by assumption) | assumption | rfl | (simp; done) | (simp; omega)) (by first | omega | exact side _ (by assumption) | assumption | rfl | (simp; done) | (simp; omega))) rfl (by rintro _ _ _ ⟨pn1, cn1, pd1, cd1, rfl, rfl, rfl⟩; exact (dk_rq 0 1 rfl rfl))); intro pn1 cn1 pd1 cd1)
              (apply lxk_eq; (· rfl); (· exact d_x fun _ => x_field rfl fd34_2 dk_eq))
              (apply lxk_eq; (· rfl); (· exact d_bld 1 rfl rfl ld31 rfl))
              (apply lxk_eq; (· rfl); (· exact d_x fun _ => x_field rfl fd36_2 dk_eq))
              (apply lxk_eq; (· rfl); (· exact d_bld 0 rfl rfl ld31 rfl))
              (apply lxk_rq; (· rfl); (· exact d_x fun _ => x_call [4, 6] rfl (S_simplex_product (by first | omega | exact side _ (by assumption) | assumption | rfl | (simp; done) | (simp; omega)) (by first | omega | exact side _ (by assumption) | assumption | rfl | (simp; done) | (simp; omega)) (by first | omega | exact side _ (by assumption) | assumption | rfl | (simp; done) | (simp; omega)) (by first | omega | exact side _ (by assumption) | assumption | rfl | (simp; done) | (simp; omega)) (by first | omega | exact side _ (by assumption) | assumption | rfl | (simp; done) | (simp; omega)) (by first | omega | exact side _ (by assumption) | assumption | rfl | (simp; done) | (simp; omega))) rfl (by rintro _ _ _ ⟨pn2, cn2, pd2, cd2, rfl, rfl, rfl⟩; exact (dk_rq 0 1 rfl rfl))); intro pn2 cn2 pd2 cd2)
              (apply lxk_eq; (· rfl); (· exact d_x fun _ => x_call [2, 3, 0, 1] rfl (S_rational_Cmp (by first | omega | exact side _ (by assumption) | assumption | rfl | (simp; done) | (simp; omega)) (by first | omega | exact side _ (by assumption) | assumption | rfl | (simp; done) | (simp; omega)) (by first | omega | exact side _ (by assumption) | assumption | rfl | (simp; done) | (simp; omega)) (by first | omega | exact side _ (by assumption) | assumption | rfl | (simp; done) | (simp; omega))) rfl (by rintro _ _ _ ⟨rfl, rfl, rfl⟩; exact dk_eq)))
              simp only [vq_rt']
              (apply lxk_eq; (· rfl); (· exact d_x fun _ => x_true it rfl (by trivial) (by omega) dk_eq))
              (apply lxk_run 1; (· rfl); (· simp))
              refine lxk_end rfl ?_
              simp only [List.map_cons, List.map_nil, List.cons_append, List.nil_append]
              refine j_run it 1 rfl (by simp) ?_
              refine j_nf [.o [1, 1, 1, 1, 0, 0] 0, .c [1, 1, 1, 1, 0, 1], .c [1, 1, 1, 1, 1]] rfl ?_
              refine j_run it 2 rfl (by simp) ?_
              refine j_nf [.c [1, 1, 1, 1, 0, 1], .c [1, 1, 1, 1, 1]] rfl ?_
              refine j_false rfl rfl ?_
              refine j_nf [.o [1, 1, 1, 1, 1, 0] 0, .c [1, 1, 1, 1, 1, 1]] rfl ?_
              refine j_run it 1 rfl (by simp) ?_
              refine j_nf [.c [1, 1, 1, 1, 1, 1]] rfl ?_
              refine j_giv [] rfl rfl rfl ⟨rfl, rfl, rfl⟩
            · have hs : ¬ (dotR C X - dotR B Y).num.sign = 0 := fun e => hd (cmp_zero.1 e)
              rw [no (by simp only [accB, hv, hf, if_pos]; simp [hd])]
              refine j_nf [.o [0] 0, .c [1]] rfl ?_
              refine j_step rfl (x_box_agg rfl fun b1 => ?_)
              refine j_step rfl (x_box_agg rfl fun b2 => ?_)
              refine j_run it 1 rfl (by simp) ?_
              refine j_nf [.o [1, 0, 0] 0, .c [1, 0, 1], .c [1, 1]] rfl ?_
              refine j_step rfl (x_bld_all 1 rfl rfl ld34 rfl ?_)
              refine j_step rfl (x_call [0, 1, 2] rfl (S_simplex_Check) rfl ?_)
              rintro _ _ _ ⟨rfl, rfl, rfl⟩
              simp only [List.cons_append, List.nil_append]
              refine j_run it 1 rfl (by simp) ?_
              refine j_nf [.o [1, 0, 1, 0] 0, .c [1, 0, 1, 1], .c [1, 1]] rfl ?_
              refine j_run it 2 rfl (by simp) ?_
              refine j_nf [.c [1, 0, 1, 1], .c [1, 1]] rfl ?_
              refine j_ifn rfl rfl (fun h1 => by exfalso; omega) (fun h1 => ?_)
              refine j_nf [.o [1, 1, 0] 0, .c [1, 1, 1]] rfl ?_
              refine j_run it 1 rfl (by simp) ?_
              refine j_nf [.o [1, 1, 1, 0, 0] 0, .c [1, 1, 1, 0, 1], .c [1, 1, 1, 1]] rfl ?_
              refine j_step rfl (x_field rfl fd36_0 ?_)
              refine j_step rfl (x_bld 0 rfl rfl ld3 rfl ?_)
              refine j_nf [.o [1, 1, 1, 0, 1, 0, 0] 0, .c [1, 1, 1, 0, 1, 0, 1], .blk 0, .c [1, 1, 1, 1]] rfl ?_
              refine j_run it 2 rfl (by simp) ?_
              refine j_nf [.c [1, 1, 1, 0, 1, 0, 1], .blk 0, .c [1, 1, 1, 1]] rfl ?_
              refine j_if rfl rfl (fun h2 => ?_) (fun h2 => by exfalso; omega)
              (apply j_drawK it mx 32; (· rfl); (· rfl))
              (apply lxk_eq; (· rfl); (· exact d_x fun _ => x_field rfl fd36_3 dk_eq))
              (apply lxk_eq; (· rfl); (· exact d_bld 0 rfl rfl ld31 rfl))
              (apply lxk_eq; (· rfl); (· exact d_x fun _ => x_len sl31 rfl dk_eq))
              (apply lxk_eq; (· rfl); (· exact d_x fun _ => x_true it rfl (by trivial) (by omega) dk_eq))
              (apply lxk_run 1; (· rfl); (· simp))
              (apply lxk_eq; (· rfl); (· exact d_bld_all 1 rfl rfl ld34 rfl))
              (apply lxk_eq; (· rfl); (· exact d_x fun _ => x_field rfl fd36_1 dk_eq))
              (apply lxk_eq; (· rfl); (· exact d_bld 0 rfl rfl ld31 rfl))
              (apply lxk_eq; (· rfl); (· exact d_x fun _ => x_call [1, 2, 3] rfl (S_simplex_feasible (by first | omega | exact side _ (by assumption) | assumption | rfl | (simp; done) | (simp; omega)) (by first | omega | exact side _ (by assumption) | assumption | rfl | (simp; done) | (simp; omega)) (by first | omega | exact side _ (by assumption) | assumption | rfl | (simp; done) | (simp; omega)) (by first | omega | exact side _ (by assumption) | assumption | rfl | (simp; done) | (simp; omega)) (by first | omega | exact side _ (by assumption) | assumption | rfl | (simp; done) | (simp; omega)) (by first | omega | exact side _ (by assumption) | assumption | rfl | (simp; done) | (simp; omega)) (by first | omega | exact side _ (by assumption) | assumption | rfl | (simp; done) | (simp; omega)) (by first | omega | exact side _ (by assumption) | assumption | rfl | (simp; done) | (simp; omega)) (by first | omega | exact side _ (by assumption) | assumption | rfl | (simp; done) | (simp; omega))) rfl (by rintro _ _ _ ⟨rfl, rfl, rfl⟩; exact dk_eq)))
              (apply lxk_run 2; (· rfl); (· simp))
              (apply lxk_eq; (· rfl); (· exact d_bld_all 1 rfl rfl ld34 rfl))
              (apply lxk_eq; (· rfl); (· exact d_x fun _ => x_field rfl fd36_2 dk_eq))
              (apply lxk_eq; (· rfl); (· exact d_bld 0 rfl rfl ld31 rfl))
              (apply lxk_eq; (· rfl); (· exact d_x fun _ => x_field rfl fd34_0 dk_eq))
              (apply lxk_eq; (· rfl); (· exact d_bld 1 rfl rfl ld31 rfl))
              (apply lxk_eq; (· rfl); (· exact d_x fun _ => x_call [1, 4, 0] rfl (S_simplex_covers (by first | omega | exact side _ (by assumption) | assumption | rfl | (simp; done) | (simp; omega)) (by first | omega | exact side _ (by assumption) | assumption | rfl | (simp; done) | (simp; omega)) (by first | omega | exact side _ (by assumption) | assumption | rfl | (simp; done) | (simp; omega)) (by first | omega | exact side _ (by assumption) | assumption | rfl | (simp; done) | (simp; omega)) (by first | omega | exact side _ (by assumption) | assumption | rfl | (simp; done) | (simp; omega)) (by first | omega | exact side _ (by assumption) | assumption | rfl | (simp; done) | (simp; omega)) (by first | omega | exact side _ (by assumption) | assumption | rfl | (simp; done) | (simp; omega)) (by first | omega | exact side _ (by assumption) | assumption | rfl | (simp; done) | (simp; omega)) (by first | omega | exact side _ (by assumption) | assumption | rfl | (simp; done) | (simp; omega))) rfl (by rintro _ _ _ ⟨rfl, rfl, rfl⟩; exact dk_eq)))
              (apply lxk_run 2; (· rfl); (· simp))
              (apply lxk_eq; (· rfl); (· exact d_x fun _ => x_field rfl fd34_0 dk_eq))
              (apply lxk_eq; (· rfl); (· exact d_bld 1 rfl rfl ld31 rfl))
              (apply lxk_eq; (· rfl); (· exact d_x fun _ => x_field rfl fd36_1 dk_eq))
              (apply lxk_eq; (· rfl); (· exact d_bld 0 rfl rfl ld31 rfl))
              (apply lxk_rq; (· rfl); (· exact d_x fun _ => x_call [0, 3] rfl (S_simplex_product (by first | omega | exact side _ (by assumption) | assumption | rfl | (simp; done) | (simp; omega)) (by first | omega | exact side _ (by assumption) | assumption | rfl | (simp; done) | (simp; omega)) (by first | omega | exact side _ (by assumption) | assumption | rfl | (simp; done) | (simp; omega)) (by first | omega | exact side _ (by assumption) | assumption | rfl | (simp; done) | (simp; omega)) (by first | omega | exact side _ (by assumption) | assumption | rfl | (simp; done) | (simp; omega)) (by first | omega | exact side _ (by assumption) | assumption | rfl | (simp; done) | (simp; omega))) rfl (by rintro _ _ _ ⟨pn1, cn1, pd1, cd1, rfl, rfl, rfl⟩; exact (dk_rq 0 1 rfl rfl))); intro pn1 cn1 pd1 cd1)
              (apply lxk_eq; (· rfl); (· exact d_x fun _ => x_field rfl fd34_2 dk_eq))
              (apply lxk_eq; (· rfl); (· exact d_bld 1 rfl rfl ld31 rfl))
              (apply lxk_eq; (· rfl); (· exact d_x fun _ => x_field rfl fd36_2 dk_eq))
              (apply lxk_eq; (· rfl); (· exact d_bld 0 rfl rfl ld31 rfl))
              (apply lxk_rq; (· rfl); (· exact d_x fun _ => x_call [4, 6] rfl (S_simplex_product (by first | omega | exact side _ (by assumption) | assumption | rfl | (simp; done) | (simp; omega)) (by first | omega | exact side _ (by assumption) | assumption | rfl | (simp; done) | (simp; omega)) (by first | omega | exact side _ (by assumption) | assumption | rfl | (simp; done) | (simp; omega)) (by first | omega | exact side _ (by assumption) | assumption | rfl | (simp; done) | (simp; omega)) (by first | omega | exact side _ (by assumption) | assumption | rfl | (simp; done) | (simp; omega)) (by first | omega | exact side _ (by assumption) | assumption | rfl | (simp; done) | (simp; omega))) rfl (by rintro _ _ _ ⟨pn2, cn2, pd2, cd2, rfl, rfl, rfl⟩; exact (dk_rq 0 1 rfl rfl))); intro pn2 cn2 pd2 cd2)
              (apply lxk_eq; (· rfl); (· exact d_x fun _ => x_call [2, 3, 0, 1] rfl (S_rational_Cmp (by first | omega | exact side _ (by assumption) | assumption | rfl | (simp; done) | (simp; omega)) (by first | omega | exact side _ (by assumption) | assumption | rfl | (simp; done) | (simp; omega)) (by first | omega | exact side _ (by assumption) | assumption | rfl | (simp; done) | (simp; omega)) (by first | omega | exact side _ (by assumption) | assumption | rfl | (simp; done) | (simp; omega))) rfl (by rintro _ _ _ ⟨rfl, rfl, rfl⟩; exact dk_eq)))
              simp only [vq_rt']
              (apply lxk_eq; (· rfl); (· exact d_x fun _ => x_false it rfl (by trivial) (by omega) dk_eq))
              (apply lxk_run 1; (· rfl); (· simp))
              refine lxk_end rfl ?_
              simp only [List.map_cons, List.map_nil, List.cons_append, List.nil_append]
              refine j_run it 1 rfl (by simp) ?_
              refine j_nf [.o [1, 1, 1, 1, 0, 0] 0, .c [1, 1, 1, 1, 0, 1], .c [1, 1, 1, 1, 1]] rfl ?_
              refine j_run it 2 rfl (by simp) ?_
              refine j_nf [.c [1, 1, 1, 1, 0, 1], .c [1, 1, 1, 1, 1]] rfl ?_
              refine j_true rfl rfl ?_
              refine j_nf [.o [1, 1, 1, 1, 0, 1, 0, 0] 0, .c [1, 1, 1, 1, 0, 1, 0, 1], .c [1, 1, 1, 1, 1]] rfl ?_
              refine j_run it 1 rfl (by simp) ?_
              refine j_nf [.c [1, 1, 1, 1, 0, 1, 0, 1], .c [1, 1, 1, 1, 1]] rfl ?_
              refine j_giv [] rfl rfl rfl ⟨rfl, rfl, rfl⟩
      · rw [no (by simp only [accB, if_pos, decide_eq_false hr, Bool.false_and])]
        refine j_nf [.o [0] 0, .c [1]] rfl ?_
        refine j_step rfl (x_box_agg rfl fun b1 => ?_)
        refine j_step rfl (x_box_agg rfl fun b2 => ?_)
        refine j_run it 1 rfl (by simp) ?_
        refine j_nf [.o [1, 0, 0] 0, .c [1, 0, 1], .c [1, 1]] rfl ?_
        refine j_step rfl (x_bld_all 1 rfl rfl ld34 rfl ?_)
        refine j_step rfl (x_call [0, 1, 2] rfl (S_simplex_Check) rfl ?_)
        rintro _ _ _ ⟨rfl, rfl, rfl⟩
        simp only [List.cons_append, List.nil_append]
        refine j_run it 1 rfl (by simp) ?_
        refine j_nf [.o [1, 0, 1, 0] 0, .c [1, 0, 1, 1], .c [1, 1]] rfl ?_
        refine j_run it 2 rfl (by simp) ?_
        refine j_nf [.c [1, 0, 1, 1], .c [1, 1]] rfl ?_
        refine j_ifn rfl rfl (fun h1 => by exfalso; omega) (fun h1 => ?_)
        refine j_nf [.o [1, 1, 0] 0, .c [1, 1, 1]] rfl ?_
        refine j_run it 1 rfl (by simp) ?_
        refine j_nf [.o [1, 1, 1, 0, 0] 0, .c [1, 1, 1, 0, 1], .c [1, 1, 1, 1]] rfl ?_
        refine j_step rfl (x_field rfl fd36_0 ?_)
        refine j_step rfl (x_bld 0 rfl rfl ld3 rfl ?_)
        refine j_nf [.o [1, 1, 1, 0, 1, 0, 0] 0, .c [1, 1, 1, 0, 1, 0, 1], .blk 0, .c [1, 1, 1, 1]] rfl ?_
        refine j_run it 2 rfl (by simp) ?_
        refine j_nf [.c [1, 1, 1, 0, 1, 0, 1], .blk 0, .c [1, 1, 1, 1]] rfl ?_
        refine j_if rfl rfl (fun h2 => ?_) (fun h2 => by exfalso; omega)
        (apply j_drawK it mx 32; (· rfl); (· rfl))
        (apply lxk_eq; (· rfl); (· exact d_x fun _ => x_field rfl fd36_3 dk_eq))
        (apply lxk_eq; (· rfl); (· exact d_bld 0 rfl rfl ld31 rfl))
        (apply lxk_eq; (· rfl); (· exact d_x fun _ => x_len sl31 rfl dk_eq))
        (apply lxk_eq; (· rfl); (· exact d_x fun _ => x_false it rfl (by trivial) (by omega) dk_eq))
        (apply lxk_run 26; (· rfl); (· simp))
        (apply lxk_run 2; (· rfl); (· simp))
        refine lxk_end rfl ?_
        simp only [List.map_cons, List.map_nil, List.cons_append, List.nil_append]
        refine j_run it 1 rfl (by simp) ?_
        refine j_nf [.o [1, 1, 1, 1, 0, 0] 0, .c [1, 1, 1, 1, 0, 1], .c [1, 1, 1, 1, 1]] rfl ?_
        refine j_run it 2 rfl (by simp) ?_
        refine j_nf [.c [1, 1, 1, 1, 0, 1], .c [1, 1, 1, 1, 1]] rfl ?_
        refine j_true rfl rfl ?_
        refine j_nf [.o [1, 1, 1, 1, 0, 1, 0, 0] 0, .c [1, 1, 1, 1, 0, 1, 0, 1], .c [1, 1, 1, 1, 1]] rfl ?_
        refine j_run it 1 rfl (by simp) ?_
        refine j_nf [.c [1, 1, 1, 1, 0, 1, 0, 1], .c [1, 1, 1, 1, 1]] rfl ?_
        refine j_giv [] rfl rfl rfl ⟨rfl, rfl, rfl⟩
    by_cases k1 : kind = 1
    · subst k1
      have ea : accB 1 C M B X Y R = (decide (X.length = 0) && decide (R.length = 0) && covB C.length M Y (List.replicate C.length default) && decide (dotR B Y < 0)) := by rw [accB, if_neg (by decide), if_pos rfl]
      by_cases hx : X.length = 0
      · by_cases hr : R.length = 0
        · have hz := zeros_ok (K := K) C.length
          have hzl : (List.replicate C.length (default : Rt)).length = C.length := List.length_replicate
          cases hv : covB C.length M Y (List.replicate C.length default) with
          | false =>
            rw [no (by rw [ea, hv, Bool.and_false, Bool.false_and])]
            refine j_nf [.o [0] 0, .c [1]] rfl ?_
            refine j_step rfl (x_box_agg rfl fun b1 => ?_)
            refine j_step rfl (x_box_agg rfl fun b2 => ?_)
            refine j_run it 1 rfl (by simp) ?_
            refine j_nf [.o [1, 0, 0] 0, .c [1, 0, 1], .c [1, 1]] rfl ?_
            refine j_step rfl (x_bld_all 1 rfl rfl ld34 rfl ?_)
            refine j_step rfl (x_call [0, 1, 2] rfl (S_simplex_Check) rfl ?_)
            rintro _ _ _ ⟨rfl, rfl, rfl⟩
            simp only [List.cons_append, List.nil_append]
            refine j_run it 1 rfl (by simp) ?_
            refine j_nf [.o [1, 0, 1, 0] 0, .c [1, 0, 1, 1], .c [1, 1]] rfl ?_
            refine j_run it 2 rfl (by simp) ?_
            refine j_nf [.c [1, 0, 1, 1], .c [1, 1]] rfl ?_
            refine j_ifn rfl rfl (fun h1 => by exfalso; omega) (fun h1 => ?_)
            refine j_nf [.o [1, 1, 0] 0, .c [1, 1, 1]] rfl ?_
            refine j_run it 1 rfl (by simp) ?_
            refine j_nf [.o [1, 1, 1, 0, 0] 0, .c [1, 1, 1, 0, 1], .c [1, 1, 1, 1]] rfl ?_
            refine j_step rfl (x_field rfl fd36_0 ?_)
            refine j_step rfl (x_bld 0 rfl rfl ld3 rfl ?_)
            refine j_nf [.o [1, 1, 1, 0, 1, 0, 0] 0, .c [1, 1, 1, 0, 1, 0, 1], .blk 0, .c [1, 1, 1, 1]] rfl ?_
            refine j_run it 2 rfl (by simp) ?_
            refine j_nf [.c [1, 1, 1, 0, 1, 0, 1], .blk 0, .c [1, 1, 1, 1]] rfl ?_
            refine j_if rfl rfl (fun h2 => by exfalso; omega) (fun h2 => ?_)
            refine j_nf [.o [1, 1, 1, 0, 1, 0, 1, 1, 0] 0, .c [1, 1, 1, 0, 1, 0, 1, 1, 1], .blk 0, .c [1, 1, 1, 1]] rfl ?_
            refine j_run it 2 rfl (by simp) ?_
            refine j_nf [.c [1, 1, 1, 0, 1, 0, 1, 1, 1], .blk 0, .c [1, 1, 1, 1]] rfl ?_
            refine j_if rfl rfl (fun h3 => ?_) (fun h3 => by exfalso; omega)
            (apply j_drawK it mx 29; (· rfl); (· rfl))
            (apply lxk_eq; (· rfl); (· exact d_x fun _ => x_field rfl fd36_1 dk_eq))
            (apply lxk_eq; (· rfl); (· exact d_bld 0 rfl rfl ld31 rfl))
            (apply lxk_eq; (· rfl); (· exact d_x fun _ => x_len sl31 rfl dk_eq))
            (apply lxk_eq; (· rfl); (· exact d_x fun _ => x_true it rfl (by trivial) (by omega) dk_eq))
            (apply lxk_run 1; (· rfl); (· simp))
            (apply lxk_eq; (· rfl); (· exact d_x fun _ => x_field rfl fd36_3 dk_eq))
            (apply lxk_eq; (· rfl); (· exact d_bld 0 rfl rfl ld31 rfl))
            (apply lxk_eq; (· rfl); (· exact d_x fun _ => x_len sl31 rfl dk_eq))
            (apply lxk_eq; (· rfl); (· exact d_x fun _ => x_true it rfl (by trivial) (by omega) dk_eq))
            (apply lxk_run 2; (· rfl); (· simp))
            (apply lxk_eq; (· rfl); (· exact d_bld_all 1 rfl rfl ld34 rfl))
            (apply lxk_eq; (· rfl); (· exact d_x fun _ => x_field rfl fd36_2 dk_eq))
            (apply lxk_eq; (· rfl); (· exact d_bld 0 rfl rfl ld31 rfl))
            (apply lxk_eq; (· rfl); (· exact d_x fun _ => x_field rfl fd34_0 dk_eq))
            (apply lxk_eq; (· rfl); (· exact d_bld 1 rfl rfl ld31 rfl))
            (apply lxk_eq; (· rfl); (· exact d_x fun _ => x_len sl31 rfl dk_eq))
            (apply lxk_sl; (· rfl); (· exact d_x fun _ => x_makeR RatE default (C.length) _ rfl rfl sl31 zo31e rfl rfl by31e (by omega) (by omega) (by omega) rz44 fun _ _ => dk_make (by show ((C.length)) * 56 ≤ 140737488355328; omega)); intro pa1 ca1)
            (apply lxk_eq; (· rfl); (· exact d_x fun _ => x_call [2, 5, 0] rfl (S_simplex_covers (by first | omega | exact side _ (by assumption) | assumption | rfl | (simp; done) | (simp; omega)) (by first | omega | exact side _ (by assumption) | assumption | rfl | (simp; done) | (simp; omega)) (by first | omega | exact side _ (by assumption) | assumption | rfl | (simp; done) | (simp; omega)) (by first | omega | exact side _ (by assumption) | assumption | rfl | (simp; done) | (simp; omega)) (by first | omega | exact side _ (by assumption) | assumption | rfl | (simp; done) | (simp; omega)) (by first | omega | exact side _ (by assumption) | assumption | rfl | (simp; done) | (simp; omega)) (by first | omega | exact side _ (by assumption) | assumption | rfl | (simp; done) | (simp; omega)) (by first | omega | exact side _ (by assumption) | assumption | rfl | (simp; done) | (simp; omega)) (by first | omega | exact side _ (by assumption) | assumption | rfl | (simp; done) | (simp; omega))) rfl (by rintro _ _ _ ⟨rfl, rfl, rfl⟩; exact dk_eq)))
            (apply lxk_run 8; (· rfl); (· simp))
            (apply lxk_run 2; (· rfl); (· simp))
            refine lxk_end rfl ?_
            simp only [List.map_cons, List.map_nil, List.cons_append, List.nil_append]
            refine j_run it 1 rfl (by simp) ?_
            refine j_nf [.o [1, 1, 1, 1, 0, 0] 0, .c [1, 1, 1, 1, 0, 1], .c [1, 1, 1, 1, 1]] rfl ?_
            refine j_run it 2 rfl (by simp) ?_
            refine j_nf [.c [1, 1, 1, 1, 0, 1], .c [1, 1, 1, 1, 1]] rfl ?_
            refine j_true rfl rfl ?_
            refine j_nf [.o [1, 1, 1, 1, 0, 1, 0, 0] 0, .c [1, 1, 1, 1, 0, 1, 0, 1], .c [1, 1, 1, 1, 1]] rfl ?_
            refine j_run it 1 rfl (by simp) ?_
            refine j_nf [.c [1, 1, 1, 1, 0, 1, 0, 1], .c [1, 1, 1, 1, 1]] rfl ?_
            refine j_giv [] rfl rfl rfl ⟨rfl, rfl, rfl⟩
          | true =>
            have hYl : Y.length = M.length := by simp only [covB, Bool.and_eq_true, decide_eq_true_eq] at hv; exact hv.1.1
            obtain ⟨w3, w4⟩ := dot_lens hK hK2 hB hY (by omega)
            by_cases hd : dotR B Y < 0
            · have hs := sign_neg.2 hd
              rw [yes (by rw [ea, hv, decide_eq_true hx, decide_eq_true hr, decide_eq_true hd]; rfl)]
              refine j_nf [.o [0] 0, .c [1]] rfl ?_
              refine j_step rfl (x_box_agg rfl fun b1 => ?_)
              refine j_step rfl (x_box_agg rfl fun b2 => ?_)
              refine j_run it 1 rfl (by simp) ?_
              refine j_nf [.o [1, 0, 0] 0, .c [1, 0, 1], .c [1, 1]] rfl ?_
              refine j_step rfl (x_bld_all 1 rfl rfl ld34 rfl ?_)
              refine j_step rfl (x_call [0, 1, 2] rfl (S_simplex_Check) rfl ?_)
              rintro _ _ _ ⟨rfl, rfl, rfl⟩
              simp only [List.cons_append, List.nil_append]
              refine j_run it 1 rfl (by simp) ?_
              refine j_nf [.o [1, 0, 1, 0] 0, .c [1, 0, 1, 1], .c [1, 1]] rfl ?_
              refine j_run it 2 rfl (by simp) ?_
              refine j_nf [.c [1, 0, 1, 1], .c [1, 1]] rfl ?_
              refine j_ifn rfl rfl (fun h1 => by exfalso; omega) (fun h1 => ?_)
              refine j_nf [.o [1, 1, 0] 0, .c [1, 1, 1]] rfl ?_
              refine j_run it 1 rfl (by simp) ?_
              refine j_nf [.o [1, 1, 1, 0, 0] 0, .c [1, 1, 1, 0, 1], .c [1, 1, 1, 1]] rfl ?_
              refine j_step rfl (x_field rfl fd36_0 ?_)
              refine j_step rfl (x_bld 0 rfl rfl ld3 rfl ?_)
              refine j_nf [.o [1, 1, 1, 0, 1, 0, 0] 0, .c [1, 1, 1, 0, 1, 0, 1], .blk 0, .c [1, 1, 1, 1]] rfl ?_
              refine j_run it 2 rfl (by simp) ?_
              refine j_nf [.c [1, 1, 1, 0, 1, 0, 1], .blk 0, .c [1, 1, 1, 1]] rfl ?_
              refine j_if rfl rfl (fun h2 => by exfalso; omega) (fun h2 => ?_)
              refine j_nf [.o [1, 1, 1, 0, 1, 0, 1, 1, 0] 0, .c [1, 1, 1, 0, 1, 0, 1, 1, 1], .blk 0, .c [1, 1, 1, 1]] rfl ?_
              refine j_run it 2 rfl (by simp) ?_
              refine j_nf [.c [1, 1, 1, 0, 1, 0, 1, 1, 1], .blk 0, .c [1, 1, 1, 1]] rfl ?_
              refine j_if rfl rfl (fun h3 => ?_) (fun h3 => by exfalso; omega)
              (apply j_drawK it mx 29; (· rfl); (· rfl))
              (apply lxk_eq; (· rfl); (· exact d_x fun _ => x_field rfl fd36_1 dk_eq))
              (apply lxk_eq; (· rfl); (· exact d_bld 0 rfl rfl ld31 rfl))
              (apply lxk_eq; (· rfl); (· exact d_x fun _ => x_len sl31 rfl dk_eq))
              (apply lxk_eq; (· rfl); (· exact d_x fun _ => x_true it rfl (by trivial) (by omega) dk_eq))
              (apply lxk_run 1; (· rfl); (· simp))
              (apply lxk_eq; (· rfl); (· exact d_x fun _ => x_field rfl fd36_3 dk_eq))
              (apply lxk_eq; (· rfl); (· exact d_bld 0 rfl rfl ld31 rfl))
              (apply lxk_eq; (· rfl); (· exact d_x fun _ => x_len sl31 rfl dk_eq))
              (apply lxk_eq; (· rfl); (· exact d_x fun _ => x_true it rfl (by trivial) (by omega) dk_eq))
              (apply lxk_run 2; (· rfl); (· simp))
              (apply lxk_eq; (· rfl); (· exact d_bld_all 1 rfl rfl ld34 rfl))
              (apply lxk_eq; (· rfl); (· exact d_x fun _ => x_field rfl fd36_2 dk_eq))
              (apply lxk_eq; (· rfl); (· exact d_bld 0 rfl rfl ld31 rfl))
              (apply lxk_eq; (· rfl); (· exact d_x fun _ => x_field rfl fd34_0 dk_eq))
              (apply lxk_eq; (· rfl); (· exact d_bld 1 rfl rfl ld31 rfl))
              (apply lxk_eq; (· rfl); (· exact d_x fun _ => x_len sl31 rfl dk_eq))
              (apply lxk_sl; (· rfl); (· exact d_x fun _ => x_makeR RatE default (C.length) _ rfl rfl sl31 zo31e rfl rfl by31e (by omega) (by omega) (by omega) rz44 fun _ _ => dk_make (by show ((C.length)) * 56 ≤ 140737488355328; omega)); intro pa1 ca1)
              (apply lxk_eq; (· rfl); (· exact d_x fun _ => x_call [2, 5, 0] rfl (S_simplex_covers (by first | omega | exact side _ (by assumption) | assumption | rfl | (simp; done) | (simp; omega)) (by first | omega | exact side _ (by assumption) | assumption | rfl | (simp; done) | (simp; omega)) (by first | omega | exact side _ (by assumption) | assumption | rfl | (simp; done) | (simp; omega)) (by first | omega | exact side _ (by assumption) | assumption | rfl | (simp; done) | (simp; omega)) (by first | omega | exact side _ (by assumption) | assumption | rfl | (simp; done) | (simp; omega)) (by first | omega | exact side _ (by assumption) | assumption | rfl | (simp; done) | (simp; omega)) (by first | omega | exact side _ (by assumption) | assumption | rfl | (simp; done) | (simp; omega)) (by first | omega | exact side _ (by assumption) | assumption | rfl | (simp; done) | (simp; omega)) (by first | omega | exact side _ (by assumption) | assumption | rfl | (simp; done) | (simp; omega))) rfl (by rintro _ _ _ ⟨rfl, rfl, rfl⟩; exact dk_eq)))
              (apply lxk_run 2; (· rfl); (· simp))
              (apply lxk_eq; (· rfl); (· exact d_x fun _ => x_field rfl fd34_2 dk_eq))
              (apply lxk_eq; (· rfl); (· exact d_bld 1 rfl rfl ld31 rfl))
              (apply lxk_eq; (· rfl); (· exact d_x fun _ => x_field rfl fd36_2 dk_eq))
              (apply lxk_eq; (· rfl); (· exact d_bld 0 rfl rfl ld31 rfl))
              (apply lxk_rq; (· rfl); (· exact d_x fun _ => x_call [3, 5] rfl (S_simplex_product (by first | omega | exact side _ (by assumption) | assumption | rfl | (simp; done) | (simp; omega)) (by first | omega | exact side _ (by assumption) | assumption | rfl | (simp; done) | (simp; omega)) (by first | omega | exact side _ (by assumption) | assumption | rfl | (simp; done) | (simp; omega)) (by first | omega | exact side _ (by assumption) | assumption | rfl | (simp; done) | (simp; omega)) (by first | omega | exact side _ (by assumption) | assumption | rfl | (simp; done) | (simp; omega)) (by first | omega | exact side _ (by assumption) | assumption | rfl | (simp; done) | (simp; omega))) rfl (by rintro _ _ _ ⟨pn1, cn1, pd1, cd1, rfl, rfl, rfl⟩; exact (dk_rq 0 1 rfl rfl))); intro pn1 cn1 pd1 cd1)
              (apply lxk_eq; (· rfl); (· exact d_x fun _ => x_call [0, 1] rfl (S_rational_Sign) rfl (by rintro _ _ _ ⟨rfl, rfl, rfl⟩; exact dk_eq)))
              simp only [vq_rt']
              (apply lxk_eq; (· rfl); (· exact d_x fun _ => x_true it rfl (by trivial) (by omega) dk_eq))
              (apply lxk_run 1; (· rfl); (· simp))
              refine lxk_end rfl ?_
              simp only [List.map_cons, List.map_nil, List.cons_append, List.nil_append]
              refine j_run it 1 rfl (by simp) ?_
              refine j_nf [.o [1, 1, 1, 1, 0, 0] 0, .c [1, 1, 1, 1, 0, 1], .c [1, 1, 1, 1, 1]] rfl ?_
              refine j_run it 2 rfl (by simp) ?_
              refine j_nf [.c [1, 1, 1, 1, 0, 1], .c [1, 1, 1, 1, 1]] rfl ?_
              refine j_false rfl rfl ?_
              refine j_nf [.o [1, 1, 1, 1, 1, 0] 0, .c [1, 1, 1, 1, 1, 1]] rfl ?_
              refine j_run it 1 rfl (by simp) ?_
              refine j_nf [.c [1, 1, 1, 1, 1, 1]] rfl ?_
              refine j_giv [] rfl rfl rfl ⟨rfl, rfl, rfl⟩
            · have hs : ¬ (dotR B Y).num.sign < 0 := fun e => hd (sign_neg.1 e)
              rw [no (by rw [ea, decide_eq_false hd, Bool.and_false])]
              refine j_nf [.o [0] 0, .c [1]] rfl ?_
              refine j_step rfl (x_box_agg rfl fun b1 => ?_)
              refine j_step rfl (x_box_agg rfl fun b2 => ?_)
              refine j_run it 1 rfl (by simp) ?_
              refine j_nf [.o [1, 0, 0] 0, .c [1, 0, 1], .c [1, 1]] rfl ?_
              refine j_step rfl (x_bld_all 1 rfl rfl ld34 rfl ?_)
              refine j_step rfl (x_call [0, 1, 2] rfl (S_simplex_Check) rfl ?_)
              rintro _ _ _ ⟨rfl, rfl, rfl⟩
              simp only [List.cons_append, List.nil_append]
              refine j_run it 1 rfl (by simp) ?_
              refine j_nf [.o [1, 0, 1, 0] 0, .c [1, 0, 1, 1], .c [1, 1]] rfl ?_
              refine j_run it 2 rfl (by simp) ?_
              refine j_nf [.c [1, 0, 1, 1], .c [1, 1]] rfl ?_
              refine j_ifn rfl rfl (fun h1 => by exfalso; omega) (fun h1 => ?_)
              refine j_nf [.o [1, 1, 0] 0, .c [1, 1, 1]] rfl ?_
              refine j_run it 1 rfl (by simp) ?_
              refine j_nf [.o [1, 1, 1, 0, 0] 0, .c [1, 1, 1, 0, 1], .c [1, 1, 1, 1]] rfl ?_
              refine j_step rfl (x_field rfl fd36_0 ?_)
              refine j_step rfl (x_bld 0 rfl rfl ld3 rfl ?_)
              refine j_nf [.o [1, 1, 1, 0, 1, 0, 0] 0, .c [1, 1, 1, 0, 1, 0, 1], .blk 0, .c [1, 1, 1, 1]] rfl ?_
              refine j_run it 2 rfl (by simp) ?_
              refine j_nf [.c [1, 1, 1, 0, 1, 0, 1], .blk 0, .c [1, 1, 1, 1]] rfl ?_
              refine j_if rfl rfl (fun h2 => by exfalso; omega) (fun h2 => ?_)
              refine j_nf [.o [1, 1, 1, 0, 1, 0, 1, 1, 0] 0, .c [1, 1, 1, 0, 1, 0, 1, 1, 1], .blk 0, .c [1, 1, 1, 1]] rfl ?_
              refine j_run it 2 rfl (by simp) ?_
              refine j_nf [.c [1, 1, 1, 0, 1, 0, 1, 1, 1], .blk 0, .c [1, 1, 1, 1]] rfl ?_
              refine j_if rfl rfl (fun h3 => ?_) (fun h3 => by exfalso; omega)
              (apply j_drawK it mx 29; (· rfl); (· rfl))
              (apply lxk_eq; (· rfl); (· exact d_x fun _ => x_field rfl fd36_1 dk_eq))
              (apply lxk_eq; (· rfl); (· exact d_bld 0 rfl rfl ld31 rfl))
              (apply lxk_eq; (· rfl); (· exact d_x fun _ => x_len sl31 rfl dk_eq))
              (apply lxk_eq; (· rfl); (· exact d_x fun _ => x_true it rfl (by trivial) (by omega) dk_eq))
              (apply lxk_run 1; (· rfl); (· simp))
              (apply lxk_eq; (· rfl); (· exact d_x fun _ => x_field rfl fd36_3 dk_eq))
              (apply lxk_eq; (· rfl); (· exact d_bld 0 rfl rfl ld31 rfl))
              (apply lxk_eq; (· rfl); (· exact d_x fun _ => x_len sl31 rfl dk_eq))
              (apply lxk_eq; (· rfl); (· exact d_x fun _ => x_true it rfl (by trivial) (by omega) dk_eq))
              (apply lxk_run 2; (· rfl); (· simp))
              (apply lxk_eq; (· rfl); (· exact d_bld_all 1 rfl rfl ld34 rfl))
              (apply lxk_eq; (· rfl); (· exact d_x fun _ => x_field rfl fd36_2 dk_eq))
              (apply lxk_eq; (· rfl); (· exact d_bld 0 rfl rfl ld31 rfl))
              (apply lxk_eq; (· rfl); (· exact d_x fun _ => x_field rfl fd34_0 dk_eq))
              (apply lxk_eq; (· rfl); (· exact d_bld 1 rfl rfl ld31 rfl))
              (apply lxk_eq; (· rfl); (· exact d_x fun _ => x_len sl31 rfl dk_eq))
              (apply lxk_sl; (· rfl); (· exact d_x fun _ => x_makeR RatE default (C.length) _ rfl rfl sl31 zo31e rfl rfl by31e (by omega) (by omega) (by omega) rz44 fun _ _ => dk_make (by show ((C.length)) * 56 ≤ 140737488355328; omega)); intro pa1 ca1)
              (apply lxk_eq; (· rfl); (· exact d_x fun _ => x_call [2, 5, 0] rfl (S_simplex_covers (by first | omega | exact side _ (by assumption) | assumption | rfl | (simp; done) | (simp; omega)) (by first | omega | exact side _ (by assumption) | assumption | rfl | (simp; done) | (simp; omega)) (by first | omega | exact side _ (by assumption) | assumption | rfl | (simp; done) | (simp; omega)) (by first | omega | exact side _ (by assumption) | assumption | rfl | (simp; done) | (simp; omega)) (by first | omega | exact side _ (by assumption) | assumption | rfl | (simp; done) | (simp; omega)) (by first | omega | exact side _ (by assumption) | assumption | rfl | (simp; done) | (simp; omega)) (by first | omega | exact side _ (by assumption) | assumption | rfl | (simp; done) | (simp; omega)) (by first | omega | exact side _ (by assumption) | assumption | rfl | (simp; done) | (simp; omega)) (by first | omega | exact side _ (by assumption) | assumption | rfl | (simp; done) | (simp; omega))) rfl (by rintro _ _ _ ⟨rfl, rfl, rfl⟩; exact dk_eq)))
              (apply lxk_run 2; (· rfl); (· simp))
              (apply lxk_eq; (· rfl); (· exact d_x fun _ => x_field rfl fd34_2 dk_eq))
              (apply lxk_eq; (· rfl); (· exact d_bld 1 rfl rfl ld31 rfl))
              (apply lxk_eq; (· rfl); (· exact d_x fun _ => x_field rfl fd36_2 dk_eq))
              (apply lxk_eq; (· rfl); (· exact d_bld 0 rfl rfl ld31 rfl))
              (apply lxk_rq; (· rfl); (· exact d_x fun _ => x_call [3, 5] rfl (S_simplex_product (by first | omega | exact side _ (by assumption) | assumption | rfl | (simp; done) | (simp; omega)) (by first | omega | exact side _ (by assumption) | assumption | rfl | (simp; done) | (simp; omega)) (by first | omega | exact side _ (by assumption) | assumption | rfl | (simp; done) | (simp; omega)) (by first | omega | exact side _ (by assumption) | assumption | rfl | (simp; done) | (simp; omega)) (by first | omega | exact side _ (by assumption) | assumption | rfl | (simp; done) | (simp; omega)) (by first | omega | exact side _ (by assumption) | assumption | rfl | (simp; done) | (simp; omega))) rfl (by rintro _ _ _ ⟨pn1, cn1, pd1, cd1, rfl, rfl, rfl⟩; exact (dk_rq 0 1 rfl rfl))); intro pn1 cn1 pd1 cd1)
              (apply lxk_eq; (· rfl); (· exact d_x fun _ => x_call [0, 1] rfl (S_rational_Sign) rfl (by rintro _ _ _ ⟨rfl, rfl, rfl⟩; exact dk_eq)))
              simp only [vq_rt']
              (apply lxk_eq; (· rfl); (· exact d_x fun _ => x_false it rfl (by trivial) (by omega) dk_eq))
              (apply lxk_run 1; (· rfl); (· simp))
              refine lxk_end rfl ?_
              simp only [List.map_cons, List.map_nil, List.cons_append, List.nil_append]
              refine j_run it 1 rfl (by simp) ?_
              refine j_nf [.o [1, 1, 1, 1, 0, 0] 0, .c [1, 1, 1, 1, 0, 1], .c [1, 1, 1, 1, 1]] rfl ?_
              refine j_run it 2 rfl (by simp) ?_
              refine j_nf [.c [1, 1, 1, 1, 0, 1], .c [1, 1, 1, 1, 1]] rfl ?_
              refine j_true rfl rfl ?_
              refine j_nf [.o [1, 1, 1, 1, 0, 1, 0, 0] 0, .c [1, 1, 1, 1, 0, 1, 0, 1], .c [1, 1, 1, 1, 1]] rfl ?_
              refine j_run it 1 rfl (by simp) ?_
              refine j_nf [.c [1, 1, 1, 1, 0, 1, 0, 1], .c [1, 1, 1, 1, 1]] rfl ?_
              refine j_giv [] rfl rfl rfl ⟨rfl, rfl, rfl⟩
        · rw [no (by rw [ea, decide_eq_false hr, Bool.and_false, Bool.false_and, Bool.false_and])]
          refine j_nf [.o [0] 0, .c [1]] rfl ?_
          refine j_step rfl (x_box_agg rfl fun b1 => ?_)
          refine j_step rfl (x_box_agg rfl fun b2 => ?_)
          refine j_run it 1 rfl (by simp) ?_
          refine j_nf [.o [1, 0, 0] 0, .c [1, 0, 1], .c [1, 1]] rfl ?_
          refine j_step rfl (x_bld_all 1 rfl rfl ld34 rfl ?_)
          refine j_step rfl (x_call [0, 1, 2] rfl (S_simplex_Check) rfl ?_)
          rintro _ _ _ ⟨rfl, rfl, rfl⟩
          simp only [List.cons_append, List.nil_append]
          refine j_run it 1 rfl (by simp) ?_
          refine j_nf [.o [1, 0, 1, 0] 0, .c [1, 0, 1, 1], .c [1, 1]] rfl ?_
          refine j_run it 2 rfl (by simp) ?_
          refine j_nf [.c [1, 0, 1, 1], .c [1, 1]] rfl ?_
          refine j_ifn rfl rfl (fun h1 => by exfalso; omega) (fun h1 => ?_)
          refine j_nf [.o [1, 1, 0] 0, .c [1, 1, 1]] rfl ?_
          refine j_run it 1 rfl (by simp) ?_
          refine j_nf [.o [1, 1, 1, 0, 0] 0, .c [1, 1, 1, 0, 1], .c [1, 1, 1, 1]] rfl ?_
          refine j_step rfl (x_field rfl fd36_0 ?_)
          refine j_step rfl (x_bld 0 rfl rfl ld3 rfl ?_)
          refine j_nf [.o [1, 1, 1, 0, 1, 0, 0] 0, .c [1, 1, 1, 0, 1, 0, 1], .blk 0, .c [1, 1, 1, 1]] rfl ?_
          refine j_run it 2 rfl (by simp) ?_
          refine j_nf [.c [1, 1, 1, 0, 1, 0, 1], .blk 0, .c [1, 1, 1, 1]] rfl ?_
          refine j_if rfl rfl (fun h2 => by exfalso; omega) (fun h2 => ?_)
          refine j_nf [.o [1, 1, 1, 0, 1, 0, 1, 1, 0] 0, .c [1, 1, 1, 0, 1, 0, 1, 1, 1], .blk 0, .c [1, 1, 1, 1]] rfl ?_
          refine j_run it 2 rfl (by simp) ?_
          refine j_nf [.c [1, 1, 1, 0, 1, 0, 1, 1, 1], .blk 0, .c [1, 1, 1, 1]] rfl ?_
          refine j_if rfl rfl (fun h3 => ?_) (fun h3 => by exfalso; omega)
          (apply j_drawK it mx 29; (· rfl); (· rfl))
          (apply lxk_eq; (· rfl); (· exact d_x fun _ => x_field rfl fd36_1 dk_eq))
          (apply lxk_eq; (· rfl); (· exact d_bld 0 rfl rfl ld31 rfl))
          (apply lxk_eq; (· rfl); (· exact d_x fun _ => x_len sl31 rfl dk_eq))
          (apply lxk_eq; (· rfl); (· exact d_x fun _ => x_true it rfl (by trivial) (by omega) dk_eq))
          (apply lxk_run 1; (· rfl); (· simp))
          (apply lxk_eq; (· rfl); (· exact d_x fun _ => x_field rfl fd36_3 dk_eq))
          (apply lxk_eq; (· rfl); (· exact d_bld 0 rfl rfl ld31 rfl))
          (apply lxk_eq; (· rfl); (· exact d_x fun _ => x_len sl31 rfl dk_eq))
          (apply lxk_eq; (· rfl); (· exact d_x fun _ => x_false it rfl (by trivial) (by omega) dk_eq))
          (apply lxk_run 18; (· rfl); (· simp))
          (apply lxk_run 2; (· rfl); (· simp))
          refine lxk_end rfl ?_
          simp only [List.map_cons, List.map_nil, List.cons_append, List.nil_append]
          refine j_run it 1 rfl (by simp) ?_
          refine j_nf [.o [1, 1, 1, 1, 0, 0] 0, .c [1, 1, 1, 1, 0, 1], .c [1, 1, 1, 1, 1]] rfl ?_
          refine j_run it 2 rfl (by simp) ?_
          refine j_nf [.c [1, 1, 1, 1, 0, 1], .c [1, 1, 1, 1, 1]] rfl ?_
          refine j_true rfl rfl ?_
          refine j_nf [.o [1, 1, 1, 1, 0, 1, 0, 0] 0, .c [1, 1, 1, 1, 0, 1, 0, 1], .c [1, 1, 1, 1, 1]] rfl ?_
          refine j_run it 1 rfl (by simp) ?_
          refine j_nf [.c [1, 1, 1, 1, 0, 1, 0, 1], .c [1, 1, 1, 1, 1]] rfl ?_
          refine j_giv [] rfl rfl rfl ⟨rfl, rfl, rfl⟩
      · rw [no (by rw [ea, decide_eq_false hx, Bool.false_and, Bool.false_and, Bool.false_and])]
        refine j_nf [.o [0] 0, .c [1]] rfl ?_
        refine j_step rfl (x_box_agg rfl fun b1 => ?_)
        refine j_step rfl (x_box_agg rfl fun b2 => ?_)
        refine j_run it 1 rfl (by simp) ?_
        refine j_nf [.o [1, 0, 0] 0, .c [1, 0, 1], .c [1, 1]] rfl ?_
        refine j_step rfl (x_bld_all 1 rfl rfl ld34 rfl ?_)
        refine j_step rfl (x_call [0, 1, 2] rfl (S_simplex_Check) rfl ?_)
        rintro _ _ _ ⟨rfl, rfl, rfl⟩
        simp only [List.cons_append, List.nil_append]
        refine j_run it 1 rfl (by simp) ?_
        refine j_nf [.o [1, 0, 1, 0] 0, .c [1, 0, 1, 1], .c [1, 1]] rfl ?_
        refine j_run it 2 rfl (by simp) ?_
        refine j_nf [.c [1, 0, 1, 1], .c [1, 1]] rfl ?_
        refine j_ifn rfl rfl (fun h1 => by exfalso; omega) (fun h1 => ?_)
        refine j_nf [.o [1, 1, 0] 0, .c [1, 1, 1]] rfl ?_
        refine j_run it 1 rfl (by simp) ?_
        refine j_nf [.o [1, 1, 1, 0, 0] 0, .c [1, 1, 1, 0, 1], .c [1, 1, 1, 1]] rfl ?_
        refine j_step rfl (x_field rfl fd36_0 ?_)
        refine j_step rfl (x_bld 0 rfl rfl ld3 rfl ?_)
        refine j_nf [.o [1, 1, 1, 0, 1, 0, 0] 0, .c [1, 1, 1, 0, 1, 0, 1], .blk 0, .c [1, 1, 1, 1]] rfl ?_
        refine j_run it 2 rfl (by simp) ?_
        refine j_nf [.c [1, 1, 1, 0, 1, 0, 1], .blk 0, .c [1, 1, 1, 1]] rfl ?_
        refine j_if rfl rfl (fun h2 => by exfalso; omega) (fun h2 => ?_)
        refine j_nf [.o [1, 1, 1, 0, 1, 0, 1, 1, 0] 0, .c [1, 1, 1, 0, 1, 0, 1, 1, 1], .blk 0, .c [1, 1, 1, 1]] rfl ?_
        refine j_run it 2 rfl (by simp) ?_
        refine j_nf [.c [1, 1, 1, 0, 1, 0, 1, 1, 1], .blk 0, .c [1, 1, 1, 1]] rfl ?_
        refine j_if rfl rfl (fun h3 => ?_) (fun h3 => by exfalso; omega)
        (apply j_drawK it mx 29; (· rfl); (· rfl))
        (apply lxk_eq; (· rfl); (· exact d_x fun _ => x_field rfl fd36_1 dk_eq))
        (apply lxk_eq; (· rfl); (· exact d_bld 0 rfl rfl ld31 rfl))
        (apply lxk_eq; (· rfl); (· exact d_x fun _ => x_len sl31 rfl dk_eq))
        (apply lxk_eq; (· rfl); (· exact d_x fun _ => x_false it rfl (by trivial) (by omega) dk_eq))
        (apply lxk_run 4; (· rfl); (· simp))
        (apply lxk_run 19; (· rfl); (· simp))
        (apply lxk_run 2; (· rfl); (· simp))
        refine lxk_end rfl ?_
        simp only [List.map_cons, List.map_nil, List.cons_append, List.nil_append]
        refine j_run it 1 rfl (by simp) ?_
        refine j_nf [.o [1, 1, 1, 1, 0, 0] 0, .c [1, 1, 1, 1, 0, 1], .c [1, 1, 1, 1, 1]] rfl ?_
        refine j_run it 2 rfl (by simp) ?_
        refine j_nf [.c [1, 1, 1, 1, 0, 1], .c [1, 1, 1, 1, 1]] rfl ?_
        refine j_true rfl rfl ?_
        refine j_nf [.o [1, 1, 1, 1, 0, 1, 0, 0] 0, .c [1, 1, 1, 1, 0, 1, 0, 1], .c [1, 1, 1, 1, 1]] rfl ?_
        refine j_run it 1 rfl (by simp) ?_
        refine j_nf [.c [1, 1, 1, 1, 0, 1, 0, 1], .c [1, 1, 1, 1, 1]] rfl ?_
        refine j_giv [] rfl rfl rfl ⟨rfl, rfl, rfl⟩
    by_cases k2 : kind = 2
    · subst k2
      have ea : accB 2 C M B X Y R = (decide (Y.length = 0) && feasB C.length M B X && feasB C.length M (List.replicate B.length default) R && decide (0 < dotR C R)) := by rw [accB, if_neg (by decide), if_neg (by decide), if_pos rfl]
      by_cases hy : Y.length = 0
      · cases hf : feasB C.length M B X with
        | false =>
          rw [no (by rw [ea, hf, Bool.and_false, Bool.false_and, Bool.false_and])]
          refine j_nf [.o [0] 0, .c [1]] rfl ?_
          refine j_step rfl (x_box_agg rfl fun b1 => ?_)
          refine j_step rfl (x_box_agg rfl fun b2 => ?_)
          refine j_run it 1 rfl (by simp) ?_
          refine j_nf [.o [1, 0, 0] 0, .c [1, 0, 1], .c [1, 1]] rfl ?_
          refine j_step rfl (x_bld_all 1 rfl rfl ld34 rfl ?_)
          refine j_step rfl (x_call [0, 1, 2] rfl (S_simplex_Check) rfl ?_)
          rintro _ _ _ ⟨rfl, rfl, rfl⟩
          simp only [List.cons_append, List.nil_append]
          refine j_run it 1 rfl (by simp) ?_
          refine j_nf [.o [1, 0, 1, 0] 0, .c [1, 0, 1, 1], .c [1, 1]] rfl ?_
          refine j_run it 2 rfl (by simp) ?_
          refine j_nf [.c [1, 0, 1, 1], .c [1, 1]] rfl ?_
          refine j_ifn rfl rfl (fun h1 => by exfalso; omega) (fun h1 => ?_)
          refine j_nf [.o [1, 1, 0] 0, .c [1, 1, 1]] rfl ?_
          refine j_run it 1 rfl (by simp) ?_
          refine j_nf [.o [1, 1, 1, 0, 0] 0, .c [1, 1, 1, 0, 1], .c [1, 1, 1, 1]] rfl ?_
          refine j_step rfl (x_field rfl fd36_0 ?_)
          refine j_step rfl (x_bld 0 rfl rfl ld3 rfl ?_)
          refine j_nf [.o [1, 1, 1, 0, 1, 0, 0] 0, .c [1, 1, 1, 0, 1, 0, 1], .blk 0, .c [1, 1, 1, 1]] rfl ?_
          refine j_run it 2 rfl (by simp) ?_
          refine j_nf [.c [1, 1, 1, 0, 1, 0, 1], .blk 0, .c [1, 1, 1, 1]] rfl ?_
          refine j_if rfl rfl (fun h2 => by exfalso; omega) (fun h2 => ?_)
          refine j_nf [.o [1, 1, 1, 0, 1, 0, 1, 1, 0] 0, .c [1, 1, 1, 0, 1, 0, 1, 1, 1], .blk 0, .c [1, 1, 1, 1]] rfl ?_
          refine j_run it 2 rfl (by simp) ?_
          refine j_nf [.c [1, 1, 1, 0, 1, 0, 1, 1, 1], .blk 0, .c [1, 1, 1, 1]] rfl ?_
          refine j_if rfl rfl (fun h3 => by exfalso; omega) (fun h3 => ?_)
          refine j_nf [.o [1, 1, 1, 0, 1, 0, 1, 1, 1, 1, 0] 0, .c [1, 1, 1, 0, 1, 0, 1, 1, 1, 1, 1], .blk 0, .c [1, 1, 1, 1]] rfl ?_
          refine j_run it 2 rfl (by simp) ?_
          refine j_nf [.c [1, 1, 1, 0, 1, 0, 1, 1, 1, 1, 1], .blk 0, .c [1, 1, 1, 1]] rfl ?_
          refine j_if rfl rfl (fun h4 => ?_) (fun h4 => by exfalso; omega)
          refine j_nf [.c [1, 1, 1, 0, 1, 0, 1, 1, 1, 1, 1, 0, 0], .c [1, 1, 1, 0, 1, 0, 1, 1, 1, 1, 1, 0, 1], .blk 0, .c [1, 1, 1, 1]] rfl ?_
          (apply j_drawK it mx 10; (· rfl); (· rfl))
          (apply lxk_eq; (· rfl); (· exact d_x fun _ => x_field rfl fd34_0 dk_eq))
          (apply lxk_eq; (· rfl); (· exact d_bld 1 rfl rfl ld31 rfl))
          (apply lxk_eq; (· rfl); (· exact d_x fun _ => x_field rfl fd34_1 dk_eq))
          (apply lxk_eq; (· rfl); (· exact d_bld 1 rfl rfl ld32 rfl))
          (apply lxk_eq; (· rfl); (· exact d_x fun _ => x_field rfl fd34_2 dk_eq))
          (apply lxk_eq; (· rfl); (· exact d_bld 1 rfl rfl ld31 rfl))
          (apply lxk_eq; (· rfl); (· exact d_x fun _ => x_len sl31 rfl dk_eq))
          (apply lxk_sl; (· rfl); (· exact d_x fun _ => x_makeR RatE default (B.length) _ rfl rfl sl31 zo31e rfl rfl by31e (by omega) (by omega) (by omega) rz44 fun _ _ => dk_make (by show ((B.length)) * 56 ≤ 140737488355328; omega)); intro pa1 ca1)
          (apply lxk_fa (val := fun g => Value.agg #[Value.slice (g 0).1 (C.length) (g 0).2.1, Value.slice (g 1).1 (M.length) (g 1).2.1, Value.slice (g 2).1 (B.length) (g 2).2.1]) (f := fun g => [slF (RatE) (g 0).1 (C.length) (g 0).2.1 (C), slF (encSl RatE) (g 1).1 (M.length) (g 1).2.1 (M), slF (RatE) (g 2).1 (B.length) (g 2).2.1 (List.replicate B.length default)]); (· rfl); (· exact d_x fun _ => x_build (cs := [Value.slice p1 C.length c1, Value.slice p2 M.length c2, Value.slice pa1 B.length ca1]) st34 zo34 rfl rfl (fun _ _ _ hG => ⟨(fun | 0 => (p1, c1, 0) | 1 => (p2, c2, 0) | 2 => (pa1, ca1, 0) | _ => default), rfl, fun g hg => by (simp only [List.mem_cons, List.not_mem_nil, or_false] at hg; rcases hg with rfl | rfl | rfl; (· exact drop_own (hG _ (fact_mem (n := 1) rfl))); (· exact drop_own (hG _ (fact_mem (n := 2) rfl))); (· exact drop_own (hG _ (fact_mem (n := 0) rfl))))⟩)); intro g1; dsimp only [List.map_cons, List.map_nil])
          (apply lxk_alloc; (· rfl); (· exact zo34); intro b3)
          refine lxk_end rfl ?_
          simp only [List.map_cons, List.map_nil, List.cons_append, List.nil_append]
          refine j_step rfl (x_bst_all 0 rfl rfl rfl ld34 rfl rfl (by simp [Value.oneCell']) ?_)
          refine j_nf [.o [1, 1, 1, 0, 1, 0, 1, 1, 1, 1, 1, 0, 1] 0, .blk 0, .c [1, 1, 1, 1]] rfl ?_
          refine j_step rfl (x_field rfl fd36_2 ?_)
          refine j_step rfl (x_bld 1 rfl rfl ld31 rfl ?_)
          refine j_step rfl (x_len sl31 rfl ?_)
          refine j_run it 2 rfl (by simp) ?_
          refine j_split_dec (t := 95) rfl (fun h5 => ?_) (fun h5 => by exfalso; omega)
          refine j_gstep rfl rfl (x_bld_all 2 rfl rfl ld34 rfl ?_)
          refine j_gstep rfl rfl (x_field rfl fd36_1 ?_)
          refine j_gstep rfl rfl (x_bld 1 rfl rfl ld31 rfl ?_)
          refine j_gstep rfl rfl (x_call [5, 6, 7] rfl (S_simplex_feasible (by first | omega | exact side _ (by assumption) | assumption | rfl | (simp; done) | (simp; omega)) (by first | omega | exact side _ (by assumption) | assumption | rfl | (simp; done) | (simp; omega)) (by first | omega | exact side _ (by assumption) | assumption | rfl | (simp; done) | (simp; omega)) (by first | omega | exact side _ (by assumption) | assumption | rfl | (simp; done) | (simp; omega)) (by first | omega | exact side _ (by assumption) | assumption | rfl | (simp; done) | (simp; omega)) (by first | omega | exact side _ (by assumption) | assumption | rfl | (simp; done) | (simp; omega)) (by first | omega | exact side _ (by assumption) | assumption | rfl | (simp; done) | (simp; omega)) (by first | omega | exact side _ (by assumption) | assumption | rfl | (simp; done) | (simp; omega)) (by first | omega | exact side _ (by assumption) | assumption | rfl | (simp; done) | (simp; omega))) rfl ?_)
          rintro _ _ _ ⟨rfl, rfl, rfl⟩
          simp only [List.cons_append, List.nil_append]
          simp only [decide_true]
          refine j_run it 17 rfl (by simp) ?_
          refine j_nf [.o [1, 1, 1, 1, 0, 0] 0, .c [1, 1, 1, 1, 0, 1], .c [1, 1, 1, 1, 1]] rfl ?_
          refine j_run it 2 rfl (by simp) ?_
          refine j_nf [.c [1, 1, 1, 1, 0, 1], .c [1, 1, 1, 1, 1]] rfl ?_
          refine j_true rfl rfl ?_
          refine j_nf [.o [1, 1, 1, 1, 0, 1, 0, 0] 0, .c [1, 1, 1, 1, 0, 1, 0, 1], .c [1, 1, 1, 1, 1]] rfl ?_
          refine j_run it 1 rfl (by simp) ?_
          refine j_nf [.c [1, 1, 1, 1, 0, 1, 0, 1], .c [1, 1, 1, 1, 1]] rfl ?_
          refine j_giv [] rfl rfl rfl ⟨rfl, rfl, rfl⟩
        | true =>
          have hz := zeros_ok (K := K) B.length
          have hzl : M.length = (List.replicate B.length (default : Rt)).length := by rw [List.length_replicate]; exact hMB
          cases hg : feasB C.length M (List.replicate B.length default) R with
          | false =>
            rw [no (by rw [ea, hg, Bool.and_false, Bool.false_and])]
            refine j_nf [.o [0] 0, .c [1]] rfl ?_
            refine j_step rfl (x_box_agg rfl fun b1 => ?_)
            refine j_step rfl (x_box_agg rfl fun b2 => ?_)
            refine j_run it 1 rfl (by simp) ?_
            refine j_nf [.o [1, 0, 0] 0, .c [1, 0, 1], .c [1, 1]] rfl ?_
            refine j_step rfl (x_bld_all 1 rfl rfl ld34 rfl ?_)
            refine j_step rfl (x_call [0, 1, 2] rfl (S_simplex_Check) rfl ?_)
            rintro _ _ _ ⟨rfl, rfl, rfl⟩
            simp only [List.cons_append, List.nil_append]
            refine j_run it 1 rfl (by simp) ?_
            refine j_nf [.o [1, 0, 1, 0] 0, .c [1, 0, 1, 1], .c [1, 1]] rfl ?_
            refine j_run it 2 rfl (by simp) ?_
            refine j_nf [.c [1, 0, 1, 1], .c [1, 1]] rfl ?_
            refine j_ifn rfl rfl (fun h1 => by exfalso; omega) (fun h1 => ?_)
            refine j_nf [.o [1, 1, 0] 0, .c [1, 1, 1]] rfl ?_
            refine j_run it 1 rfl (by simp) ?_
            refine j_nf [.o [1, 1, 1, 0, 0] 0, .c [1, 1, 1, 0, 1], .c [1, 1, 1, 1]] rfl ?_
            refine j_step rfl (x_field rfl fd36_0 ?_)
            refine j_step rfl (x_bld 0 rfl rfl ld3 rfl ?_)
            refine j_nf [.o [1, 1, 1, 0, 1, 0, 0] 0, .c [1, 1, 1, 0, 1, 0, 1], .blk 0, .c [1, 1, 1, 1]] rfl ?_
            refine j_run it 2 rfl (by simp) ?_
            refine j_nf [.c [1, 1, 1, 0, 1, 0, 1], .blk 0, .c [1, 1, 1, 1]] rfl ?_
            refine j_if rfl rfl (fun h2 => by exfalso; omega) (fun h2 => ?_)
            refine j_nf [.o [1, 1, 1, 0, 1, 0, 1, 1, 0] 0, .c [1, 1, 1, 0, 1, 0, 1, 1, 1], .blk 0, .c [1, 1, 1, 1]] rfl ?_
            refine j_run it 2 rfl (by simp) ?_
            refine j_nf [.c [1, 1, 1, 0, 1, 0, 1, 1, 1], .blk 0, .c [1, 1, 1, 1]] rfl ?_
            refine j_if rfl rfl (fun h3 => by exfalso; omega) (fun h3 => ?_)
            refine j_nf [.o [1, 1, 1, 0, 1, 0, 1, 1, 1, 1, 0] 0, .c [1, 1, 1, 0, 1, 0, 1, 1, 1, 1, 1], .blk 0, .c [1, 1, 1, 1]] rfl ?_
            refine j_run it 2 rfl (by simp) ?_
            refine j_nf [.c [1, 1, 1, 0, 1, 0, 1, 1, 1, 1, 1], .blk 0, .c [1, 1, 1, 1]] rfl ?_
            refine j_if rfl rfl (fun h4 => ?_) (fun h4 => by exfalso; omega)
            refine j_nf [.c [1, 1, 1, 0, 1, 0, 1, 1, 1, 1, 1, 0, 0], .c [1, 1, 1, 0, 1, 0, 1, 1, 1, 1, 1, 0, 1], .blk 0, .c [1, 1, 1, 1]] rfl ?_
            (apply j_drawK it mx 10; (· rfl); (· rfl))
            (apply lxk_eq; (· rfl); (· exact d_x fun _ => x_field rfl fd34_0 dk_eq))
            (apply lxk_eq; (· rfl); (· exact d_bld 1 rfl rfl ld31 rfl))
            (apply lxk_eq; (· rfl); (· exact d_x fun _ => x_field rfl fd34_1 dk_eq))
            (apply lxk_eq; (· rfl); (· exact d_bld 1 rfl rfl ld32 rfl))
            (apply lxk_eq; (· rfl); (· exact d_x fun _ => x_field rfl fd34_2 dk_eq))
            (apply lxk_eq; (· rfl); (· exact d_bld 1 rfl rfl ld31 rfl))
            (apply lxk_eq; (· rfl); (· exact d_x fun _ => x_len sl31 rfl dk_eq))
            (apply lxk_sl; (· rfl); (· exact d_x fun _ => x_makeR RatE default (B.length) _ rfl rfl sl31 zo31e rfl rfl by31e (by omega) (by omega) (by omega) rz44 fun _ _ => dk_make (by show ((B.length)) * 56 ≤ 140737488355328; omega)); intro pa1 ca1)
            (apply lxk_fa (val := fun g => Value.agg #[Value.slice (g 0).1 (C.length) (g 0).2.1, Value.slice (g 1).1 (M.length) (g 1).2.1, Value.slice (g 2).1 (B.length) (g 2).2.1]) (f := fun g => [slF (RatE) (g 0).1 (C.length) (g 0).2.1 (C), slF (encSl RatE) (g 1).1 (M.length) (g 1).2.1 (M), slF (RatE) (g 2).1 (B.length) (g 2).2.1 (List.replicate B.length default)]); (· rfl); (· exact d_x fun _ => x_build (cs := [Value.slice p1 C.length c1, Value.slice p2 M.length c2, Value.slice pa1 B.length ca1]) st34 zo34 rfl rfl (fun _ _ _ hG => ⟨(fun | 0 => (p1, c1, 0) | 1 => (p2, c2, 0) | 2 => (pa1, ca1, 0) | _ => default), rfl, fun g hg => by (simp only [List.mem_cons, List.not_mem_nil, or_false] at hg; rcases hg with rfl | rfl | rfl; (· exact drop_own (hG _ (fact_mem (n := 1) rfl))); (· exact drop_own (hG _ (fact_mem (n := 2) rfl))); (· exact drop_own (hG _ (fact_mem (n := 0) rfl))))⟩)); intro g1; dsimp only [List.map_cons, List.map_nil])
            (apply lxk_alloc; (· rfl); (· exact zo34); intro b3)
            refine lxk_end rfl ?_
            simp only [List.map_cons, List.map_nil, List.cons_append, List.nil_append]
            refine j_step rfl (x_bst_all 0 rfl rfl rfl ld34 rfl rfl (by simp [Value.oneCell']) ?_)
            refine j_nf [.o [1, 1, 1, 0, 1, 0, 1, 1, 1, 1, 1, 0, 1] 0, .blk 0, .c [1, 1, 1, 1]] rfl ?_
            refine j_step rfl (x_field rfl fd36_2 ?_)
            refine j_step rfl (x_bld 1 rfl rfl ld31 rfl ?_)
            refine j_step rfl (x_len sl31 rfl ?_)
            refine j_run it 2 rfl (by simp) ?_
            refine j_split_dec (t := 95) rfl (fun h5 => ?_) (fun h5 => by exfalso; omega)
            refine j_gstep rfl rfl (x_bld_all 2 rfl rfl ld34 rfl ?_)
            refine j_gstep rfl rfl (x_field rfl fd36_1 ?_)
            refine j_gstep rfl rfl (x_bld 1 rfl rfl ld31 rfl ?_)
            refine j_gstep rfl rfl (x_call [5, 6, 7] rfl (S_simplex_feasible (by first | omega | exact side _ (by assumption) | assumption | rfl | (simp; done) | (simp; omega)) (by first | omega | exact side _ (by assumption) | assumption | rfl | (simp; done) | (simp; omega)) (by first | omega | exact side _ (by assumption) | assumption | rfl | (simp; done) | (simp; omega)) (by first | omega | exact side _ (by assumption) | assumption | rfl | (simp; done) | (simp; omega)) (by first | omega | exact side _ (by assumption) | assumption | rfl | (simp; done) | (simp; omega)) (by first | omega | exact side _ (by assumption) | assumption | rfl | (simp; done) | (simp; omega)) (by first | omega | exact side _ (by assumption) | assumption | rfl | (simp; done) | (simp; omega)) (by first | omega | exact side _ (by assumption) | assumption | rfl | (simp; done) | (simp; omega)) (by first | omega | exact side _ (by assumption) | assumption | rfl | (simp; done) | (simp; omega))) rfl ?_)
            rintro _ _ _ ⟨rfl, rfl, rfl⟩
            simp only [List.cons_append, List.nil_append]
            simp only [decide_true]
            refine j_run it 2 rfl (by simp) ?_
            refine j_gstep rfl rfl (x_bld_all 0 rfl rfl ld34 rfl ?_)
            refine j_gstep rfl rfl (x_field rfl fd36_3 ?_)
            refine j_gstep rfl rfl (x_bld 1 rfl rfl ld31 rfl ?_)
            refine j_gstep rfl rfl (x_call [1, 2, 9] rfl (S_simplex_feasible (by first | omega | exact side _ (by assumption) | assumption | rfl | (simp; done) | (simp; omega)) (by first | omega | exact side _ (by assumption) | assumption | rfl | (simp; done) | (simp; omega)) (by first | omega | exact side _ (by assumption) | assumption | rfl | (simp; done) | (simp; omega)) (by first | omega | exact side _ (by assumption) | assumption | rfl | (simp; done) | (simp; omega)) (by first | omega | exact side _ (by assumption) | assumption | rfl | (simp; done) | (simp; omega)) (by first | omega | exact side _ (by assumption) | assumption | rfl | (simp; done) | (simp; omega)) (by first | omega | exact side _ (by assumption) | assumption | rfl | (simp; done) | (simp; omega)) (by first | omega | exact side _ (by assumption) | assumption | rfl | (simp; done) | (simp; omega)) (by first | omega | exact side _ (by assumption) | assumption | rfl | (simp; done) | (simp; omega))) rfl ?_)
            rintro _ _ _ ⟨rfl, rfl, rfl⟩
            simp only [List.cons_append, List.nil_append]
            refine j_run it 11 rfl (by simp) ?_
            refine j_nf [.o [1, 1, 1, 1, 0, 0] 0, .c [1, 1, 1, 1, 0, 1], .c [1, 1, 1, 1, 1]] rfl ?_
            refine j_run it 2 rfl (by simp) ?_
            refine j_nf [.c [1, 1, 1, 1, 0, 1], .c [1, 1, 1, 1, 1]] rfl ?_
            refine j_true rfl rfl ?_
            refine j_nf [.o [1, 1, 1, 1, 0, 1, 0, 0] 0, .c [1, 1, 1, 1, 0, 1, 0, 1], .c [1, 1, 1, 1, 1]] rfl ?_
            refine j_run it 1 rfl (by simp) ?_
            refine j_nf [.c [1, 1, 1, 1, 0, 1, 0, 1], .c [1, 1, 1, 1, 1]] rfl ?_
            refine j_giv [] rfl rfl rfl ⟨rfl, rfl, rfl⟩
          | true =>
            have hRl : R.length = C.length := by simp only [feasB, Bool.and_eq_true, decide_eq_true_eq] at hg; exact hg.1.1
            obtain ⟨w3, w4⟩ := dot_lens hK hK2 hC hR (by omega)
            by_cases hd : 0 < dotR C R
            · have hs := sign_pos.2 hd
              rw [yes (by rw [ea, hf, hg, decide_eq_true hy, decide_eq_true hd]; rfl)]
              refine j_nf [.o [0] 0, .c [1]] rfl ?_
              refine j_step rfl (x_box_agg rfl fun b1 => ?_)
              refine j_step rfl (x_box_agg rfl fun b2 => ?_)
              refine j_run it 1 rfl (by simp) ?_
              refine j_nf [.o [1, 0, 0] 0, .c [1, 0, 1], .c [1, 1]] rfl ?_
              refine j_step rfl (x_bld_all 1 rfl rfl ld34 rfl ?_)
              refine j_step rfl (x_call [0, 1, 2] rfl (S_simplex_Check) rfl ?_)
              rintro _ _ _ ⟨rfl, rfl, rfl⟩
              simp only [List.cons_append, List.nil_append]
              refine j_run it 1 rfl (by simp) ?_
              refine j_nf [.o [1, 0, 1, 0] 0, .c [1, 0, 1, 1], .c [1, 1]] rfl ?_
              refine j_run it 2 rfl (by simp) ?_
              refine j_nf [.c [1, 0, 1, 1], .c [1, 1]] rfl ?_
              refine j_ifn rfl rfl (fun h1 => by exfalso; omega) (fun h1 => ?_)
              refine j_nf [.o [1, 1, 0] 0, .c [1, 1, 1]] rfl ?_
              refine j_run it 1 rfl (by simp) ?_
              refine j_nf [.o [1, 1, 1, 0, 0] 0, .c [1, 1, 1, 0, 1], .c [1, 1, 1, 1]] rfl ?_
              refine j_step rfl (x_field rfl fd36_0 ?_)
              refine j_step rfl (x_bld 0 rfl rfl ld3 rfl ?_)
              refine j_nf [.o [1, 1, 1, 0, 1, 0, 0] 0, .c [1, 1, 1, 0, 1, 0, 1], .blk 0, .c [1, 1, 1, 1]] rfl ?_
              refine j_run it 2 rfl (by simp) ?_
              refine j_nf [.c [1, 1, 1, 0, 1, 0, 1], .blk 0, .c [1, 1, 1, 1]] rfl ?_
              refine j_if rfl rfl (fun h2 => by exfalso; omega) (fun h2 => ?_)
              refine j_nf [.o [1, 1, 1, 0, 1, 0, 1, 1, 0] 0, .c [1, 1, 1, 0, 1, 0, 1, 1, 1], .blk 0, .c [1, 1, 1, 1]] rfl ?_
              refine j_run it 2 rfl (by simp) ?_
              refine j_nf [.c [1, 1, 1, 0, 1, 0, 1, 1, 1], .blk 0, .c [1, 1, 1, 1]] rfl ?_
              refine j_if rfl rfl (fun h3 => by exfalso; omega) (fun h3 => ?_)
              refine j_nf [.o [1, 1, 1, 0, 1, 0, 1, 1, 1, 1, 0] 0, .c [1, 1, 1, 0, 1, 0, 1, 1, 1, 1, 1], .blk 0, .c [1, 1, 1, 1]] rfl ?_
              refine j_run it 2 rfl (by simp) ?_
              refine j_nf [.c [1, 1, 1, 0, 1, 0, 1, 1, 1, 1, 1], .blk 0, .c [1, 1, 1, 1]] rfl ?_
              refine j_if rfl rfl (fun h4 => ?_) (fun h4 => by exfalso; omega)
              refine j_nf [.c [1, 1, 1, 0, 1, 0, 1, 1, 1, 1, 1, 0, 0], .c [1, 1, 1, 0, 1, 0, 1, 1, 1, 1, 1, 0, 1], .blk 0, .c [1, 1, 1, 1]] rfl ?_
              (apply j_drawK it mx 10; (· rfl); (· rfl))
              (apply lxk_eq; (· rfl); (· exact d_x fun _ => x_field rfl fd34_0 dk_eq))
              (apply lxk_eq; (· rfl); (· exact d_bld 1 rfl rfl ld31 rfl))
              (apply lxk_eq; (· rfl); (· exact d_x fun _ => x_field rfl fd34_1 dk_eq))
              (apply lxk_eq; (· rfl); (· exact d_bld 1 rfl rfl ld32 rfl))
              (apply lxk_eq; (· rfl); (· exact d_x fun _ => x_field rfl fd34_2 dk_eq))
              (apply lxk_eq; (· rfl); (· exact d_bld 1 rfl rfl ld31 rfl))
              (apply lxk_eq; (· rfl); (· exact d_x fun _ => x_len sl31 rfl dk_eq))
              (apply lxk_sl; (· rfl); (· exact d_x fun _ => x_makeR RatE default (B.length) _ rfl rfl sl31 zo31e rfl rfl by31e (by omega) (by omega) (by omega) rz44 fun _ _ => dk_make (by show ((B.length)) * 56 ≤ 140737488355328; omega)); intro pa1 ca1)
              (apply lxk_fa (val := fun g => Value.agg #[Value.slice (g 0).1 (C.length) (g 0).2.1, Value.slice (g 1).1 (M.length) (g 1).2.1, Value.slice (g 2).1 (B.length) (g 2).2.1]) (f := fun g => [slF (RatE) (g 0).1 (C.length) (g 0).2.1 (C), slF (encSl RatE) (g 1).1 (M.length) (g 1).2.1 (M), slF (RatE) (g 2).1 (B.length) (g 2).2.1 (List.replicate B.length default)]); (· rfl); (· exact d_x fun _ => x_build (cs := [Value.slice p1 C.length c1, Value.slice p2 M.length c2, Value.slice pa1 B.length ca1]) st34 zo34 rfl rfl (fun _ _ _ hG => ⟨(fun | 0 => (p1, c1, 0) | 1 => (p2, c2, 0) | 2 => (pa1, ca1, 0) | _ => default), rfl, fun g hg => by (simp only [List.mem_cons, List.not_mem_nil, or_false] at hg; rcases hg with rfl | rfl | rfl; (· exact drop_own (hG _ (fact_mem (n := 1) rfl))); (· exact drop_own (hG _ (fact_mem (n := 2) rfl))); (· exact drop_own (hG _ (fact_mem (n := 0) rfl))))⟩)); intro g1; dsimp only [List.map_cons, List.map_nil])
              (apply lxk_alloc; (· rfl); (· exact zo34); intro b3)
              refine lxk_end rfl ?_
              simp only [List.map_cons, List.map_nil, List.cons_append, List.nil_append]
              refine j_step rfl (x_bst_all 0 rfl rfl rfl ld34 rfl rfl (by simp [Value.oneCell']) ?_)
              refine j_nf [.o [1, 1, 1, 0, 1, 0, 1, 1, 1, 1, 1, 0, 1] 0, .blk 0, .c [1, 1, 1, 1]] rfl ?_
              refine j_step rfl (x_field rfl fd36_2 ?_)
              refine j_step rfl (x_bld 1 rfl rfl ld31 rfl ?_)
              refine j_step rfl (x_len sl31 rfl ?_)
              refine j_run it 2 rfl (by simp) ?_
              refine j_split_dec (t := 95) rfl (fun h5 => ?_) (fun h5 => by exfalso; omega)
              refine j_gstep rfl rfl (x_bld_all 2 rfl rfl ld34 rfl ?_)
              refine j_gstep rfl rfl (x_field rfl fd36_1 ?_)
              refine j_gstep rfl rfl (x_bld 1 rfl rfl ld31 rfl ?_)
              refine j_gstep rfl rfl (x_call [5, 6, 7] rfl (S_simplex_feasible (by first | omega | exact side _ (by assumption) | assumption | rfl | (simp; done) | (simp; omega)) (by first | omega | exact side _ (by assumption) | assumption | rfl | (simp; done) | (simp; omega)) (by first | omega | exact side _ (by assumption) | assumption | rfl | (simp; done) | (simp; omega)) (by first | omega | exact side _ (by assumption) | assumption | rfl | (simp; done) | (simp; omega)) (by first | omega | exact side _ (by assumption) | assumption | rfl | (simp; done) | (simp; omega)) (by first | omega | exact side _ (by assumption) | assumption | rfl | (simp; done) | (simp; omega)) (by first | omega | exact side _ (by assumption) | assumption | rfl | (simp; done) | (simp; omega)) (by first | omega | exact side _ (by assumption) | assumption | rfl | (simp; done) | (simp; omega)) (by first | omega | exact side _ (by assumption) | assumption | rfl | (simp; done) | (simp; omega))) rfl ?_)
              rintro _ _ _ ⟨rfl, rfl, rfl⟩
              simp only [List.cons_append, List.nil_append]
              simp only [decide_true]
              refine j_run it 2 rfl (by simp) ?_
              refine j_gstep rfl rfl (x_bld_all 0 rfl rfl ld34 rfl ?_)
              refine j_gstep rfl rfl (x_field rfl fd36_3 ?_)
              refine j_gstep rfl rfl (x_bld 1 rfl rfl ld31 rfl ?_)
              refine j_gstep rfl rfl (x_call [1, 2, 9] rfl (S_simplex_feasible (by first | omega | exact side _ (by assumption) | assumption | rfl | (simp; done) | (simp; omega)) (by first | omega | exact side _ (by assumption) | assumption | rfl | (simp; done) | (simp; omega)) (by first | omega | exact side _ (by assumption) | assumption | rfl | (simp; done) | (simp; omega)) (by first | omega | exact side _ (by assumption) | assumption | rfl | (simp; done) | (simp; omega)) (by first | omega | exact side _ (by assumption) | assumption | rfl | (simp; done) | (simp; omega)) (by first | omega | exact side _ (by assumption) | assumption | rfl | (simp; done) | (simp; omega)) (by first | omega | exact side _ (by assumption) | assumption | rfl | (simp; done) | (simp; omega)) (by first | omega | exact side _ (by assumption) | assumption | rfl | (simp; done) | (simp; omega)) (by first | omega | exact side _ (by assumption) | assumption | rfl | (simp; done) | (simp; omega))) rfl ?_)
              rintro _ _ _ ⟨rfl, rfl, rfl⟩
              simp only [List.cons_append, List.nil_append]
              refine j_run it 2 rfl (by simp) ?_
              refine j_gstep rfl rfl (x_field rfl fd34_0 ?_)
              refine j_gstep rfl rfl (x_bld 2 rfl rfl ld31 rfl ?_)
              refine j_gstep rfl rfl (x_field rfl fd36_3 ?_)
              refine j_gstep rfl rfl (x_bld 1 rfl rfl ld31 rfl ?_)
              refine j_gstep rfl rfl (x_call [4, 9] rfl (S_simplex_product (by first | omega | exact side _ (by assumption) | assumption | rfl | (simp; done) | (simp; omega)) (by first | omega | exact side _ (by assumption) | assumption | rfl | (simp; done) | (simp; omega)) (by first | omega | exact side _ (by assumption) | assumption | rfl | (simp; done) | (simp; omega)) (by first | omega | exact side _ (by assumption) | assumption | rfl | (simp; done) | (simp; omega)) (by first | omega | exact side _ (by assumption) | assumption | rfl | (simp; done) | (simp; omega)) (by first | omega | exact side _ (by assumption) | assumption | rfl | (simp; done) | (simp; omega))) rfl ?_)
              rintro _ _ _ ⟨pn1, cn1, pd1, cd1, rfl, rfl, rfl⟩
              simp only [List.cons_append, List.nil_append]
              refine j_gstep rfl rfl (x_call [0, 1] rfl (S_rational_Sign) rfl ?_)
              rintro _ _ _ ⟨rfl, rfl, rfl⟩
              simp only [List.cons_append, List.nil_append]
              simp only [vq_rt']
              refine j_run it 3 rfl (by simp) ?_
              refine j_nf [.o [1, 1, 1, 1, 0, 0] 0, .c [1, 1, 1, 1, 0, 1], .c [1, 1, 1, 1, 1]] rfl ?_
              refine j_run it 2 rfl (by simp) ?_
              refine j_nf [.c [1, 1, 1, 1, 0, 1], .c [1, 1, 1, 1, 1]] rfl ?_
              refine j_ifn rfl rfl (fun h6 => by exfalso; omega) (fun h6 => ?_)
              refine j_nf [.o [1, 1, 1, 1, 1, 0] 0, .c [1, 1, 1, 1, 1, 1]] rfl ?_
              refine j_run it 1 rfl (by simp) ?_
              refine j_nf [.c [1, 1, 1, 1, 1, 1]] rfl ?_
              refine j_giv [] rfl rfl rfl ⟨rfl, rfl, rfl⟩
            · have hs : ¬ 0 < (dotR C R).num.sign := fun e => hd (sign_pos.1 e)
              rw [no (by rw [ea, decide_eq_false hd, Bool.and_false])]
              refine j_nf [.o [0] 0, .c [1]] rfl ?_
              refine j_step rfl (x_box_agg rfl fun b1 => ?_)
              refine j_step rfl (x_box_agg rfl fun b2 => ?_)
              refine j_run it 1 rfl (by simp) ?_
              refine j_nf [.o [1, 0, 0] 0, .c [1, 0, 1], .c [1, 1]] rfl ?_
              refine j_step rfl (x_bld_all 1 rfl rfl ld34 rfl ?_)
              refine j_step rfl (x_call [0, 1, 2] rfl (S_simplex_Check) rfl ?_)
              rintro _ _ _ ⟨rfl, rfl, rfl⟩
              simp only [List.cons_append, List.nil_append]
              refine j_run it 1 rfl (by simp) ?_
              refine j_nf [.o [1, 0, 1, 0] 0, .c [1, 0, 1, 1], .c [1, 1]] rfl ?_
              refine j_run it 2 rfl (by simp) ?_
              refine j_nf [.c [1, 0, 1, 1], .c [1, 1]] rfl ?_
              refine j_ifn rfl rfl (fun h1 => by exfalso; omega) (fun h1 => ?_)
              refine j_nf [.o [1, 1, 0] 0, .c [1, 1, 1]] rfl ?_
              refine j_run it 1 rfl (by simp) ?_
              refine j_nf [.o [1, 1, 1, 0, 0] 0, .c [1, 1, 1, 0, 1], .c [1, 1, 1, 1]] rfl ?_
              refine j_step rfl (x_field rfl fd36_0 ?_)
              refine j_step rfl (x_bld 0 rfl rfl ld3 rfl ?_)
              refine j_nf [.o [1, 1, 1, 0, 1, 0, 0] 0, .c [1, 1, 1, 0, 1, 0, 1], .blk 0, .c [1, 1, 1, 1]] rfl ?_
              refine j_run it 2 rfl (by simp) ?_
              refine j_nf [.c [1, 1, 1, 0, 1, 0, 1], .blk 0, .c [1, 1, 1, 1]] rfl ?_
              refine j_if rfl rfl (fun h2 => by exfalso; omega) (fun h2 => ?_)
              refine j_nf [.o [1, 1, 1, 0, 1, 0, 1, 1, 0] 0, .c [1, 1, 1, 0, 1, 0, 1, 1, 1], .blk 0, .c [1, 1, 1, 1]] rfl ?_
              refine j_run it 2 rfl (by simp) ?_
              refine j_nf [.c [1, 1, 1, 0, 1, 0, 1, 1, 1], .blk 0, .c [1, 1, 1, 1]] rfl ?_
              refine j_if rfl rfl (fun h3 => by exfalso; omega) (fun h3 => ?_)
              refine j_nf [.o [1, 1, 1, 0, 1, 0, 1, 1, 1, 1, 0] 0, .c [1, 1, 1, 0, 1, 0, 1, 1, 1, 1, 1], .blk 0, .c [1, 1, 1, 1]] rfl ?_
              refine j_run it 2 rfl (by simp) ?_
              refine j_nf [.c [1, 1, 1, 0, 1, 0, 1, 1, 1, 1, 1], .blk 0, .c [1, 1, 1, 1]] rfl ?_
              refine j_if rfl rfl (fun h4 => ?_) (fun h4 => by exfalso; omega)
              refine j_nf [.c [1, 1, 1, 0, 1, 0, 1, 1, 1, 1, 1, 0, 0], .c [1, 1, 1, 0, 1, 0, 1, 1, 1, 1, 1, 0, 1], .blk 0, .c [1, 1, 1, 1]] rfl ?_
              (apply j_drawK it mx 10; (· rfl); (· rfl))
              (apply lxk_eq; (· rfl); (· exact d_x fun _ => x_field rfl fd34_0 dk_eq))
              (apply lxk_eq; (· rfl); (· exact d_bld 1 rfl rfl ld31 rfl))
              (apply lxk_eq; (· rfl); (· exact d_x fun _ => x_field rfl fd34_1 dk_eq))
              (apply lxk_eq; (· rfl); (· exact d_bld 1 rfl rfl ld32 rfl))
              (apply lxk_eq; (· rfl); (· exact d_x fun _ => x_field rfl fd34_2 dk_eq))
              (apply lxk_eq; (· rfl); (· exact d_bld 1 rfl rfl ld31 rfl))
              (apply lxk_eq; (· rfl); (· exact d_x fun _ => x_len sl31 rfl dk_eq))
              (apply lxk_sl; (· rfl); (· exact d_x fun _ => x_makeR RatE default (B.length) _ rfl rfl sl31 zo31e rfl rfl by31e (by omega) (by omega) (by omega) rz44 fun _ _ => dk_make (by show ((B.length)) * 56 ≤ 140737488355328; omega)); intro pa1 ca1)
              (apply lxk_fa (val := fun g => Value.agg #[Value.slice (g 0).1 (C.length) (g 0).2.1, Value.slice (g 1).1 (M.length) (g 1).2.1, Value.slice (g 2).1 (B.length) (g 2).2.1]) (f := fun g => [slF (RatE) (g 0).1 (C.length) (g 0).2.1 (C), slF (encSl RatE) (g 1).1 (M.length) (g 1).2.1 (M), slF (RatE) (g 2).1 (B.length) (g 2).2.1 (List.replicate B.length default)]); (· rfl); (· exact d_x fun _ => x_build (cs := [Value.slice p1 C.length c1, Value.slice p2 M.length c2, Value.slice pa1 B.length ca1]) st34 zo34 rfl rfl (fun _ _ _ hG => ⟨(fun | 0 => (p1, c1, 0) | 1 => (p2, c2, 0) | 2 => (pa1, ca1, 0) | _ => default), rfl, fun g hg => by (simp only [List.mem_cons, List.not_mem_nil, or_false] at hg; rcases hg with rfl | rfl | rfl; (· exact drop_own (hG _ (fact_mem (n := 1) rfl))); (· exact drop_own (hG _ (fact_mem (n := 2) rfl))); (· exact drop_own (hG _ (fact_mem (n := 0) rfl))))⟩)); intro g1; dsimp only [List.map_cons, List.map_nil])
              (apply lxk_alloc; (· rfl); (· exact zo34); intro b3)
              refine lxk_end rfl ?_
              simp only [List.map_cons, List.map_nil, List.cons_append, List.nil_append]
              refine j_step rfl (x_bst_all 0 rfl rfl rfl ld34 rfl rfl (by simp [Value.oneCell']) ?_)
              refine j_nf [.o [1, 1, 1, 0, 1, 0, 1, 1, 1, 1, 1, 0, 1] 0, .blk 0, .c [1, 1, 1, 1]] rfl ?_
              refine j_step rfl (x_field rfl fd36_2 ?_)
              refine j_step rfl (x_bld 1 rfl rfl ld31 rfl ?_)
              refine j_step rfl (x_len sl31 rfl ?_)
              refine j_run it 2 rfl (by simp) ?_
              refine j_split_dec (t := 95) rfl (fun h5 => ?_) (fun h5 => by exfalso; omega)
              refine j_gstep rfl rfl (x_bld_all 2 rfl rfl ld34 rfl ?_)
              refine j_gstep rfl rfl (x_field rfl fd36_1 ?_)
              refine j_gstep rfl rfl (x_bld 1 rfl rfl ld31 rfl ?_)
              refine j_gstep rfl rfl (x_call [5, 6, 7] rfl (S_simplex_feasible (by first | omega | exact side _ (by assumption) | assumption | rfl | (simp; done) | (simp; omega)) (by first | omega | exact side _ (by assumption) | assumption | rfl | (simp; done) | (simp; omega)) (by first | omega | exact side _ (by assumption) | assumption | rfl | (simp; done) | (simp; omega)) (by first | omega | exact side _ (by assumption) | assumption | rfl | (simp; done) | (simp; omega)) (by first | omega | exact side _ (by assumption) | assumption | rfl | (simp; done) | (simp; omega)) (by first | omega | exact side _ (by assumption) | assumption | rfl | (simp; done) | (simp; omega)) (by first | omega | exact side _ (by assumption) | assumption | rfl | (simp; done) | (simp; omega)) (by first | omega | exact side _ (by assumption) | assumption | rfl | (simp; done) | (simp; omega)) (by first | omega | exact side _ (by assumption) | assumption | rfl | (simp; done) | (simp; omega))) rfl ?_)
              rintro _ _ _ ⟨rfl, rfl, rfl⟩
              simp only [List.cons_append, List.nil_append]
              simp only [decide_true]
              refine j_run it 2 rfl (by simp) ?_
              refine j_gstep rfl rfl (x_bld_all 0 rfl rfl ld34 rfl ?_)
              refine j_gstep rfl rfl (x_field rfl fd36_3 ?_)
              refine j_gstep rfl rfl (x_bld 1 rfl rfl ld31 rfl ?_)
              refine j_gstep rfl rfl (x_call [1, 2, 9] rfl (S_simplex_feasible (by first | omega | exact side _ (by assumption) | assumption | rfl | (simp; done) | (simp; omega)) (by first | omega | exact side _ (by assumption) | assumption | rfl | (simp; done) | (simp; omega)) (by first | omega | exact side _ (by assumption) | assumption | rfl | (simp; done) | (simp; omega)) (by first | omega | exact side _ (by assumption) | assumption | rfl | (simp; done) | (simp; omega)) (by first | omega | exact side _ (by assumption) | assumption | rfl | (simp; done) | (simp; omega)) (by first | omega | exact side _ (by assumption) | assumption | rfl | (simp; done) | (simp; omega)) (by first | omega | exact side _ (by assumption) | assumption | rfl | (simp; done) | (simp; omega)) (by first | omega | exact side _ (by assumption) | assumption | rfl | (simp; done) | (simp; omega)) (by first | omega | exact side _ (by assumption) | assumption | rfl | (simp; done) | (simp; omega))) rfl ?_)
              rintro _ _ _ ⟨rfl, rfl, rfl⟩
              simp only [List.cons_append, List.nil_append]
              refine j_run it 2 rfl (by simp) ?_
              refine j_gstep rfl rfl (x_field rfl fd34_0 ?_)
              refine j_gstep rfl rfl (x_bld 2 rfl rfl ld31 rfl ?_)
              refine j_gstep rfl rfl (x_field rfl fd36_3 ?_)
              refine j_gstep rfl rfl (x_bld 1 rfl rfl ld31 rfl ?_)
              refine j_gstep rfl rfl (x_call [4, 9] rfl (S_simplex_product (by first | omega | exact side _ (by assumption) | assumption | rfl | (simp; done) | (simp; omega)) (by first | omega | exact side _ (by assumption) | assumption | rfl | (simp; done) | (simp; omega)) (by first | omega | exact side _ (by assumption) | assumption | rfl | (simp; done) | (simp; omega)) (by first | omega | exact side _ (by assumption) | assumption | rfl | (simp; done) | (simp; omega)) (by first | omega | exact side _ (by assumption) | assumption | rfl | (simp; done) | (simp; omega)) (by first | omega | exact side _ (by assumption) | assumption | rfl | (simp; done) | (simp; omega))) rfl ?_)
              rintro _ _ _ ⟨pn1, cn1, pd1, cd1, rfl, rfl, rfl⟩
              simp only [List.cons_append, List.nil_append]
              refine j_gstep rfl rfl (x_call [0, 1] rfl (S_rational_Sign) rfl ?_)
              rintro _ _ _ ⟨rfl, rfl, rfl⟩
              simp only [List.cons_append, List.nil_append]
              simp only [vq_rt']
              refine j_run it 3 rfl (by simp) ?_
              refine j_nf [.o [1, 1, 1, 1, 0, 0] 0, .c [1, 1, 1, 1, 0, 1], .c [1, 1, 1, 1, 1]] rfl ?_
              refine j_run it 2 rfl (by simp) ?_
              refine j_nf [.c [1, 1, 1, 1, 0, 1], .c [1, 1, 1, 1, 1]] rfl ?_
              refine j_ifn rfl rfl (fun h6 => ?_) (fun h6 => by exfalso; omega)
              refine j_nf [.o [1, 1, 1, 1, 0, 1, 0, 0] 0, .c [1, 1, 1, 1, 0, 1, 0, 1], .c [1, 1, 1, 1, 1]] rfl ?_
              refine j_run it 1 rfl (by simp) ?_
              refine j_nf [.c [1, 1, 1, 1, 0, 1, 0, 1], .c [1, 1, 1, 1, 1]] rfl ?_
              refine j_giv [] rfl rfl rfl ⟨rfl, rfl, rfl⟩
      · rw [no (by rw [ea, decide_eq_false hy, Bool.false_and, Bool.false_and, Bool.false_and])]
        refine j_nf [.o [0] 0, .c [1]] rfl ?_
        refine j_step rfl (x_box_agg rfl fun b1 => ?_)
        refine j_step rfl (x_box_agg rfl fun b2 => ?_)
        refine j_run it 1 rfl (by simp) ?_
        refine j_nf [.o [1, 0, 0] 0, .c [1, 0, 1], .c [1, 1]] rfl ?_
        refine j_step rfl (x_bld_all 1 rfl rfl ld34 rfl ?_)
        refine j_step rfl (x_call [0, 1, 2] rfl (S_simplex_Check) rfl ?_)
        rintro _ _ _ ⟨rfl, rfl, rfl⟩
        simp only [List.cons_append, List.nil_append]
        refine j_run it 1 rfl (by simp) ?_
        refine j_nf [.o [1, 0, 1, 0] 0, .c [1, 0, 1, 1], .c [1, 1]] rfl ?_
        refine j_run it 2 rfl (by simp) ?_
        refine j_nf [.c [1, 0, 1, 1], .c [1, 1]] rfl ?_
        refine j_ifn rfl rfl (fun h1 => by exfalso; omega) (fun h1 => ?_)
        refine j_nf [.o [1, 1, 0] 0, .c [1, 1, 1]] rfl ?_
        refine j_run it 1 rfl (by simp) ?_
        refine j_nf [.o [1, 1, 1, 0, 0] 0, .c [1, 1, 1, 0, 1], .c [1, 1, 1, 1]] rfl ?_
        refine j_step rfl (x_field rfl fd36_0 ?_)
        refine j_step rfl (x_bld 0 rfl rfl ld3 rfl ?_)
        refine j_nf [.o [1, 1, 1, 0, 1, 0, 0] 0, .c [1, 1, 1, 0, 1, 0, 1], .blk 0, .c [1, 1, 1, 1]] rfl ?_
        refine j_run it 2 rfl (by simp) ?_
        refine j_nf [.c [1, 1, 1, 0, 1, 0, 1], .blk 0, .c [1, 1, 1, 1]] rfl ?_
        refine j_if rfl rfl (fun h2 => by exfalso; omega) (fun h2 => ?_)
        refine j_nf [.o [1, 1, 1, 0, 1, 0, 1, 1, 0] 0, .c [1, 1, 1, 0, 1, 0, 1, 1, 1], .blk 0, .c [1, 1, 1, 1]] rfl ?_
        refine j_run it 2 rfl (by simp) ?_
        refine j_nf [.c [1, 1, 1, 0, 1, 0, 1, 1, 1], .blk 0, .c [1, 1, 1, 1]] rfl ?_
        refine j_if rfl rfl (fun h3 => by exfalso; omega) (fun h3 => ?_)
        refine j_nf [.o [1, 1, 1, 0, 1, 0, 1, 1, 1, 1, 0] 0, .c [1, 1, 1, 0, 1, 0, 1, 1, 1, 1, 1], .blk 0, .c [1, 1, 1, 1]] rfl ?_
        refine j_run it 2 rfl (by simp) ?_
        refine j_nf [.c [1, 1, 1, 0, 1, 0, 1, 1, 1, 1, 1], .blk 0, .c [1, 1, 1, 1]] rfl ?_
        refine j_if rfl rfl (fun h4 => ?_) (fun h4 => by exfalso; omega)
        refine j_nf [.c [1, 1, 1, 0, 1, 0, 1, 1, 1, 1, 1, 0, 0], .c [1, 1, 1, 0, 1, 0, 1, 1, 1, 1, 1, 0, 1], .blk 0, .c [1, 1, 1, 1]] rfl ?_
        (apply j_drawK it mx 10; (· rfl); (· rfl))
        (apply lxk_eq; (· rfl); (· exact d_x fun _ => x_field rfl fd34_0 dk_eq))
        (apply lxk_eq; (· rfl); (· exact d_bld 1 rfl rfl ld31 rfl))
        (apply lxk_eq; (· rfl); (· exact d_x fun _ => x_field rfl fd34_1 dk_eq))
        (apply lxk_eq; (· rfl); (· exact d_bld 1 rfl rfl ld32 rfl))
        (apply lxk_eq; (· rfl); (· exact d_x fun _ => x_field rfl fd34_2 dk_eq))
        (apply lxk_eq; (· rfl); (· exact d_bld 1 rfl rfl ld31 rfl))
        (apply lxk_eq; (· rfl); (· exact d_x fun _ => x_len sl31 rfl dk_eq))
        (apply lxk_sl; (· rfl); (· exact d_x fun _ => x_makeR RatE default (B.length) _ rfl rfl sl31 zo31e rfl rfl by31e (by omega) (by omega) (by omega) rz44 fun _ _ => dk_make (by show ((B.length)) * 56 ≤ 140737488355328; omega)); intro pa1 ca1)
        (apply lxk_fa (val := fun g => Value.agg #[Value.slice (g 0).1 (C.length) (g 0).2.1, Value.slice (g 1).1 (M.length) (g 1).2.1, Value.slice (g 2).1 (B.length) (g 2).2.1]) (f := fun g => [slF (RatE) (g 0).1 (C.length) (g 0).2.1 (C), slF (encSl RatE) (g 1).1 (M.length) (g 1).2.1 (M), slF (RatE) (g 2).1 (B.length) (g 2).2.1 (List.replicate B.length default)]); (· rfl); (· exact d_x fun _ => x_build (cs := [Value.slice p1 C.length c1, Value.slice p2 M.length c2, Value.slice pa1 B.length ca1]) st34 zo34 rfl rfl (fun _ _ _ hG => ⟨(fun | 0 => (p1, c1, 0) | 1 => (p2, c2, 0) | 2 => (pa1, ca1, 0) | _ => default), rfl, fun g hg => by (simp only [List.mem_cons, List.not_mem_nil, or_false] at hg; rcases hg with rfl | rfl | rfl; (· exact drop_own (hG _ (fact_mem (n := 1) rfl))); (· exact drop_own (hG _ (fact_mem (n := 2) rfl))); (· exact drop_own (hG _ (fact_mem (n := 0) rfl))))⟩)); intro g1; dsimp only [List.map_cons, List.map_nil])
        (apply lxk_alloc; (· rfl); (· exact zo34); intro b3)
        refine lxk_end rfl ?_
        simp only [List.map_cons, List.map_nil, List.cons_append, List.nil_append]
        refine j_step rfl (x_bst_all 0 rfl rfl rfl ld34 rfl rfl (by simp [Value.oneCell']) ?_)
        refine j_nf [.o [1, 1, 1, 0, 1, 0, 1, 1, 1, 1, 1, 0, 1] 0, .blk 0, .c [1, 1, 1, 1]] rfl ?_
        refine j_step rfl (x_field rfl fd36_2 ?_)
        refine j_step rfl (x_bld 1 rfl rfl ld31 rfl ?_)
        refine j_step rfl (x_len sl31 rfl ?_)
        refine j_run it 2 rfl (by simp) ?_
        refine j_split_dec (t := 95) rfl (fun h5 => by exfalso; omega) (fun h5 => ?_)
        refine j_run it 21 rfl (by simp) ?_
        refine j_nf [.o [1, 1, 1, 1, 0, 0] 0, .c [1, 1, 1, 1, 0, 1], .c [1, 1, 1, 1, 1]] rfl ?_
        refine j_run it 2 rfl (by simp) ?_
        refine j_nf [.c [1, 1, 1, 1, 0, 1], .c [1, 1, 1, 1, 1]] rfl ?_
        refine j_true rfl rfl ?_
        refine j_nf [.o [1, 1, 1, 1, 0, 1, 0, 0] 0, .c [1, 1, 1, 1, 0, 1, 0, 1], .c [1, 1, 1, 1, 1]] rfl ?_
        refine j_run it 1 rfl (by simp) ?_
        refine j_nf [.c [1, 1, 1, 1, 0, 1, 0, 1], .c [1, 1, 1, 1, 1]] rfl ?_
        refine j_giv [] rfl rfl rfl ⟨rfl, rfl, rfl⟩
    · rw [no (by rw [accB, if_neg k0, if_neg k1, if_neg k2])]
      refine j_nf [.o [0] 0, .c [1]] rfl ?_
      refine j_step rfl (x_box_agg rfl fun b1 => ?_)
      refine j_step rfl (x_box_agg rfl fun b2 => ?_)
      refine j_run it 1 rfl (by simp) ?_
      refine j_nf [.o [1, 0, 0] 0, .c [1, 0, 1], .c [1, 1]] rfl ?_
      refine j_step rfl (x_bld_all 1 rfl rfl ld34 rfl ?_)
      refine j_step rfl (x_call [0, 1, 2] rfl (S_simplex_Check) rfl ?_)
      rintro _ _ _ ⟨rfl, rfl, rfl⟩
      simp only [List.cons_append, List.nil_append]
      refine j_run it 1 rfl (by simp) ?_
      refine j_nf [.o [1, 0, 1, 0] 0, .c [1, 0, 1, 1], .c [1, 1]] rfl ?_
      refine j_run it 2 rfl (by simp) ?_
      refine j_nf [.c [1, 0, 1, 1], .c [1, 1]] rfl ?_
      refine j_ifn rfl rfl (fun h1 => by exfalso; omega) (fun h1 => ?_)
      refine j_nf [.o [1, 1, 0] 0, .c [1, 1, 1]] rfl ?_
      refine j_run it 1 rfl (by simp) ?_
      refine j_nf [.o [1, 1, 1, 0, 0] 0, .c [1, 1, 1, 0, 1], .c [1, 1, 1, 1]] rfl ?_
      refine j_step rfl (x_field rfl fd36_0 ?_)
      refine j_step rfl (x_bld 0 rfl rfl ld3 rfl ?_)
      refine j_nf [.o [1, 1, 1, 0, 1, 0, 0] 0, .c [1, 1, 1, 0, 1, 0, 1], .blk 0, .c [1, 1, 1, 1]] rfl ?_
      refine j_run it 2 rfl (by simp) ?_
      refine j_nf [.c [1, 1, 1, 0, 1, 0, 1], .blk 0, .c [1, 1, 1, 1]] rfl ?_
      refine j_if rfl rfl (fun h2 => by exfalso; omega) (fun h2 => ?_)
      refine j_nf [.o [1, 1, 1, 0, 1, 0, 1, 1, 0] 0, .c [1, 1, 1, 0, 1, 0, 1, 1, 1], .blk 0, .c [1, 1, 1, 1]] rfl ?_
      refine j_run it 2 rfl (by simp) ?_
      refine j_nf [.c [1, 1, 1, 0, 1, 0, 1, 1, 1], .blk 0, .c [1, 1, 1, 1]] rfl ?_
      refine j_if rfl rfl (fun h3 => by exfalso; omega) (fun h3 => ?_)
      refine j_nf [.o [1, 1, 1, 0, 1, 0, 1, 1, 1, 1, 0] 0, .c [1, 1, 1, 0, 1, 0, 1, 1, 1, 1, 1], .blk 0, .c [1, 1, 1, 1]] rfl ?_
      refine j_run it 2 rfl (by simp) ?_
      refine j_nf [.c [1, 1, 1, 0, 1, 0, 1, 1, 1, 1, 1], .blk 0, .c [1, 1, 1, 1]] rfl ?_
      refine j_if rfl rfl (fun h4 => by exfalso; omega) (fun h4 => ?_)
      refine j_nf [.o [1, 1, 1, 1, 0, 0] 0, .c [1, 1, 1, 1, 0, 1], .c [1, 1, 1, 1, 1]] rfl ?_
      refine j_run it 2 rfl (by simp) ?_
      refine j_nf [.c [1, 1, 1, 1, 0, 1], .c [1, 1, 1, 1, 1]] rfl ?_
      refine j_true rfl rfl ?_
      refine j_nf [.o [1, 1, 1, 1, 0, 1, 0, 0] 0, .c [1, 1, 1, 1, 0, 1, 0, 1], .c [1, 1, 1, 1, 1]] rfl ?_
      refine j_run it 1 rfl (by simp) ?_
      refine j_nf [.c [1, 1, 1, 1, 0, 1, 0, 1], .c [1, 1, 1, 1, 1]] rfl ?_
      refine j_giv [] rfl rfl rfl ⟨rfl, rfl, rfl⟩
  · rw [accE, if_neg h]
    refine j_nf [.o [0] 0, .c [1]] rfl ?_
    refine j_step rfl (x_box_agg rfl fun b1 => ?_)
    refine j_step rfl (x_box_agg rfl fun b2 => ?_)
    refine j_run it 1 rfl (by simp) ?_
    refine j_nf [.o [1, 0, 0] 0, .c [1, 0, 1], .c [1, 1]] rfl ?_
    refine j_step rfl (x_bld_all 1 rfl rfl ld34 rfl ?_)
    refine j_step rfl (x_call [0, 1, 2] rfl (S_simplex_Check) rfl ?_)
    rintro _ _ _ ⟨rfl, rfl, rfl⟩
    simp only [List.cons_append, List.nil_append]
    refine j_run it 1 rfl (by simp) ?_
    refine j_nf [.o [1, 0, 1, 0] 0, .c [1, 0, 1, 1], .c [1, 1]] rfl ?_
    refine j_run it 2 rfl (by simp) ?_
    refine j_nf [.c [1, 0, 1, 1], .c [1, 1]] rfl ?_
    refine j_ifn rfl rfl (fun h1 => ?_) (fun h1 => by exfalso; omega)
    refine j_nf [.o [1, 0, 1, 1, 0, 0] 0, .c [1, 0, 1, 1, 0, 1], .c [1, 1]] rfl ?_
    refine j_run it 2 rfl (by simp) ?_
    refine j_nf [.c [1, 0, 1, 1, 0, 1], .c [1, 1]] rfl ?_
    refine j_giv [] rfl rfl rfl ⟨rfl, rfl, rfl⟩
end Go.Proofs.Ytkchmoahohopiaa

namespace Go.Proofs.Ytkchmoahohopiaa
open Go Go.Fw
set_option maxRecDepth 100000
set_option linter.unusedVariables false
set_option linter.unusedSimpArgs false
set_option maxHeartbeats 4000000
def fewR (r : Rt) : Bool := decide (r.2.1.length + r.2.2.length ≤ 12)
def fewL (L : List Rt) : Bool := decide (L.length ≤ 20) && L.all fewR
def fitsB (C : List Rt) (M : List (List Rt)) (B : List Rt) (Ls : List (List Rt)) : Bool := Ls.all fewL && smallB 8 C M B

theorem all_stop {α : Type} {L : List α} {k : Nat} {z : α} {f : α → Bool} (hz : L[k]? = some z) (h : f z = false) : L.all f = false := by
  rw [List.all_eq_false]; exact ⟨z, List.mem_of_getElem? hz, by simp [h]⟩

theorem sl_rng {w : World} {A : Nat → Prop} {pa : Option Addr} {ca : Nat} {ls : List Rt} (hs : SlRd RatE w A pa ca ls) : ∀ r ∈ ls, (∀ x ∈ r.2.1, x < 4294967296) ∧ (∀ x ∈ r.2.2, x < 4294967296) := fun r hr => by
  obtain ⟨_, _, hs⟩ := hs
  rcases hs with rfl | ⟨b, o, _, _, hel⟩
  · cases hr
  · obtain ⟨i, hi⟩ := List.getElem?_of_mem hr
    obtain ⟨vs, _, hrd⟩ := hel i r hi
    obtain ⟨_, _, _, _, _, h1, h2⟩ := rt_open hrd
    have key : ∀ {pa ca} {l : List Nat}, SlRd U32 w A pa ca l → ∀ x ∈ l, x < 4294967296 := by
      intro pa ca l hs x hx
      obtain ⟨_, _, hs⟩ := hs
      rcases hs with rfl | ⟨b', o', _, _, hel'⟩
      · cases hx
      · obtain ⟨j, hj⟩ := List.getElem?_of_mem hx
        obtain ⟨vs, _, _, hR⟩ := hel' j x hj
        simp only [InR] at hR; omega
    exact ⟨key h1, key h2⟩
theorem rtss_rng {P : Program} {F : Fun P} {C : Cx} {S : List It} {σ : Fr} {β : List Blk} {Γ : List Fact} {R : Value → World → Prop} {pa : Option Addr} {n ca : Nat} {ls : List (List Rt)} (k : Nat) (hk : nth Γ k = some (slF (encSl RatE) pa n ca ls))
    (h : (∀ row ∈ ls, ∀ r ∈ row, (∀ x ∈ r.2.1, x < 4294967296) ∧ (∀ x ∈ r.2.2, x < 4294967296)) → J F C S σ β Γ R) : J F C S σ β Γ R :=
  j_know (fun w A hG row hr => by
    obtain ⟨_, _, _, hs⟩ := hG _ (fact_mem hk)
    rcases hs with rfl | ⟨b, o, _, _, hel⟩
    · cases hr
    · obtain ⟨i, hi⟩ := List.getElem?_of_mem hr
      obtain ⟨vs, _, pa', ca', rfl, hrd⟩ := hel i row hi
      exact sl_rng hrd) h
/-- A solution of a linear program, as it is handed in. -/
abbrev SolE := encPair (encInt .i64 8) (encPair (encSl RatE) (encPair (encSl RatE) (encSl RatE) 48) 72) 80
theorem sol_open {w : World} {A : Nat → Prop} {vs : List Value} {x : Int × List Rt × List Rt × List Rt} (h : SolE.rd w A vs x) :
    ∃ q1 d1 q2 d2 q3 d3, vs = [.int .i64 x.1, .slice q1 x.2.1.length d1, .slice q2 x.2.2.1.length d2, .slice q3 x.2.2.2.length d3] ∧ SlRd RatE w A q1 d1 x.2.1 ∧ SlRd RatE w A q2 d2 x.2.2.1 ∧ SlRd RatE w A q3 d3 x.2.2.2 := by
  obtain ⟨_, _, rfl, ⟨rfl, _⟩, _, _, rfl, ⟨q1, d1, rfl, h1⟩, _, _, rfl, ⟨q2, d2, rfl, h2⟩, ⟨q3, d3, rfl, h3⟩⟩ := h
  exact ⟨q1, d1, q2, d2, q3, d3, rfl, h1, h2, h3⟩

theorem sl_lens {w : World} {A : Nat → Prop} {pa : Option Addr} {ca : Nat} {ls : List Rt} (hs : SlRd RatE w A pa ca ls) : ∀ r ∈ ls, r.2.1.length ≤ 35184372088832 ∧ r.2.2.length ≤ 35184372088832 := fun r hr => by
  obtain ⟨_, _, hs⟩ := hs
  rcases hs with rfl | ⟨b, o, _, _, hel⟩
  · cases hr
  · obtain ⟨i, hi⟩ := List.getElem?_of_mem hr
    obtain ⟨vs, _, hrd⟩ := hel i r hi
    obtain ⟨_, _, _, _, _, h1, h2⟩ := rt_open hrd
    have k1 : r.2.1.length * 4 ≤ 140737488355328 := h1.2.1
    have k2 : r.2.2.length * 4 ≤ 140737488355328 := h2.2.1
    omega
theorem rtss_len {P : Program} {F : Fun P} {C : Cx} {S : List It} {σ : Fr} {β : List Blk} {Γ : List Fact} {R : Value → World → Prop} {pa : Option Addr} {n ca : Nat} {ls : List (List Rt)} (k : Nat) (hk : nth Γ k = some (slF (encSl RatE) pa n ca ls))
    (h : (∀ row ∈ ls, ∀ r ∈ row, r.2.1.length ≤ 35184372088832 ∧ r.2.2.length ≤ 35184372088832) → J F C S σ β Γ R) : J F C S σ β Γ R :=
  j_know (fun w A hG row hr => by
    obtain ⟨_, _, _, hs⟩ := hG _ (fact_mem hk)
    rcases hs with rfl | ⟨b, o, _, _, hel⟩
    · cases hr
    · obtain ⟨i, hi⟩ := List.getElem?_of_mem hr
      obtain ⟨vs, _, pa', ca', rfl, hrd⟩ := hel i row hi
      exact sl_lens hrd) h

theorem S_codewrightlaw35_fits {p1 p2 p3 p4 : Option Addr} {c1 c2 c3 n c4 : Nat} {C B : List Rt} {M Ls : List (List Rt)} {res : Bool} (hres : fitsB C M B Ls = res) :
    Ctr Try.prog 17 [.agg #[.slice p1 C.length c1, .slice p2 M.length c2, .slice p3 B.length c3], .slice p4 n c4] [] [slF RatE p1 C.length c1 C, slF (encSl RatE) p2 M.length c2 M, slF RatE p3 B.length c3 B, slF (encSl RatE) p4 n c4 Ls] (Rv (.bool res) []) := by
  subst hres
  refine Ctr_of_j' (F := F_codewrightlaw35_fits) rfl fun Cx => ?_
  refine j_len 3 rfl fun en hb _ => ?_
  have hb' : Ls.length * 24 ≤ 140737488355328 := hb
  subst en
  refine rtss_len 3 rfl fun hlen => ?_
  refine j_nf [.o [0] 0, .c [1]] rfl ?_
  refine j_step rfl (x_box_agg rfl fun b1 => ?_)
  refine j_run it 1 rfl (by simp) ?_
  refine j_nf [.o [1, 0, 0] 0, .c [1, 0, 1], .c [1, 1]] rfl ?_
  refine j_run it 1 rfl (by simp) ?_
  refine j_nf [.c [1, 0, 1, 0], .blk 0, .c [1, 1]] rfl ?_
  refine j_loopG (X := Nat) [1, 2] [0, 1, 2, 3] (fun k => [(5, .int .i64 k)]) (fun _ => [(some b1, 34, [.slice p1 C.length c1, .slice p2 M.length c2, .slice p3 B.length c3])]) (fun _ => []) (fun k => k ≤ Ls.length ∧ (Ls.take k).all fewL = true) (fun k => Ls.length - k) 0 [] rfl rfl rfl ⟨Nat.zero_le _, rfl⟩ (by repeat (first | exact Fr.sub_nil _ | refine Fr.sub_cons rfl ?_)) rfl rfl ?_
  rintro k ⟨hk, hp⟩ ih
  simp only [List.cons_append, List.nil_append] at hk hp ih ⊢
  by_cases hkl : k < Ls.length
  · refine j_nf [.o [1, 0, 1, 0, 0, 0, 0] 0, .c [1, 0, 1, 0, 0, 0, 1], .c [1, 0, 1, 0, 0, 1], .lp [1, 0, 1, 0, 0], .blk 0, .c [1, 1]] rfl ?_
    refine j_run it 2 rfl (by simp) ?_
    refine j_step rfl (x_len sl32 rfl ?_)
    refine j_run it 1 rfl (by simp) ?_
    refine j_nf [.c [1, 0, 1, 0, 0, 0, 1], .c [1, 0, 1, 0, 0, 1], .lp [1, 0, 1, 0, 0], .blk 0, .c [1, 1]] rfl ?_
    refine j_if rfl rfl (fun h1 => ?_) (fun h1 => by exfalso; omega)
    refine j_nf [.o [1, 0, 1, 0, 0, 1, 0, 0, 0, 0] 0, .c [1, 0, 1, 0, 0, 1, 0, 0, 0, 1], .c [1, 0, 1, 0, 0, 1, 0, 0, 1], .blk 1, .c [1, 0, 1, 0, 0, 1, 1], .lp [1, 0, 1, 0, 0], .blk 0, .c [1, 1]] rfl ?_
    refine j_run it 2 rfl (by simp) ?_
    refine j_step rfl (x_idx 3 (k) rfl rfl rfl sl32 rfl (by omega) fun z1 hz1 b2 o1 => ?_)
    refine j_step rfl (x_ld_sl 0 rfl rfl ld31 fun pa1 ca1 => ?_)
    refine j_step rfl (x_len sl31 rfl ?_)
    refine j_run it 1 rfl (by simp) ?_
    refine j_nf [.c [1, 0, 1, 0, 0, 1, 0, 0, 0, 1], .c [1, 0, 1, 0, 0, 1, 0, 0, 1], .blk 1, .c [1, 0, 1, 0, 0, 1, 1], .lp [1, 0, 1, 0, 0], .blk 0, .c [1, 1]] rfl ?_
    refine j_if rfl rfl (fun h2 => ?_) (fun h2 => ?_)
    · rw [fitsB, all_stop hz1 (by rw [fewL, decide_eq_false (by omega), Bool.false_and]), Bool.false_and]
      refine j_nf [.o [1, 0, 1, 0, 0, 1, 0, 0, 0, 1, 0, 0] 0, .c [1, 0, 1, 0, 0, 1, 0, 0, 0, 1, 0, 1], .c [1, 0, 1, 0, 0, 1, 0, 0, 1], .blk 1, .c [1, 0, 1, 0, 0, 1, 1], .lp [1, 0, 1, 0, 0], .blk 0, .c [1, 1]] rfl ?_
      refine j_run it 1 rfl (by simp) ?_
      refine j_nf [.c [1, 0, 1, 0, 0, 1, 0, 0, 0, 1, 0, 1], .c [1, 0, 1, 0, 0, 1, 0, 0, 1], .blk 1, .c [1, 0, 1, 0, 0, 1, 1], .lp [1, 0, 1, 0, 0], .blk 0, .c [1, 1]] rfl ?_
      refine j_giv [] rfl rfl rfl ⟨rfl, rfl, rfl⟩
    · have h20 : z1.length ≤ 20 := by omega
      refine j_nf [.o [1, 0, 1, 0, 0, 1, 0, 0, 1, 0] 0, .c [1, 0, 1, 0, 0, 1, 0, 0, 1, 1], .blk 1, .c [1, 0, 1, 0, 0, 1, 1], .lp [1, 0, 1, 0, 0], .blk 0, .c [1, 1]] rfl ?_
      refine j_run it 1 rfl (by simp) ?_
      refine j_nf [.c [1, 0, 1, 0, 0, 1, 0, 0, 1, 1, 0], .blk 2, .blk 1, .c [1, 0, 1, 0, 0, 1, 1], .lp [1, 0, 1, 0, 0], .blk 0, .c [1, 1]] rfl ?_
      refine j_loopG (X := Nat) [1, 2, 5, 7, 8, 9, 10, 13, 14, 15, 16, 17, 18] [0, 1, 2, 3, 4, 5] (fun j => [(6, .int .i64 j)]) (fun _ => [(some b1, 34, [.slice p1 C.length c1, .slice p2 M.length c2, .slice p3 B.length c3])]) (fun _ => []) (fun j => j ≤ z1.length ∧ (z1.take j).all fewR = true) (fun j => z1.length - j) 0 [] rfl rfl rfl ⟨Nat.zero_le _, rfl⟩ (by repeat (first | exact Fr.sub_nil _ | refine Fr.sub_cons rfl ?_)) rfl rfl ?_
      rintro j ⟨hj, hq⟩ ihj
      simp only [List.cons_append, List.nil_append] at hj hq ihj ⊢
      have ez : Ls.getD k default = z1 := getD_some hz1
      by_cases hjl : j < z1.length
      · have hjl' : j < (Ls.getD k default).length := by rw [ez]; exact hjl
        refine j_nf [.o [1, 0, 1, 0, 0, 1, 0, 0, 1, 1, 0, 0, 0, 0] 0, .c [1, 0, 1, 0, 0, 1, 0, 0, 1, 1, 0, 0, 0, 1], .c [1, 0, 1, 0, 0, 1, 0, 0, 1, 1, 0, 0, 1], .lp [1, 0, 1, 0, 0, 1, 0, 0, 1, 1, 0, 0], .blk 2, .blk 1, .c [1, 0, 1, 0, 0, 1, 1], .lp [1, 0, 1, 0, 0], .blk 0, .c [1, 1]] rfl ?_
        refine j_run it 3 rfl (by simp) ?_
        refine j_step rfl (x_idx 5 (k) rfl rfl rfl sl32 rfl (by omega) fun z2 hz2 b3 o2 => ?_)
        refine j_step rfl (x_ld_sl 0 rfl rfl ld31 fun pa2 ca2 => ?_)
        refine j_step rfl (x_len sl31 rfl ?_)
        refine j_run it 1 rfl (by simp) ?_
        refine j_nf [.c [1, 0, 1, 0, 0, 1, 0, 0, 1, 1, 0, 0, 0, 1], .c [1, 0, 1, 0, 0, 1, 0, 0, 1, 1, 0, 0, 1], .lp [1, 0, 1, 0, 0, 1, 0, 0, 1, 1, 0, 0], .blk 2, .blk 1, .c [1, 0, 1, 0, 0, 1, 1], .lp [1, 0, 1, 0, 0], .blk 0, .c [1, 1]] rfl ?_
        refine j_if rfl rfl (fun h3 => ?_) (fun h3 => ?_)
        · obtain rfl : z2 = z1 := Option.some.inj (hz2.symm.trans hz1)
          have hzj : z2[j]? = some (z2.getD j default) := getD_at hjl
          obtain ⟨l1, l2⟩ := hlen _ (List.mem_of_getElem? hz1) _ (List.mem_of_getElem? hzj)
          rw [← ez] at l1 l2
          refine j_nf [.c [1, 0, 1, 0, 0, 1, 0, 0, 1, 1, 0, 0, 1, 0, 0, 0], .c [1, 0, 1, 0, 0, 1, 0, 0, 1, 1, 0, 0, 1, 0, 0, 1], .blk 3, .c [1, 0, 1, 0, 0, 1, 0, 0, 1, 1, 0, 0, 1, 1], .lp [1, 0, 1, 0, 0, 1, 0, 0, 1, 1, 0, 0], .blk 2, .blk 1, .c [1, 0, 1, 0, 0, 1, 1], .lp [1, 0, 1, 0, 0], .blk 0, .c [1, 1]] rfl ?_
          (apply j_drawK it mx 20; (· rfl); (· rfl))
          (apply lxk_run 2; (· rfl); (· simp))
          (apply lxk_pt; (· rfl); (· exact d_x fun _ => x_idx 7 (k) rfl rfl rfl sl32 rfl (by omega) fun z1 hz3 b4 o3 => (dk_ptD default hz3 0 rfl)); intro b4 o3)
          (apply lxk_sl; (· rfl); (· exact d_x fun _ => x_ld_sl 0 rfl rfl ld31 fun pa3 ca3 => (dk_sl 0 rfl)); intro pa3 ca3)
          (apply lxk_run 1; (· rfl); (· simp))
          (apply lxk_pt; (· rfl); (· exact d_x fun _ => x_idx 0 (j) rfl rfl rfl sl31 rfl (by omega) fun z1 hz3 b5 o4 => (dk_ptD default hz3 0 rfl)); intro b5 o4)
          (apply lxk_pt; (· rfl); (· exact d_x fun _ => x_field_rt rfl fd44_1 (fun w A hG => rt_f1 (hG _ (fact_mem (n := 0) rfl))) (dk_pt 0 rfl)); intro b6 o5)
          (apply lxk_sl; (· rfl); (· exact d_x fun _ => x_ld_sl 0 rfl rfl ld42 fun pa4 ca4 => (dk_sl 0 rfl)); intro pa4 ca4)
          (apply lxk_eq; (· rfl); (· exact d_x fun _ => x_len sl42 rfl dk_eq))
          (apply lxk_run 2; (· rfl); (· simp))
          (apply lxk_pt; (· rfl); (· exact d_x fun _ => x_idx 7 (k) rfl rfl rfl sl32 rfl (by omega) fun z1 hz3 b7 o6 => (dk_ptD default hz3 0 rfl)); intro b7 o6)
          (apply lxk_sl; (· rfl); (· exact d_x fun _ => x_ld_sl 0 rfl rfl ld31 fun pa5 ca5 => (dk_sl 0 rfl)); intro pa5 ca5)
          (apply lxk_run 1; (· rfl); (· simp))
          (apply lxk_pt; (· rfl); (· exact d_x fun _ => x_idx 0 (j) rfl rfl rfl sl31 rfl (by omega) fun z1 hz3 b8 o7 => (dk_ptD default hz3 0 rfl)); intro b8 o7)
          (apply lxk_pt; (· rfl); (· exact d_x fun _ => x_field_rt rfl fd44_2 (fun w A hG => rt_f2 (hG _ (fact_mem (n := 0) rfl))) (dk_pt 0 rfl)); intro b9 o8)
          (apply lxk_sl; (· rfl); (· exact d_x fun _ => x_ld_sl 0 rfl rfl ld42 fun pa6 ca6 => (dk_sl 0 rfl)); intro pa6 ca6)
          (apply lxk_eq; (· rfl); (· exact d_x fun _ => x_len sl42 rfl dk_eq))
          (apply lxk_run 2; (· rfl); (· exact (by repeat' first | exact trivial | apply And.intro | omega)))
          refine lxk_end rfl ?_
          simp only [List.map_cons, List.map_nil, List.cons_append, List.nil_append]
          refine j_nf [.c [1, 0, 1, 0, 0, 1, 0, 0, 1, 1, 0, 0, 1, 0, 0, 1], .blk 3, .c [1, 0, 1, 0, 0, 1, 0, 0, 1, 1, 0, 0, 1, 1], .lp [1, 0, 1, 0, 0, 1, 0, 0, 1, 1, 0, 0], .blk 2, .blk 1, .c [1, 0, 1, 0, 0, 1, 1], .lp [1, 0, 1, 0, 0], .blk 0, .c [1, 1]] rfl ?_
          refine j_if rfl rfl (fun h4 => ?_) (fun h4 => ?_)
          · rw [fitsB, all_stop hz1 (by rw [fewL, all_stop hzj (by rw [fewR]; refine decide_eq_false ?_; rw [← ez]; omega), Bool.and_false]), Bool.false_and]
            refine j_nf [.o [1, 0, 1, 0, 0, 1, 0, 0, 1, 1, 0, 0, 1, 0, 0, 1, 0, 0] 0, .c [1, 0, 1, 0, 0, 1, 0, 0, 1, 1, 0, 0, 1, 0, 0, 1, 0, 1], .blk 3, .c [1, 0, 1, 0, 0, 1, 0, 0, 1, 1, 0, 0, 1, 1], .lp [1, 0, 1, 0, 0, 1, 0, 0, 1, 1, 0, 0], .blk 2, .blk 1, .c [1, 0, 1, 0, 0, 1, 1], .lp [1, 0, 1, 0, 0], .blk 0, .c [1, 1]] rfl ?_
            refine j_run it 1 rfl (by simp) ?_
            refine j_nf [.c [1, 0, 1, 0, 0, 1, 0, 0, 1, 1, 0, 0, 1, 0, 0, 1, 0, 1], .blk 3, .c [1, 0, 1, 0, 0, 1, 0, 0, 1, 1, 0, 0, 1, 1], .lp [1, 0, 1, 0, 0, 1, 0, 0, 1, 1, 0, 0], .blk 2, .blk 1, .c [1, 0, 1, 0, 0, 1, 1], .lp [1, 0, 1, 0, 0], .blk 0, .c [1, 1]] rfl ?_
            refine j_giv [] rfl rfl rfl ⟨rfl, rfl, rfl⟩
          · refine j_nf [.o [1, 0, 1, 0, 0, 1, 0, 0, 1, 1, 0, 0, 1, 1] 0, .lp [1, 0, 1, 0, 0, 1, 0, 0, 1, 1, 0, 0], .blk 2, .blk 1, .c [1, 0, 1, 0, 0, 1, 1], .lp [1, 0, 1, 0, 0], .blk 0, .c [1, 1]] rfl ?_
            refine j_run it 3 rfl (by repeat' first | exact trivial | apply And.intro | omega) ?_
            refine j_nfn 1 [.lp [1, 0, 1, 0, 0, 1, 0, 0, 1, 1, 0, 0], .blk 2, .blk 1, .c [1, 0, 1, 0, 0, 1, 1], .lp [1, 0, 1, 0, 0], .blk 0, .c [1, 1]] rfl ?_
            refine j_to [12, 13, 14, 15, 16, 17] (by repeat (first | exact Fr.sub_nil _ | refine Fr.sub_cons rfl ?_ | refine Fr.sub_consI rfl (by first | omega | (dsimp only; omega)) ?_ | refine Fr.sub_consS rfl (by first | omega | (dsimp only; omega)) (by first | omega | (dsimp only; omega)) ?_)) rfl rfl (ihj (j + 1) (by omega) ⟨by omega, all_take_succ hzj hq (by rw [fewR]; refine decide_eq_true ?_; rw [← ez]; omega)⟩)
        · obtain rfl : z2 = z1 := Option.some.inj (hz2.symm.trans hz1)
          omega
      · obtain rfl : j = z1.length := by omega
        rw [List.take_length] at hq
        refine j_nf [.o [1, 0, 1, 0, 0, 1, 0, 0, 1, 1, 0, 0, 0, 0] 0, .c [1, 0, 1, 0, 0, 1, 0, 0, 1, 1, 0, 0, 0, 1], .c [1, 0, 1, 0, 0, 1, 0, 0, 1, 1, 0, 0, 1], .lp [1, 0, 1, 0, 0, 1, 0, 0, 1, 1, 0, 0], .blk 2, .blk 1, .c [1, 0, 1, 0, 0, 1, 1], .lp [1, 0, 1, 0, 0], .blk 0, .c [1, 1]] rfl ?_
        refine j_run it 3 rfl (by simp) ?_
        refine j_step rfl (x_idx 5 (k) rfl rfl rfl sl32 rfl (by omega) fun z2 hz2 b3 o2 => ?_)
        refine j_step rfl (x_ld_sl 0 rfl rfl ld31 fun pa2 ca2 => ?_)
        refine j_step rfl (x_len sl31 rfl ?_)
        refine j_run it 1 rfl (by simp) ?_
        refine j_nf [.c [1, 0, 1, 0, 0, 1, 0, 0, 1, 1, 0, 0, 0, 1], .c [1, 0, 1, 0, 0, 1, 0, 0, 1, 1, 0, 0, 1], .lp [1, 0, 1, 0, 0, 1, 0, 0, 1, 1, 0, 0], .blk 2, .blk 1, .c [1, 0, 1, 0, 0, 1, 1], .lp [1, 0, 1, 0, 0], .blk 0, .c [1, 1]] rfl ?_
        refine j_if rfl rfl (fun h3 => ?_) (fun h3 => ?_)
        · obtain rfl : z2 = z1 := Option.some.inj (hz2.symm.trans hz1)
          omega
        · refine j_nf [.o [1, 0, 1, 0, 0, 1, 1] 0, .lp [1, 0, 1, 0, 0], .blk 0, .c [1, 1]] rfl ?_
          refine j_run it 3 rfl (by repeat' first | exact trivial | apply And.intro | omega) ?_
          refine j_nfn 1 [.lp [1, 0, 1, 0, 0], .blk 0, .c [1, 1]] rfl ?_
          refine j_to [4, 5, 6, 7] (by repeat (first | exact Fr.sub_nil _ | refine Fr.sub_cons rfl ?_ | refine Fr.sub_consI rfl (by first | omega | (dsimp only; omega)) ?_ | refine Fr.sub_consS rfl (by first | omega | (dsimp only; omega)) (by first | omega | (dsimp only; omega)) ?_)) rfl rfl (ih (k + 1) (by omega) ⟨by omega, all_take_succ hz1 hp (by rw [fewL, hq, decide_eq_true h20]; rfl)⟩)
  · obtain rfl : Ls.length = k := by omega
    rw [List.take_length] at hp
    rw [fitsB, hp, Bool.true_and]
    refine j_nf [.o [1, 0, 1, 0, 0, 0, 0] 0, .c [1, 0, 1, 0, 0, 0, 1], .c [1, 0, 1, 0, 0, 1], .lp [1, 0, 1, 0, 0], .blk 0, .c [1, 1]] rfl ?_
    refine j_run it 2 rfl (by simp) ?_
    refine j_step rfl (x_len sl32 rfl ?_)
    refine j_run it 1 rfl (by simp) ?_
    refine j_nf [.c [1, 0, 1, 0, 0, 0, 1], .c [1, 0, 1, 0, 0, 1], .lp [1, 0, 1, 0, 0], .blk 0, .c [1, 1]] rfl ?_
    refine j_if rfl rfl (fun h1 => by exfalso; omega) (fun h1 => ?_)
    refine j_nf [.o [1, 1, 0] 0, .c [1, 1, 1]] rfl ?_
    refine j_step rfl (x_bld_all 0 rfl rfl ld34 rfl ?_)
    refine j_step rfl (x_call [0, 1, 2] rfl (S_codewrightref35_Small (by first | omega | exact side _ (by assumption) | assumption | rfl | (simp; done) | (simp; omega))) rfl ?_)
    rintro _ _ _ ⟨rfl, rfl, rfl⟩
    simp only [List.cons_append, List.nil_append]
    refine j_run it 1 rfl (by simp) ?_
    refine j_nf [.c [1, 1, 1]] rfl ?_
    refine j_giv [] rfl rfl rfl ⟨rfl, rfl, rfl⟩
end Go.Proofs.Ytkchmoahohopiaa

namespace Go.Proofs.Ytkchmoahohopiaa
open Go Go.Fw
set_option maxRecDepth 100000
set_option linter.unusedVariables false
set_option linter.unusedSimpArgs false
set_option maxHeartbeats 4000000
theorem bd1 : ∀ r ∈ [rt 1], okR 1 r := fun r h => by
  rw [List.mem_singleton.1 h]; exact okR_rt (bd_one (Nat.le_refl 1))
theorem bd0 : ∀ r ∈ [rt 0], okR 1 r := fun r h => by
  rw [List.mem_singleton.1 h]; exact okR_rt (bd_zero (Nat.le_refl 1))
theorem bdn : ∀ r ∈ ([] : List Rt), okR 1 r := fun r h => by cases h
theorem bd11 : ∀ row ∈ [[rt 1]], ∀ r ∈ row, okR 1 r := fun row h => by
  rw [List.mem_singleton.1 h]; exact bd1
theorem one_a : accE 0 [rt 1] [[rt 1]] [rt 1] [rt 1] [rt 1] [] = 0 := by
  have h1 : (0 : Rat) ≤ 1 := by decide
  simp [accE, checkOf, accB, feasB, covB, posB, leB, geB, colR, dotR, dot, vq_rt, h1, Rat.add_zero, Rat.le_refl]
theorem one_b : accE 0 [rt 1] [[rt 1]] [rt 1] [rt 0] [rt 1] [] = 13 := by
  have h1 : ¬ (0 : Rat) = 1 := by decide
  simp [accE, checkOf, accB, feasB, covB, posB, leB, geB, colR, dotR, dot, vq_rt, h1, Rat.add_zero, Rat.mul_zero]
theorem S_codewrightlaw35_one : Ctr Try.prog 18 [] [] [] (Rv (.bool true) []) := by
  refine Ctr_of_j' (F := F_codewrightlaw35_one) rfl fun Cx => ?_
  refine j_add (slF RatE none 0 0 []) (fun w A _ => slF_nil _ _ _ _ _) ?_
  have hi0 : InR .i64 (0 : Int) := by simp [InR]
  have hi1 : InR .i64 (1 : Int) := by simp [InR]
  have a1 := bd1
  have a2 := bd0
  have a3 := bdn
  have a4 := bd11
  have a5 := one_a
  have a6 := one_b
  have a7 : (1 : Nat) ≤ 1 := Nat.le_refl 1
  refine j_nf [.o [0] 0, .c [1]] rfl ?_
  refine j_run it 1 rfl (by simp) ?_
  refine j_nf [.o [1, 0] 0, .c [1, 1]] rfl ?_
  refine j_step rfl (x_call [] rfl (S_codewrightref02_Int (by first | omega | exact side _ (by assumption) | assumption | rfl | (simp; done) | (simp; omega))) rfl ?_)
  rintro _ _ _ ⟨pn1, cn1, pd1, cd1, rfl, rfl, rfl⟩
  simp only [List.cons_append, List.nil_append]
  refine j_step rfl (x_lit sl31 zo31e rfl rfl rfl rfl (by decide) (by decide) rfl fun b1 => ?_)
  refine j_step rfl (x_call [] rfl (S_codewrightref02_Int (by first | omega | exact side _ (by assumption) | assumption | rfl | (simp; done) | (simp; omega))) rfl ?_)
  rintro _ _ _ ⟨pn2, cn2, pd2, cd2, rfl, rfl, rfl⟩
  simp only [List.cons_append, List.nil_append]
  refine j_step rfl (x_lit sl31 zo31e rfl rfl rfl rfl (by decide) (by decide) rfl fun b2 => ?_)
  refine j_step rfl (x_lit sl32 zo32e rfl rfl rfl rfl (by decide) (by decide) rfl fun b3 => ?_)
  refine j_step rfl (x_call [] rfl (S_codewrightref02_Int (by first | omega | exact side _ (by assumption) | assumption | rfl | (simp; done) | (simp; omega))) rfl ?_)
  rintro _ _ _ ⟨pn3, cn3, pd3, cd3, rfl, rfl, rfl⟩
  simp only [List.cons_append, List.nil_append]
  refine j_step rfl (x_lit sl31 zo31e rfl rfl rfl rfl (by decide) (by decide) rfl fun b4 => ?_)
  refine j_step rfl (x_build (cs := [Value.slice (some { block := b1, off := 0 }) 1 1, Value.slice (some { block := b3, off := 0 }) 1 1, Value.slice (some { block := b4, off := 0 }) 1 1]) st34 zo34 rfl rfl ?_)
  refine j_step rfl (x_alloc zo34 fun b5 => ?_)
  refine j_step rfl (x_bst_all 0 rfl rfl rfl ld34 rfl rfl (by simp [Value.oneCell']) ?_)
  refine j_nf [.o [1, 1, 0] 0, .c [1, 1, 1]] rfl ?_
  refine j_step rfl (x_call [] rfl (S_codewrightref02_Int (by first | omega | exact side _ (by assumption) | assumption | rfl | (simp; done) | (simp; omega))) rfl ?_)
  rintro _ _ _ ⟨pn4, cn4, pd4, cd4, rfl, rfl, rfl⟩
  simp only [List.cons_append, List.nil_append]
  refine j_step rfl (x_lit sl31 zo31e rfl rfl rfl rfl (by decide) (by decide) rfl fun b6 => ?_)
  refine j_step rfl (x_call [] rfl (S_codewrightref02_Int (by first | omega | exact side _ (by assumption) | assumption | rfl | (simp; done) | (simp; omega))) rfl ?_)
  rintro _ _ _ ⟨pn5, cn5, pd5, cd5, rfl, rfl, rfl⟩
  simp only [List.cons_append, List.nil_append]
  refine j_step rfl (x_lit sl31 zo31e rfl rfl rfl rfl (by decide) (by decide) rfl fun b7 => ?_)
  refine j_step rfl (x_build (cs := [Value.int IntKind.i64 0, Value.slice (some { block := b6, off := 0 }) 1 1, Value.slice (some { block := b7, off := 0 }) 1 1, Value.slice none 0 0]) st36 zo36 rfl rfl ?_)
  refine j_step rfl (x_alloc zo36 fun b8 => ?_)
  refine j_step rfl (x_bst_all 0 rfl rfl rfl ld36 rfl rfl (by simp [Value.oneCell']) ?_)
  refine j_nf [.o [1, 1, 1, 0] 0, .c [1, 1, 1, 1]] rfl ?_
  refine j_step rfl (x_call [] rfl (S_codewrightref02_Int (by first | omega | exact side _ (by assumption) | assumption | rfl | (simp; done) | (simp; omega))) rfl ?_)
  rintro _ _ _ ⟨pn6, cn6, pd6, cd6, rfl, rfl, rfl⟩
  simp only [List.cons_append, List.nil_append]
  refine j_step rfl (x_lit sl31 zo31e rfl rfl rfl rfl (by decide) (by decide) rfl fun b9 => ?_)
  refine j_step rfl (x_call [] rfl (S_codewrightref02_Int (by first | omega | exact side _ (by assumption) | assumption | rfl | (simp; done) | (simp; omega))) rfl ?_)
  rintro _ _ _ ⟨pn7, cn7, pd7, cd7, rfl, rfl, rfl⟩
  simp only [List.cons_append, List.nil_append]
  refine j_step rfl (x_lit sl31 zo31e rfl rfl rfl rfl (by decide) (by decide) rfl fun b10 => ?_)
  refine j_step rfl (x_build (cs := [Value.int IntKind.i64 0, Value.slice (some { block := b9, off := 0 }) 1 1, Value.slice (some { block := b10, off := 0 }) 1 1, Value.slice none 0 0]) st36 zo36 rfl rfl ?_)
  refine j_step rfl (x_alloc zo36 fun b11 => ?_)
  refine j_step rfl (x_bst_all 0 rfl rfl rfl ld36 rfl rfl (by simp [Value.oneCell']) ?_)
  refine j_nf [.o [1, 1, 1, 1, 0] 0, .c [1, 1, 1, 1, 1]] rfl ?_
  refine j_step rfl (x_bld_all 6 rfl rfl ld34 rfl ?_)
  refine j_step rfl (x_bld_all 3 rfl rfl ld36 rfl ?_)
  simp only [show ((1 : Int) : Rat) = 1 from rfl, show ((0 : Int) : Rat) = 0 from rfl]
  refine j_pub_all (E := RatE) (n := 1) [[.bool (rt 1).1, .slice pn2 (rt 1).2.1.length cn2, .slice pd2 (rt 1).2.2.length cd2]] [rt 1] 9 (fun w A hG => allrd_cons (rd_rt (hG _ (fact_mem (n := 10) rfl)) (hG _ (fact_mem (n := 11) rfl))) allrd_nil) rfl rfl rfl rfl (by decide) (by decide) ?_
  refine j_pub_all (E := RatE) (n := 1) [[Value.bool (rt 1).fst, Value.slice pn1 (rt 1).snd.fst.length cn1, Value.slice pd1 (rt 1).snd.snd.length cd1]] [((rt 1).fst, (rt 1).snd.fst, (rt 1).snd.snd)] 9 (fun w A hG => (allrd_cons (rd_rt (hG _ (fact_mem (n := 13) rfl)) (hG _ (fact_mem (n := 14) rfl))) allrd_nil)) rfl rfl rfl rfl (by decide) (by decide) ?_
  refine j_pub_all (E := (encSl RatE)) (n := 1) [[Value.slice (some { block := b2, off := 0 }) 1 1]] [[rt 1]] 8 (fun w A hG => (allrd_cons (rd_of_slF (hG _ (fact_mem (n := 1) rfl))) allrd_nil)) rfl rfl rfl rfl (by decide) (by decide) ?_
  refine j_pub_all (E := RatE) (n := 1) [[Value.bool (rt 1).fst, Value.slice pn3 (rt 1).snd.fst.length cn3, Value.slice pd3 (rt 1).snd.snd.length cd3]] [((rt 1).fst, (rt 1).snd.fst, (rt 1).snd.snd)] 7 (fun w A hG => (allrd_cons (rd_rt (hG _ (fact_mem (n := 11) rfl)) (hG _ (fact_mem (n := 12) rfl))) allrd_nil)) rfl rfl rfl rfl (by decide) (by decide) ?_
  refine j_pub_all (E := RatE) (n := 1) [[Value.bool (rt 1).fst, Value.slice pn4 (rt 1).snd.fst.length cn4, Value.slice pd4 (rt 1).snd.snd.length cd4]] [((rt 1).fst, (rt 1).snd.fst, (rt 1).snd.snd)] 5 (fun w A hG => (allrd_cons (rd_rt (hG _ (fact_mem (n := 10) rfl)) (hG _ (fact_mem (n := 11) rfl))) allrd_nil)) rfl rfl rfl rfl (by decide) (by decide) ?_
  refine j_pub_all (E := RatE) (n := 1) [[Value.bool (rt 1).fst, Value.slice pn5 (rt 1).snd.fst.length cn5, Value.slice pd5 (rt 1).snd.snd.length cd5]] [((rt 1).fst, (rt 1).snd.fst, (rt 1).snd.snd)] 4 (fun w A hG => (allrd_cons (rd_rt (hG _ (fact_mem (n := 9) rfl)) (hG _ (fact_mem (n := 10) rfl))) allrd_nil)) rfl rfl rfl rfl (by decide) (by decide) ?_
  refine j_step rfl (x_call [4, 3, 2, 1, 0, 20] rfl (S_simplex_Accept (by first | omega | exact side _ (by assumption) | assumption | rfl | (simp; done) | (simp; omega)) (by first | omega | exact side _ (by assumption) | assumption | rfl | (simp; done) | (simp; omega)) (by first | omega | exact side _ (by assumption) | assumption | rfl | (simp; done) | (simp; omega)) (by first | omega | exact side _ (by assumption) | assumption | rfl | (simp; done) | (simp; omega)) (by first | omega | exact side _ (by assumption) | assumption | rfl | (simp; done) | (simp; omega)) (by first | omega | exact side _ (by assumption) | assumption | rfl | (simp; done) | (simp; omega)) (by first | omega | exact side _ (by assumption) | assumption | rfl | (simp; done) | (simp; omega)) (by first | omega | exact side _ (by assumption) | assumption | rfl | (simp; done) | (simp; omega)) (by first | omega | exact side _ (by assumption) | assumption | rfl | (simp; done) | (simp; omega))) rfl ?_)
  rintro _ _ _ ⟨rfl, rfl, rfl⟩
  simp only [List.cons_append, List.nil_append]
  refine j_run it 2 rfl (by simp) ?_
  refine j_split_dec (t := 26) rfl (fun h1 => ?_) (fun h1 => by exfalso; omega)
  refine j_gstep rfl rfl (x_bld_all 4 rfl rfl ld34 rfl ?_)
  refine j_gstep rfl rfl (x_bld_all 0 rfl rfl ld36 rfl ?_)
  refine j_pub_all (E := RatE) (n := 1) [[Value.bool (rt 0).fst, Value.slice pn6 (rt 0).snd.fst.length cn6, Value.slice pd6 (rt 0).snd.snd.length cd6]] [((rt 0).fst, (rt 0).snd.fst, (rt 0).snd.snd)] 2 (fun w A hG => (allrd_cons (rd_rt (hG _ (fact_mem (n := 8) rfl)) (hG _ (fact_mem (n := 9) rfl))) allrd_nil)) rfl rfl rfl rfl (by decide) (by decide) ?_
  refine j_pub_all (E := RatE) (n := 1) [[Value.bool (rt 1).fst, Value.slice pn7 (rt 1).snd.fst.length cn7, Value.slice pd7 (rt 1).snd.snd.length cd7]] [((rt 1).fst, (rt 1).snd.fst, (rt 1).snd.snd)] 1 (fun w A hG => (allrd_cons (rd_rt (hG _ (fact_mem (n := 7) rfl)) (hG _ (fact_mem (n := 8) rfl))) allrd_nil)) rfl rfl rfl rfl (by decide) (by decide) ?_
  refine j_gstep rfl rfl (x_call [6, 5, 4, 1, 0, 22] rfl (S_simplex_Accept (by first | omega | exact side _ (by assumption) | assumption | rfl | (simp; done) | (simp; omega)) (by first | omega | exact side _ (by assumption) | assumption | rfl | (simp; done) | (simp; omega)) (by first | omega | exact side _ (by assumption) | assumption | rfl | (simp; done) | (simp; omega)) (by first | omega | exact side _ (by assumption) | assumption | rfl | (simp; done) | (simp; omega)) (by first | omega | exact side _ (by assumption) | assumption | rfl | (simp; done) | (simp; omega)) (by first | omega | exact side _ (by assumption) | assumption | rfl | (simp; done) | (simp; omega)) (by first | omega | exact side _ (by assumption) | assumption | rfl | (simp; done) | (simp; omega)) (by first | omega | exact side _ (by assumption) | assumption | rfl | (simp; done) | (simp; omega)) (by first | omega | exact side _ (by assumption) | assumption | rfl | (simp; done) | (simp; omega))) rfl ?_)
  rintro _ _ _ ⟨rfl, rfl, rfl⟩
  simp only [List.cons_append, List.nil_append]
  simp only [decide_true]
  refine j_run it 3 rfl (by simp) ?_
  refine j_nf [.c [1, 1, 1, 1, 1]] rfl ?_
  refine j_giv [] rfl rfl rfl ⟨rfl, rfl, rfl⟩
end Go.Proofs.Ytkchmoahohopiaa

namespace Go.Proofs.Ytkchmoahohopiaa
open Go Go.Fw
set_option maxRecDepth 100000
set_option linter.unusedVariables false
set_option linter.unusedSimpArgs false
theorem few_ok {r : Rt} (h : fewR r = true) (hr : (∀ x ∈ r.2.1, x < 4294967296) ∧ (∀ x ∈ r.2.2, x < 4294967296)) : okR 12 r := by
  have := of_decide_eq_true h
  exact ⟨hr.1, hr.2, by omega, by omega⟩
theorem few_list {L : List Rt} (h : fewL L = true) (hr : ∀ r ∈ L, (∀ x ∈ r.2.1, x < 4294967296) ∧ (∀ x ∈ r.2.2, x < 4294967296)) : L.length ≤ 20 ∧ ∀ r ∈ L, okR 12 r := by
  rw [fewL, Bool.and_eq_true, decide_eq_true_eq] at h
  exact ⟨h.1, fun r hm => few_ok (List.all_eq_true.1 h.2 r hm) (hr r hm)⟩
theorem short_ok {L : List Rt} (h : shortB L = true) (hr : ∀ r ∈ L, (∀ x ∈ r.2.1, x < 4294967296) ∧ (∀ x ∈ r.2.2, x < 4294967296)) : ∀ r ∈ L, okR 12 r := fun r hm => by
  have := List.all_eq_true.1 h r hm
  simp only [Bool.and_eq_true, decide_eq_true_eq] at this
  exact ⟨(hr r hm).1, (hr r hm).2, by omega, by omega⟩
theorem small_ok {C B : List Rt} {M : List (List Rt)} (h : smallB 8 C M B = true) (rC : ∀ r ∈ C, (∀ x ∈ r.2.1, x < 4294967296) ∧ (∀ x ∈ r.2.2, x < 4294967296)) (rB : ∀ r ∈ B, (∀ x ∈ r.2.1, x < 4294967296) ∧ (∀ x ∈ r.2.2, x < 4294967296))
    (rM : ∀ row ∈ M, ∀ r ∈ row, (∀ x ∈ r.2.1, x < 4294967296) ∧ (∀ x ∈ r.2.2, x < 4294967296)) :
    C.length ≤ 8 ∧ B.length ≤ 8 ∧ M.length ≤ 8 ∧ (∀ r ∈ C, okR 12 r) ∧ (∀ r ∈ B, okR 12 r) ∧ (∀ row ∈ M, ∀ r ∈ row, okR 12 r) ∧ ∀ row ∈ M, row.length ≤ 8 := by
  simp only [smallB, Bool.and_eq_true, decide_eq_true_eq] at h
  obtain ⟨⟨⟨⟨⟨h1, h2⟩, h3⟩, h4⟩, h5⟩, h6⟩ := h
  refine ⟨h1, h2, h3, short_ok h4 rC, short_ok h5 rB, fun row hr => ?_, fun row hr => ?_⟩
  · have := List.all_eq_true.1 h6 row hr
    simp only [Bool.and_eq_true, decide_eq_true_eq] at this
    exact short_ok this.2 (rM row hr)
  · have := List.all_eq_true.1 h6 row hr
    simp only [Bool.and_eq_true, decide_eq_true_eq] at this
    exact this.1

section
variable {kind : Int} {C B X Y R : List Rt} {M : List (List Rt)}
theorem acc_check (h : accE kind C M B X Y R = 0) : checkOf (C, M, B) = 0 ∧ accB kind C M B X Y R = true := by
  unfold accE at h
  by_cases h1 : checkOf (C, M, B) = 0
  · rw [if_pos h1] at h
    refine ⟨h1, ?_⟩
    by_cases h2 : accB kind C M B X Y R = true
    · exact h2
    · rw [if_neg h2] at h; cases h
  · rw [if_neg h1] at h; exact absurd h h1
theorem val_feas {x : List Rt} (h : valE C M B x = 0) : checkOf (C, M, B) = 0 ∧ feasB C.length M B x = true := by
  unfold valE at h
  by_cases h1 : checkOf (C, M, B) = 0
  · rw [if_pos h1] at h
    refine ⟨h1, ?_⟩
    by_cases h2 : x.length = C.length
    · rw [if_pos h2] at h
      by_cases h3 : feasB C.length M B x = true
      · exact h3
      · rw [if_neg h3] at h; cases h
    · rw [if_neg h2] at h; cases h
  · rw [if_neg h1] at h; exact absurd h h1
theorem feas_len {n : Nat} {b x : List Rt} (h : feasB n M b x = true) : x.length = n := by
  rw [feasB, Bool.and_eq_true, Bool.and_eq_true, decide_eq_true_eq] at h; exact h.1.1
theorem cov_len {n : Nat} {c y : List Rt} (h : covB n M y c = true) : y.length = M.length := by
  rw [covB, Bool.and_eq_true, Bool.and_eq_true, decide_eq_true_eq] at h; exact h.1.1
theorem feas_val {x : List Rt} (h : checkOf (C, M, B) = 0) (hf : feasB C.length M B x = true) : valE C M B x = 0 := by
  rw [valE, if_pos h, if_pos (feas_len hf), if_pos hf]
theorem val_rat {x : List Rt} (h : valE C M B x = 0) : valR C M B x = rt (dotR C x) := if_pos h

theorem acc_opt (h : accE 0 C M B X Y R = 0) : feasB C.length M B X = true ∧ covB C.length M Y C = true ∧ dotR C X = dotR B Y := by
  have h1 := (acc_check h).2
  simp only [accB, if_pos, Bool.and_eq_true, decide_eq_true_eq] at h1
  exact ⟨h1.1.1.2, h1.1.2, h1.2⟩
theorem acc_inf (h : accE 1 C M B X Y R = 0) : covB C.length M Y (List.replicate C.length default) = true ∧ dotR B Y < 0 := by
  have h1 := (acc_check h).2
  rw [accB, if_neg (by decide), if_pos rfl] at h1
  simp only [Bool.and_eq_true, decide_eq_true_eq] at h1
  exact ⟨h1.1.2, h1.2⟩
theorem acc_unb (h : accE 2 C M B X Y R = 0) : feasB C.length M B X = true ∧ feasB C.length M (List.replicate B.length default) R = true ∧ 0 < dotR C R := by
  have h1 := (acc_check h).2
  rw [accB, if_neg (by decide), if_neg (by decide), if_pos rfl] at h1
  simp only [Bool.and_eq_true, decide_eq_true_eq] at h1
  exact ⟨h1.1.1.2, h1.1.2, h1.2⟩
theorem acc_kind (h : accE kind C M B X Y R = 0) : kind = 0 ∨ kind = 1 ∨ kind = 2 := by
  have h1 := (acc_check h).2
  rw [accB] at h1
  by_cases k0 : kind = 0
  · exact .inl k0
  by_cases k1 : kind = 1
  · exact .inr (.inl k1)
  by_cases k2 : kind = 2
  · exact .inr (.inr k2)
  rw [if_neg k0, if_neg k1, if_neg k2] at h1; cases h1

theorem lpOk (h : checkOf (C, M, B) = 0) : (lpOf C M B).Ok := lp_ok (check_zero h).2.2.1 (check_zero h).2.2.2
theorem toFeas {x : List Rt} (h : checkOf (C, M, B) = 0) (hf : feasB C.length M B x = true) : Feas (lpOf C M B) (lpOf C M B).B (x.map vq) := (feas_iff (check_zero h).2.2.1).1 hf
theorem toCov {y : List Rt} (h : checkOf (C, M, B) = 0) (hv : covB C.length M y C = true) : Cov (lpOf C M B) (lpOf C M B).C (y.map vq) := (cov_iff (check_zero h).2.2.2 rfl).1 hv
theorem toCov0 {y : List Rt} (h : checkOf (C, M, B) = 0) (hv : covB C.length M y (List.replicate C.length default) = true) : Cov (lpOf C M B) (List.replicate (lpOf C M B).C.length 0) (y.map vq) := by
  have := (cov_iff (B := B) (check_zero h).2.2.2 (by simp)).1 hv
  rw [zeros_vq] at this
  rwa [show (lpOf C M B).C.length = C.length by simp [lpOf]]
theorem toRay {r : List Rt} (h : checkOf (C, M, B) = 0) (hf : feasB C.length M (List.replicate B.length default) r = true) : Feas (lpOf C M B) (List.replicate (lpOf C M B).A.length 0) (r.map vq) := by
  have hMB := (check_zero h).2.2.1
  have := (feas_iff (B := B) (by simp [hMB])).1 hf
  rw [zeros_vq] at this
  rwa [show (lpOf C M B).A.length = B.length by simp [lpOf, hMB]]

/-- Weak duality. -/
theorem weak_law {x : List Rt} (h : accE 0 C M B X Y R = 0) (hx : valE C M B x = 0) : dotR C x ≤ dotR C X := by
  have hc := (acc_check h).1
  obtain ⟨_, h2, h3⟩ := acc_opt h
  rw [h3]
  exact weak (lpOk hc) (toFeas hc (val_feas hx).2) (toCov hc h2)
theorem opt_val (h : accE 0 C M B X Y R = 0) : valE C M B X = 0 := feas_val (acc_check h).1 (acc_opt h).1
/-- The lemma of Farkas. -/
theorem farkas_law {x : List Rt} (h : accE 1 C M B X Y R = 0) : valE C M B x ≠ 0 := fun hx => by
  have hc := (acc_check h).1
  obtain ⟨h2, h3⟩ := acc_inf h
  exact farkas (lpOk hc) (toCov0 hc h2) h3 (toFeas hc (val_feas hx).2)
/-- One kind. -/
theorem one_law {k2 : Int} {X' Y' R' : List Rt} (h : accE kind C M B X Y R = 0) (h' : accE k2 C M B X' Y' R' = 0) : kind = k2 ∧ (kind = 0 → dotR C X = dotR C X') := by
  have hc := (acc_check h).1
  have noF : ∀ {k x a b X Y R}, k = 1 → accE k C M B X Y R = 0 → (accE 0 C M B x a b = 0 ∨ accE 2 C M B x a b = 0) → False := fun hk h1 h2 => by
    subst hk
    rcases h2 with h2 | h2
    · exact farkas_law h1 (opt_val h2)
    · exact farkas_law h1 (feas_val hc (acc_unb h2).1)
  have noB : ∀ {x a b X Y R}, accE 0 C M B X Y R = 0 → accE 2 C M B x a b = 0 → False := fun h1 h2 => by
    obtain ⟨u1, u2, u3⟩ := acc_unb h2
    exact bounded (z := []) (lpOk hc) (toCov hc (acc_opt h1).2.1) (toFeas hc u1) (toRay hc u2) u3
  rcases acc_kind h with rfl | rfl | rfl <;> rcases acc_kind h' with rfl | rfl | rfl
  · exact ⟨rfl, fun _ => Rat.le_antisymm (weak_law h' (opt_val h)) (weak_law h (opt_val h'))⟩
  · exact (noF rfl h' (.inl h)).elim
  · exact (noB h h').elim
  · exact (noF rfl h (.inl h')).elim
  · exact ⟨rfl, fun h => by cases h⟩
  · exact (noF rfl h (.inr h')).elim
  · exact (noB h' h).elim
  · exact (noF rfl h' (.inr h)).elim
  · exact ⟨rfl, fun h => by cases h⟩
end
end Go.Proofs.Ytkchmoahohopiaa

namespace Go.Proofs.Ytkchmoahohopiaa
open Go Go.Fw
set_option maxRecDepth 100000
set_option linter.unusedVariables false
set_option linter.unusedSimpArgs false
set_option maxHeartbeats 4000000
theorem vq_inv (q : Rat) : vq ((rt q).1, (rt q).2.2, (rt q).2.1) = q⁻¹ := by
  rw [vq_eq]
  simp only [num_rt, den_rt, neg_rt]
  rw [Rat.inv_def, ← Rat.divInt_ofNat]
  by_cases h : q.num < 0
  · rw [decide_eq_true h, show ((q.num.natAbs : Nat) : Int) = -q.num by omega, Rat.divInt_neg']
    show Rat.divInt (-(-(q.den : Int))) q.num = _
    rw [Int.neg_neg]
  · rw [decide_eq_false h, show ((q.num.natAbs : Nat) : Int) = q.num by omega]
    rfl
theorem inv_bd {k : Nat} {q : Rat} (h : bd k q) (hk : 1 ≤ k) : bd k q⁻¹ := by
  rw [← vq_inv]
  exact bd_vq (limbs_lt _) (limbs_lt _) (bd_len h).2 (bd_len h).1 hk
/-- The inverse as the document has it. -/
def invR (r : Rt) : Rt := ((rt (vq r)).1, (rt (vq r)).2.2, (rt (vq r)).2.1)
theorem S_codewrightref02_Inv {neg : Bool} {pn pd : Option Addr} {n m cn cd : Nat} {N D : List Nat} (hN : N.length ≤ 1073741824) (hD : D.length ≤ 1073741824) :
    Ctr Try.prog 28 [.agg #[.bool neg, .slice pn n cn, .slice pd m cd]] [] [slF U32 pn n cn N, slF U32 pd m cd D] (RtV (invR (neg, N, D))) := by
  refine Ctr_of_j' (F := F_codewrightref02_Inv) rfl fun C => ?_
  refine j_nf [.o [0] 0, .c [1]] rfl ?_
  refine j_step rfl (x_box_agg rfl fun b1 => ?_)
  refine j_step rfl (x_alloc zo44 fun b2 => ?_)
  refine j_nf [.o [1, 0] 0, .c [1, 1]] rfl ?_
  refine j_step rfl (x_bld_all 1 rfl rfl ld44 rfl ?_)
  refine j_step rfl (x_call [0, 1] rfl (S_codewrightref02_Trim (by first | omega | exact side _ (by assumption) | assumption | rfl | (simp; done) | (simp; omega)) (by first | omega | exact side _ (by assumption) | assumption | rfl | (simp; done) | (simp; omega))) rfl ?_)
  rintro _ _ _ ⟨pn1, cn1, pd1, cd1, rfl, rfl, rfl⟩
  simp only [List.cons_append, List.nil_append]
  refine j_step rfl (x_bst_all 1 rfl rfl rfl ld44 rfl rfl (by simp [Value.oneCell']) ?_)
  refine j_nf [.o [1, 1, 0] 0, .c [1, 1, 1]] rfl ?_
  refine j_step rfl (x_field rfl fd44_0 ?_)
  refine j_step rfl (x_bld 1 rfl rfl ld4 rfl ?_)
  refine j_step rfl (x_field rfl fd44_2 ?_)
  refine j_step rfl (x_bld 1 rfl rfl ld42 rfl ?_)
  refine j_step rfl (x_field rfl fd44_1 ?_)
  refine j_step rfl (x_bld 1 rfl rfl ld42 rfl ?_)
  refine j_step rfl (x_build (cs := [Value.bool (rt (vq (neg, N, D))).fst, Value.slice pd1 (rt (vq (neg, N, D))).snd.snd.length cd1, Value.slice pn1 (rt (vq (neg, N, D))).snd.fst.length cn1]) st44 zo44 rfl rfl ?_)
  refine j_step rfl (x_bst_all 0 rfl rfl rfl ld44 rfl rfl (by simp [Value.oneCell']) ?_)
  refine j_nf [.c [1, 1, 1]] rfl ?_
  refine j_givC [1, 0] rfl (.agg 0 rfl rfl ld44 rfl .nil) rfl ⟨_, _, _, _, rfl, rfl, rfl⟩

/-- A point along a ray. -/
def alongR (t : Rat) (X R : List Rt) : Nat → Rt := fun i => rt (vq (X.getD i default) + t * vq (R.getD i default))
theorem along_eq {t : Rat} : ∀ {X R : List Rt}, X.length = R.length → ((List.range X.length).map (alongR t X R)).map vq = along t (X.map vq) (R.map vq) := by
  intro X R h
  refine List.ext_getElem? fun i => ?_
  have key : ∀ {a b : List Rat} (i : Nat) (x y : Rat), a[i]? = some x → b[i]? = some y → (along t a b)[i]? = some (x + t * y) := by
    intro a
    induction a with
    | nil => intro b i x y h; simp at h
    | cons u a ih =>
      intro b i x y hx hy
      cases b with
      | nil => simp at hy
      | cons v b =>
        cases i with
        | zero => simp at hx hy; subst hx; subst hy; rfl
        | succ i => simp at hx hy; simpa [along] using ih i x y hx hy
  by_cases hi : i < X.length
  · rw [key i _ _ (by rw [List.getElem?_map, getD_at hi]; rfl) (by rw [List.getElem?_map, getD_at (by omega)]; rfl)]
    rw [List.getElem?_map, List.getElem?_map, List.getElem?_range hi]
    show some (vq (rt _)) = _
    rw [vq_rt]
  · rw [List.getElem?_eq_none (by simp; omega), List.getElem?_eq_none]
    rw [along_len t (by simpa using h)]
    simp; omega
theorem rays_law {C B X Y R : List Rt} {M : List (List Rt)} {t : Rat} (h : accE 2 C M B X Y R = 0) (ht : 0 ≤ t) :
    valE C M B ((List.range X.length).map (alongR t X R)) = 0 ∧ dotR C ((List.range X.length).map (alongR t X R)) = dotR C X + t * dotR C R := by
  have hc := (acc_check h).1
  obtain ⟨u1, u2, u3⟩ := acc_unb h
  have hl : X.length = R.length := by rw [feas_len u1, feas_len u2]
  have f := feas_along ht (toFeas hc u1) (toRay hc u2)
  rw [← along_eq hl] at f
  refine ⟨feas_val hc ((feas_iff (check_zero hc).2.2.1).2 f), ?_⟩
  rw [dotR, along_eq hl, dot_along t (by simpa using hl)]
  rfl
theorem far_a {b s d : Rat} (hd : 0 < d) (h : ¬ s < b) : b < s + 1 * d := by grind
theorem far_b {b s d : Rat} (hd : 0 < d) : b < s + (1 + (b - s) * d⁻¹) * d := by
  have h : d⁻¹ * d = 1 := Rat.inv_mul_cancel d (by grind)
  have e : s + (1 + (b - s) * d⁻¹) * d = s + (d + (b - s) * (d⁻¹ * d)) := by grind
  rw [e, h]
  grind
theorem far_pos {b s d : Rat} (hd : 0 < d) (h : s < b) : 0 ≤ 1 + (b - s) * d⁻¹ := by
  have h2 : 0 ≤ d⁻¹ := Rat.le_of_lt (Rat.inv_pos.2 hd)
  have := Rat.mul_nonneg (show 0 ≤ b - s by grind) h2
  grind
end Go.Proofs.Ytkchmoahohopiaa

namespace Go.Proofs.Ytkchmoahohopiaa
open Go Go.Fw
set_option maxRecDepth 100000
set_option linter.unusedVariables false
set_option linter.unusedSimpArgs false
set_option maxHeartbeats 4000000
theorem S_SimplexRays {p1 p2 p3 q1 q2 q3 pn pd : Option Addr} {c1 c2 c3 d1 d2 d3 cn cd : Nat} {kind : Int} {g : Bool} {N D : List Nat} {C B X Y R : List Rt} {M : List (List Rt)} :
    Ctr Try.prog 8 [.agg #[.slice p1 C.length c1, .slice p2 M.length c2, .slice p3 B.length c3], .agg #[.int .i64 kind, .slice q1 X.length d1, .slice q2 Y.length d2, .slice q3 R.length d3], .agg #[.bool g, .slice pn N.length cn, .slice pd D.length cd]] []
      [slF RatE p1 C.length c1 C, slF (encSl RatE) p2 M.length c2 M, slF RatE p3 B.length c3 B, slF RatE q1 X.length d1 X, slF RatE q2 Y.length d2 Y, slF RatE q3 R.length d3 R, slF U32 pn N.length cn N, slF U32 pd D.length cd D] (Rv (.bool true) []) := by
  refine Ctr_of_j' (F := F_codewrightlaw35_SimplexRays) rfl fun Cx => ?_
  refine rts_range 0 rfl fun rC => ?_
  refine rtss_rng 1 rfl fun rM => ?_
  refine rts_range 2 rfl fun rB => ?_
  refine rts_range 3 rfl fun rX => ?_
  refine rts_range 4 rfl fun rY => ?_
  refine rts_range 5 rfl fun rR => ?_
  refine j_range 6 rfl fun rN => ?_
  refine j_range 7 rfl fun rD => ?_
  have rb : ∀ r ∈ [((g, N, D) : Rt)], (∀ x ∈ r.2.1, x < 4294967296) ∧ (∀ x ∈ r.2.2, x < 4294967296) := fun r h => by rw [List.mem_singleton.1 h]; exact ⟨lim rN, lim rD⟩
  refine j_nf [.o [0] 0, .c [1]] rfl ?_
  refine j_step rfl (x_box_agg rfl fun b1 => ?_)
  refine j_step rfl (x_box_agg rfl fun b2 => ?_)
  refine j_step rfl (x_box_agg rfl fun b3 => ?_)
  refine j_run it 1 rfl (by simp) ?_
  refine j_nf [.o [1, 0, 0] 0, .c [1, 0, 1], .c [1, 1]] rfl ?_
  refine j_step rfl (x_bld_all 2 rfl rfl ld34 rfl ?_)
  refine j_step rfl (x_field rfl fd36_1 ?_)
  refine j_step rfl (x_bld 1 rfl rfl ld31 rfl ?_)
  refine j_step rfl (x_field rfl fd36_2 ?_)
  refine j_step rfl (x_bld 1 rfl rfl ld31 rfl ?_)
  refine j_step rfl (x_field rfl fd36_3 ?_)
  refine j_step rfl (x_bld 1 rfl rfl ld31 rfl ?_)
  refine j_step rfl (x_bld_all 0 rfl rfl ld44 rfl ?_)
  refine j_step rfl (x_lit sl31 zo31e rfl rfl rfl rfl (by decide) (by decide) rfl fun b4 => ?_)
  refine j_step rfl (x_lit sl32 zo32e rfl rfl rfl rfl (by decide) (by decide) rfl fun b5 => ?_)
  refine j_pub_all (E := RatE) (n := 1) [[.bool g, .slice pn N.length cn, .slice pd D.length cd]] [(g, N, D)] 1 (fun w A hG => allrd_cons (rd_rt (b := g) (hG _ (fact_mem (n := 6) rfl)) (hG _ (fact_mem (n := 7) rfl))) allrd_nil) rfl rfl rfl rfl (by decide) (by decide) ?_
  cases hf : fitsB C M B [X, Y, R, [(g, N, D)]] with
  | false =>
    refine j_pub_all (E := (encSl RatE)) (n := 4) [[Value.slice q1 X.length d1], [Value.slice q2 Y.length d2], [Value.slice q3 R.length d3], [Value.slice (some { block := b4, off := 0 }) 1 1]] [X, Y, R, [(g, N, D)]] 0 (fun w A hG => (allrd_cons (rd_of_slF (hG _ (fact_mem (n := 4) rfl))) (allrd_cons (rd_of_slF (hG _ (fact_mem (n := 5) rfl))) (allrd_cons (rd_of_slF (hG _ (fact_mem (n := 6) rfl))) (allrd_cons (rd_of_slF (hG _ (fact_mem (n := 0) rfl))) allrd_nil))))) rfl rfl rfl rfl (by decide) (by decide) ?_
    refine j_step rfl (x_call [2, 3, 4, 0] rfl (S_codewrightlaw35_fits (by first | omega | exact side _ (by assumption) | assumption | rfl | (simp; done) | (simp; omega))) rfl ?_)
    rintro _ _ _ ⟨rfl, rfl, rfl⟩
    simp only [List.cons_append, List.nil_append]
    refine j_run it 1 rfl (by simp) ?_
    refine j_nf [.c [1, 0, 1], .c [1, 1]] rfl ?_
    refine j_true rfl rfl ?_
    refine j_nf [.o [1, 0, 1, 0, 0] 0, .c [1, 0, 1, 0, 1], .c [1, 1]] rfl ?_
    refine j_run it 1 rfl (by simp) ?_
    refine j_nf [.c [1, 0, 1, 0, 1], .c [1, 1]] rfl ?_
    refine j_giv [] rfl rfl rfl ⟨rfl, rfl, rfl⟩
  | true =>
    have hf' := hf
    simp only [fitsB, Bool.and_eq_true, List.all_cons, List.all_nil, and_true] at hf'
    obtain ⟨⟨fX, fY, fR, fb⟩, fS⟩ := hf'
    obtain ⟨lC, lB, lM, oC, oB, oM, _⟩ := small_ok fS rC rB rM
    obtain ⟨lX, oX⟩ := few_list fX rX
    obtain ⟨lY, oY⟩ := few_list fY rY
    obtain ⟨lR, oR⟩ := few_list fR rR
    obtain ⟨_, ob'⟩ := few_list fb rb
    have ob := ob' _ (List.mem_singleton.2 rfl)
    have hK : (1 : Nat) ≤ 12 := by decide
    by_cases hk : kind = 2
    · subst hk
      by_cases ha : accE 2 C M B X Y R = 0
      · have hc := (acc_check ha).1
        have hXl := feas_len (acc_unb ha).1
        have hRl := feas_len (acc_unb ha).2.1
        have hpos := (acc_unb ha).2.2
        have v1 := feas_val hc (acc_unb ha).1
        have v2 := val_rat v1
        have bs := dotR_bd hK oC oX
        have bd' := dotR_bd hK oC oR
        have bs := bd_mono bs (show (2 * 12 + 1) * C.length + 1 ≤ 201 by omega)
        have bd' := bd_mono bd' (show (2 * 12 + 1) * C.length + 1 ≤ 201 by omega)
        obtain ⟨w1, w2⟩ := bd_len bs
        obtain ⟨w3, w4⟩ := bd_len bd'
        have hs : ¬ (dotR C R).num.sign ≤ 0 := by have := sign_pos.2 hpos; omega
        have hi1 : InR .i64 (1 : Int) := by simp [InR]
        obtain ⟨y1, y2⟩ := ob.2.2
        dsimp only at y1 y2
        have core : ∀ (b8 b3 b2 b1 : Nat) (t : Rat) (pa pb : Option Addr) (ca cb : Nat), 0 ≤ t → bd 417 t → vq (g, N, D) < dotR C X + t * dotR C R →
            J F_codewrightlaw35_SimplexRays Cx [It.c [1, 1, 1, 1, 1, 1, 1, 1, 1]] [(3, .pointer (some ⟨b1, 0, none⟩)), (4, .pointer (some ⟨b2, 0, none⟩)), (5, .pointer (some ⟨b3, 0, none⟩)), (10, .pointer (some ⟨b8, 0, none⟩))]
              [(some b8, 44, [.bool (rt t).1, .slice pa (rt t).2.1.length ca, .slice pb (rt t).2.2.length cb]), (some b3, 44, [.bool g, .slice pn N.length cn, .slice pd D.length cd]), (some b2, 36, [.int .i64 2, .slice q1 X.length d1, .slice q2 Y.length d2, .slice q3 R.length d3]), (some b1, 34, [.slice p1 C.length c1, .slice p2 M.length c2, .slice p3 B.length c3])]
              [slF U32 pa (rt t).2.1.length ca (rt t).2.1, slF U32 pb (rt t).2.2.length cb (rt t).2.2, slF RatE p1 C.length c1 C, slF (encSl RatE) p2 M.length c2 M, slF RatE p3 B.length c3 B, slF RatE q1 X.length d1 X, slF RatE q2 Y.length d2 Y, slF RatE q3 R.length d3 R, slF U32 pn N.length cn N, slF U32 pd D.length cd D] (Gives Cx (Rv (.bool true) [])) := by
          intro b8 b3 b2 b1 t pa pb ca cb ht hbt hfar
          obtain ⟨e1, e2⟩ := rays_law ha ht
          obtain ⟨t1, t2⟩ := bd_len hbt
          refine j_nf [.o [1, 1, 1, 1, 1, 1, 1, 1, 1, 0] 0, .c [1, 1, 1, 1, 1, 1, 1, 1, 1, 1]] rfl ?_
          refine j_run it 1 rfl (by simp) ?_
          refine j_nf [.o [1, 1, 1, 1, 1, 1, 1, 1, 1, 1, 0, 0] 0, .c [1, 1, 1, 1, 1, 1, 1, 1, 1, 1, 0, 1], .c [1, 1, 1, 1, 1, 1, 1, 1, 1, 1, 1]] rfl ?_
          refine j_run it 1 rfl (by simp) ?_
          refine j_nf [.c [1, 1, 1, 1, 1, 1, 1, 1, 1, 1, 0, 1, 0], .blk 0, .c [1, 1, 1, 1, 1, 1, 1, 1, 1, 1, 1]] rfl ?_
          refine j_row0 RatE 44 ?_
          refine j_loopG (X := Nat × Row) [3, 4, 5, 10] [1, 2, 3, 4, 5, 6, 7, 8, 9, 10] (fun x => [(11, .slice (ad x.2.bo) x.1 x.2.cap), (12, .int .i64 x.1)])
            (fun x => [(x.2.bo, 44, x.2.cs), (some b8, 44, [.bool (rt t).1, .slice pa (rt t).2.1.length ca, .slice pb (rt t).2.2.length cb]), (some b3, 44, [.bool g, .slice pn N.length cn, .slice pd D.length cd]), (some b2, 36, [.int .i64 2, .slice q1 X.length d1, .slice q2 Y.length d2, .slice q3 R.length d3]), (some b1, 34, [.slice p1 C.length c1, .slice p2 M.length c2, .slice p3 B.length c3])])
            (fun x => [rowF RatE x.2 x.1 ((List.range x.1).map (alongR t X R))])
            (fun x => x.1 ≤ X.length) (fun x => X.length - x.1) (0, ⟨none, 0, []⟩) [0] rfl rfl rfl (Nat.zero_le _) (by repeat (first | exact Fr.sub_nil _ | refine Fr.sub_cons rfl ?_)) rfl rfl ?_
          rintro ⟨k, r⟩ hk ih
          simp only [List.cons_append, List.nil_append] at hk ih ⊢
          by_cases hkl : k < X.length
          · have o1 := okR_at oX hkl
            have o2 := okR_at oR (show k < R.length by omega)
            obtain ⟨z1, z2⟩ := o1.2.2
            obtain ⟨z3, z4⟩ := o2.2.2
            have z5 : bd (417 + 12) (t * vq ((R.getD k default).1, (R.getD k default).2.1, (R.getD k default).2.2)) := bd_mul hbt (okR_bd o2 hK) (by decide)
            obtain ⟨z6, z7⟩ := bd_len z5
            refine j_nf [.o [1, 1, 1, 1, 1, 1, 1, 1, 1, 1, 0, 1, 0, 0, 0, 0] 0, .c [1, 1, 1, 1, 1, 1, 1, 1, 1, 1, 0, 1, 0, 0, 0, 1], .c [1, 1, 1, 1, 1, 1, 1, 1, 1, 1, 0, 1, 0, 0, 1], .lp [1, 1, 1, 1, 1, 1, 1, 1, 1, 1, 0, 1, 0, 0], .blk 0, .c [1, 1, 1, 1, 1, 1, 1, 1, 1, 1, 1]] rfl ?_
            refine j_run it 1 rfl (by simp) ?_
            refine j_step rfl (x_field rfl fd36_1 ?_)
            refine j_step rfl (x_bld 3 rfl rfl ld31 rfl ?_)
            refine j_step rfl (x_len sl31 rfl ?_)
            refine j_run it 1 rfl (by simp) ?_
            refine j_nf [.c [1, 1, 1, 1, 1, 1, 1, 1, 1, 1, 0, 1, 0, 0, 0, 1], .c [1, 1, 1, 1, 1, 1, 1, 1, 1, 1, 0, 1, 0, 0, 1], .lp [1, 1, 1, 1, 1, 1, 1, 1, 1, 1, 0, 1, 0, 0], .blk 0, .c [1, 1, 1, 1, 1, 1, 1, 1, 1, 1, 1]] rfl ?_
            refine j_if rfl rfl (fun h1 => ?_) (fun h1 => by exfalso; omega)
            refine j_nf [.c [1, 1, 1, 1, 1, 1, 1, 1, 1, 1, 0, 1, 0, 0, 1, 0, 0], .blk 1, .c [1, 1, 1, 1, 1, 1, 1, 1, 1, 1, 0, 1, 0, 0, 1, 1], .lp [1, 1, 1, 1, 1, 1, 1, 1, 1, 1, 0, 1, 0, 0], .blk 0, .c [1, 1, 1, 1, 1, 1, 1, 1, 1, 1, 1]] rfl ?_
            (apply j_drawK it mx 15; (· rfl); (· rfl))
            (apply lxk_run 1; (· rfl); (· simp))
            (apply lxk_eq; (· rfl); (· exact d_x fun _ => x_field rfl fd36_1 dk_eq))
            (apply lxk_eq; (· rfl); (· exact d_bld 3 rfl rfl ld31 rfl))
            (apply lxk_run 1; (· rfl); (· simp))
            (apply lxk_pt; (· rfl); (· exact d_x fun _ => x_idx 6 (k) rfl rfl rfl sl31 rfl (by omega) fun z8 hz1 b6 o3 => (dk_ptD default hz1 0 rfl)); intro b6 o3)
            (apply lxk_rq; (· rfl); (· exact d_x fun _ => x_ld_rt 0 rfl rfl ld44 fun pa1 ca1 pa2 ca2 => (dk_rq 0 1 rfl rfl)); intro pn1 cn1 pd1 cd1)
            (apply lxk_eq; (· rfl); (· exact d_bld_all 1 rfl rfl ld44 rfl))
            (apply lxk_eq; (· rfl); (· exact d_x fun _ => x_field rfl fd36_3 dk_eq))
            (apply lxk_eq; (· rfl); (· exact d_bld 3 rfl rfl ld31 rfl))
            (apply lxk_run 1; (· rfl); (· simp))
            (apply lxk_pt; (· rfl); (· exact d_x fun _ => x_idx 8 (k) rfl rfl rfl sl31 rfl (by omega) fun z8 hz1 b7 o4 => (dk_ptD default hz1 0 rfl)); intro b7 o4)
            (apply lxk_rq; (· rfl); (· exact d_x fun _ => x_ld_rt 0 rfl rfl ld44 fun pa1 ca1 pa2 ca2 => (dk_rq 0 1 rfl rfl)); intro pn2 cn2 pd2 cd2)
            (apply lxk_rq; (· rfl); (· exact d_x fun _ => x_call [4, 5, 0, 1] rfl (S_codewrightref02_Mul (by first | omega | exact side _ (by assumption) | assumption | rfl | (simp; done) | (simp; omega)) (by first | omega | exact side _ (by assumption) | assumption | rfl | (simp; done) | (simp; omega)) (by first | omega | exact side _ (by assumption) | assumption | rfl | (simp; done) | (simp; omega)) (by first | omega | exact side _ (by assumption) | assumption | rfl | (simp; done) | (simp; omega))) rfl (by rintro _ _ _ ⟨pn3, cn3, pd3, cd3, rfl, rfl, rfl⟩; exact (dk_rq 0 1 rfl rfl))); intro pn3 cn3 pd3 cd3)
            simp only [vq_rt']
            (apply lxk_rq; (· rfl); (· exact d_x fun _ => x_call [5, 6, 0, 1] rfl (S_codewrightref02_Add (by first | omega | exact side _ (by assumption) | assumption | rfl | (simp; done) | (simp; omega)) (by first | omega | exact side _ (by assumption) | assumption | rfl | (simp; done) | (simp; omega)) (by first | omega | exact side _ (by assumption) | assumption | rfl | (simp; done) | (simp; omega)) (by first | omega | exact side _ (by assumption) | assumption | rfl | (simp; done) | (simp; omega))) rfl (by rintro _ _ _ ⟨pn4, cn4, pd4, cd4, rfl, rfl, rfl⟩; exact (dk_rq 0 1 rfl rfl))); intro pn4 cn4 pd4 cd4)
            simp only [vq_rt']
            (apply lxk_sl; (· rfl); (· exact d_x fun _ => x_lit sl31 zo31e rfl rfl rfl rfl (by decide) (by decide) rfl fun b9 => dk_all (E := RatE) [[Value.bool (rt (vq ((X.getD k default).fst, (X.getD k default).snd.fst, (X.getD k default).snd.snd) + t * vq ((R.getD k default).fst, (R.getD k default).snd.fst, (R.getD k default).snd.snd))).fst, Value.slice pn4 (rt (vq ((X.getD k default).fst, (X.getD k default).snd.fst, (X.getD k default).snd.snd) + t * vq ((R.getD k default).fst, (R.getD k default).snd.fst, (R.getD k default).snd.snd))).snd.fst.length cn4, Value.slice pd4 (rt (vq ((X.getD k default).fst, (X.getD k default).snd.fst, (X.getD k default).snd.snd) + t * vq ((R.getD k default).fst, (R.getD k default).snd.fst, (R.getD k default).snd.snd))).snd.snd.length cd4]] [((rt (vq ((X.getD k default).fst, (X.getD k default).snd.fst, (X.getD k default).snd.snd) + t * vq ((R.getD k default).fst, (R.getD k default).snd.fst, (R.getD k default).snd.snd))).fst, (rt (vq ((X.getD k default).fst, (X.getD k default).snd.fst, (X.getD k default).snd.snd) + t * vq ((R.getD k default).fst, (R.getD k default).snd.fst, (R.getD k default).snd.snd))).snd.fst, (rt (vq ((X.getD k default).fst, (X.getD k default).snd.fst, (X.getD k default).snd.snd) + t * vq ((R.getD k default).fst, (R.getD k default).snd.fst, (R.getD k default).snd.snd))).snd.snd)] (fun w A hG => (allrd_cons (rd_rt (hG _ (fact_mem (n := 0) rfl)) (hG _ (fact_mem (n := 1) rfl))) allrd_nil)) rfl rfl rfl (by decide)); intro pa1 ca1)
            refine lxk_end rfl ?_
            simp only [List.map_cons, List.map_nil, List.cons_append, List.nil_append]
            refine j_step rfl (x_appS 0 11 0 rfl rfl rfl rfl rfl sl31 zo31e rfl (by omega) _ by31e (by omega) fun r1 => ?_)
            refine j_run it 1 rfl (by simp) ?_
            refine j_nf [.o [1, 1, 1, 1, 1, 1, 1, 1, 1, 1, 0, 1, 0, 0, 1, 1] 0, .lp [1, 1, 1, 1, 1, 1, 1, 1, 1, 1, 0, 1, 0, 0], .blk 0, .c [1, 1, 1, 1, 1, 1, 1, 1, 1, 1, 1]] rfl ?_
            refine j_run it 3 rfl (by repeat' first | exact trivial | apply And.intro | omega) ?_
            refine j_nfn 1 [.lp [1, 1, 1, 1, 1, 1, 1, 1, 1, 1, 0, 1, 0, 0], .blk 0, .c [1, 1, 1, 1, 1, 1, 1, 1, 1, 1, 1]] rfl ?_
            rw [show rt (vq ((X.getD k default).1, (X.getD k default).2.1, (X.getD k default).2.2) + t * vq ((R.getD k default).1, (R.getD k default).2.1, (R.getD k default).2.2)) = alongR t X R k from rfl, ← range_snoc (alongR t X R)]
            refine j_to [0, 13, 14, 15, 16, 17, 18, 19, 20, 21, 22] (by repeat (first | exact Fr.sub_nil _ | refine Fr.sub_cons rfl ?_ | refine Fr.sub_consI rfl (by first | omega | (dsimp only; omega)) ?_ | refine Fr.sub_consS rfl (by first | omega | (dsimp only; omega)) (by first | omega | (dsimp only; omega)) ?_)) rfl rfl (ih (k + 1, r1) (by dsimp only; omega) (by dsimp only; omega))
          · obtain rfl : X.length = k := by omega
            have hK' : (1 : Nat) ≤ 442 := by decide
            have oC' : ∀ r ∈ C, okR 442 r := fun r h => ok_mono (oC r h) (by decide)
            have oB' : ∀ r ∈ B, okR 442 r := fun r h => ok_mono (oB r h) (by decide)
            have oM' : ∀ row ∈ M, ∀ r ∈ row, okR 442 r := fun row h' r h => ok_mono (oM row h' r h) (by decide)
            have ox' : ∀ r ∈ (List.range X.length).map (alongR t X R), okR 442 r := fun r h => by
              obtain ⟨i, hi, rfl⟩ := List.mem_map.1 h
              have hi := List.mem_range.1 hi
              exact okR_rt (bd_mono (bd_add (okR_bd (okR_at oX hi) hK) (bd_mul hbt (okR_bd (okR_at oR (by omega)) hK) (by decide))) (by decide))
            have e4 := val_rat e1
            rw [e2] at e4
            have lx : ((List.range X.length).map (alongR t X R)).length ≤ 80 := by simp; omega
            have lC' : C.length ≤ 80 := by omega
            obtain ⟨f1, f2⟩ := dot_lens hK' (by decide) oC' ox' lC'
            rw [e2] at f1 f2
            have hs2 : 0 < (dotR C X + t * dotR C R - vq (g, N, D)).num.sign := cmp_pos.2 hfar
            clear hK oC oM oB
            refine j_nf [.o [1, 1, 1, 1, 1, 1, 1, 1, 1, 1, 0, 1, 0, 0, 0, 0] 0, .c [1, 1, 1, 1, 1, 1, 1, 1, 1, 1, 0, 1, 0, 0, 0, 1], .c [1, 1, 1, 1, 1, 1, 1, 1, 1, 1, 0, 1, 0, 0, 1], .lp [1, 1, 1, 1, 1, 1, 1, 1, 1, 1, 0, 1, 0, 0], .blk 0, .c [1, 1, 1, 1, 1, 1, 1, 1, 1, 1, 1]] rfl ?_
            refine j_run it 1 rfl (by simp) ?_
            refine j_step rfl (x_field rfl fd36_1 ?_)
            refine j_step rfl (x_bld 3 rfl rfl ld31 rfl ?_)
            refine j_step rfl (x_len sl31 rfl ?_)
            refine j_run it 1 rfl (by simp) ?_
            refine j_nf [.c [1, 1, 1, 1, 1, 1, 1, 1, 1, 1, 0, 1, 0, 0, 0, 1], .c [1, 1, 1, 1, 1, 1, 1, 1, 1, 1, 0, 1, 0, 0, 1], .lp [1, 1, 1, 1, 1, 1, 1, 1, 1, 1, 0, 1, 0, 0], .blk 0, .c [1, 1, 1, 1, 1, 1, 1, 1, 1, 1, 1]] rfl ?_
            refine j_if rfl rfl (fun h1 => by exfalso; omega) (fun h1 => ?_)
            refine j_nf [.o [1, 1, 1, 1, 1, 1, 1, 1, 1, 1, 1, 0] 0, .c [1, 1, 1, 1, 1, 1, 1, 1, 1, 1, 1, 1]] rfl ?_
            refine j_step rfl (x_bld_all 4 rfl rfl ld34 rfl ?_)
            refine j_run it 1 rfl (by simp) ?_
            refine j_pubR 0 0 rfl rfl (by show (X.length) * 56 ≤ 140737488355328; omega) ?_
            refine j_step rfl (x_call [4, 5, 6, 0] rfl (S_simplex_Value (by first | omega | exact side _ (by assumption) | assumption | rfl | (simp; done) | (simp; omega)) (by first | omega | exact side _ (by assumption) | assumption | rfl | (simp; done) | (simp; omega)) (by first | omega | exact side _ (by assumption) | assumption | rfl | (simp; done) | (simp; omega)) (by first | omega | exact side _ (by assumption) | assumption | rfl | (simp; done) | (simp; omega)) (by first | omega | exact side _ (by assumption) | assumption | rfl | (simp; done) | (simp; omega)) (by first | omega | exact side _ (by assumption) | assumption | rfl | (simp; done) | (simp; omega)) (by first | omega | exact side _ (by assumption) | assumption | rfl | (simp; done) | (simp; omega)) (by first | omega | exact side _ (by assumption) | assumption | rfl | (simp; done) | (simp; omega))) rfl ?_)
            rintro _ _ _ ⟨pn1, cn1, pd1, cd1, rfl, rfl, rfl⟩
            simp only [List.cons_append, List.nil_append]
            refine j_run it 3 rfl (by simp) ?_
            refine j_step rfl (x_alloc zo44 fun b6 => ?_)
            refine j_step rfl (x_bst_all 0 rfl rfl rfl ld44 rfl rfl (by simp [Value.oneCell']) ?_)
            refine j_run it 1 rfl (by simp) ?_
            refine j_nf [.o [1, 1, 1, 1, 1, 1, 1, 1, 1, 1, 1, 1, 0] 0, .c [1, 1, 1, 1, 1, 1, 1, 1, 1, 1, 1, 1, 1]] rfl ?_
            refine j_run it 3 rfl (by simp) ?_
            refine j_split_dec (t := 110) rfl (fun h2 => ?_) (fun h2 => by exfalso; omega)
            refine j_gstep rfl rfl (x_bld_all 0 rfl rfl ld44 rfl ?_)
            refine j_gstep rfl rfl (x_bld_all 2 rfl rfl ld44 rfl ?_)
            refine j_gstep rfl rfl (x_call [0, 1, 12, 13] rfl (S_codewrightref02_Cmp (by first | omega | exact side _ (by assumption) | assumption | rfl | (simp; done) | (simp; omega)) (by first | omega | exact side _ (by assumption) | assumption | rfl | (simp; done) | (simp; omega)) (by first | omega | exact side _ (by assumption) | assumption | rfl | (simp; done) | (simp; omega)) (by first | omega | exact side _ (by assumption) | assumption | rfl | (simp; done) | (simp; omega))) rfl ?_)
            rintro _ _ _ ⟨rfl, rfl, rfl⟩
            simp only [List.cons_append, List.nil_append]
            simp only [decide_true]
            simp only [vq_rt']
            refine j_run it 3 rfl (by simp) ?_
            refine j_nf [.c [1, 1, 1, 1, 1, 1, 1, 1, 1, 1, 1, 1, 1]] rfl ?_
            rw [decide_eq_true hs2]
            refine j_giv [] rfl rfl rfl ⟨rfl, rfl, rfl⟩
        have b0 := okR_bd ob hK
        have b1' := bd_add b0 (bd_neg bs)
        rw [← Rat.sub_eq_add_neg] at b1'
        obtain ⟨l1, l2⟩ := bd_len b1'
        have b2' := inv_bd bd' (by decide)
        have b3' := bd_mul b1' b2' (by decide)
        have b4' := bd_add (bd_one (Nat.le_refl 1)) b3'
        have ei : vq ((invR ((rt (dotR C R)).1, (rt (dotR C R)).2.1, (rt (dotR C R)).2.2)).1, (invR ((rt (dotR C R)).1, (rt (dotR C R)).2.1, (rt (dotR C R)).2.2)).2.1, (invR ((rt (dotR C R)).1, (rt (dotR C R)).2.1, (rt (dotR C R)).2.2)).2.2) = (dotR C R)⁻¹ := by
          rw [← vq_inv]; simp only [invR, vq_rt']
        have l3 : (invR ((rt (dotR C R)).1, (rt (dotR C R)).2.1, (rt (dotR C R)).2.2)).2.1.length ≤ 201 := by simp only [invR, vq_rt']; exact w4
        have l4 : (invR ((rt (dotR C R)).1, (rt (dotR C R)).2.1, (rt (dotR C R)).2.2)).2.2.length ≤ 201 := by simp only [invR, vq_rt']; exact w3
        obtain ⟨l5, l6⟩ := bd_len b3'
        rw [← ei] at l5 l6
        have b5 := bd_one (Nat.le_refl 1)
        obtain ⟨l7, l8⟩ := bd_len b5
        refine j_pub_all (E := (encSl RatE)) (n := 4) [[Value.slice q1 X.length d1], [Value.slice q2 Y.length d2], [Value.slice q3 R.length d3], [Value.slice (some { block := b4, off := 0 }) 1 1]] [X, Y, R, [(g, N, D)]] 0 (fun w A hG => (allrd_cons (rd_of_slF (hG _ (fact_mem (n := 4) rfl))) (allrd_cons (rd_of_slF (hG _ (fact_mem (n := 5) rfl))) (allrd_cons (rd_of_slF (hG _ (fact_mem (n := 6) rfl))) (allrd_cons (rd_of_slF (hG _ (fact_mem (n := 0) rfl))) allrd_nil))))) rfl rfl rfl rfl (by decide) (by decide) ?_
        refine j_step rfl (x_call [2, 3, 4, 0] rfl (S_codewrightlaw35_fits (by first | omega | exact side _ (by assumption) | assumption | rfl | (simp; done) | (simp; omega))) rfl ?_)
        rintro _ _ _ ⟨rfl, rfl, rfl⟩
        simp only [List.cons_append, List.nil_append]
        refine j_run it 1 rfl (by simp) ?_
        refine j_nf [.c [1, 0, 1], .c [1, 1]] rfl ?_
        refine j_false rfl rfl ?_
        refine j_nf [.o [1, 1, 0, 0] 0, .c [1, 1, 0, 1], .c [1, 1, 1]] rfl ?_
        refine j_step rfl (x_call [] rfl (S_codewrightlaw35_one) rfl ?_)
        rintro _ _ _ ⟨rfl, rfl, rfl⟩
        simp only [List.cons_append, List.nil_append]
        refine j_run it 1 rfl (by simp) ?_
        refine j_nf [.c [1, 1, 0, 1], .c [1, 1, 1]] rfl ?_
        refine j_false rfl rfl ?_
        refine j_nf [.o [1, 1, 1, 0, 0] 0, .c [1, 1, 1, 0, 1], .c [1, 1, 1, 1]] rfl ?_
        refine j_step rfl (x_field rfl fd36_0 ?_)
        refine j_step rfl (x_bld 1 rfl rfl ld3 rfl ?_)
        refine j_run it 2 rfl (by simp) ?_
        refine j_split_ndec (t := 32) rfl (fun h1 => by exfalso; omega) (fun h1 => ?_)
        refine j_gstep rfl rfl (x_bld_all 2 rfl rfl ld34 rfl ?_)
        refine j_gstep rfl rfl (x_bld_all 1 rfl rfl ld36 rfl ?_)
        refine j_gstep rfl rfl (x_call [2, 3, 4, 5, 6, 7] rfl (S_simplex_Accept (by first | omega | exact side _ (by assumption) | assumption | rfl | (simp; done) | (simp; omega)) (by first | omega | exact side _ (by assumption) | assumption | rfl | (simp; done) | (simp; omega)) (by first | omega | exact side _ (by assumption) | assumption | rfl | (simp; done) | (simp; omega)) (by first | omega | exact side _ (by assumption) | assumption | rfl | (simp; done) | (simp; omega)) (by first | omega | exact side _ (by assumption) | assumption | rfl | (simp; done) | (simp; omega)) (by first | omega | exact side _ (by assumption) | assumption | rfl | (simp; done) | (simp; omega)) (by first | omega | exact side _ (by assumption) | assumption | rfl | (simp; done) | (simp; omega)) (by first | omega | exact side _ (by assumption) | assumption | rfl | (simp; done) | (simp; omega)) (by first | omega | exact side _ (by assumption) | assumption | rfl | (simp; done) | (simp; omega))) rfl ?_)
        rintro _ _ _ ⟨rfl, rfl, rfl⟩
        simp only [List.cons_append, List.nil_append]
        simp only [decide_true]
        refine j_run it 3 rfl (by simp) ?_
        refine j_split_ndec (t := 38) rfl (fun h2 => by exfalso; omega) (fun h2 => ?_)
        refine j_gstep rfl rfl (x_field rfl fd36_1 ?_)
        refine j_gstep rfl rfl (x_bld 1 rfl rfl ld31 rfl ?_)
        refine j_gstep rfl rfl (x_len sl31 rfl ?_)
        refine j_gstep rfl rfl (x_field rfl fd36_3 ?_)
        refine j_gstep rfl rfl (x_bld 1 rfl rfl ld31 rfl ?_)
        refine j_gstep rfl rfl (x_len sl31 rfl ?_)
        refine j_run it 2 rfl (by simp) ?_
        refine j_nf [.c [1, 1, 1, 0, 1], .c [1, 1, 1, 1]] rfl ?_
        refine j_ifn rfl rfl (fun h3 => by exfalso; omega) (fun h3 => ?_)
        refine j_nf [.o [1, 1, 1, 1, 0] 0, .c [1, 1, 1, 1, 1]] rfl ?_
        refine j_step rfl (x_bld_all 2 rfl rfl ld34 rfl ?_)
        refine j_step rfl (x_field rfl fd36_1 ?_)
        refine j_step rfl (x_bld 1 rfl rfl ld31 rfl ?_)
        refine j_step rfl (x_call [2, 3, 4, 5] rfl (S_simplex_Value (by first | omega | exact side _ (by assumption) | assumption | rfl | (simp; done) | (simp; omega)) (by first | omega | exact side _ (by assumption) | assumption | rfl | (simp; done) | (simp; omega)) (by first | omega | exact side _ (by assumption) | assumption | rfl | (simp; done) | (simp; omega)) (by first | omega | exact side _ (by assumption) | assumption | rfl | (simp; done) | (simp; omega)) (by first | omega | exact side _ (by assumption) | assumption | rfl | (simp; done) | (simp; omega)) (by first | omega | exact side _ (by assumption) | assumption | rfl | (simp; done) | (simp; omega)) (by first | omega | exact side _ (by assumption) | assumption | rfl | (simp; done) | (simp; omega)) (by first | omega | exact side _ (by assumption) | assumption | rfl | (simp; done) | (simp; omega))) rfl ?_)
        rintro _ _ _ ⟨pn1, cn1, pd1, cd1, rfl, rfl, rfl⟩
        simp only [List.cons_append, List.nil_append]
        simp only [decide_true]
        refine j_run it 3 rfl (by simp) ?_
        refine j_step rfl (x_alloc zo44 fun b6 => ?_)
        refine j_step rfl (x_bst_all 0 rfl rfl rfl ld44 rfl rfl (by simp [Value.oneCell']) ?_)
        refine j_run it 1 rfl (by simp) ?_
        refine j_nf [.o [1, 1, 1, 1, 1, 0] 0, .c [1, 1, 1, 1, 1, 1]] rfl ?_
        refine j_step rfl (x_field rfl fd34_0 ?_)
        refine j_step rfl (x_bld 3 rfl rfl ld31 rfl ?_)
        refine j_step rfl (x_field rfl fd36_3 ?_)
        refine j_step rfl (x_bld 2 rfl rfl ld31 rfl ?_)
        refine j_step rfl (x_call [4, 9] rfl (S_codewrightref02_Dot (by first | omega | exact side _ (by assumption) | assumption | rfl | (simp; done) | (simp; omega)) (by first | omega | exact side _ (by assumption) | assumption | rfl | (simp; done) | (simp; omega)) (by first | omega | exact side _ (by assumption) | assumption | rfl | (simp; done) | (simp; omega)) (by first | omega | exact side _ (by assumption) | assumption | rfl | (simp; done) | (simp; omega)) (by first | omega | exact side _ (by assumption) | assumption | rfl | (simp; done) | (simp; omega))) rfl ?_)
        rintro _ _ _ ⟨pn2, cn2, pd2, cd2, rfl, rfl, rfl⟩
        simp only [List.cons_append, List.nil_append]
        refine j_step rfl (x_alloc zo44 fun b7 => ?_)
        refine j_step rfl (x_bst_all 0 rfl rfl rfl ld44 rfl rfl (by simp [Value.oneCell']) ?_)
        refine j_nf [.o [1, 1, 1, 1, 1, 1, 0, 0] 0, .c [1, 1, 1, 1, 1, 1, 0, 1], .c [1, 1, 1, 1, 1, 1, 1]] rfl ?_
        refine j_run it 3 rfl (by simp) ?_
        refine j_split_ndec (t := 61) rfl (fun h4 => by exfalso; omega) (fun h4 => ?_)
        refine j_gstep rfl rfl (x_bld_all 0 rfl rfl ld44 rfl ?_)
        refine j_gstep rfl rfl (x_call [0, 1] rfl (S_codewrightref02_Sign (by first | omega | exact side _ (by assumption) | assumption | rfl | (simp; done) | (simp; omega)) (by first | omega | exact side _ (by assumption) | assumption | rfl | (simp; done) | (simp; omega))) rfl ?_)
        rintro _ _ _ ⟨rfl, rfl, rfl⟩
        simp only [List.cons_append, List.nil_append]
        simp only [decide_true]
        simp only [vq_rt']
        refine j_run it 2 rfl (by simp) ?_
        refine j_nf [.c [1, 1, 1, 1, 1, 1, 0, 1], .c [1, 1, 1, 1, 1, 1, 1]] rfl ?_
        refine j_if rfl rfl (fun h5 => by exfalso; omega) (fun h5 => ?_)
        refine j_nf [.o [1, 1, 1, 1, 1, 1, 1, 0] 0, .c [1, 1, 1, 1, 1, 1, 1, 1]] rfl ?_
        refine j_step rfl (x_call [] rfl (S_codewrightref02_Int (by first | omega | exact side _ (by assumption) | assumption | rfl | (simp; done) | (simp; omega))) rfl ?_)
        rintro _ _ _ ⟨pn3, cn3, pd3, cd3, rfl, rfl, rfl⟩
        simp only [List.cons_append, List.nil_append]
        refine j_step rfl (x_alloc zo44 fun b8 => ?_)
        refine j_step rfl (x_bst_all 0 rfl rfl rfl ld44 rfl rfl (by simp [Value.oneCell']) ?_)
        refine j_nf [.o [1, 1, 1, 1, 1, 1, 1, 1, 0, 0] 0, .c [1, 1, 1, 1, 1, 1, 1, 1, 0, 1], .c [1, 1, 1, 1, 1, 1, 1, 1, 1]] rfl ?_
        refine j_step rfl (x_bld_all 3 rfl rfl ld44 rfl ?_)
        refine j_step rfl (x_bld_all 2 rfl rfl ld44 rfl ?_)
        refine j_step rfl (x_call [14, 15, 4, 5] rfl (S_codewrightref02_Cmp (by first | omega | exact side _ (by assumption) | assumption | rfl | (simp; done) | (simp; omega)) (by first | omega | exact side _ (by assumption) | assumption | rfl | (simp; done) | (simp; omega)) (by first | omega | exact side _ (by assumption) | assumption | rfl | (simp; done) | (simp; omega)) (by first | omega | exact side _ (by assumption) | assumption | rfl | (simp; done) | (simp; omega))) rfl ?_)
        rintro _ _ _ ⟨rfl, rfl, rfl⟩
        simp only [List.cons_append, List.nil_append]
        simp only [vq_rt']
        refine j_run it 1 rfl (by simp) ?_
        refine j_nf [.c [1, 1, 1, 1, 1, 1, 1, 1, 0, 1], .c [1, 1, 1, 1, 1, 1, 1, 1, 1]] rfl ?_
        refine j_if rfl rfl (fun h6 => ?_) (fun h6 => ?_)
        · have hlt := cmp_pos.1 (show 0 < (vq (g, N, D) - dotR C X).num.sign by assumption)
          simp only [show ((1 : Int) : Rat) = 1 from rfl]
          (apply j_drawK it mx 8; (· rfl); (· rfl))
          (apply lxk_eq; (· rfl); (· exact d_bld_all 0 rfl rfl ld44 rfl))
          (apply lxk_eq; (· rfl); (· exact d_bld_all 3 rfl rfl ld44 rfl))
          (apply lxk_eq; (· rfl); (· exact d_bld_all 2 rfl rfl ld44 rfl))
          (apply lxk_rq; (· rfl); (· exact d_x fun _ => x_call [14, 15, 4, 5] rfl (S_codewrightref02_Sub (by first | omega | exact side _ (by assumption) | assumption | rfl | (simp; done) | (simp; omega)) (by first | omega | exact side _ (by assumption) | assumption | rfl | (simp; done) | (simp; omega)) (by first | omega | exact side _ (by assumption) | assumption | rfl | (simp; done) | (simp; omega)) (by first | omega | exact side _ (by assumption) | assumption | rfl | (simp; done) | (simp; omega))) rfl (by rintro _ _ _ ⟨pn4, cn4, pd4, cd4, rfl, rfl, rfl⟩; exact (dk_rq 0 1 rfl rfl))); intro pn4 cn4 pd4 cd4)
          simp only [vq_rt']
          (apply lxk_eq; (· rfl); (· exact d_bld_all 1 rfl rfl ld44 rfl))
          (apply lxk_rq; (· rfl); (· exact d_x fun _ => x_call [4, 5] rfl (S_codewrightref02_Inv (by first | omega | exact side _ (by assumption) | assumption | rfl | (simp; done) | (simp; omega)) (by first | omega | exact side _ (by assumption) | assumption | rfl | (simp; done) | (simp; omega))) rfl (by rintro _ _ _ ⟨pn5, cn5, pd5, cd5, rfl, rfl, rfl⟩; exact (dk_rq 0 1 rfl rfl))); intro pn5 cn5 pd5 cd5)
          simp only [vq_rt']
          (apply lxk_rq; (· rfl); (· exact d_x fun _ => x_call [2, 3, 0, 1] rfl (S_codewrightref02_Mul (by first | omega | exact side _ (by assumption) | assumption | rfl | (simp; done) | (simp; omega)) (by first | omega | exact side _ (by assumption) | assumption | rfl | (simp; done) | (simp; omega)) (by first | omega | exact side _ (by assumption) | assumption | rfl | (simp; done) | (simp; omega)) (by first | omega | exact side _ (by assumption) | assumption | rfl | (simp; done) | (simp; omega))) rfl (by rintro _ _ _ ⟨pn6, cn6, pd6, cd6, rfl, rfl, rfl⟩; exact (dk_rq 0 1 rfl rfl))); intro pn6 cn6 pd6 cd6)
          simp only [vq_rt']
          (apply lxk_rq; (· rfl); (· exact d_x fun _ => x_call [6, 7, 0, 1] rfl (S_codewrightref02_Add (by first | omega | exact side _ (by assumption) | assumption | rfl | (simp; done) | (simp; omega)) (by first | omega | exact side _ (by assumption) | assumption | rfl | (simp; done) | (simp; omega)) (by first | omega | exact side _ (by assumption) | assumption | rfl | (simp; done) | (simp; omega)) (by first | omega | exact side _ (by assumption) | assumption | rfl | (simp; done) | (simp; omega))) rfl (by rintro _ _ _ ⟨pn7, cn7, pd7, cd7, rfl, rfl, rfl⟩; exact (dk_rq 0 1 rfl rfl))); intro pn7 cn7 pd7 cd7)
          simp only [vq_rt']
          refine lxk_end rfl ?_
          simp only [List.map_cons, List.map_nil, List.cons_append, List.nil_append]
          refine j_step rfl (x_bst_all 0 rfl rfl rfl ld44 rfl rfl (by simp [Value.oneCell']) ?_)
          refine j_nfn 1 [.c [1, 1, 1, 1, 1, 1, 1, 1, 1]] rfl ?_
          rw [ei]
          refine j_toM [true, false, false, true, true, true] [0, 1, 16, 17, 18, 19, 20, 21, 22, 23] (by repeat (first | exact Fr.sub_nil _ | refine Fr.sub_cons rfl ?_ | refine Fr.sub_consI rfl (by first | omega | (dsimp only; omega)) ?_ | refine Fr.sub_consS rfl (by first | omega | (dsimp only; omega)) (by first | omega | (dsimp only; omega)) ?_)) rfl rfl (core b8 b3 b2 b1 (1 + (vq (g, N, D) - dotR C X) * (dotR C R)⁻¹) pn7 pd7 cn7 cd7 (far_pos hpos hlt) (bd_mono b4' (by decide)) (far_b hpos))
        · have hlt : ¬ dotR C X < vq (g, N, D) := fun h => absurd (cmp_pos.2 h) (by assumption)
          simp only [show ((1 : Int) : Rat) = 1 from rfl]
          refine j_nfn 1 [.c [1, 1, 1, 1, 1, 1, 1, 1, 1]] rfl ?_
          refine j_toM [true, false, false, true, true, true] [0, 1, 8, 9, 10, 11, 12, 13, 14, 15] (by repeat (first | exact Fr.sub_nil _ | refine Fr.sub_cons rfl ?_ | refine Fr.sub_consI rfl (by first | omega | (dsimp only; omega)) ?_ | refine Fr.sub_consS rfl (by first | omega | (dsimp only; omega)) (by first | omega | (dsimp only; omega)) ?_)) rfl rfl (core b8 b3 b2 b1 1 pn3 pd3 cn3 cd3 (by decide) (bd_mono b5 (by decide)) (far_a hpos hlt))
      · refine j_pub_all (E := (encSl RatE)) (n := 4) [[Value.slice q1 X.length d1], [Value.slice q2 Y.length d2], [Value.slice q3 R.length d3], [Value.slice (some { block := b4, off := 0 }) 1 1]] [X, Y, R, [(g, N, D)]] 0 (fun w A hG => (allrd_cons (rd_of_slF (hG _ (fact_mem (n := 4) rfl))) (allrd_cons (rd_of_slF (hG _ (fact_mem (n := 5) rfl))) (allrd_cons (rd_of_slF (hG _ (fact_mem (n := 6) rfl))) (allrd_cons (rd_of_slF (hG _ (fact_mem (n := 0) rfl))) allrd_nil))))) rfl rfl rfl rfl (by decide) (by decide) ?_
        refine j_step rfl (x_call [2, 3, 4, 0] rfl (S_codewrightlaw35_fits (by first | omega | exact side _ (by assumption) | assumption | rfl | (simp; done) | (simp; omega))) rfl ?_)
        rintro _ _ _ ⟨rfl, rfl, rfl⟩
        simp only [List.cons_append, List.nil_append]
        refine j_run it 1 rfl (by simp) ?_
        refine j_nf [.c [1, 0, 1], .c [1, 1]] rfl ?_
        refine j_false rfl rfl ?_
        refine j_nf [.o [1, 1, 0, 0] 0, .c [1, 1, 0, 1], .c [1, 1, 1]] rfl ?_
        refine j_step rfl (x_call [] rfl (S_codewrightlaw35_one) rfl ?_)
        rintro _ _ _ ⟨rfl, rfl, rfl⟩
        simp only [List.cons_append, List.nil_append]
        refine j_run it 1 rfl (by simp) ?_
        refine j_nf [.c [1, 1, 0, 1], .c [1, 1, 1]] rfl ?_
        refine j_false rfl rfl ?_
        refine j_nf [.o [1, 1, 1, 0, 0] 0, .c [1, 1, 1, 0, 1], .c [1, 1, 1, 1]] rfl ?_
        refine j_step rfl (x_field rfl fd36_0 ?_)
        refine j_step rfl (x_bld 1 rfl rfl ld3 rfl ?_)
        refine j_run it 2 rfl (by simp) ?_
        refine j_split_ndec (t := 32) rfl (fun h1 => by exfalso; omega) (fun h1 => ?_)
        refine j_gstep rfl rfl (x_bld_all 2 rfl rfl ld34 rfl ?_)
        refine j_gstep rfl rfl (x_bld_all 1 rfl rfl ld36 rfl ?_)
        refine j_gstep rfl rfl (x_call [2, 3, 4, 5, 6, 7] rfl (S_simplex_Accept (by first | omega | exact side _ (by assumption) | assumption | rfl | (simp; done) | (simp; omega)) (by first | omega | exact side _ (by assumption) | assumption | rfl | (simp; done) | (simp; omega)) (by first | omega | exact side _ (by assumption) | assumption | rfl | (simp; done) | (simp; omega)) (by first | omega | exact side _ (by assumption) | assumption | rfl | (simp; done) | (simp; omega)) (by first | omega | exact side _ (by assumption) | assumption | rfl | (simp; done) | (simp; omega)) (by first | omega | exact side _ (by assumption) | assumption | rfl | (simp; done) | (simp; omega)) (by first | omega | exact side _ (by assumption) | assumption | rfl | (simp; done) | (simp; omega)) (by first | omega | exact side _ (by assumption) | assumption | rfl | (simp; done) | (simp; omega)) (by first | omega | exact side _ (by assumption) | assumption | rfl | (simp; done) | (simp; omega))) rfl ?_)
        rintro _ _ _ ⟨rfl, rfl, rfl⟩
        simp only [List.cons_append, List.nil_append]
        simp only [decide_true]
        refine j_run it 3 rfl (by simp) ?_
        refine j_split_ndec (t := 38) rfl (fun h2 => ?_) (fun h2 => by exfalso; omega)
        refine j_run it 8 rfl (by simp) ?_
        refine j_nf [.c [1, 1, 1, 0, 1], .c [1, 1, 1, 1]] rfl ?_
        refine j_true rfl rfl ?_
        refine j_nf [.o [1, 1, 1, 0, 1, 0, 0] 0, .c [1, 1, 1, 0, 1, 0, 1], .c [1, 1, 1, 1]] rfl ?_
        refine j_run it 1 rfl (by simp) ?_
        refine j_nf [.c [1, 1, 1, 0, 1, 0, 1], .c [1, 1, 1, 1]] rfl ?_
        refine j_giv [] rfl rfl rfl ⟨rfl, rfl, rfl⟩
    · refine j_pub_all (E := (encSl RatE)) (n := 4) [[Value.slice q1 X.length d1], [Value.slice q2 Y.length d2], [Value.slice q3 R.length d3], [Value.slice (some { block := b4, off := 0 }) 1 1]] [X, Y, R, [(g, N, D)]] 0 (fun w A hG => (allrd_cons (rd_of_slF (hG _ (fact_mem (n := 4) rfl))) (allrd_cons (rd_of_slF (hG _ (fact_mem (n := 5) rfl))) (allrd_cons (rd_of_slF (hG _ (fact_mem (n := 6) rfl))) (allrd_cons (rd_of_slF (hG _ (fact_mem (n := 0) rfl))) allrd_nil))))) rfl rfl rfl rfl (by decide) (by decide) ?_
      refine j_step rfl (x_call [2, 3, 4, 0] rfl (S_codewrightlaw35_fits (by first | omega | exact side _ (by assumption) | assumption | rfl | (simp; done) | (simp; omega))) rfl ?_)
      rintro _ _ _ ⟨rfl, rfl, rfl⟩
      simp only [List.cons_append, List.nil_append]
      refine j_run it 1 rfl (by simp) ?_
      refine j_nf [.c [1, 0, 1], .c [1, 1]] rfl ?_
      refine j_false rfl rfl ?_
      refine j_nf [.o [1, 1, 0, 0] 0, .c [1, 1, 0, 1], .c [1, 1, 1]] rfl ?_
      refine j_step rfl (x_call [] rfl (S_codewrightlaw35_one) rfl ?_)
      rintro _ _ _ ⟨rfl, rfl, rfl⟩
      simp only [List.cons_append, List.nil_append]
      refine j_run it 1 rfl (by simp) ?_
      refine j_nf [.c [1, 1, 0, 1], .c [1, 1, 1]] rfl ?_
      refine j_false rfl rfl ?_
      refine j_nf [.o [1, 1, 1, 0, 0] 0, .c [1, 1, 1, 0, 1], .c [1, 1, 1, 1]] rfl ?_
      refine j_step rfl (x_field rfl fd36_0 ?_)
      refine j_step rfl (x_bld 1 rfl rfl ld3 rfl ?_)
      refine j_run it 2 rfl (by simp) ?_
      refine j_split_ndec (t := 32) rfl (fun h1 => ?_) (fun h1 => by exfalso; omega)
      refine j_run it 14 rfl (by simp) ?_
      refine j_nf [.c [1, 1, 1, 0, 1], .c [1, 1, 1, 1]] rfl ?_
      refine j_true rfl rfl ?_
      refine j_nf [.o [1, 1, 1, 0, 1, 0, 0] 0, .c [1, 1, 1, 0, 1, 0, 1], .c [1, 1, 1, 1]] rfl ?_
      refine j_run it 1 rfl (by simp) ?_
      refine j_nf [.c [1, 1, 1, 0, 1, 0, 1], .c [1, 1, 1, 1]] rfl ?_
      refine j_giv [] rfl rfl rfl ⟨rfl, rfl, rfl⟩
end Go.Proofs.Ytkchmoahohopiaa
