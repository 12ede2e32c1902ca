/-
The dual of a linear program, the program's and the document's.
-/
import Derived.Test.YtpoonnjaobjdgaaFuns
import Derived.Test.YtpoonnjaobjdgaaNatMath
import Derived.Test.YtpoonnjaobjdgaaNatMath5
import Derived.Test.YtpoonnjaobjdgaaRatMath
import Derived.Test.YtpoonnjaobjdgaaA1
import Derived.Test.YtpoonnjaobjdgaaD1
import Derived.Test.YtpoonnjaobjdgaaD3
import Derived.Test.YtpoonnjaobjdgaaE1
import Derived.Test.YtpoonnjaobjdgaaS1
import Derived.Test.YtpoonnjaobjdgaaSChecks
namespace Go.Proofs.Ytpoonnjaobjdgaa
open Go Go.Fw
set_option maxRecDepth 100000
set_option linter.unusedVariables false
set_option maxHeartbeats 2000000
/-- A linear program is given. -/
abbrev LinV (C : List Rt) (A : List (List Rt)) (B : List Rt) : Value → List Fact → List Blk → Prop := fun v Φ β => ∃ p1 c1 p2 c2 p3 c3, v = .agg #[.slice p1 C.length c1, .slice p2 A.length c2, .slice p3 B.length c3] ∧ Φ = [slF RatE p1 C.length c1 C, slF (encSl RatE) p2 A.length c2 A, slF RatE p3 B.length c3 B] ∧ β = []

/-- A linear program and an error. -/
abbrev LinE2 (C : List Rt) (A : List (List Rt)) (B : List Rt) (e : Int) : Value → List Fact → List Blk → Prop := fun v Φ β => ∃ p1 c1 p2 c2 p3 c3, v = .tuple #[.agg #[.slice p1 C.length c1, .slice p2 A.length c2, .slice p3 B.length c3], .int .i64 e] ∧ Φ = [slF RatE p1 C.length c1 C, slF (encSl RatE) p2 A.length c2 A, slF RatE p3 B.length c3 B] ∧ β = []

/-- The matrix, turned and negated. -/
def turned (m : Nat) (A : List (List Rt)) : List (List Rt) := (List.range m).map fun j => A.map fun row => negR (row.getD j default)

def smallL (L : List Rt) : Prop := ∀ r ∈ L, r.2.1.length ≤ 1073741824 ∧ r.2.2.length ≤ 1073741824

theorem S_codewrightref35_Dual {p1 p2 p3 : Option Addr} {c1 c2 c3 : Nat} {C A B} (hC : smallL C) (hB : smallL B) (hA : ∀ row ∈ A, row.length = C.length ∧ smallL row) (lC : C.length ≤ 80) (lA : A.length ≤ 80) (lB : B.length ≤ 80) :
    Ctr Try.prog 8 [.agg #[.slice p1 C.length c1, .slice p2 A.length c2, .slice p3 B.length c3]] [] [slF RatE p1 C.length c1 C, slF (encSl RatE) p2 A.length c2 A, slF RatE p3 B.length c3 B]
    (LinV (B.map negR) (turned C.length A) (C.map negR)) := by
  refine Ctr_of_j' (F := F_codewrightref35_Dual) rfl fun Cx => ?_
  have hT : (turned C.length A).length = C.length := by simp [turned]
  refine j_nf [.o [0] 0, .c [1]] rfl ?_
  refine j_step rfl (x_box_agg rfl fun b1 => ?_)
  refine j_step rfl (x_alloc zo25 fun b2 => ?_)
  refine j_nf [.c [1, 0], .c [1, 1]] rfl ?_
  (apply j_drawK it mx 8; (· rfl); (· rfl))
  (apply lxk_eq; (· rfl); (· exact d_x fun _ => x_field rfl fd25_2 dk_eq))
  (apply lxk_eq; (· rfl); (· exact d_bld 1 rfl rfl ld22 rfl))
  (apply lxk_sl; (· rfl); (· exact d_x fun _ => x_call [2] rfl (S_codewrightref35_negative (by first | omega | exact side _ (by assumption) | assumption | rfl | (simp; done) | (simp; omega)) (by first | omega | exact side _ (by assumption) | assumption | rfl | (simp; done) | (simp; omega))) rfl (by rintro _ _ _ ⟨pa1, ca1, rfl, rfl, rfl⟩; exact (dk_sl 0 rfl))); intro pa1 ca1)
  (apply lxk_eq; (· rfl); (· exact d_x fun _ => x_field rfl fd25_0 dk_eq))
  (apply lxk_eq; (· rfl); (· exact d_bld 1 rfl rfl ld22 rfl))
  (apply lxk_sl; (· rfl); (· exact d_x fun _ => x_call [1] rfl (S_codewrightref35_negative (by first | omega | exact side _ (by assumption) | assumption | rfl | (simp; done) | (simp; omega)) (by first | omega | exact side _ (by assumption) | assumption | rfl | (simp; done) | (simp; omega))) rfl (by rintro _ _ _ ⟨pa2, ca2, rfl, rfl, rfl⟩; exact (dk_sl 0 rfl))); intro pa2 ca2)
  (apply lxk_fa (val := fun g => Value.agg #[Value.slice (g 0).1 ((List.map negR B).length) (g 0).2.1, Value.slice none 0 0, Value.slice (g 2).1 ((List.map negR C).length) (g 2).2.1]) (f := fun g => [slF (RatE) (g 0).1 ((List.map negR B).length) (g 0).2.1 (List.map negR B), slF (RatE) (g 2).1 ((List.map negR C).length) (g 2).2.1 (List.map negR C)]); (· rfl); (· exact d_x fun _ => x_build (cs := [Value.slice pa1 (List.map negR B).length ca1, Value.slice none 0 0, Value.slice pa2 (List.map negR C).length ca2]) st25 zo25 rfl rfl (fun _ _ _ hG => ⟨(fun | 0 => (pa1, ca1, 0) | 2 => (pa2, ca2, 0) | _ => default), rfl, fun g hg => by (simp only [List.mem_cons, List.not_mem_nil, or_false] at hg; rcases hg with rfl | rfl; (· exact drop_own (hG _ (fact_mem (n := 1) rfl))); (· exact drop_own (hG _ (fact_mem (n := 0) rfl))))⟩)); intro g1; dsimp only [List.map_cons, List.map_nil])
  (apply lxk_alloc; (· rfl); (· exact zo25); intro b3)
  refine lxk_end rfl ?_
  simp only [List.map_cons, List.map_nil, List.cons_append, List.nil_append]
  refine j_step rfl (x_bst_all 0 rfl rfl rfl ld25 rfl rfl (by simp [Value.oneCell']) ?_)
  refine j_nf [.o [1, 1, 0, 0] 0, .c [1, 1, 0, 1], .c [1, 1, 1]] rfl ?_
  refine j_run it 1 rfl (by simp) ?_
  refine j_nf [.c [1, 1, 0, 1, 0], .blk 0, .c [1, 1, 1]] rfl ?_
  refine j_nil 22 ?_
  refine j_add (allF (encSl RatE) [] []) (fun w A _ => allrd_nil) ?_
  refine j_loopG (X := Nat × List (List Value) × Option Nat × Nat × List Value) [1, 2, 3] [1, 2, 5, 6, 7] (fun x => [(4, .int .i64 x.1)])
    (fun x => [(x.2.2.1, 22, x.2.2.2.2), (some b3, 25, [.slice (g1 0).1 (B.map negR).length (g1 0).2.1, .slice (ad x.2.2.1) x.1 x.2.2.2.1, .slice (g1 2).1 (C.map negR).length (g1 2).2.1]), (some b2, 25, [.slice none 0 0, .slice none 0 0, .slice none 0 0]), (some b1, 25, [.slice p1 C.length c1, .slice p2 A.length c2, .slice p3 B.length c3])])
    (fun x => [allF (encSl RatE) x.2.1 ((turned C.length A).take x.1)])
    (fun x => x.1 ≤ C.length ∧ GrOk x.2.2.1 x.1 x.2.2.2.1 1 x.2.2.2.2 ∧ x.2.2.2.2.take (x.1 * 1) = x.2.1.flatten) (fun x => C.length - x.1) (0, [], none, 0, []) [0] rfl rfl rfl ⟨Nat.zero_le _, GrOk.nil _, by simp⟩ (by repeat (first | exact Fr.sub_nil _ | refine Fr.sub_cons rfl ?_)) rfl rfl ?_
  rintro ⟨j, vsA, boA, capA, csA⟩ ⟨hj, hgA, htA⟩ ihA
  simp only [List.cons_append, List.nil_append] at hj hgA htA ihA ⊢
  by_cases hjl : j < C.length
  · refine j_nf [.o [1, 1, 0, 1, 0, 0, 0, 0] 0, .c [1, 1, 0, 1, 0, 0, 0, 1], .c [1, 1, 0, 1, 0, 0, 1], .lp [1, 1, 0, 1, 0, 0], .blk 0, .c [1, 1, 1]] rfl ?_
    refine j_run it 1 rfl (by simp) ?_
    refine j_step rfl (x_field rfl fd25_0 ?_)
    refine j_step rfl (x_bld 3 rfl rfl ld22 rfl ?_)
    refine j_step rfl (x_len sl22 rfl ?_)
    refine j_run it 1 rfl (by simp) ?_
    refine j_nf [.c [1, 1, 0, 1, 0, 0, 0, 1], .c [1, 1, 0, 1, 0, 0, 1], .lp [1, 1, 0, 1, 0, 0], .blk 0, .c [1, 1, 1]] rfl ?_
    refine j_if rfl rfl (fun h1 => ?_) (fun h1 => by exfalso; omega)
    refine j_nf [.o [1, 1, 0, 1, 0, 0, 1, 0, 0, 0] 0, .c [1, 1, 0, 1, 0, 0, 1, 0, 0, 1], .blk 1, .c [1, 1, 0, 1, 0, 0, 1, 1], .lp [1, 1, 0, 1, 0, 0], .blk 0, .c [1, 1, 1]] rfl ?_
    refine j_run it 1 rfl (by simp) ?_
    refine j_nf [.o [1, 1, 0, 1, 0, 0, 1, 0, 0, 1, 0, 0] 0, .c [1, 1, 0, 1, 0, 0, 1, 0, 0, 1, 0, 1], .c [1, 1, 0, 1, 0, 0, 1, 0, 0, 1, 1], .blk 1, .c [1, 1, 0, 1, 0, 0, 1, 1], .lp [1, 1, 0, 1, 0, 0], .blk 0, .c [1, 1, 1]] rfl ?_
    refine j_run it 1 rfl (by simp) ?_
    refine j_nf [.c [1, 1, 0, 1, 0, 0, 1, 0, 0, 1, 0, 1, 0], .blk 2, .c [1, 1, 0, 1, 0, 0, 1, 0, 0, 1, 1], .blk 1, .c [1, 1, 0, 1, 0, 0, 1, 1], .lp [1, 1, 0, 1, 0, 0], .blk 0, .c [1, 1, 1]] rfl ?_
    refine j_nil 37 ?_
    refine j_add (allF RatE [] []) (fun w A _ => allrd_nil) ?_
    refine j_loopG (X := Nat × List (List Value) × Option Nat × Nat × List Value) [1, 2, 3, 4, 14, 15, 16, 17, 18] [1, 2, 3, 4, 5, 6] (fun x => [(5, .slice (ad x.2.2.1) x.1 x.2.2.2.1), (6, .int .i64 x.1)])
      (fun x => [(x.2.2.1, 37, x.2.2.2.2), (boA, 22, csA), (some b3, 25, [.slice (g1 0).1 (B.map negR).length (g1 0).2.1, .slice (ad boA) j capA, .slice (g1 2).1 (C.map negR).length (g1 2).2.1]), (some b2, 25, [.slice none 0 0, .slice none 0 0, .slice none 0 0]), (some b1, 25, [.slice p1 C.length c1, .slice p2 A.length c2, .slice p3 B.length c3])])
      (fun x => [allF RatE x.2.1 ((A.take x.1).map fun row => negR (row.getD j default))])
      (fun x => x.1 ≤ A.length ∧ GrOk x.2.2.1 x.1 x.2.2.2.1 3 x.2.2.2.2 ∧ x.2.2.2.2.take (x.1 * 3) = x.2.1.flatten) (fun x => A.length - x.1) (0, [], none, 0, []) [0] rfl rfl rfl ⟨Nat.zero_le _, GrOk.nil _, by simp⟩ (by repeat (first | exact Fr.sub_nil _ | refine Fr.sub_cons rfl ?_)) rfl rfl ?_
    rintro ⟨i, vss, bo, cap, cs⟩ ⟨hi, hg, ht⟩ ih
    simp only [List.cons_append, List.nil_append] at hi hg ht ih ⊢
    by_cases hil : i < A.length
    · refine j_nf [.o [1, 1, 0, 1, 0, 0, 1, 0, 0, 1, 0, 1, 0, 0, 0, 0] 0, .c [1, 1, 0, 1, 0, 0, 1, 0, 0, 1, 0, 1, 0, 0, 0, 1], .c [1, 1, 0, 1, 0, 0, 1, 0, 0, 1, 0, 1, 0, 0, 1], .lp [1, 1, 0, 1, 0, 0, 1, 0, 0, 1, 0, 1, 0, 0], .blk 2, .c [1, 1, 0, 1, 0, 0, 1, 0, 0, 1, 1], .blk 1, .c [1, 1, 0, 1, 0, 0, 1, 1], .lp [1, 1, 0, 1, 0, 0], .blk 0, .c [1, 1, 1]] rfl ?_
      refine j_run it 1 rfl (by simp) ?_
      refine j_step rfl (x_field rfl fd25_1 ?_)
      refine j_step rfl (x_bld 4 rfl rfl ld23 rfl ?_)
      refine j_step rfl (x_len sl23 rfl ?_)
      refine j_run it 1 rfl (by simp) ?_
      refine j_nf [.c [1, 1, 0, 1, 0, 0, 1, 0, 0, 1, 0, 1, 0, 0, 0, 1], .c [1, 1, 0, 1, 0, 0, 1, 0, 0, 1, 0, 1, 0, 0, 1], .lp [1, 1, 0, 1, 0, 0, 1, 0, 0, 1, 0, 1, 0, 0], .blk 2, .c [1, 1, 0, 1, 0, 0, 1, 0, 0, 1, 1], .blk 1, .c [1, 1, 0, 1, 0, 0, 1, 1], .lp [1, 1, 0, 1, 0, 0], .blk 0, .c [1, 1, 1]] rfl ?_
      refine j_if rfl rfl (fun h2 => ?_) (fun h2 => by exfalso; omega)
      refine j_nf [.o [1, 1, 0, 1, 0, 0, 1, 0, 0, 1, 0, 1, 0, 0, 1, 0, 0] 0, .blk 3, .c [1, 1, 0, 1, 0, 0, 1, 0, 0, 1, 0, 1, 0, 0, 1, 1], .lp [1, 1, 0, 1, 0, 0, 1, 0, 0, 1, 0, 1, 0, 0], .blk 2, .c [1, 1, 0, 1, 0, 0, 1, 0, 0, 1, 1], .blk 1, .c [1, 1, 0, 1, 0, 0, 1, 1], .lp [1, 1, 0, 1, 0, 0], .blk 0, .c [1, 1, 1]] rfl ?_
      refine j_run it 1 rfl (by simp) ?_
      refine j_step rfl (x_field rfl fd25_1 ?_)
      refine j_step rfl (x_bld 4 rfl rfl ld23 rfl ?_)
      refine j_run it 1 rfl (by simp) ?_
      refine j_step rfl (x_idx 5 (i) rfl rfl rfl sl23 rfl (by omega) fun z1 hz1 b4 o1 => ?_)
      refine j_step rfl (x_ld_sl 0 rfl rfl ld22 fun pa3 ca3 => ?_)
      refine j_run it 1 rfl (by simp) ?_
      refine j_step rfl (x_idx 0 (j) rfl rfl rfl sl22 (by omega) ?_ fun z2 hz2 b5 o2 => ?_) --ok
      · have := (hA z1 (List.mem_of_getElem? hz1)).1
        omega
      obtain ⟨hz3, hz4⟩ := (hA z1 (List.mem_of_getElem? hz1)).2 z2 (List.mem_of_getElem? hz2)
      refine j_step rfl (x_ld_rt 0 rfl rfl ld37 fun pa4 ca4 pa5 ca5 => ?_)
      refine j_step rfl (x_call [0, 1] rfl (S_codewrightref02_Neg (by first | omega | exact side _ (by assumption) | assumption | rfl | (simp; done) | (simp; omega)) (by first | omega | exact side _ (by assumption) | assumption | rfl | (simp; done) | (simp; omega))) rfl ?_)
      rintro _ _ _ ⟨pn1, cn1, pd1, cd1, rfl, rfl, rfl⟩
      simp only [List.cons_append, List.nil_append]
      refine j_step rfl (x_lit sl22 zo22e rfl rfl rfl rfl (by decide) (by decide) rfl fun b6 => ?_)
      refine j_step rfl (x_app 1 0 rfl rfl rfl rfl sl22 zo22e rfl (by first | exact GrOk.nil _ | assumption | exact .inr ⟨_, rfl, Nat.le_refl _, by omega, rfl⟩) rfl rfl (by first | (simp [Value.oneCell']; done) | (simp [Value.oneCell', cellsL]; done) | (intro u hu; rcases List.mem_singleton.1 hu with rfl; rfl)) (by omega) _ by22e (by omega) fun bo1 cap1 cs1 hg1 ht1 => ?_)
      refine j_run it 1 rfl (by simp) ?_
      refine j_nf [.o [1, 1, 0, 1, 0, 0, 1, 0, 0, 1, 0, 1, 0, 0, 1, 1] 0, .lp [1, 1, 0, 1, 0, 0, 1, 0, 0, 1, 0, 1, 0, 0], .blk 2, .c [1, 1, 0, 1, 0, 0, 1, 0, 0, 1, 1], .blk 1, .c [1, 1, 0, 1, 0, 0, 1, 1], .lp [1, 1, 0, 1, 0, 0], .blk 0, .c [1, 1, 1]] rfl ?_
      refine j_run it 3 rfl (by repeat' first | exact trivial | apply And.intro | omega) ?_
      refine j_nfn 1 [.lp [1, 1, 0, 1, 0, 0, 1, 0, 0, 1, 0, 1, 0, 0], .blk 2, .c [1, 1, 0, 1, 0, 0, 1, 0, 0, 1, 1], .blk 1, .c [1, 1, 0, 1, 0, 0, 1, 1], .lp [1, 1, 0, 1, 0, 0], .blk 0, .c [1, 1, 1]] rfl ?_
      have hge : z1.getD j default = z2 := by rw [List.getD, hz2]; rfl
      have em : (A.take (i + 1)).map (fun row => negR (row.getD j default)) = (A.take i).map (fun row => negR (row.getD j default)) ++ [negR z2] := by rw [List.take_add_one, hz1]; simp [hz2]
      refine j_add (allF RatE (vss ++ [[Value.bool (negR z2).1, Value.slice pn1 (negR z2).2.1.length cn1, Value.slice pd1 (negR z2).2.2.length cd1]]) ((A.take (i + 1)).map fun row => negR (row.getD j default))) (fun w A hG => by
        rw [em]
        exact allrd_snoc (hG _ (fact_mem (n := 7) rfl)) (rd_rt (hG _ (fact_mem (n := 0) rfl)) (hG _ (fact_mem (n := 1) rfl)))) ?_
      refine j_toM [true, false, true, true, true, true] [0, 9, 10, 11, 12, 13, 14] (by repeat (first | exact Fr.sub_nil _ | refine Fr.sub_cons rfl ?_ | refine Fr.sub_consI rfl (by first | omega | (dsimp only; omega)) ?_ | refine Fr.sub_consS rfl (by first | omega | (dsimp only; omega)) (by first | omega | (dsimp only; omega)) ?_)) rfl rfl (ih (i + 1, vss ++ [[Value.bool (negR z2).1, Value.slice pn1 (negR z2).2.1.length cn1, Value.slice pd1 (negR z2).2.2.length cd1]], bo1, cap1, cs1) (by dsimp only; omega) ⟨by dsimp only; omega, hg1, by dsimp only; rw [ht1, ht, List.flatten_append]; rfl⟩)
    · have ei : i = A.length := by omega
      subst ei
      rw [List.take_length]
      refine j_pub (E := RatE) (n := A.length) 0 0 rfl rfl hg ht (by simp) (by show A.length * 56 ≤ _; omega) ?_
      refine j_nf [.o [1, 1, 0, 1, 0, 0, 1, 0, 0, 1, 0, 1, 0, 0, 0, 0] 0, .c [1, 1, 0, 1, 0, 0, 1, 0, 0, 1, 0, 1, 0, 0, 0, 1], .c [1, 1, 0, 1, 0, 0, 1, 0, 0, 1, 0, 1, 0, 0, 1], .lp [1, 1, 0, 1, 0, 0, 1, 0, 0, 1, 0, 1, 0, 0], .blk 2, .c [1, 1, 0, 1, 0, 0, 1, 0, 0, 1, 1], .blk 1, .c [1, 1, 0, 1, 0, 0, 1, 1], .lp [1, 1, 0, 1, 0, 0], .blk 0, .c [1, 1, 1]] rfl ?_
      refine j_run it 1 rfl (by simp) ?_
      refine j_step rfl (x_field rfl fd25_1 ?_)
      refine j_step rfl (x_bld 3 rfl rfl ld23 rfl ?_)
      refine j_step rfl (x_len sl23 rfl ?_)
      refine j_run it 1 rfl (by simp) ?_
      refine j_nf [.c [1, 1, 0, 1, 0, 0, 1, 0, 0, 1, 0, 1, 0, 0, 0, 1], .c [1, 1, 0, 1, 0, 0, 1, 0, 0, 1, 0, 1, 0, 0, 1], .lp [1, 1, 0, 1, 0, 0, 1, 0, 0, 1, 0, 1, 0, 0], .blk 2, .c [1, 1, 0, 1, 0, 0, 1, 0, 0, 1, 1], .blk 1, .c [1, 1, 0, 1, 0, 0, 1, 1], .lp [1, 1, 0, 1, 0, 0], .blk 0, .c [1, 1, 1]] rfl ?_
      refine j_if rfl rfl (fun h2 => by exfalso; omega) (fun h2 => ?_)
      refine j_nf [.o [1, 1, 0, 1, 0, 0, 1, 0, 0, 1, 1] 0, .blk 1, .c [1, 1, 0, 1, 0, 0, 1, 1], .lp [1, 1, 0, 1, 0, 0], .blk 0, .c [1, 1, 1]] rfl ?_
      refine j_step rfl (x_field rfl fd25_1 ?_)
      refine j_step rfl (x_bld 1 rfl rfl ld23 rfl ?_)
      refine j_run it 1 rfl (by simp) ?_
      refine j_step rfl (x_lit sl23 zo23e rfl rfl rfl rfl (by decide) (by decide) rfl fun b4 => ?_)
      refine j_step rfl (x_app 1 0 rfl rfl rfl rfl sl23 zo23e rfl (by first | exact GrOk.nil _ | assumption | exact .inr ⟨_, rfl, Nat.le_refl _, by omega, rfl⟩) rfl rfl (by first | (simp [Value.oneCell']; done) | (simp [Value.oneCell', cellsL]; done) | (intro u hu; rcases List.mem_singleton.1 hu with rfl; rfl)) (by omega) _ by23e (by omega) fun bo1 cap1 cs1 hg1 ht1 => ?_)
      refine j_step rfl (x_field rfl fd25_1 ?_)
      refine j_step rfl (x_bst1 2 rfl rfl rfl rfl ld23 rfl (Nat.le_of_ble_eq_true rfl) ?_)
      refine j_nf [.o [1, 1, 0, 1, 0, 0, 1, 1] 0, .lp [1, 1, 0, 1, 0, 0], .blk 0, .c [1, 1, 1]] rfl ?_
      refine j_run it 3 rfl (by repeat' first | exact trivial | apply And.intro | omega) ?_
      refine j_nfn 1 [.lp [1, 1, 0, 1, 0, 0], .blk 0, .c [1, 1, 1]] rfl ?_
      have em : (turned C.length A).take (j + 1) = (turned C.length A).take j ++ [A.map fun row => negR (row.getD j default)] := by
        rw [List.take_add_one]; simp [turned, hjl]
      refine j_add (allF (encSl RatE) (vsA ++ [[Value.slice (ad bo) A.length cap]]) ((turned C.length A).take (j + 1))) (fun w A hG => by
        rw [em]
        exact allrd_snoc (hG _ (fact_mem (n := 2) rfl)) (rd_of_slF (hG _ (fact_mem (n := 0) rfl)))) ?_
      refine j_toM [true, false, true, true, true] [0, 4, 5, 6, 7, 8] (by repeat (first | exact Fr.sub_nil _ | refine Fr.sub_cons rfl ?_ | refine Fr.sub_consI rfl (by first | omega | (dsimp only; omega)) ?_ | refine Fr.sub_consS rfl (by first | omega | (dsimp only; omega)) (by first | omega | (dsimp only; omega)) ?_)) rfl rfl (ihA (j + 1, vsA ++ [[Value.slice (ad bo) A.length cap]], bo1, cap1, cs1) (by dsimp only; omega) ⟨by dsimp only; omega, hg1, by dsimp only; rw [ht1, htA, List.flatten_append]; rfl⟩)
  · have ej : j = C.length := by omega
    subst ej
    rw [List.take_of_length_le (by omega)]
    refine j_nf [.o [1, 1, 0, 1, 0, 0, 0, 0] 0, .c [1, 1, 0, 1, 0, 0, 0, 1], .c [1, 1, 0, 1, 0, 0, 1], .lp [1, 1, 0, 1, 0, 0], .blk 0, .c [1, 1, 1]] rfl ?_
    refine j_run it 1 rfl (by simp) ?_
    refine j_step rfl (x_field rfl fd25_0 ?_)
    refine j_step rfl (x_bld 3 rfl rfl ld22 rfl ?_)
    refine j_step rfl (x_len sl22 rfl ?_)
    refine j_run it 1 rfl (by simp) ?_
    refine j_nf [.c [1, 1, 0, 1, 0, 0, 0, 1], .c [1, 1, 0, 1, 0, 0, 1], .lp [1, 1, 0, 1, 0, 0], .blk 0, .c [1, 1, 1]] rfl ?_
    refine j_if rfl rfl (fun h1 => by exfalso; omega) (fun h1 => ?_)
    refine j_nf [.o [1, 1, 1, 0] 0, .c [1, 1, 1, 1]] rfl ?_
    refine j_step rfl (x_bld_all 1 rfl rfl ld25 rfl ?_)
    refine j_step rfl (x_bst_all 2 rfl rfl rfl ld25 rfl rfl (by simp [Value.oneCell']) ?_)
    refine j_nf [.c [1, 1, 1, 1]] rfl ?_
    refine j_pub (E := encSl RatE) (n := C.length) 0 0 rfl rfl hgA htA hT.symm (by show C.length * 24 ≤ _; omega) ?_
    refine j_givC [2, 0, 3] rfl (.agg 1 rfl rfl ld25 rfl .nil) rfl ⟨_, _, _, _, _, _, by rw [hT]; rfl, by rw [hT], rfl⟩

theorem S_simplex_Dual {p1 p2 p3 : Option Addr} {c1 c2 c3 : Nat} {C A B} (hC : smallL C) (hB : smallL B) (hA : ∀ row ∈ A, row.length = C.length ∧ smallL row) (lC : C.length ≤ 80) (lA : A.length ≤ 80) (lB : B.length ≤ 80) (hAB : A.length = B.length) :
    Ctr Try.prog 6 [.agg #[.slice p1 C.length c1, .slice p2 A.length c2, .slice p3 B.length c3]] [] [slF RatE p1 C.length c1 C, slF (encSl RatE) p2 A.length c2 A, slF RatE p3 B.length c3 B]
    (LinE2 (B.map negR) (turned C.length A) (C.map negR) 0) := by
  refine Ctr_of_j' (F := F_simplex_Dual) rfl fun Cx => ?_
  have hch : checkOf (C, A, B) = 0 := by
    rw [checkOf, if_neg (by dsimp only; omega), if_neg (by simpa using hAB), if_pos (by simp only [List.all_eq_true, beq_iff_eq]; exact fun r hr => (hA r hr).1)]
  have hT : (turned C.length A).length = C.length := by simp [turned]
  refine j_nf [.o [0] 0, .c [1]] rfl ?_
  refine j_step rfl (x_box_agg rfl fun b1 => ?_)
  refine j_step rfl (x_alloc zo25 fun b2 => ?_)
  refine j_run it 1 rfl (by simp) ?_
  refine j_nf [.o [1, 0, 0] 0, .c [1, 0, 1], .c [1, 1]] rfl ?_
  refine j_step rfl (x_bld_all 1 rfl rfl ld25 rfl ?_)
  refine j_step rfl (x_call [0, 1, 2] rfl (S_simplex_Check) rfl ?_)
  rintro _ _ _ ⟨rfl, rfl, rfl⟩
  simp only [List.cons_append, List.nil_append]
  refine j_run it 1 rfl (by simp) ?_
  refine j_nf [.o [1, 0, 1, 0] 0, .c [1, 0, 1, 1], .c [1, 1]] rfl ?_
  refine j_run it 2 rfl (by simp) ?_
  refine j_nf [.c [1, 0, 1, 1], .c [1, 1]] rfl ?_
  refine j_ifn rfl rfl (fun h1 => by exfalso; omega) (fun h1 => ?_)
  refine j_nf [.c [1, 1, 0], .c [1, 1, 1]] rfl ?_
  (apply j_drawK it mx 8; (· rfl); (· rfl))
  (apply lxk_eq; (· rfl); (· exact d_x fun _ => x_field rfl fd25_2 dk_eq))
  (apply lxk_eq; (· rfl); (· exact d_bld 1 rfl rfl ld22 rfl))
  (apply lxk_sl; (· rfl); (· exact d_x fun _ => x_call [2] rfl (S_simplex_negative (by first | omega | exact side _ (by assumption) | assumption | rfl | (simp; done) | (simp; omega)) (by first | omega | exact side _ (by assumption) | assumption | rfl | (simp; done) | (simp; omega))) rfl (by rintro _ _ _ ⟨pa1, ca1, rfl, rfl, rfl⟩; exact (dk_sl 0 rfl))); intro pa1 ca1)
  (apply lxk_eq; (· rfl); (· exact d_x fun _ => x_field rfl fd25_0 dk_eq))
  (apply lxk_eq; (· rfl); (· exact d_bld 1 rfl rfl ld22 rfl))
  (apply lxk_sl; (· rfl); (· exact d_x fun _ => x_call [1] rfl (S_simplex_negative (by first | omega | exact side _ (by assumption) | assumption | rfl | (simp; done) | (simp; omega)) (by first | omega | exact side _ (by assumption) | assumption | rfl | (simp; done) | (simp; omega))) rfl (by rintro _ _ _ ⟨pa2, ca2, rfl, rfl, rfl⟩; exact (dk_sl 0 rfl))); intro pa2 ca2)
  (apply lxk_fa (val := fun g => Value.agg #[Value.slice (g 0).1 ((List.map negR B).length) (g 0).2.1, Value.slice none 0 0, Value.slice (g 2).1 ((List.map negR C).length) (g 2).2.1]) (f := fun g => [slF (RatE) (g 0).1 ((List.map negR B).length) (g 0).2.1 (List.map negR B), slF (RatE) (g 2).1 ((List.map negR C).length) (g 2).2.1 (List.map negR C)]); (· rfl); (· exact d_x fun _ => x_build (cs := [Value.slice pa1 (List.map negR B).length ca1, Value.slice none 0 0, Value.slice pa2 (List.map negR C).length ca2]) st25 zo25 rfl rfl (fun _ _ _ hG => ⟨(fun | 0 => (pa1, ca1, 0) | 2 => (pa2, ca2, 0) | _ => default), rfl, fun g hg => by (simp only [List.mem_cons, List.not_mem_nil, or_false] at hg; rcases hg with rfl | rfl; (· exact drop_own (hG _ (fact_mem (n := 1) rfl))); (· exact drop_own (hG _ (fact_mem (n := 0) rfl))))⟩)); intro g1; dsimp only [List.map_cons, List.map_nil])
  (apply lxk_alloc; (· rfl); (· exact zo25); intro b3)
  refine lxk_end rfl ?_
  simp only [List.map_cons, List.map_nil, List.cons_append, List.nil_append]
  refine j_step rfl (x_bst_all 0 rfl rfl rfl ld25 rfl rfl (by simp [Value.oneCell']) ?_)
  refine j_nf [.o [1, 1, 1, 0, 0] 0, .c [1, 1, 1, 0, 1], .c [1, 1, 1, 1]] rfl ?_
  refine j_step rfl (x_field rfl fd25_0 ?_)
  refine j_step rfl (x_bld 2 rfl rfl ld22 rfl ?_)
  refine j_step rfl (x_len sl22 rfl ?_)
  refine j_run it 1 rfl (by simp) ?_
  refine j_nf [.c [1, 1, 1, 0, 1, 0], .blk 0, .c [1, 1, 1, 1]] rfl ?_
  refine j_nil 22 ?_
  refine j_add (allF (encSl RatE) [] []) (fun w A _ => allrd_nil) ?_
  refine j_loopG (X := Nat × List (List Value) × Option Nat × Nat × List Value) [1, 2, 3, 5, 24] [1, 2, 5, 6, 7] (fun x => [(25, .int .i64 x.1)])
    (fun x => [(x.2.2.1, 22, x.2.2.2.2), (some b3, 25, [.slice (g1 0).1 (B.map negR).length (g1 0).2.1, .slice (ad x.2.2.1) x.1 x.2.2.2.1, .slice (g1 2).1 (C.map negR).length (g1 2).2.1]), (some b2, 25, [.slice none 0 0, .slice none 0 0, .slice none 0 0]), (some b1, 25, [.slice p1 C.length c1, .slice p2 A.length c2, .slice p3 B.length c3])])
    (fun x => [allF (encSl RatE) x.2.1 ((turned C.length A).take x.1)])
    (fun x => x.1 ≤ C.length ∧ GrOk x.2.2.1 x.1 x.2.2.2.1 1 x.2.2.2.2 ∧ x.2.2.2.2.take (x.1 * 1) = x.2.1.flatten) (fun x => C.length - x.1) (0, [], none, 0, []) [0] rfl rfl rfl ⟨Nat.zero_le _, GrOk.nil _, by simp⟩ (by repeat (first | exact Fr.sub_nil _ | refine Fr.sub_cons rfl ?_)) rfl rfl ?_
  rintro ⟨j, vsA, boA, capA, csA⟩ ⟨hj, hgA, htA⟩ ihA
  simp only [List.cons_append, List.nil_append] at hj hgA htA ihA ⊢
  by_cases hjl : j < C.length
  · refine j_nf [.o [1, 1, 1, 0, 1, 0, 0, 0] 0, .c [1, 1, 1, 0, 1, 0, 0, 1], .lp [1, 1, 1, 0, 1, 0, 0], .blk 0, .c [1, 1, 1, 1]] rfl ?_
    refine j_run it 1 rfl (by simp) ?_
    refine j_nf [.c [1, 1, 1, 0, 1, 0, 0, 1, 0], .c [1, 1, 1, 0, 1, 0, 0, 1, 1], .lp [1, 1, 1, 0, 1, 0, 0], .blk 0, .c [1, 1, 1, 1]] rfl ?_
    refine j_if rfl rfl (fun h2 => ?_) (fun h2 => by exfalso; omega)
    refine j_nf [.o [1, 1, 1, 0, 1, 0, 0, 1, 1, 0, 0, 0] 0, .c [1, 1, 1, 0, 1, 0, 0, 1, 1, 0, 0, 1], .blk 1, .c [1, 1, 1, 0, 1, 0, 0, 1, 1, 1], .lp [1, 1, 1, 0, 1, 0, 0], .blk 0, .c [1, 1, 1, 1]] rfl ?_
    refine j_run it 2 rfl (by simp) ?_
    refine j_nf [.o [1, 1, 1, 0, 1, 0, 0, 1, 1, 0, 0, 1, 0] 0, .c [1, 1, 1, 0, 1, 0, 0, 1, 1, 0, 0, 1, 1], .blk 1, .c [1, 1, 1, 0, 1, 0, 0, 1, 1, 1], .lp [1, 1, 1, 0, 1, 0, 0], .blk 0, .c [1, 1, 1, 1]] rfl ?_
    refine j_run it 1 rfl (by simp) ?_
    refine j_nf [.o [1, 1, 1, 0, 1, 0, 0, 1, 1, 0, 0, 1, 1, 0, 0] 0, .c [1, 1, 1, 0, 1, 0, 0, 1, 1, 0, 0, 1, 1, 0, 1], .c [1, 1, 1, 0, 1, 0, 0, 1, 1, 0, 0, 1, 1, 1], .blk 1, .c [1, 1, 1, 0, 1, 0, 0, 1, 1, 1], .lp [1, 1, 1, 0, 1, 0, 0], .blk 0, .c [1, 1, 1, 1]] rfl ?_
    refine j_step rfl (x_field rfl fd25_1 ?_)
    refine j_step rfl (x_bld 3 rfl rfl ld23 rfl ?_)
    refine j_step rfl (x_len sl23 rfl ?_)
    refine j_run it 1 rfl (by simp) ?_
    refine j_nf [.c [1, 1, 1, 0, 1, 0, 0, 1, 1, 0, 0, 1, 1, 0, 1, 0], .blk 2, .c [1, 1, 1, 0, 1, 0, 0, 1, 1, 0, 0, 1, 1, 1], .blk 1, .c [1, 1, 1, 0, 1, 0, 0, 1, 1, 1], .lp [1, 1, 1, 0, 1, 0, 0], .blk 0, .c [1, 1, 1, 1]] rfl ?_
    refine j_nil 37 ?_
    refine j_add (allF RatE [] []) (fun w A _ => allrd_nil) ?_
    refine j_loopG (X := Nat × List (List Value) × Option Nat × Nat × List Value) [1, 2, 3, 5, 6, 24, 25, 26, 27, 28, 29, 30] [1, 2, 3, 4, 5, 6] (fun x => [(7, .slice (ad x.2.2.1) x.1 x.2.2.2.1), (31, .int .i64 x.1)])
      (fun x => [(x.2.2.1, 37, x.2.2.2.2), (boA, 22, csA), (some b3, 25, [.slice (g1 0).1 (B.map negR).length (g1 0).2.1, .slice (ad boA) j capA, .slice (g1 2).1 (C.map negR).length (g1 2).2.1]), (some b2, 25, [.slice none 0 0, .slice none 0 0, .slice none 0 0]), (some b1, 25, [.slice p1 C.length c1, .slice p2 A.length c2, .slice p3 B.length c3])])
      (fun x => [allF RatE x.2.1 ((A.take x.1).map fun row => negR (row.getD j default))])
      (fun x => x.1 ≤ A.length ∧ GrOk x.2.2.1 x.1 x.2.2.2.1 3 x.2.2.2.2 ∧ x.2.2.2.2.take (x.1 * 3) = x.2.1.flatten) (fun x => A.length - x.1) (0, [], none, 0, []) [0] rfl rfl rfl ⟨Nat.zero_le _, GrOk.nil _, by simp⟩ (by repeat (first | exact Fr.sub_nil _ | refine Fr.sub_cons rfl ?_)) rfl rfl ?_
    rintro ⟨i, vss, bo, cap, cs⟩ ⟨hi, hg, ht⟩ ih
    simp only [List.cons_append, List.nil_append] at hi hg ht ih ⊢
    by_cases hil : i < A.length
    · refine j_nf [.o [1, 1, 1, 0, 1, 0, 0, 1, 1, 0, 0, 1, 1, 0, 1, 0, 0, 0] 0, .c [1, 1, 1, 0, 1, 0, 0, 1, 1, 0, 0, 1, 1, 0, 1, 0, 0, 1], .lp [1, 1, 1, 0, 1, 0, 0, 1, 1, 0, 0, 1, 1, 0, 1, 0, 0], .blk 2, .c [1, 1, 1, 0, 1, 0, 0, 1, 1, 0, 0, 1, 1, 1], .blk 1, .c [1, 1, 1, 0, 1, 0, 0, 1, 1, 1], .lp [1, 1, 1, 0, 1, 0, 0], .blk 0, .c [1, 1, 1, 1]] rfl ?_
      refine j_run it 1 rfl (by simp) ?_
      refine j_nf [.c [1, 1, 1, 0, 1, 0, 0, 1, 1, 0, 0, 1, 1, 0, 1, 0, 0, 1, 0], .c [1, 1, 1, 0, 1, 0, 0, 1, 1, 0, 0, 1, 1, 0, 1, 0, 0, 1, 1], .lp [1, 1, 1, 0, 1, 0, 0, 1, 1, 0, 0, 1, 1, 0, 1, 0, 0], .blk 2, .c [1, 1, 1, 0, 1, 0, 0, 1, 1, 0, 0, 1, 1, 1], .blk 1, .c [1, 1, 1, 0, 1, 0, 0, 1, 1, 1], .lp [1, 1, 1, 0, 1, 0, 0], .blk 0, .c [1, 1, 1, 1]] rfl ?_
      refine j_if rfl rfl (fun h3 => ?_) (fun h3 => by exfalso; omega)
      refine j_nf [.o [1, 1, 1, 0, 1, 0, 0, 1, 1, 0, 0, 1, 1, 0, 1, 0, 0, 1, 1, 0, 0, 0] 0, .c [1, 1, 1, 0, 1, 0, 0, 1, 1, 0, 0, 1, 1, 0, 1, 0, 0, 1, 1, 0, 0, 1], .blk 3, .c [1, 1, 1, 0, 1, 0, 0, 1, 1, 0, 0, 1, 1, 0, 1, 0, 0, 1, 1, 1], .lp [1, 1, 1, 0, 1, 0, 0, 1, 1, 0, 0, 1, 1, 0, 1, 0, 0], .blk 2, .c [1, 1, 1, 0, 1, 0, 0, 1, 1, 0, 0, 1, 1, 1], .blk 1, .c [1, 1, 1, 0, 1, 0, 0, 1, 1, 1], .lp [1, 1, 1, 0, 1, 0, 0], .blk 0, .c [1, 1, 1, 1]] rfl ?_
      refine j_run it 2 rfl (by simp) ?_
      refine j_nf [.o [1, 1, 1, 0, 1, 0, 0, 1, 1, 0, 0, 1, 1, 0, 1, 0, 0, 1, 1, 0, 0, 1] 0, .blk 3, .c [1, 1, 1, 0, 1, 0, 0, 1, 1, 0, 0, 1, 1, 0, 1, 0, 0, 1, 1, 1], .lp [1, 1, 1, 0, 1, 0, 0, 1, 1, 0, 0, 1, 1, 0, 1, 0, 0], .blk 2, .c [1, 1, 1, 0, 1, 0, 0, 1, 1, 0, 0, 1, 1, 1], .blk 1, .c [1, 1, 1, 0, 1, 0, 0, 1, 1, 1], .lp [1, 1, 1, 0, 1, 0, 0], .blk 0, .c [1, 1, 1, 1]] rfl ?_
      refine j_run it 1 rfl (by simp) ?_
      refine j_step rfl (x_field rfl fd25_1 ?_)
      refine j_step rfl (x_bld 4 rfl rfl ld23 rfl ?_)
      refine j_run it 1 rfl (by simp) ?_
      refine j_step rfl (x_idx 5 (i) rfl rfl rfl sl23 rfl (by omega) fun z1 hz1 b4 o1 => ?_)
      refine j_step rfl (x_ld_sl 0 rfl rfl ld22 fun pa3 ca3 => ?_)
      refine j_run it 1 rfl (by simp) ?_
      refine j_step rfl (x_idx 0 (j) rfl rfl rfl sl22 (by omega) ?_ fun z2 hz2 b5 o2 => ?_) --ok
      · have := (hA z1 (List.mem_of_getElem? hz1)).1
        omega
      obtain ⟨hz3, hz4⟩ := (hA z1 (List.mem_of_getElem? hz1)).2 z2 (List.mem_of_getElem? hz2)
      refine j_step rfl (x_ld_rt 0 rfl rfl ld37 fun pa4 ca4 pa5 ca5 => ?_)
      refine j_step rfl (x_call [0, 1] rfl (S_rational_Neg (by first | omega | exact side _ (by assumption) | assumption | rfl | (simp; done) | (simp; omega)) (by first | omega | exact side _ (by assumption) | assumption | rfl | (simp; done) | (simp; omega))) rfl ?_)
      rintro _ _ _ ⟨pn1, cn1, pd1, cd1, rfl, rfl, rfl⟩
      simp only [List.cons_append, List.nil_append]
      refine j_step rfl (x_lit sl22 zo22e rfl rfl rfl rfl (by decide) (by decide) rfl fun b6 => ?_)
      refine j_step rfl (x_app 1 0 rfl rfl rfl rfl sl22 zo22e rfl (by first | exact GrOk.nil _ | assumption | exact .inr ⟨_, rfl, Nat.le_refl _, by omega, rfl⟩) rfl rfl (by first | (simp [Value.oneCell']; done) | (simp [Value.oneCell', cellsL]; done) | (intro u hu; rcases List.mem_singleton.1 hu with rfl; rfl)) (by omega) _ by22e (by omega) fun bo1 cap1 cs1 hg1 ht1 => ?_)
      refine j_run it 1 rfl (by simp) ?_
      refine j_nf [.o [1, 1, 1, 0, 1, 0, 0, 1, 1, 0, 0, 1, 1, 0, 1, 0, 0, 1, 1, 1] 0, .lp [1, 1, 1, 0, 1, 0, 0, 1, 1, 0, 0, 1, 1, 0, 1, 0, 0], .blk 2, .c [1, 1, 1, 0, 1, 0, 0, 1, 1, 0, 0, 1, 1, 1], .blk 1, .c [1, 1, 1, 0, 1, 0, 0, 1, 1, 1], .lp [1, 1, 1, 0, 1, 0, 0], .blk 0, .c [1, 1, 1, 1]] rfl ?_
      refine j_run it 2 rfl (by repeat' first | exact trivial | apply And.intro | omega) ?_
      refine j_nfn 1 [.lp [1, 1, 1, 0, 1, 0, 0, 1, 1, 0, 0, 1, 1, 0, 1, 0, 0], .blk 2, .c [1, 1, 1, 0, 1, 0, 0, 1, 1, 0, 0, 1, 1, 1], .blk 1, .c [1, 1, 1, 0, 1, 0, 0, 1, 1, 1], .lp [1, 1, 1, 0, 1, 0, 0], .blk 0, .c [1, 1, 1, 1]] rfl ?_
      have hge : z1.getD j default = z2 := by rw [List.getD, hz2]; rfl
      have em : (A.take (i + 1)).map (fun row => negR (row.getD j default)) = (A.take i).map (fun row => negR (row.getD j default)) ++ [negR z2] := by rw [List.take_add_one, hz1]; simp [hz2]
      refine j_add (allF RatE (vss ++ [[Value.bool (negR z2).1, Value.slice pn1 (negR z2).2.1.length cn1, Value.slice pd1 (negR z2).2.2.length cd1]]) ((A.take (i + 1)).map fun row => negR (row.getD j default))) (fun w A hG => by
        rw [em]
        exact allrd_snoc (hG _ (fact_mem (n := 7) rfl)) (rd_rt (hG _ (fact_mem (n := 0) rfl)) (hG _ (fact_mem (n := 1) rfl)))) ?_
      refine j_toM [true, false, true, true, true, true] [0, 9, 10, 11, 12, 13, 14] (by repeat (first | exact Fr.sub_nil _ | refine Fr.sub_cons rfl ?_ | refine Fr.sub_consI rfl (by first | omega | (dsimp only; omega)) ?_ | refine Fr.sub_consS rfl (by first | omega | (dsimp only; omega)) (by first | omega | (dsimp only; omega)) ?_)) rfl rfl (ih (i + 1, vss ++ [[Value.bool (negR z2).1, Value.slice pn1 (negR z2).2.1.length cn1, Value.slice pd1 (negR z2).2.2.length cd1]], bo1, cap1, cs1) (by dsimp only; omega) ⟨by dsimp only; omega, hg1, by dsimp only; rw [ht1, ht, List.flatten_append]; rfl⟩)
    · have ei : i = A.length := by omega
      subst ei
      rw [List.take_length]
      refine j_pub (E := RatE) (n := A.length) 0 0 rfl rfl hg ht (by simp) (by show A.length * 56 ≤ _; omega) ?_
      refine j_nf [.o [1, 1, 1, 0, 1, 0, 0, 1, 1, 0, 0, 1, 1, 0, 1, 0, 0, 0] 0, .c [1, 1, 1, 0, 1, 0, 0, 1, 1, 0, 0, 1, 1, 0, 1, 0, 0, 1], .lp [1, 1, 1, 0, 1, 0, 0, 1, 1, 0, 0, 1, 1, 0, 1, 0, 0], .blk 2, .c [1, 1, 1, 0, 1, 0, 0, 1, 1, 0, 0, 1, 1, 1], .blk 1, .c [1, 1, 1, 0, 1, 0, 0, 1, 1, 1], .lp [1, 1, 1, 0, 1, 0, 0], .blk 0, .c [1, 1, 1, 1]] rfl ?_
      refine j_run it 1 rfl (by simp) ?_
      refine j_nf [.c [1, 1, 1, 0, 1, 0, 0, 1, 1, 0, 0, 1, 1, 0, 1, 0, 0, 1, 0], .c [1, 1, 1, 0, 1, 0, 0, 1, 1, 0, 0, 1, 1, 0, 1, 0, 0, 1, 1], .lp [1, 1, 1, 0, 1, 0, 0, 1, 1, 0, 0, 1, 1, 0, 1, 0, 0], .blk 2, .c [1, 1, 1, 0, 1, 0, 0, 1, 1, 0, 0, 1, 1, 1], .blk 1, .c [1, 1, 1, 0, 1, 0, 0, 1, 1, 1], .lp [1, 1, 1, 0, 1, 0, 0], .blk 0, .c [1, 1, 1, 1]] rfl ?_
      refine j_if rfl rfl (fun h3 => by exfalso; omega) (fun h3 => ?_)
      refine j_nf [.o [1, 1, 1, 0, 1, 0, 0, 1, 1, 0, 0, 1, 1, 1] 0, .blk 1, .c [1, 1, 1, 0, 1, 0, 0, 1, 1, 1], .lp [1, 1, 1, 0, 1, 0, 0], .blk 0, .c [1, 1, 1, 1]] rfl ?_
      refine j_step rfl (x_field rfl fd25_1 ?_)
      refine j_step rfl (x_bld 1 rfl rfl ld23 rfl ?_)
      refine j_run it 1 rfl (by simp) ?_
      refine j_step rfl (x_lit sl23 zo23e rfl rfl rfl rfl (by decide) (by decide) rfl fun b4 => ?_)
      refine j_step rfl (x_app 1 0 rfl rfl rfl rfl sl23 zo23e rfl (by first | exact GrOk.nil _ | assumption | exact .inr ⟨_, rfl, Nat.le_refl _, by omega, rfl⟩) rfl rfl (by first | (simp [Value.oneCell']; done) | (simp [Value.oneCell', cellsL]; done) | (intro u hu; rcases List.mem_singleton.1 hu with rfl; rfl)) (by omega) _ by23e (by omega) fun bo1 cap1 cs1 hg1 ht1 => ?_)
      refine j_step rfl (x_field rfl fd25_1 ?_)
      refine j_step rfl (x_bst1 2 rfl rfl rfl rfl ld23 rfl (Nat.le_of_ble_eq_true rfl) ?_)
      refine j_nf [.o [1, 1, 1, 0, 1, 0, 0, 1, 1, 1] 0, .lp [1, 1, 1, 0, 1, 0, 0], .blk 0, .c [1, 1, 1, 1]] rfl ?_
      refine j_run it 2 rfl (by repeat' first | exact trivial | apply And.intro | omega) ?_
      refine j_nfn 1 [.lp [1, 1, 1, 0, 1, 0, 0], .blk 0, .c [1, 1, 1, 1]] rfl ?_
      have em : (turned C.length A).take (j + 1) = (turned C.length A).take j ++ [A.map fun row => negR (row.getD j default)] := by
        rw [List.take_add_one]; simp [turned, hjl]
      refine j_add (allF (encSl RatE) (vsA ++ [[Value.slice (ad bo) A.length cap]]) ((turned C.length A).take (j + 1))) (fun w A hG => by
        rw [em]
        exact allrd_snoc (hG _ (fact_mem (n := 2) rfl)) (rd_of_slF (hG _ (fact_mem (n := 0) rfl)))) ?_
      refine j_toM [true, false, true, true, true] [0, 4, 5, 6, 7, 8] (by repeat (first | exact Fr.sub_nil _ | refine Fr.sub_cons rfl ?_ | refine Fr.sub_consI rfl (by first | omega | (dsimp only; omega)) ?_ | refine Fr.sub_consS rfl (by first | omega | (dsimp only; omega)) (by first | omega | (dsimp only; omega)) ?_)) rfl rfl (ihA (j + 1, vsA ++ [[Value.slice (ad bo) A.length cap]], bo1, cap1, cs1) (by dsimp only; omega) ⟨by dsimp only; omega, hg1, by dsimp only; rw [ht1, htA, List.flatten_append]; rfl⟩)
  · have ej : j = C.length := by omega
    subst ej
    rw [List.take_of_length_le (by omega)]
    refine j_nf [.o [1, 1, 1, 0, 1, 0, 0, 0] 0, .c [1, 1, 1, 0, 1, 0, 0, 1], .lp [1, 1, 1, 0, 1, 0, 0], .blk 0, .c [1, 1, 1, 1]] rfl ?_
    refine j_run it 1 rfl (by simp) ?_
    refine j_nf [.c [1, 1, 1, 0, 1, 0, 0, 1, 0], .c [1, 1, 1, 0, 1, 0, 0, 1, 1], .lp [1, 1, 1, 0, 1, 0, 0], .blk 0, .c [1, 1, 1, 1]] rfl ?_
    refine j_if rfl rfl (fun h2 => by exfalso; omega) (fun h2 => ?_)
    refine j_nf [.o [1, 1, 1, 1, 0] 0, .c [1, 1, 1, 1, 1]] rfl ?_
    refine j_step rfl (x_bld_all 1 rfl rfl ld25 rfl ?_)
    refine j_step rfl (x_bst_all 2 rfl rfl rfl ld25 rfl rfl (by simp [Value.oneCell']) ?_)
    refine j_run it 1 rfl (by simp) ?_
    refine j_nf [.c [1, 1, 1, 1, 1]] rfl ?_
    refine j_pub (E := encSl RatE) (n := C.length) 0 0 rfl rfl hgA htA hT.symm (by show C.length * 24 ≤ _; omega) ?_
    refine j_givC [2, 0, 3] rfl (.agg 1 rfl rfl ld25 rfl (.tmp rfl .nil)) rfl ⟨_, _, _, _, _, _, by rw [hT]; rfl, by rw [hT], rfl⟩

theorem S_simplex_Dual_err {p1 p2 p3 : Option Addr} {c1 c2 c3 : Nat} {C A B} (hch : checkOf (C, A, B) ≠ 0) :
    Ctr Try.prog 6 [.agg #[.slice p1 C.length c1, .slice p2 A.length c2, .slice p3 B.length c3]] [] [slF RatE p1 C.length c1 C, slF (encSl RatE) p2 A.length c2 A, slF RatE p3 B.length c3 B]
    (Rv (.tuple #[.agg #[.slice none 0 0, .slice none 0 0, .slice none 0 0], .int .i64 (checkOf (C, A, B))]) []) := by
  refine Ctr_of_j' (F := F_simplex_Dual) rfl fun Cx => ?_
  refine j_nf [.o [0] 0, .c [1]] rfl ?_
  refine j_step rfl (x_box_agg rfl fun b1 => ?_)
  refine j_step rfl (x_alloc zo25 fun b2 => ?_)
  refine j_run it 1 rfl (by simp) ?_
  refine j_nf [.o [1, 0, 0] 0, .c [1, 0, 1], .c [1, 1]] rfl ?_
  refine j_step rfl (x_bld_all 1 rfl rfl ld25 rfl ?_)
  refine j_step rfl (x_call [0, 1, 2] rfl (S_simplex_Check) rfl ?_)
  rintro _ _ _ ⟨rfl, rfl, rfl⟩
  simp only [List.cons_append, List.nil_append]
  refine j_run it 1 rfl (by simp) ?_
  refine j_nf [.o [1, 0, 1, 0] 0, .c [1, 0, 1, 1], .c [1, 1]] rfl ?_
  refine j_run it 2 rfl (by simp) ?_
  refine j_nf [.c [1, 0, 1, 1], .c [1, 1]] rfl ?_
  refine j_ifn rfl rfl (fun h1 => ?_) (fun h1 => by exfalso; omega)
  refine j_nf [.o [1, 0, 1, 1, 0, 0] 0, .c [1, 0, 1, 1, 0, 1], .c [1, 1]] rfl ?_
  refine j_step rfl (x_build (cs := [Value.slice none 0 0, Value.slice none 0 0, Value.slice none 0 0]) st25 zo25 rfl rfl ?_)
  refine j_run it 1 rfl (by simp) ?_
  refine j_step rfl (x_bst_all 0 rfl rfl rfl ld25 rfl rfl (by simp [Value.oneCell']) ?_)
  refine j_run it 1 rfl (by simp) ?_
  refine j_nf [.c [1, 0, 1, 1, 0, 1], .c [1, 1]] rfl ?_
  refine j_givC [] rfl (.agg 0 rfl rfl ld25 rfl (.tmp rfl .nil)) rfl ⟨rfl, rfl, rfl⟩
end Go.Proofs.Ytpoonnjaobjdgaa
