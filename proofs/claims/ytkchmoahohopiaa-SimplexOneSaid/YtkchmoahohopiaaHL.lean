/-
SimplexOne returns true: all accepted solutions of one program are of one kind, and the optimal ones have one value.
-/
import Derived.Test.YtkchmoahohopiaaRows
import Derived.ProofKit
import Derived.JoinedOf
import Derived.Test.YtkchmoahohopiaaHL6
namespace Go.Proofs.Ytkchmoahohopiaa
open Go Go.Fw
set_option maxRecDepth 100000
set_option linter.unusedVariables false
set_option linter.unusedSimpArgs false
set_option maxHeartbeats 4000000
theorem S_SimplexOne {p1 p2 p3 q1 q2 q3 r1 r2 r3 : Option Addr} {c1 c2 c3 d1 d2 d3 t1 t2 t3 : Nat} {kind kind2 : Int} {C B X Y R X2 Y2 R2 : List Rt} {M : List (List Rt)} :
    Ctr Try.prog 5 [.agg #[.slice p1 C.length c1, .slice p2 M.length c2, .slice p3 B.length c3], .agg #[.int .i64 kind, .slice q1 X.length d1, .slice q2 Y.length d2, .slice q3 R.length d3], .agg #[.int .i64 kind2, .slice r1 X2.length t1, .slice r2 Y2.length t2, .slice r3 R2.length t3]] []
      [slF RatE p1 C.length c1 C, slF (encSl RatE) p2 M.length c2 M, slF RatE p3 B.length c3 B, slF RatE q1 X.length d1 X, slF RatE q2 Y.length d2 Y, slF RatE q3 R.length d3 R, slF RatE r1 X2.length t1 X2, slF RatE r2 Y2.length t2 Y2, slF RatE r3 R2.length t3 R2] (Rv (.bool true) []) := by
  refine Ctr_of_j' (F := F_codewrightlaw35_SimplexOne) rfl fun Cx => ?_
  refine rts_range 0 rfl fun rC => ?_
  refine rtss_rng 1 rfl fun rM => ?_
  refine rts_range 2 rfl fun rB => ?_
  refine rts_range 3 rfl fun rX => ?_
  refine rts_range 4 rfl fun rY => ?_
  refine rts_range 5 rfl fun rR => ?_
  refine rts_range 6 rfl fun rX2 => ?_
  refine rts_range 7 rfl fun rY2 => ?_
  refine rts_range 8 rfl fun rR2 => ?_
  cases hf : fitsB C M B [X, Y, R, X2, Y2, R2] with
  | false =>
    refine j_nf [.o [0] 0, .c [1]] rfl ?_
    refine j_step rfl (x_box_agg rfl fun b1 => ?_)
    refine j_step rfl (x_box_agg rfl fun b2 => ?_)
    refine j_step rfl (x_box_agg rfl fun b3 => ?_)
    refine j_run it 1 rfl (by simp) ?_
    refine j_nf [.o [1, 0, 0] 0, .c [1, 0, 1], .c [1, 1]] rfl ?_
    refine j_step rfl (x_bld_all 2 rfl rfl ld34 rfl ?_)
    refine j_step rfl (x_field rfl fd36_1 ?_)
    refine j_step rfl (x_bld 1 rfl rfl ld31 rfl ?_)
    refine j_step rfl (x_field rfl fd36_2 ?_)
    refine j_step rfl (x_bld 1 rfl rfl ld31 rfl ?_)
    refine j_step rfl (x_field rfl fd36_3 ?_)
    refine j_step rfl (x_bld 1 rfl rfl ld31 rfl ?_)
    refine j_step rfl (x_field rfl fd36_1 ?_)
    refine j_step rfl (x_bld 0 rfl rfl ld31 rfl ?_)
    refine j_step rfl (x_field rfl fd36_2 ?_)
    refine j_step rfl (x_bld 0 rfl rfl ld31 rfl ?_)
    refine j_step rfl (x_field rfl fd36_3 ?_)
    refine j_step rfl (x_bld 0 rfl rfl ld31 rfl ?_)
    refine j_step rfl (x_lit sl32 zo32e rfl rfl rfl rfl (by decide) (by decide) rfl fun b4 => ?_)
    refine j_pub_all (E := (encSl RatE)) (n := 6) [[Value.slice q1 X.length d1], [Value.slice q2 Y.length d2], [Value.slice q3 R.length d3], [Value.slice r1 X2.length t1], [Value.slice r2 Y2.length t2], [Value.slice r3 R2.length t3]] [X, Y, R, X2, Y2, R2] 0 (fun w A hG => (allrd_cons (rd_of_slF (hG _ (fact_mem (n := 3) rfl))) (allrd_cons (rd_of_slF (hG _ (fact_mem (n := 4) rfl))) (allrd_cons (rd_of_slF (hG _ (fact_mem (n := 5) rfl))) (allrd_cons (rd_of_slF (hG _ (fact_mem (n := 6) rfl))) (allrd_cons (rd_of_slF (hG _ (fact_mem (n := 7) rfl))) (allrd_cons (rd_of_slF (hG _ (fact_mem (n := 8) rfl))) allrd_nil))))))) rfl rfl rfl rfl (by decide) (by decide) ?_
    refine j_step rfl (x_call [1, 2, 3, 0] rfl (S_codewrightlaw35_fits (by first | omega | exact side _ (by assumption) | assumption | rfl | (simp; done) | (simp; omega))) rfl ?_)
    rintro _ _ _ ⟨rfl, rfl, rfl⟩
    simp only [List.cons_append, List.nil_append]
    refine j_run it 1 rfl (by simp) ?_
    refine j_nf [.c [1, 0, 1], .c [1, 1]] rfl ?_
    refine j_true rfl rfl ?_
    refine j_nf [.o [1, 0, 1, 0, 0] 0, .c [1, 0, 1, 0, 1], .c [1, 1]] rfl ?_
    refine j_run it 1 rfl (by simp) ?_
    refine j_nf [.c [1, 0, 1, 0, 1], .c [1, 1]] rfl ?_
    refine j_giv [] rfl rfl rfl ⟨rfl, rfl, rfl⟩
  | true =>
    have hf' := hf
    simp only [fitsB, Bool.and_eq_true, List.all_cons, List.all_nil, and_true] at hf'
    obtain ⟨⟨fX, fY, fR, fX2, fY2, fR2⟩, fS⟩ := hf'
    obtain ⟨lC, lB, lM, oC, oB, oM, _⟩ := small_ok fS rC rB rM
    obtain ⟨lX, oX⟩ := few_list fX rX
    obtain ⟨lY, oY⟩ := few_list fY rY
    obtain ⟨lR, oR⟩ := few_list fR rR
    obtain ⟨lX2, oX2⟩ := few_list fX2 rX2
    obtain ⟨lY2, oY2⟩ := few_list fY2 rY2
    obtain ⟨lR2, oR2⟩ := few_list fR2 rR2
    have hK : (1 : Nat) ≤ 12 := by decide
    by_cases ha : accE kind C M B X Y R = 0
    · by_cases ha2 : accE kind2 C M B X2 Y2 R2 = 0
      · obtain ⟨rfl, hd⟩ := one_law ha ha2
        rcases acc_kind ha with rfl | rfl | rfl
        · have hs := cmp_zero.2 (hd rfl)
          obtain ⟨w1, w2⟩ := dot_lens hK (by decide) oC oX (by omega)
          obtain ⟨w3, w4⟩ := dot_lens hK (by decide) oC oX2 (by omega)
          refine j_nf [.o [0] 0, .c [1]] rfl ?_
          refine j_step rfl (x_box_agg rfl fun b1 => ?_)
          refine j_step rfl (x_box_agg rfl fun b2 => ?_)
          refine j_step rfl (x_box_agg rfl fun b3 => ?_)
          refine j_run it 1 rfl (by simp) ?_
          refine j_nf [.o [1, 0, 0] 0, .c [1, 0, 1], .c [1, 1]] rfl ?_
          refine j_step rfl (x_bld_all 2 rfl rfl ld34 rfl ?_)
          refine j_step rfl (x_field rfl fd36_1 ?_)
          refine j_step rfl (x_bld 1 rfl rfl ld31 rfl ?_)
          refine j_step rfl (x_field rfl fd36_2 ?_)
          refine j_step rfl (x_bld 1 rfl rfl ld31 rfl ?_)
          refine j_step rfl (x_field rfl fd36_3 ?_)
          refine j_step rfl (x_bld 1 rfl rfl ld31 rfl ?_)
          refine j_step rfl (x_field rfl fd36_1 ?_)
          refine j_step rfl (x_bld 0 rfl rfl ld31 rfl ?_)
          refine j_step rfl (x_field rfl fd36_2 ?_)
          refine j_step rfl (x_bld 0 rfl rfl ld31 rfl ?_)
          refine j_step rfl (x_field rfl fd36_3 ?_)
          refine j_step rfl (x_bld 0 rfl rfl ld31 rfl ?_)
          refine j_step rfl (x_lit sl32 zo32e rfl rfl rfl rfl (by decide) (by decide) rfl fun b4 => ?_)
          refine j_pub_all (E := (encSl RatE)) (n := 6) [[Value.slice q1 X.length d1], [Value.slice q2 Y.length d2], [Value.slice q3 R.length d3], [Value.slice r1 X2.length t1], [Value.slice r2 Y2.length t2], [Value.slice r3 R2.length t3]] [X, Y, R, X2, Y2, R2] 0 (fun w A hG => (allrd_cons (rd_of_slF (hG _ (fact_mem (n := 3) rfl))) (allrd_cons (rd_of_slF (hG _ (fact_mem (n := 4) rfl))) (allrd_cons (rd_of_slF (hG _ (fact_mem (n := 5) rfl))) (allrd_cons (rd_of_slF (hG _ (fact_mem (n := 6) rfl))) (allrd_cons (rd_of_slF (hG _ (fact_mem (n := 7) rfl))) (allrd_cons (rd_of_slF (hG _ (fact_mem (n := 8) rfl))) allrd_nil))))))) rfl rfl rfl rfl (by decide) (by decide) ?_
          refine j_step rfl (x_call [1, 2, 3, 0] rfl (S_codewrightlaw35_fits (by first | omega | exact side _ (by assumption) | assumption | rfl | (simp; done) | (simp; omega))) rfl ?_)
          rintro _ _ _ ⟨rfl, rfl, rfl⟩
          simp only [List.cons_append, List.nil_append]
          refine j_run it 1 rfl (by simp) ?_
          refine j_nf [.c [1, 0, 1], .c [1, 1]] rfl ?_
          refine j_false rfl rfl ?_
          refine j_nf [.o [1, 1, 0, 0] 0, .c [1, 1, 0, 1], .c [1, 1, 1]] rfl ?_
          refine j_step rfl (x_call [] rfl (S_codewrightlaw35_one) rfl ?_)
          rintro _ _ _ ⟨rfl, rfl, rfl⟩
          simp only [List.cons_append, List.nil_append]
          refine j_run it 1 rfl (by simp) ?_
          refine j_nf [.c [1, 1, 0, 1], .c [1, 1, 1]] rfl ?_
          refine j_false rfl rfl ?_
          refine j_nf [.o [1, 1, 1, 0, 0] 0, .c [1, 1, 1, 0, 1], .c [1, 1, 1, 1]] rfl ?_
          refine j_step rfl (x_bld_all 2 rfl rfl ld34 rfl ?_)
          refine j_step rfl (x_bld_all 1 rfl rfl ld36 rfl ?_)
          refine j_step rfl (x_call [1, 2, 3, 4, 5, 6] rfl (S_simplex_Accept (by first | omega | exact side _ (by assumption) | assumption | rfl | (simp; done) | (simp; omega)) (by first | omega | exact side _ (by assumption) | assumption | rfl | (simp; done) | (simp; omega)) (by first | omega | exact side _ (by assumption) | assumption | rfl | (simp; done) | (simp; omega)) (by first | omega | exact side _ (by assumption) | assumption | rfl | (simp; done) | (simp; omega)) (by first | omega | exact side _ (by assumption) | assumption | rfl | (simp; done) | (simp; omega)) (by first | omega | exact side _ (by assumption) | assumption | rfl | (simp; done) | (simp; omega)) (by first | omega | exact side _ (by assumption) | assumption | rfl | (simp; done) | (simp; omega)) (by first | omega | exact side _ (by assumption) | assumption | rfl | (simp; done) | (simp; omega)) (by first | omega | exact side _ (by assumption) | assumption | rfl | (simp; done) | (simp; omega))) rfl ?_)
          rintro _ _ _ ⟨rfl, rfl, rfl⟩
          simp only [List.cons_append, List.nil_append]
          refine j_run it 2 rfl (by simp) ?_
          refine j_split_ndec (t := 29) rfl (fun h1 => by exfalso; omega) (fun h1 => ?_)
          refine j_gstep rfl rfl (x_bld_all 2 rfl rfl ld34 rfl ?_)
          refine j_gstep rfl rfl (x_bld_all 0 rfl rfl ld36 rfl ?_)
          refine j_gstep rfl rfl (x_call [1, 2, 3, 7, 8, 9] rfl (S_simplex_Accept (by first | omega | exact side _ (by assumption) | assumption | rfl | (simp; done) | (simp; omega)) (by first | omega | exact side _ (by assumption) | assumption | rfl | (simp; done) | (simp; omega)) (by first | omega | exact side _ (by assumption) | assumption | rfl | (simp; done) | (simp; omega)) (by first | omega | exact side _ (by assumption) | assumption | rfl | (simp; done) | (simp; omega)) (by first | omega | exact side _ (by assumption) | assumption | rfl | (simp; done) | (simp; omega)) (by first | omega | exact side _ (by assumption) | assumption | rfl | (simp; done) | (simp; omega)) (by first | omega | exact side _ (by assumption) | assumption | rfl | (simp; done) | (simp; omega)) (by first | omega | exact side _ (by assumption) | assumption | rfl | (simp; done) | (simp; omega)) (by first | omega | exact side _ (by assumption) | assumption | rfl | (simp; done) | (simp; omega))) rfl ?_)
          rintro _ _ _ ⟨rfl, rfl, rfl⟩
          simp only [List.cons_append, List.nil_append]
          simp only [decide_true]
          refine j_run it 2 rfl (by simp) ?_
          refine j_nf [.c [1, 1, 1, 0, 1], .c [1, 1, 1, 1]] rfl ?_
          refine j_ifn rfl rfl (fun h2 => by exfalso; omega) (fun h2 => ?_)
          refine j_nf [.c [1, 1, 1, 1, 0], .c [1, 1, 1, 1, 1]] rfl ?_
          (apply j_drawK it mx 24; (· rfl); (· rfl))
          (apply lxk_eq; (· rfl); (· exact d_x fun _ => x_field rfl fd36_0 dk_eq))
          (apply lxk_eq; (· rfl); (· exact d_bld 1 rfl rfl ld3 rfl))
          (apply lxk_eq; (· rfl); (· exact d_x fun _ => x_field rfl fd36_0 dk_eq))
          (apply lxk_eq; (· rfl); (· exact d_bld 0 rfl rfl ld3 rfl))
          (apply lxk_eq; (· rfl); (· exact d_x fun _ => x_true it rfl (by trivial) (by omega) dk_eq))
          (apply lxk_run 1; (· rfl); (· simp))
          (apply lxk_eq; (· rfl); (· exact d_x fun _ => x_field rfl fd36_0 dk_eq))
          (apply lxk_eq; (· rfl); (· exact d_bld 1 rfl rfl ld3 rfl))
          (apply lxk_run 2; (· rfl); (· simp))
          (apply lxk_eq; (· rfl); (· exact d_x fun _ => x_field rfl fd34_0 dk_eq))
          (apply lxk_eq; (· rfl); (· exact d_bld 2 rfl rfl ld31 rfl))
          (apply lxk_eq; (· rfl); (· exact d_x fun _ => x_field rfl fd36_1 dk_eq))
          (apply lxk_eq; (· rfl); (· exact d_bld 1 rfl rfl ld31 rfl))
          (apply lxk_rq; (· rfl); (· exact d_x fun _ => x_call [1, 4] rfl (S_codewrightref02_Dot (by first | omega | exact side _ (by assumption) | assumption | rfl | (simp; done) | (simp; omega)) (by first | omega | exact side _ (by assumption) | assumption | rfl | (simp; done) | (simp; omega)) (by first | omega | exact side _ (by assumption) | assumption | rfl | (simp; done) | (simp; omega)) (by first | omega | exact side _ (by assumption) | assumption | rfl | (simp; done) | (simp; omega)) (by first | omega | exact side _ (by assumption) | assumption | rfl | (simp; done) | (simp; omega))) rfl (by rintro _ _ _ ⟨pn1, cn1, pd1, cd1, rfl, rfl, rfl⟩; exact (dk_rq 0 1 rfl rfl))); intro pn1 cn1 pd1 cd1)
          simp only [vq_rt']
          (apply lxk_eq; (· rfl); (· exact d_x fun _ => x_field rfl fd34_0 dk_eq))
          (apply lxk_eq; (· rfl); (· exact d_bld 2 rfl rfl ld31 rfl))
          (apply lxk_eq; (· rfl); (· exact d_x fun _ => x_field rfl fd36_1 dk_eq))
          (apply lxk_eq; (· rfl); (· exact d_bld 0 rfl rfl ld31 rfl))
          (apply lxk_rq; (· rfl); (· exact d_x fun _ => x_call [3, 9] rfl (S_codewrightref02_Dot (by first | omega | exact side _ (by assumption) | assumption | rfl | (simp; done) | (simp; omega)) (by first | omega | exact side _ (by assumption) | assumption | rfl | (simp; done) | (simp; omega)) (by first | omega | exact side _ (by assumption) | assumption | rfl | (simp; done) | (simp; omega)) (by first | omega | exact side _ (by assumption) | assumption | rfl | (simp; done) | (simp; omega)) (by first | omega | exact side _ (by assumption) | assumption | rfl | (simp; done) | (simp; omega))) rfl (by rintro _ _ _ ⟨pn2, cn2, pd2, cd2, rfl, rfl, rfl⟩; exact (dk_rq 0 1 rfl rfl))); intro pn2 cn2 pd2 cd2)
          simp only [vq_rt']
          (apply lxk_eq; (· rfl); (· exact d_x fun _ => x_call [2, 3, 0, 1] rfl (S_codewrightref02_Cmp (by first | omega | exact side _ (by assumption) | assumption | rfl | (simp; done) | (simp; omega)) (by first | omega | exact side _ (by assumption) | assumption | rfl | (simp; done) | (simp; omega)) (by first | omega | exact side _ (by assumption) | assumption | rfl | (simp; done) | (simp; omega)) (by first | omega | exact side _ (by assumption) | assumption | rfl | (simp; done) | (simp; omega))) rfl (by rintro _ _ _ ⟨rfl, rfl, rfl⟩; exact dk_eq)))
          simp only [vq_rt']
          (apply lxk_eq; (· rfl); (· exact d_x fun _ => x_true it rfl (by trivial) (by omega) dk_eq))
          (apply lxk_run 2; (· rfl); (· simp))
          refine lxk_end rfl ?_
          simp only [List.map_cons, List.map_nil, List.cons_append, List.nil_append]
          refine j_run it 1 rfl (by simp) ?_
          refine j_nf [.c [1, 1, 1, 1, 1]] rfl ?_
          refine j_giv [] rfl rfl rfl ⟨rfl, rfl, rfl⟩
        · refine j_nf [.o [0] 0, .c [1]] rfl ?_
          refine j_step rfl (x_box_agg rfl fun b1 => ?_)
          refine j_step rfl (x_box_agg rfl fun b2 => ?_)
          refine j_step rfl (x_box_agg rfl fun b3 => ?_)
          refine j_run it 1 rfl (by simp) ?_
          refine j_nf [.o [1, 0, 0] 0, .c [1, 0, 1], .c [1, 1]] rfl ?_
          refine j_step rfl (x_bld_all 2 rfl rfl ld34 rfl ?_)
          refine j_step rfl (x_field rfl fd36_1 ?_)
          refine j_step rfl (x_bld 1 rfl rfl ld31 rfl ?_)
          refine j_step rfl (x_field rfl fd36_2 ?_)
          refine j_step rfl (x_bld 1 rfl rfl ld31 rfl ?_)
          refine j_step rfl (x_field rfl fd36_3 ?_)
          refine j_step rfl (x_bld 1 rfl rfl ld31 rfl ?_)
          refine j_step rfl (x_field rfl fd36_1 ?_)
          refine j_step rfl (x_bld 0 rfl rfl ld31 rfl ?_)
          refine j_step rfl (x_field rfl fd36_2 ?_)
          refine j_step rfl (x_bld 0 rfl rfl ld31 rfl ?_)
          refine j_step rfl (x_field rfl fd36_3 ?_)
          refine j_step rfl (x_bld 0 rfl rfl ld31 rfl ?_)
          refine j_step rfl (x_lit sl32 zo32e rfl rfl rfl rfl (by decide) (by decide) rfl fun b4 => ?_)
          refine j_pub_all (E := (encSl RatE)) (n := 6) [[Value.slice q1 X.length d1], [Value.slice q2 Y.length d2], [Value.slice q3 R.length d3], [Value.slice r1 X2.length t1], [Value.slice r2 Y2.length t2], [Value.slice r3 R2.length t3]] [X, Y, R, X2, Y2, R2] 0 (fun w A hG => (allrd_cons (rd_of_slF (hG _ (fact_mem (n := 3) rfl))) (allrd_cons (rd_of_slF (hG _ (fact_mem (n := 4) rfl))) (allrd_cons (rd_of_slF (hG _ (fact_mem (n := 5) rfl))) (allrd_cons (rd_of_slF (hG _ (fact_mem (n := 6) rfl))) (allrd_cons (rd_of_slF (hG _ (fact_mem (n := 7) rfl))) (allrd_cons (rd_of_slF (hG _ (fact_mem (n := 8) rfl))) allrd_nil))))))) rfl rfl rfl rfl (by decide) (by decide) ?_
          refine j_step rfl (x_call [1, 2, 3, 0] rfl (S_codewrightlaw35_fits (by first | omega | exact side _ (by assumption) | assumption | rfl | (simp; done) | (simp; omega))) rfl ?_)
          rintro _ _ _ ⟨rfl, rfl, rfl⟩
          simp only [List.cons_append, List.nil_append]
          refine j_run it 1 rfl (by simp) ?_
          refine j_nf [.c [1, 0, 1], .c [1, 1]] rfl ?_
          refine j_false rfl rfl ?_
          refine j_nf [.o [1, 1, 0, 0] 0, .c [1, 1, 0, 1], .c [1, 1, 1]] rfl ?_
          refine j_step rfl (x_call [] rfl (S_codewrightlaw35_one) rfl ?_)
          rintro _ _ _ ⟨rfl, rfl, rfl⟩
          simp only [List.cons_append, List.nil_append]
          refine j_run it 1 rfl (by simp) ?_
          refine j_nf [.c [1, 1, 0, 1], .c [1, 1, 1]] rfl ?_
          refine j_false rfl rfl ?_
          refine j_nf [.o [1, 1, 1, 0, 0] 0, .c [1, 1, 1, 0, 1], .c [1, 1, 1, 1]] rfl ?_
          refine j_step rfl (x_bld_all 2 rfl rfl ld34 rfl ?_)
          refine j_step rfl (x_bld_all 1 rfl rfl ld36 rfl ?_)
          refine j_step rfl (x_call [1, 2, 3, 4, 5, 6] rfl (S_simplex_Accept (by first | omega | exact side _ (by assumption) | assumption | rfl | (simp; done) | (simp; omega)) (by first | omega | exact side _ (by assumption) | assumption | rfl | (simp; done) | (simp; omega)) (by first | omega | exact side _ (by assumption) | assumption | rfl | (simp; done) | (simp; omega)) (by first | omega | exact side _ (by assumption) | assumption | rfl | (simp; done) | (simp; omega)) (by first | omega | exact side _ (by assumption) | assumption | rfl | (simp; done) | (simp; omega)) (by first | omega | exact side _ (by assumption) | assumption | rfl | (simp; done) | (simp; omega)) (by first | omega | exact side _ (by assumption) | assumption | rfl | (simp; done) | (simp; omega)) (by first | omega | exact side _ (by assumption) | assumption | rfl | (simp; done) | (simp; omega)) (by first | omega | exact side _ (by assumption) | assumption | rfl | (simp; done) | (simp; omega))) rfl ?_)
          rintro _ _ _ ⟨rfl, rfl, rfl⟩
          simp only [List.cons_append, List.nil_append]
          refine j_run it 2 rfl (by simp) ?_
          refine j_split_ndec (t := 29) rfl (fun h1 => by exfalso; omega) (fun h1 => ?_)
          refine j_gstep rfl rfl (x_bld_all 2 rfl rfl ld34 rfl ?_)
          refine j_gstep rfl rfl (x_bld_all 0 rfl rfl ld36 rfl ?_)
          refine j_gstep rfl rfl (x_call [1, 2, 3, 7, 8, 9] rfl (S_simplex_Accept (by first | omega | exact side _ (by assumption) | assumption | rfl | (simp; done) | (simp; omega)) (by first | omega | exact side _ (by assumption) | assumption | rfl | (simp; done) | (simp; omega)) (by first | omega | exact side _ (by assumption) | assumption | rfl | (simp; done) | (simp; omega)) (by first | omega | exact side _ (by assumption) | assumption | rfl | (simp; done) | (simp; omega)) (by first | omega | exact side _ (by assumption) | assumption | rfl | (simp; done) | (simp; omega)) (by first | omega | exact side _ (by assumption) | assumption | rfl | (simp; done) | (simp; omega)) (by first | omega | exact side _ (by assumption) | assumption | rfl | (simp; done) | (simp; omega)) (by first | omega | exact side _ (by assumption) | assumption | rfl | (simp; done) | (simp; omega)) (by first | omega | exact side _ (by assumption) | assumption | rfl | (simp; done) | (simp; omega))) rfl ?_)
          rintro _ _ _ ⟨rfl, rfl, rfl⟩
          simp only [List.cons_append, List.nil_append]
          simp only [decide_true]
          refine j_run it 2 rfl (by simp) ?_
          refine j_nf [.c [1, 1, 1, 0, 1], .c [1, 1, 1, 1]] rfl ?_
          refine j_ifn rfl rfl (fun h2 => by exfalso; omega) (fun h2 => ?_)
          refine j_nf [.c [1, 1, 1, 1, 0], .c [1, 1, 1, 1, 1]] rfl ?_
          (apply j_drawK it mx 24; (· rfl); (· rfl))
          (apply lxk_eq; (· rfl); (· exact d_x fun _ => x_field rfl fd36_0 dk_eq))
          (apply lxk_eq; (· rfl); (· exact d_bld 1 rfl rfl ld3 rfl))
          (apply lxk_eq; (· rfl); (· exact d_x fun _ => x_field rfl fd36_0 dk_eq))
          (apply lxk_eq; (· rfl); (· exact d_bld 0 rfl rfl ld3 rfl))
          (apply lxk_eq; (· rfl); (· exact d_x fun _ => x_true it rfl (by trivial) (by omega) dk_eq))
          (apply lxk_run 1; (· rfl); (· simp))
          (apply lxk_eq; (· rfl); (· exact d_x fun _ => x_field rfl fd36_0 dk_eq))
          (apply lxk_eq; (· rfl); (· exact d_bld 1 rfl rfl ld3 rfl))
          (apply lxk_run 13; (· rfl); (· simp))
          (apply lxk_run 3; (· rfl); (· simp))
          refine lxk_end rfl ?_
          simp only [List.map_cons, List.map_nil, List.cons_append, List.nil_append]
          refine j_run it 1 rfl (by simp) ?_
          refine j_nf [.c [1, 1, 1, 1, 1]] rfl ?_
          refine j_giv [] rfl rfl rfl ⟨rfl, rfl, rfl⟩
        · refine j_nf [.o [0] 0, .c [1]] rfl ?_
          refine j_step rfl (x_box_agg rfl fun b1 => ?_)
          refine j_step rfl (x_box_agg rfl fun b2 => ?_)
          refine j_step rfl (x_box_agg rfl fun b3 => ?_)
          refine j_run it 1 rfl (by simp) ?_
          refine j_nf [.o [1, 0, 0] 0, .c [1, 0, 1], .c [1, 1]] rfl ?_
          refine j_step rfl (x_bld_all 2 rfl rfl ld34 rfl ?_)
          refine j_step rfl (x_field rfl fd36_1 ?_)
          refine j_step rfl (x_bld 1 rfl rfl ld31 rfl ?_)
          refine j_step rfl (x_field rfl fd36_2 ?_)
          refine j_step rfl (x_bld 1 rfl rfl ld31 rfl ?_)
          refine j_step rfl (x_field rfl fd36_3 ?_)
          refine j_step rfl (x_bld 1 rfl rfl ld31 rfl ?_)
          refine j_step rfl (x_field rfl fd36_1 ?_)
          refine j_step rfl (x_bld 0 rfl rfl ld31 rfl ?_)
          refine j_step rfl (x_field rfl fd36_2 ?_)
          refine j_step rfl (x_bld 0 rfl rfl ld31 rfl ?_)
          refine j_step rfl (x_field rfl fd36_3 ?_)
          refine j_step rfl (x_bld 0 rfl rfl ld31 rfl ?_)
          refine j_step rfl (x_lit sl32 zo32e rfl rfl rfl rfl (by decide) (by decide) rfl fun b4 => ?_)
          refine j_pub_all (E := (encSl RatE)) (n := 6) [[Value.slice q1 X.length d1], [Value.slice q2 Y.length d2], [Value.slice q3 R.length d3], [Value.slice r1 X2.length t1], [Value.slice r2 Y2.length t2], [Value.slice r3 R2.length t3]] [X, Y, R, X2, Y2, R2] 0 (fun w A hG => (allrd_cons (rd_of_slF (hG _ (fact_mem (n := 3) rfl))) (allrd_cons (rd_of_slF (hG _ (fact_mem (n := 4) rfl))) (allrd_cons (rd_of_slF (hG _ (fact_mem (n := 5) rfl))) (allrd_cons (rd_of_slF (hG _ (fact_mem (n := 6) rfl))) (allrd_cons (rd_of_slF (hG _ (fact_mem (n := 7) rfl))) (allrd_cons (rd_of_slF (hG _ (fact_mem (n := 8) rfl))) allrd_nil))))))) rfl rfl rfl rfl (by decide) (by decide) ?_
          refine j_step rfl (x_call [1, 2, 3, 0] rfl (S_codewrightlaw35_fits (by first | omega | exact side _ (by assumption) | assumption | rfl | (simp; done) | (simp; omega))) rfl ?_)
          rintro _ _ _ ⟨rfl, rfl, rfl⟩
          simp only [List.cons_append, List.nil_append]
          refine j_run it 1 rfl (by simp) ?_
          refine j_nf [.c [1, 0, 1], .c [1, 1]] rfl ?_
          refine j_false rfl rfl ?_
          refine j_nf [.o [1, 1, 0, 0] 0, .c [1, 1, 0, 1], .c [1, 1, 1]] rfl ?_
          refine j_step rfl (x_call [] rfl (S_codewrightlaw35_one) rfl ?_)
          rintro _ _ _ ⟨rfl, rfl, rfl⟩
          simp only [List.cons_append, List.nil_append]
          refine j_run it 1 rfl (by simp) ?_
          refine j_nf [.c [1, 1, 0, 1], .c [1, 1, 1]] rfl ?_
          refine j_false rfl rfl ?_
          refine j_nf [.o [1, 1, 1, 0, 0] 0, .c [1, 1, 1, 0, 1], .c [1, 1, 1, 1]] rfl ?_
          refine j_step rfl (x_bld_all 2 rfl rfl ld34 rfl ?_)
          refine j_step rfl (x_bld_all 1 rfl rfl ld36 rfl ?_)
          refine j_step rfl (x_call [1, 2, 3, 4, 5, 6] rfl (S_simplex_Accept (by first | omega | exact side _ (by assumption) | assumption | rfl | (simp; done) | (simp; omega)) (by first | omega | exact side _ (by assumption) | assumption | rfl | (simp; done) | (simp; omega)) (by first | omega | exact side _ (by assumption) | assumption | rfl | (simp; done) | (simp; omega)) (by first | omega | exact side _ (by assumption) | assumption | rfl | (simp; done) | (simp; omega)) (by first | omega | exact side _ (by assumption) | assumption | rfl | (simp; done) | (simp; omega)) (by first | omega | exact side _ (by assumption) | assumption | rfl | (simp; done) | (simp; omega)) (by first | omega | exact side _ (by assumption) | assumption | rfl | (simp; done) | (simp; omega)) (by first | omega | exact side _ (by assumption) | assumption | rfl | (simp; done) | (simp; omega)) (by first | omega | exact side _ (by assumption) | assumption | rfl | (simp; done) | (simp; omega))) rfl ?_)
          rintro _ _ _ ⟨rfl, rfl, rfl⟩
          simp only [List.cons_append, List.nil_append]
          refine j_run it 2 rfl (by simp) ?_
          refine j_split_ndec (t := 29) rfl (fun h1 => by exfalso; omega) (fun h1 => ?_)
          refine j_gstep rfl rfl (x_bld_all 2 rfl rfl ld34 rfl ?_)
          refine j_gstep rfl rfl (x_bld_all 0 rfl rfl ld36 rfl ?_)
          refine j_gstep rfl rfl (x_call [1, 2, 3, 7, 8, 9] rfl (S_simplex_Accept (by first | omega | exact side _ (by assumption) | assumption | rfl | (simp; done) | (simp; omega)) (by first | omega | exact side _ (by assumption) | assumption | rfl | (simp; done) | (simp; omega)) (by first | omega | exact side _ (by assumption) | assumption | rfl | (simp; done) | (simp; omega)) (by first | omega | exact side _ (by assumption) | assumption | rfl | (simp; done) | (simp; omega)) (by first | omega | exact side _ (by assumption) | assumption | rfl | (simp; done) | (simp; omega)) (by first | omega | exact side _ (by assumption) | assumption | rfl | (simp; done) | (simp; omega)) (by first | omega | exact side _ (by assumption) | assumption | rfl | (simp; done) | (simp; omega)) (by first | omega | exact side _ (by assumption) | assumption | rfl | (simp; done) | (simp; omega)) (by first | omega | exact side _ (by assumption) | assumption | rfl | (simp; done) | (simp; omega))) rfl ?_)
          rintro _ _ _ ⟨rfl, rfl, rfl⟩
          simp only [List.cons_append, List.nil_append]
          simp only [decide_true]
          refine j_run it 2 rfl (by simp) ?_
          refine j_nf [.c [1, 1, 1, 0, 1], .c [1, 1, 1, 1]] rfl ?_
          refine j_ifn rfl rfl (fun h2 => by exfalso; omega) (fun h2 => ?_)
          refine j_nf [.c [1, 1, 1, 1, 0], .c [1, 1, 1, 1, 1]] rfl ?_
          (apply j_drawK it mx 24; (· rfl); (· rfl))
          (apply lxk_eq; (· rfl); (· exact d_x fun _ => x_field rfl fd36_0 dk_eq))
          (apply lxk_eq; (· rfl); (· exact d_bld 1 rfl rfl ld3 rfl))
          (apply lxk_eq; (· rfl); (· exact d_x fun _ => x_field rfl fd36_0 dk_eq))
          (apply lxk_eq; (· rfl); (· exact d_bld 0 rfl rfl ld3 rfl))
          (apply lxk_eq; (· rfl); (· exact d_x fun _ => x_true it rfl (by trivial) (by omega) dk_eq))
          (apply lxk_run 1; (· rfl); (· simp))
          (apply lxk_eq; (· rfl); (· exact d_x fun _ => x_field rfl fd36_0 dk_eq))
          (apply lxk_eq; (· rfl); (· exact d_bld 1 rfl rfl ld3 rfl))
          (apply lxk_run 13; (· rfl); (· simp))
          (apply lxk_run 3; (· rfl); (· simp))
          refine lxk_end rfl ?_
          simp only [List.map_cons, List.map_nil, List.cons_append, List.nil_append]
          refine j_run it 1 rfl (by simp) ?_
          refine j_nf [.c [1, 1, 1, 1, 1]] rfl ?_
          refine j_giv [] rfl rfl rfl ⟨rfl, rfl, rfl⟩
      · refine j_nf [.o [0] 0, .c [1]] rfl ?_
        refine j_step rfl (x_box_agg rfl fun b1 => ?_)
        refine j_step rfl (x_box_agg rfl fun b2 => ?_)
        refine j_step rfl (x_box_agg rfl fun b3 => ?_)
        refine j_run it 1 rfl (by simp) ?_
        refine j_nf [.o [1, 0, 0] 0, .c [1, 0, 1], .c [1, 1]] rfl ?_
        refine j_step rfl (x_bld_all 2 rfl rfl ld34 rfl ?_)
        refine j_step rfl (x_field rfl fd36_1 ?_)
        refine j_step rfl (x_bld 1 rfl rfl ld31 rfl ?_)
        refine j_step rfl (x_field rfl fd36_2 ?_)
        refine j_step rfl (x_bld 1 rfl rfl ld31 rfl ?_)
        refine j_step rfl (x_field rfl fd36_3 ?_)
        refine j_step rfl (x_bld 1 rfl rfl ld31 rfl ?_)
        refine j_step rfl (x_field rfl fd36_1 ?_)
        refine j_step rfl (x_bld 0 rfl rfl ld31 rfl ?_)
        refine j_step rfl (x_field rfl fd36_2 ?_)
        refine j_step rfl (x_bld 0 rfl rfl ld31 rfl ?_)
        refine j_step rfl (x_field rfl fd36_3 ?_)
        refine j_step rfl (x_bld 0 rfl rfl ld31 rfl ?_)
        refine j_step rfl (x_lit sl32 zo32e rfl rfl rfl rfl (by decide) (by decide) rfl fun b4 => ?_)
        refine j_pub_all (E := (encSl RatE)) (n := 6) [[Value.slice q1 X.length d1], [Value.slice q2 Y.length d2], [Value.slice q3 R.length d3], [Value.slice r1 X2.length t1], [Value.slice r2 Y2.length t2], [Value.slice r3 R2.length t3]] [X, Y, R, X2, Y2, R2] 0 (fun w A hG => (allrd_cons (rd_of_slF (hG _ (fact_mem (n := 3) rfl))) (allrd_cons (rd_of_slF (hG _ (fact_mem (n := 4) rfl))) (allrd_cons (rd_of_slF (hG _ (fact_mem (n := 5) rfl))) (allrd_cons (rd_of_slF (hG _ (fact_mem (n := 6) rfl))) (allrd_cons (rd_of_slF (hG _ (fact_mem (n := 7) rfl))) (allrd_cons (rd_of_slF (hG _ (fact_mem (n := 8) rfl))) allrd_nil))))))) rfl rfl rfl rfl (by decide) (by decide) ?_
        refine j_step rfl (x_call [1, 2, 3, 0] rfl (S_codewrightlaw35_fits (by first | omega | exact side _ (by assumption) | assumption | rfl | (simp; done) | (simp; omega))) rfl ?_)
        rintro _ _ _ ⟨rfl, rfl, rfl⟩
        simp only [List.cons_append, List.nil_append]
        refine j_run it 1 rfl (by simp) ?_
        refine j_nf [.c [1, 0, 1], .c [1, 1]] rfl ?_
        refine j_false rfl rfl ?_
        refine j_nf [.o [1, 1, 0, 0] 0, .c [1, 1, 0, 1], .c [1, 1, 1]] rfl ?_
        refine j_step rfl (x_call [] rfl (S_codewrightlaw35_one) rfl ?_)
        rintro _ _ _ ⟨rfl, rfl, rfl⟩
        simp only [List.cons_append, List.nil_append]
        refine j_run it 1 rfl (by simp) ?_
        refine j_nf [.c [1, 1, 0, 1], .c [1, 1, 1]] rfl ?_
        refine j_false rfl rfl ?_
        refine j_nf [.o [1, 1, 1, 0, 0] 0, .c [1, 1, 1, 0, 1], .c [1, 1, 1, 1]] rfl ?_
        refine j_step rfl (x_bld_all 2 rfl rfl ld34 rfl ?_)
        refine j_step rfl (x_bld_all 1 rfl rfl ld36 rfl ?_)
        refine j_step rfl (x_call [1, 2, 3, 4, 5, 6] rfl (S_simplex_Accept (by first | omega | exact side _ (by assumption) | assumption | rfl | (simp; done) | (simp; omega)) (by first | omega | exact side _ (by assumption) | assumption | rfl | (simp; done) | (simp; omega)) (by first | omega | exact side _ (by assumption) | assumption | rfl | (simp; done) | (simp; omega)) (by first | omega | exact side _ (by assumption) | assumption | rfl | (simp; done) | (simp; omega)) (by first | omega | exact side _ (by assumption) | assumption | rfl | (simp; done) | (simp; omega)) (by first | omega | exact side _ (by assumption) | assumption | rfl | (simp; done) | (simp; omega)) (by first | omega | exact side _ (by assumption) | assumption | rfl | (simp; done) | (simp; omega)) (by first | omega | exact side _ (by assumption) | assumption | rfl | (simp; done) | (simp; omega)) (by first | omega | exact side _ (by assumption) | assumption | rfl | (simp; done) | (simp; omega))) rfl ?_)
        rintro _ _ _ ⟨rfl, rfl, rfl⟩
        simp only [List.cons_append, List.nil_append]
        refine j_run it 2 rfl (by simp) ?_
        refine j_split_ndec (t := 29) rfl (fun h1 => by exfalso; omega) (fun h1 => ?_)
        refine j_gstep rfl rfl (x_bld_all 2 rfl rfl ld34 rfl ?_)
        refine j_gstep rfl rfl (x_bld_all 0 rfl rfl ld36 rfl ?_)
        refine j_gstep rfl rfl (x_call [1, 2, 3, 7, 8, 9] rfl (S_simplex_Accept (by first | omega | exact side _ (by assumption) | assumption | rfl | (simp; done) | (simp; omega)) (by first | omega | exact side _ (by assumption) | assumption | rfl | (simp; done) | (simp; omega)) (by first | omega | exact side _ (by assumption) | assumption | rfl | (simp; done) | (simp; omega)) (by first | omega | exact side _ (by assumption) | assumption | rfl | (simp; done) | (simp; omega)) (by first | omega | exact side _ (by assumption) | assumption | rfl | (simp; done) | (simp; omega)) (by first | omega | exact side _ (by assumption) | assumption | rfl | (simp; done) | (simp; omega)) (by first | omega | exact side _ (by assumption) | assumption | rfl | (simp; done) | (simp; omega)) (by first | omega | exact side _ (by assumption) | assumption | rfl | (simp; done) | (simp; omega)) (by first | omega | exact side _ (by assumption) | assumption | rfl | (simp; done) | (simp; omega))) rfl ?_)
        rintro _ _ _ ⟨rfl, rfl, rfl⟩
        simp only [List.cons_append, List.nil_append]
        simp only [decide_true]
        refine j_run it 2 rfl (by simp) ?_
        refine j_nf [.c [1, 1, 1, 0, 1], .c [1, 1, 1, 1]] rfl ?_
        refine j_ifn rfl rfl (fun h2 => ?_) (fun h2 => by exfalso; omega)
        refine j_nf [.o [1, 1, 1, 0, 1, 0, 0] 0, .c [1, 1, 1, 0, 1, 0, 1], .c [1, 1, 1, 1]] rfl ?_
        refine j_run it 1 rfl (by simp) ?_
        refine j_nf [.c [1, 1, 1, 0, 1, 0, 1], .c [1, 1, 1, 1]] rfl ?_
        refine j_giv [] rfl rfl rfl ⟨rfl, rfl, rfl⟩
    · refine j_nf [.o [0] 0, .c [1]] rfl ?_
      refine j_step rfl (x_box_agg rfl fun b1 => ?_)
      refine j_step rfl (x_box_agg rfl fun b2 => ?_)
      refine j_step rfl (x_box_agg rfl fun b3 => ?_)
      refine j_run it 1 rfl (by simp) ?_
      refine j_nf [.o [1, 0, 0] 0, .c [1, 0, 1], .c [1, 1]] rfl ?_
      refine j_step rfl (x_bld_all 2 rfl rfl ld34 rfl ?_)
      refine j_step rfl (x_field rfl fd36_1 ?_)
      refine j_step rfl (x_bld 1 rfl rfl ld31 rfl ?_)
      refine j_step rfl (x_field rfl fd36_2 ?_)
      refine j_step rfl (x_bld 1 rfl rfl ld31 rfl ?_)
      refine j_step rfl (x_field rfl fd36_3 ?_)
      refine j_step rfl (x_bld 1 rfl rfl ld31 rfl ?_)
      refine j_step rfl (x_field rfl fd36_1 ?_)
      refine j_step rfl (x_bld 0 rfl rfl ld31 rfl ?_)
      refine j_step rfl (x_field rfl fd36_2 ?_)
      refine j_step rfl (x_bld 0 rfl rfl ld31 rfl ?_)
      refine j_step rfl (x_field rfl fd36_3 ?_)
      refine j_step rfl (x_bld 0 rfl rfl ld31 rfl ?_)
      refine j_step rfl (x_lit sl32 zo32e rfl rfl rfl rfl (by decide) (by decide) rfl fun b4 => ?_)
      refine j_pub_all (E := (encSl RatE)) (n := 6) [[Value.slice q1 X.length d1], [Value.slice q2 Y.length d2], [Value.slice q3 R.length d3], [Value.slice r1 X2.length t1], [Value.slice r2 Y2.length t2], [Value.slice r3 R2.length t3]] [X, Y, R, X2, Y2, R2] 0 (fun w A hG => (allrd_cons (rd_of_slF (hG _ (fact_mem (n := 3) rfl))) (allrd_cons (rd_of_slF (hG _ (fact_mem (n := 4) rfl))) (allrd_cons (rd_of_slF (hG _ (fact_mem (n := 5) rfl))) (allrd_cons (rd_of_slF (hG _ (fact_mem (n := 6) rfl))) (allrd_cons (rd_of_slF (hG _ (fact_mem (n := 7) rfl))) (allrd_cons (rd_of_slF (hG _ (fact_mem (n := 8) rfl))) allrd_nil))))))) rfl rfl rfl rfl (by decide) (by decide) ?_
      refine j_step rfl (x_call [1, 2, 3, 0] rfl (S_codewrightlaw35_fits (by first | omega | exact side _ (by assumption) | assumption | rfl | (simp; done) | (simp; omega))) rfl ?_)
      rintro _ _ _ ⟨rfl, rfl, rfl⟩
      simp only [List.cons_append, List.nil_append]
      refine j_run it 1 rfl (by simp) ?_
      refine j_nf [.c [1, 0, 1], .c [1, 1]] rfl ?_
      refine j_false rfl rfl ?_
      refine j_nf [.o [1, 1, 0, 0] 0, .c [1, 1, 0, 1], .c [1, 1, 1]] rfl ?_
      refine j_step rfl (x_call [] rfl (S_codewrightlaw35_one) rfl ?_)
      rintro _ _ _ ⟨rfl, rfl, rfl⟩
      simp only [List.cons_append, List.nil_append]
      refine j_run it 1 rfl (by simp) ?_
      refine j_nf [.c [1, 1, 0, 1], .c [1, 1, 1]] rfl ?_
      refine j_false rfl rfl ?_
      refine j_nf [.o [1, 1, 1, 0, 0] 0, .c [1, 1, 1, 0, 1], .c [1, 1, 1, 1]] rfl ?_
      refine j_step rfl (x_bld_all 2 rfl rfl ld34 rfl ?_)
      refine j_step rfl (x_bld_all 1 rfl rfl ld36 rfl ?_)
      refine j_step rfl (x_call [1, 2, 3, 4, 5, 6] rfl (S_simplex_Accept (by first | omega | exact side _ (by assumption) | assumption | rfl | (simp; done) | (simp; omega)) (by first | omega | exact side _ (by assumption) | assumption | rfl | (simp; done) | (simp; omega)) (by first | omega | exact side _ (by assumption) | assumption | rfl | (simp; done) | (simp; omega)) (by first | omega | exact side _ (by assumption) | assumption | rfl | (simp; done) | (simp; omega)) (by first | omega | exact side _ (by assumption) | assumption | rfl | (simp; done) | (simp; omega)) (by first | omega | exact side _ (by assumption) | assumption | rfl | (simp; done) | (simp; omega)) (by first | omega | exact side _ (by assumption) | assumption | rfl | (simp; done) | (simp; omega)) (by first | omega | exact side _ (by assumption) | assumption | rfl | (simp; done) | (simp; omega)) (by first | omega | exact side _ (by assumption) | assumption | rfl | (simp; done) | (simp; omega))) rfl ?_)
      rintro _ _ _ ⟨rfl, rfl, rfl⟩
      simp only [List.cons_append, List.nil_append]
      refine j_run it 2 rfl (by simp) ?_
      refine j_split_ndec (t := 29) rfl (fun h1 => ?_) (fun h1 => by exfalso; omega)
      refine j_run it 5 rfl (by simp) ?_
      refine j_nf [.c [1, 1, 1, 0, 1], .c [1, 1, 1, 1]] rfl ?_
      refine j_true rfl rfl ?_
      refine j_nf [.o [1, 1, 1, 0, 1, 0, 0] 0, .c [1, 1, 1, 0, 1, 0, 1], .c [1, 1, 1, 1]] rfl ?_
      refine j_run it 1 rfl (by simp) ?_
      refine j_nf [.c [1, 1, 1, 0, 1, 0, 1], .c [1, 1, 1, 1]] rfl ?_
      refine j_giv [] rfl rfl rfl ⟨rfl, rfl, rfl⟩

theorem op4 : Opens Try.prog 4 encBool := opens_bool rfl rfl rfl
theorem op84 : Opens Try.prog 84 (encNat .u32 4) := opens_nat rfl rfl rfl (fun n h => h.1)
theorem op42 : Opens Try.prog 42 (encSl (encNat .u32 4)) := opens_sl rfl op84 rfl rfl (by decide)
theorem op44 : Opens Try.prog 44 (encPair encBool (encPair (encSl (encNat .u32 4)) (encSl (encNat .u32 4)) 48) 56) := opens_struct rfl (opensAll_cons 56 rfl op4 (opensAll_cons 48 rfl op42 (opensAll_one rfl op42))) rfl rfl
theorem op31 : Opens Try.prog 31 (encSl (encPair encBool (encPair (encSl (encNat .u32 4)) (encSl (encNat .u32 4)) 48) 56)) := opens_sl rfl op44 rfl rfl (by decide)
theorem op32 : Opens Try.prog 32 (encSl (encSl (encPair encBool (encPair (encSl (encNat .u32 4)) (encSl (encNat .u32 4)) 48) 56))) := opens_sl rfl op31 rfl rfl (by decide)
theorem op34 : Opens Try.prog 34 (encPair (encSl (encPair encBool (encPair (encSl (encNat .u32 4)) (encSl (encNat .u32 4)) 48) 56)) (encPair (encSl (encSl (encPair encBool (encPair (encSl (encNat .u32 4)) (encSl (encNat .u32 4)) 48) 56))) (encSl (encPair encBool (encPair (encSl (encNat .u32 4)) (encSl (encNat .u32 4)) 48) 56)) 48) 72) := opens_struct rfl (opensAll_cons 72 rfl op31 (opensAll_cons 48 rfl op32 (opensAll_one rfl op31))) rfl rfl
theorem op3 : Opens Try.prog 3 (encInt .i64 8) := opens_int rfl rfl rfl
theorem op36 : Opens Try.prog 36 (encPair (encInt .i64 8) (encPair (encSl (encPair encBool (encPair (encSl (encNat .u32 4)) (encSl (encNat .u32 4)) 48) 56)) (encPair (encSl (encPair encBool (encPair (encSl (encNat .u32 4)) (encSl (encNat .u32 4)) 48) 56)) (encSl (encPair encBool (encPair (encSl (encNat .u32 4)) (encSl (encNat .u32 4)) 48) 56)) 48) 72) 80) := opens_struct rfl (opensAll_cons 80 rfl op3 (opensAll_cons 72 rfl op31 (opensAll_cons 48 rfl op31 (opensAll_one rfl op31)))) rfl rfl

theorem simplexOne_says : LawSays Try.prog 5 Try.f5 := by
  intro W args h
  have h : Args Try.prog W [34, 36, 36] args := h
  match args, h with
  | [v0, v1, v2], ⟨h0, h1, h2, _⟩ =>
    obtain ⟨vs0, l0, rfl, k0⟩ := h0.agg Try.underlying34 op34
    obtain ⟨p01, c01, p02, c02, p03, c03, rfl, a01, a02, a03⟩ := lin_open k0
    obtain ⟨vs1, l1, rfl, k1⟩ := h1.agg Try.underlying36 op36
    obtain ⟨p11, c11, p12, c12, p13, c13, rfl, a11, a12, a13⟩ := sol_open k1
    obtain ⟨vs2, l2, rfl, k2⟩ := h2.agg Try.underlying36 op36
    obtain ⟨p21, c21, p22, c22, p23, c23, rfl, a21, a22, a23⟩ := sol_open k2
    refine law_of_gives S_SimplexOne (fun v Φ β h => h.1) ?_
    intro g hg
    simp only [List.mem_cons, List.not_mem_nil, or_false] at hg
    rcases hg with rfl | rfl | rfl | rfl | rfl | rfl | rfl | rfl | rfl
    · exact ⟨rfl, a01⟩
    · exact ⟨rfl, a02⟩
    · exact ⟨rfl, a03⟩
    · exact ⟨rfl, a11⟩
    · exact ⟨rfl, a12⟩
    · exact ⟨rfl, a13⟩
    · exact ⟨rfl, a21⟩
    · exact ⟨rfl, a22⟩
    · exact ⟨rfl, a23⟩


/-! ### The row -/

theorem simplexOne_lifted (os : Os) (started : os.Started) (H : Type) (enc : TypeId × Value → H) :
    ReturnsInHanded {} Try.checked os 5 .any (Rows.simplexOneSpec.pre6 enc Try.prog Try.f5 Rows.simplexOneRow.domain false) (Rows.simplexOneSpec.post enc Try.prog Try.f5 false true false false) :=
  law_lift (C := Try.checked) (by kernel_rfl) started (by kernel_rfl) Try.func5
    (ChangeSpec.witness6 (enc := enc) (C := Try.checked) false ⟨#[], #[.agg #[.slice none 0 0, .slice none 0 0, .slice none 0 0], .agg #[.int .i64 0, .slice none 0 0, .slice none 0 0, .slice none 0 0], .agg #[.int .i64 0, .slice none 0 0, .slice none 0 0, .slice none 0 0]], []⟩ 8 (by kernel_rfl) (by kernel_rfl) (by kernel_rfl) (by kernel_rfl))
    (by kernel_rfl) rfl (by kernel_rfl) rfl Try.underlying4 (fun ds h => match ds, h with | [d0, d1, d2], _ => rfl) simplexOne_says

theorem simplexOne_holds : Rows.SimplexOneSaid :=
  OpenClaim.holds_of_wide 5 Try.f5 rfl rfl rfl rfl rfl rfl rfl ⟨rfl, rfl, rfl, rfl, rfl⟩ rfl rfl rfl rfl rfl (by kernel_rfl) Try.func5 (by kernel_rfl)
    (of_decide_eq_true (by kernel_rfl)) (by unfold Func.isWrapper; first | (rw [if_pos (by decide +kernel)]; kernel_rfl) | (rw [if_neg (by decide +kernel)]; exact ⟨rfl, rfl⟩))
    (fun os started H enc _ => simplexOne_lifted os started H enc)
#print axioms simplexOne_holds
end Go.Proofs.Ytkchmoahohopiaa
