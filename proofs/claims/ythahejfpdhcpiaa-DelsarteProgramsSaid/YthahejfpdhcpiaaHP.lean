/-
DelsartePrograms returns true: Program returns the specified linear program, or ErrRange.
-/
import Derived.Test.YthahejfpdhcpiaaRows
import Derived.ProofKit
import Derived.JoinedOf
import Derived.Test.YthahejfpdhcpiaaHP7
namespace Go.Proofs.Ythahejfpdhcpiaa
open Go Go.Fw
set_option maxRecDepth 100000
set_option linter.unusedVariables false
set_option linter.unusedSimpArgs false
set_option maxHeartbeats 4000000
theorem S_DelsartePrograms {q n d : Int} : Ctr Try.prog 3 [.int .i64 q, .int .i64 n, .int .i64 d] [] [] (Rv (.bool true) []) := by
  refine Ctr_of_j' (F := F_codewrightlaw36_DelsartePrograms) rfl fun C => ?_
  by_cases hr : rangeP q n d
  · have hr' : decide (rangeP q n d) = true := decide_eq_true hr
    by_cases h14 : 14 < n
    · refine j_nf [.o [0] 0, .c [1]] rfl ?_
      refine j_run it 1 rfl (by simp) ?_
      refine j_nf [.o [1, 0, 0] 0, .c [1, 0, 1], .c [1, 1]] rfl ?_
      refine j_run it 3 rfl (by simp) ?_
      refine j_split_dec (t := 13) rfl (fun h1 => ?_) (fun h1 => by exfalso; omega)
      refine j_run it 3 rfl (by simp) ?_
      refine j_gstep rfl rfl (x_call [] rfl (S_codewrightref34_Range (by first | omega | exact side _ (by assumption) | assumption | rfl | (simp; done) | (simp; omega))) rfl ?_)
      rintro _ _ _ ⟨rfl, rfl, rfl⟩
      simp only [List.cons_append, List.nil_append]
      refine j_run it 1 rfl (by simp) ?_
      refine j_nf [.c [1, 0, 1], .c [1, 1]] rfl ?_
      refine j_true rfl rfl ?_
      refine j_nf [.o [1, 0, 1, 0, 0] 0, .c [1, 0, 1, 0, 1], .c [1, 1]] rfl ?_
      refine j_run it 1 rfl (by simp) ?_
      refine j_nf [.c [1, 0, 1, 0, 1], .c [1, 1]] rfl ?_
      refine j_giv [] rfl rfl rfl ⟨rfl, rfl, rfl⟩
    · obtain ⟨p, m, k, rfl, rfl, rfl, h1, h2, h3, h4, h5, h6⟩ := range_nat hr
      have lA : (pgA p m k).length = m := by simp [pgA]
      refine j_nf [.o [0] 0, .c [1]] rfl ?_
      refine j_run it 1 rfl (by simp) ?_
      refine j_nf [.o [1, 0, 0] 0, .c [1, 0, 1], .c [1, 1]] rfl ?_
      refine j_run it 3 rfl (by simp) ?_
      refine j_split_dec (t := 13) rfl (fun h7 => by exfalso; omega) (fun h7 => ?_)
      refine j_run it 5 rfl (by simp) ?_
      refine j_nf [.c [1, 0, 1], .c [1, 1]] rfl ?_
      refine j_false rfl rfl ?_
      refine j_nf [.o [1, 1, 0] 0, .c [1, 1, 1]] rfl ?_
      refine j_run it 3 rfl (by simp) ?_
      refine j_step rfl (x_call [] rfl (S_delsarte_Program (by first | omega | exact side _ (by assumption) | assumption | rfl | (simp; done) | (simp; omega)) (by first | omega | exact side _ (by assumption) | assumption | rfl | (simp; done) | (simp; omega)) (by first | omega | exact side _ (by assumption) | assumption | rfl | (simp; done) | (simp; omega)) (by first | omega | exact side _ (by assumption) | assumption | rfl | (simp; done) | (simp; omega)) (by first | omega | exact side _ (by assumption) | assumption | rfl | (simp; done) | (simp; omega))) rfl ?_)
      rintro _ _ _ ⟨p11, c11, p21, c21, p31, c31, rfl, rfl, rfl⟩
      simp only [List.cons_append, List.nil_append]
      refine j_run it 3 rfl (by simp) ?_
      refine j_step rfl (x_alloc zo26 fun b1 => ?_)
      refine j_step rfl (x_bst_all 0 rfl rfl rfl ld26 rfl rfl (by simp [Value.oneCell']) ?_)
      refine j_run it 1 rfl (by simp) ?_
      refine j_nf [.o [1, 1, 1, 0, 0] 0, .c [1, 1, 1, 0, 1], .c [1, 1, 1, 1]] rfl ?_
      refine j_run it 3 rfl (by simp) ?_
      refine j_step rfl (x_call [] rfl (S_codewrightref34_Range (by first | omega | exact side _ (by assumption) | assumption | rfl | (simp; done) | (simp; omega))) rfl ?_)
      rintro _ _ _ ⟨rfl, rfl, rfl⟩
      simp only [List.cons_append, List.nil_append]
      refine j_run it 1 rfl (by simp) ?_
      refine j_nf [.c [1, 1, 1, 0, 1], .c [1, 1, 1, 1]] rfl ?_
      refine j_false rfl rfl ?_
      refine j_nf [.o [1, 1, 1, 1, 0, 0] 0, .c [1, 1, 1, 1, 0, 1], .c [1, 1, 1, 1, 1]] rfl ?_
      refine j_run it 2 rfl (by simp) ?_
      refine j_nf [.c [1, 1, 1, 1, 0, 1], .c [1, 1, 1, 1, 1]] rfl ?_
      refine j_if rfl rfl (fun h8 => by exfalso; omega) (fun h8 => ?_)
      refine j_nf [.o [1, 1, 1, 1, 1, 0] 0, .c [1, 1, 1, 1, 1, 1]] rfl ?_
      refine j_run it 3 rfl (by simp) ?_
      refine j_step rfl (x_call [] rfl (S_codewrightref36_Program (by first | omega | exact side _ (by assumption) | assumption | rfl | (simp; done) | (simp; omega)) (by first | omega | exact side _ (by assumption) | assumption | rfl | (simp; done) | (simp; omega)) (by first | omega | exact side _ (by assumption) | assumption | rfl | (simp; done) | (simp; omega)) (by first | omega | exact side _ (by assumption) | assumption | rfl | (simp; done) | (simp; omega)) (by first | omega | exact side _ (by assumption) | assumption | rfl | (simp; done) | (simp; omega))) rfl ?_)
      rintro _ _ _ ⟨p12, c12, p22, c22, p32, c32, rfl, rfl, rfl⟩
      simp only [List.cons_append, List.nil_append]
      refine j_step rfl (x_alloc zo26 fun b2 => ?_)
      refine j_step rfl (x_bst_all 0 rfl rfl rfl ld26 rfl rfl (by simp [Value.oneCell']) ?_)
      refine j_nf [.o [1, 1, 1, 1, 1, 1, 0, 0] 0, .c [1, 1, 1, 1, 1, 1, 0, 1], .c [1, 1, 1, 1, 1, 1, 1]] rfl ?_
      refine j_run it 3 rfl (by simp) ?_
      refine j_split_ndec (t := 55) rfl (fun h9 => by exfalso; omega) (fun h9 => ?_)
      refine j_gstep rfl rfl (x_field rfl fd26_0 ?_)
      refine j_gstep rfl rfl (x_bld 1 rfl rfl ld23 rfl ?_)
      refine j_gstep rfl rfl (x_field rfl fd26_0 ?_)
      refine j_gstep rfl rfl (x_bld 0 rfl rfl ld23 rfl ?_)
      refine j_gstep rfl rfl (x_call [3, 0] rfl (S_codewrightref02_SameList) rfl ?_)
      rintro _ _ _ ⟨rfl, rfl, rfl⟩
      simp only [List.cons_append, List.nil_append]
      simp only [decide_true]
      refine j_run it 3 rfl (by simp) ?_
      refine j_gstep rfl rfl (x_field rfl fd26_2 ?_)
      refine j_gstep rfl rfl (x_bld 1 rfl rfl ld23 rfl ?_)
      refine j_gstep rfl rfl (x_field rfl fd26_2 ?_)
      refine j_gstep rfl rfl (x_bld 0 rfl rfl ld23 rfl ?_)
      refine j_gstep rfl rfl (x_call [5, 2] rfl (S_codewrightref02_SameList) rfl ?_)
      rintro _ _ _ ⟨rfl, rfl, rfl⟩
      simp only [List.cons_append, List.nil_append]
      simp only [decide_true]
      refine j_run it 3 rfl (by simp) ?_
      refine j_gstep rfl rfl (x_field rfl fd26_1 ?_)
      refine j_gstep rfl rfl (x_bld 1 rfl rfl ld24 rfl ?_)
      refine j_gstep rfl rfl (x_len sl24 rfl ?_)
      refine j_gstep rfl rfl (x_field rfl fd26_1 ?_)
      refine j_gstep rfl rfl (x_bld 0 rfl rfl ld24 rfl ?_)
      refine j_gstep rfl rfl (x_len sl24 rfl ?_)
      refine j_run it 2 rfl (by simp) ?_
      refine j_nf [.c [1, 1, 1, 1, 1, 1, 0, 1], .c [1, 1, 1, 1, 1, 1, 1]] rfl ?_
      refine j_ifn rfl rfl (fun h10 => by exfalso; omega) (fun h10 => ?_)
      refine j_nf [.o [1, 1, 1, 1, 1, 1, 1, 0, 0] 0, .c [1, 1, 1, 1, 1, 1, 1, 0, 1], .c [1, 1, 1, 1, 1, 1, 1, 1]] rfl ?_
      refine j_run it 1 rfl (by simp) ?_
      refine j_nf [.c [1, 1, 1, 1, 1, 1, 1, 0, 1, 0], .blk 0, .c [1, 1, 1, 1, 1, 1, 1, 1]] rfl ?_
      refine j_loopG (X := Nat) [7, 9] [0, 1, 2, 3, 4, 5] (fun i => [(10, .int .i64 i)]) (fun _ => [(some b2, 26, [.slice p12 (pgC m k).length c12, .slice p22 (pgA p m k).length c22, .slice p32 (pgB p m).length c32]), (some b1, 26, [.slice p11 (pgC m k).length c11, .slice p21 (pgA p m k).length c21, .slice p31 (pgB p m).length c31])]) (fun _ => [])
        (fun i => i ≤ m) (fun i => m - i) 0 [] rfl rfl rfl (Nat.zero_le _) (by repeat (first | exact Fr.sub_nil _ | refine Fr.sub_cons rfl ?_)) rfl rfl ?_
      intro i hi ih
      simp only [List.cons_append, List.nil_append] at hi ih ⊢
      by_cases hil : i < m
      · have hz : (pgA p m k)[i]? = some ((pgA p m k).getD i default) := getD_at (by rw [lA]; exact hil)
        refine j_nf [.o [1, 1, 1, 1, 1, 1, 1, 0, 1, 0, 0, 0, 0] 0, .c [1, 1, 1, 1, 1, 1, 1, 0, 1, 0, 0, 0, 1], .c [1, 1, 1, 1, 1, 1, 1, 0, 1, 0, 0, 1], .lp [1, 1, 1, 1, 1, 1, 1, 0, 1, 0, 0], .blk 0, .c [1, 1, 1, 1, 1, 1, 1, 1]] rfl ?_
        refine j_run it 1 rfl (by simp) ?_
        refine j_step rfl (x_field rfl fd26_1 ?_)
        refine j_step rfl (x_bld 0 rfl rfl ld24 rfl ?_)
        refine j_step rfl (x_len sl24 rfl ?_)
        refine j_run it 1 rfl (by simp) ?_
        refine j_nf [.c [1, 1, 1, 1, 1, 1, 1, 0, 1, 0, 0, 0, 1], .c [1, 1, 1, 1, 1, 1, 1, 0, 1, 0, 0, 1], .lp [1, 1, 1, 1, 1, 1, 1, 0, 1, 0, 0], .blk 0, .c [1, 1, 1, 1, 1, 1, 1, 1]] rfl ?_
        refine j_if rfl rfl (fun h11 => ?_) (fun h11 => by exfalso; omega)
        refine j_nf [.c [1, 1, 1, 1, 1, 1, 1, 0, 1, 0, 0, 1, 0, 0, 0], .c [1, 1, 1, 1, 1, 1, 1, 0, 1, 0, 0, 1, 0, 0, 1], .blk 1, .c [1, 1, 1, 1, 1, 1, 1, 0, 1, 0, 0, 1, 1], .lp [1, 1, 1, 1, 1, 1, 1, 0, 1, 0, 0], .blk 0, .c [1, 1, 1, 1, 1, 1, 1, 1]] rfl ?_
        (apply j_drawK it mx 12; (· rfl); (· rfl))
        (apply lxk_eq; (· rfl); (· exact d_x fun _ => x_field rfl fd26_1 dk_eq))
        (apply lxk_eq; (· rfl); (· exact d_bld 1 rfl rfl ld24 rfl))
        (apply lxk_run 1; (· rfl); (· simp))
        (apply lxk_pt; (· rfl); (· exact d_x fun _ => x_idx 4 (i) rfl rfl rfl sl24 rfl (by omega) fun z1 hz1 b3 o1 => (dk_ptD default hz1 0 rfl)); intro b3 o1)
        (apply lxk_sl; (· rfl); (· exact d_x fun _ => x_ld_sl 0 rfl rfl ld23 fun pa1 ca1 => (dk_sl 0 rfl)); intro pa1 ca1)
        (apply lxk_eq; (· rfl); (· exact d_x fun _ => x_field rfl fd26_1 dk_eq))
        (apply lxk_eq; (· rfl); (· exact d_bld 0 rfl rfl ld24 rfl))
        (apply lxk_run 1; (· rfl); (· simp))
        (apply lxk_pt; (· rfl); (· exact d_x fun _ => x_idx 1 (i) rfl rfl rfl sl24 rfl (by omega) fun z1 hz1 b4 o2 => (dk_ptD default hz1 0 rfl)); intro b4 o2)
        (apply lxk_sl; (· rfl); (· exact d_x fun _ => x_ld_sl 0 rfl rfl ld23 fun pa2 ca2 => (dk_sl 0 rfl)); intro pa2 ca2)
        (apply lxk_eq; (· rfl); (· exact d_x fun _ => x_call [2, 0] rfl (S_codewrightref02_SameList) rfl (by rintro _ _ _ ⟨rfl, rfl, rfl⟩; exact dk_eq)))
        simp only [vq_rt']
        (apply lxk_run 1; (· rfl); (· simp))
        refine lxk_end rfl ?_
        simp only [List.map_cons, List.map_nil, List.cons_append, List.nil_append]
        refine j_nf [.c [1, 1, 1, 1, 1, 1, 1, 0, 1, 0, 0, 1, 0, 0, 1], .blk 1, .c [1, 1, 1, 1, 1, 1, 1, 0, 1, 0, 0, 1, 1], .lp [1, 1, 1, 1, 1, 1, 1, 0, 1, 0, 0], .blk 0, .c [1, 1, 1, 1, 1, 1, 1, 1]] rfl ?_
        refine j_ifn rfl rfl (fun h12 => ?_) (fun h12 => ?_)
        · exact absurd trivial (by assumption)
        · refine j_nf [.o [1, 1, 1, 1, 1, 1, 1, 0, 1, 0, 0, 1, 1] 0, .lp [1, 1, 1, 1, 1, 1, 1, 0, 1, 0, 0], .blk 0, .c [1, 1, 1, 1, 1, 1, 1, 1]] rfl ?_
          refine j_run it 3 rfl (by repeat' first | exact trivial | apply And.intro | omega) ?_
          refine j_nfn 1 [.lp [1, 1, 1, 1, 1, 1, 1, 0, 1, 0, 0], .blk 0, .c [1, 1, 1, 1, 1, 1, 1, 1]] rfl ?_
          refine j_to [4, 5, 6, 7, 8, 9] (by repeat (first | exact Fr.sub_nil _ | refine Fr.sub_cons rfl ?_ | refine Fr.sub_consI rfl (by first | omega | (dsimp only; omega)) ?_ | refine Fr.sub_consS rfl (by first | omega | (dsimp only; omega)) (by first | omega | (dsimp only; omega)) ?_)) rfl rfl (ih (i + 1) (by omega) (by omega))
      · obtain rfl : m = i := by omega
        refine j_nf [.o [1, 1, 1, 1, 1, 1, 1, 0, 1, 0, 0, 0, 0] 0, .c [1, 1, 1, 1, 1, 1, 1, 0, 1, 0, 0, 0, 1], .c [1, 1, 1, 1, 1, 1, 1, 0, 1, 0, 0, 1], .lp [1, 1, 1, 1, 1, 1, 1, 0, 1, 0, 0], .blk 0, .c [1, 1, 1, 1, 1, 1, 1, 1]] rfl ?_
        refine j_run it 1 rfl (by simp) ?_
        refine j_step rfl (x_field rfl fd26_1 ?_)
        refine j_step rfl (x_bld 0 rfl rfl ld24 rfl ?_)
        refine j_step rfl (x_len sl24 rfl ?_)
        refine j_run it 1 rfl (by simp) ?_
        refine j_nf [.c [1, 1, 1, 1, 1, 1, 1, 0, 1, 0, 0, 0, 1], .c [1, 1, 1, 1, 1, 1, 1, 0, 1, 0, 0, 1], .lp [1, 1, 1, 1, 1, 1, 1, 0, 1, 0, 0], .blk 0, .c [1, 1, 1, 1, 1, 1, 1, 1]] rfl ?_
        refine j_if rfl rfl (fun h11 => by exfalso; omega) (fun h11 => ?_)
        refine j_nf [.o [1, 1, 1, 1, 1, 1, 1, 1, 0] 0, .c [1, 1, 1, 1, 1, 1, 1, 1, 1]] rfl ?_
        refine j_run it 1 rfl (by simp) ?_
        refine j_nf [.c [1, 1, 1, 1, 1, 1, 1, 1, 1]] rfl ?_
        refine j_giv [] rfl rfl rfl ⟨rfl, rfl, rfl⟩
  · have hr' : decide (rangeP q n d) = false := decide_eq_false hr
    have he := S_delsarte_Program_err hr
    by_cases h14 : 14 < n
    · refine j_nf [.o [0] 0, .c [1]] rfl ?_
      refine j_run it 1 rfl (by simp) ?_
      refine j_nf [.o [1, 0, 0] 0, .c [1, 0, 1], .c [1, 1]] rfl ?_
      refine j_run it 3 rfl (by simp) ?_
      refine j_split_dec (t := 13) rfl (fun h1 => ?_) (fun h1 => by exfalso; omega)
      refine j_run it 3 rfl (by simp) ?_
      refine j_gstep rfl rfl (x_call [] rfl (S_codewrightref34_Range (by first | omega | exact side _ (by assumption) | assumption | rfl | (simp; done) | (simp; omega))) rfl ?_)
      rintro _ _ _ ⟨rfl, rfl, rfl⟩
      simp only [List.cons_append, List.nil_append]
      refine j_run it 1 rfl (by simp) ?_
      refine j_nf [.c [1, 0, 1], .c [1, 1]] rfl ?_
      refine j_false rfl rfl ?_
      refine j_nf [.o [1, 1, 0] 0, .c [1, 1, 1]] rfl ?_
      refine j_run it 3 rfl (by simp) ?_
      refine j_step rfl (x_call [] rfl (S_delsarte_Program_err hr) rfl ?_)
      rintro _ _ _ ⟨p1, c1, p2, c2, p3, c3, rfl, rfl, rfl⟩
      simp only [List.length_nil, Int.natCast_zero, List.cons_append, List.nil_append]
      refine j_run it 3 rfl (by simp) ?_
      refine j_step rfl (x_alloc zo26 fun b1 => ?_)
      refine j_step rfl (x_bst_all 0 rfl rfl rfl ld26 rfl rfl (by simp [Value.oneCell']) ?_)
      refine j_run it 1 rfl (by simp) ?_
      refine j_nf [.o [1, 1, 1, 0, 0] 0, .c [1, 1, 1, 0, 1], .c [1, 1, 1, 1]] rfl ?_
      refine j_run it 3 rfl (by simp) ?_
      refine j_step rfl (x_call [] rfl (S_codewrightref34_Range (by first | omega | exact side _ (by assumption) | assumption | rfl | (simp; done) | (simp; omega))) rfl ?_)
      rintro _ _ _ ⟨rfl, rfl, rfl⟩
      simp only [List.cons_append, List.nil_append]
      refine j_run it 1 rfl (by simp) ?_
      refine j_nf [.c [1, 1, 1, 0, 1], .c [1, 1, 1, 1]] rfl ?_
      refine j_true rfl rfl ?_
      refine j_nf [.o [1, 1, 1, 0, 1, 0, 0] 0, .c [1, 1, 1, 0, 1, 0, 1], .c [1, 1, 1, 1]] rfl ?_
      refine j_run it 3 rfl (by simp) ?_
      refine j_split_dec (t := 33) rfl (fun h2 => ?_) (fun h2 => by exfalso; omega)
      refine j_gstep rfl rfl (x_field rfl fd26_0 ?_)
      refine j_gstep rfl rfl (x_bld 0 rfl rfl ld23 rfl ?_)
      refine j_gstep rfl rfl (x_len sl23 rfl ?_)
      refine j_gstep rfl rfl (x_field rfl fd26_1 ?_)
      refine j_gstep rfl rfl (x_bld 0 rfl rfl ld24 rfl ?_)
      refine j_gstep rfl rfl (x_len sl24 rfl ?_)
      refine j_run it 1 rfl (by repeat' first | exact trivial | apply And.intro | omega) ?_
      refine j_gstep rfl rfl (x_field rfl fd26_2 ?_)
      refine j_gstep rfl rfl (x_bld 0 rfl rfl ld23 rfl ?_)
      refine j_gstep rfl rfl (x_len sl23 rfl ?_)
      refine j_run it 4 rfl (by repeat' first | exact trivial | apply And.intro | omega) ?_
      refine j_nf [.c [1, 1, 1, 0, 1, 0, 1], .c [1, 1, 1, 1]] rfl ?_
      refine j_giv [] rfl rfl rfl ⟨rfl, rfl, rfl⟩
    · refine j_nf [.o [0] 0, .c [1]] rfl ?_
      refine j_run it 1 rfl (by simp) ?_
      refine j_nf [.o [1, 0, 0] 0, .c [1, 0, 1], .c [1, 1]] rfl ?_
      refine j_run it 3 rfl (by simp) ?_
      refine j_split_dec (t := 13) rfl (fun h1 => by exfalso; omega) (fun h1 => ?_)
      refine j_run it 5 rfl (by simp) ?_
      refine j_nf [.c [1, 0, 1], .c [1, 1]] rfl ?_
      refine j_false rfl rfl ?_
      refine j_nf [.o [1, 1, 0] 0, .c [1, 1, 1]] rfl ?_
      refine j_run it 3 rfl (by simp) ?_
      refine j_step rfl (x_call [] rfl (S_delsarte_Program_err hr) rfl ?_)
      rintro _ _ _ ⟨p1, c1, p2, c2, p3, c3, rfl, rfl, rfl⟩
      simp only [List.length_nil, Int.natCast_zero, List.cons_append, List.nil_append]
      refine j_run it 3 rfl (by simp) ?_
      refine j_step rfl (x_alloc zo26 fun b1 => ?_)
      refine j_step rfl (x_bst_all 0 rfl rfl rfl ld26 rfl rfl (by simp [Value.oneCell']) ?_)
      refine j_run it 1 rfl (by simp) ?_
      refine j_nf [.o [1, 1, 1, 0, 0] 0, .c [1, 1, 1, 0, 1], .c [1, 1, 1, 1]] rfl ?_
      refine j_run it 3 rfl (by simp) ?_
      refine j_step rfl (x_call [] rfl (S_codewrightref34_Range (by first | omega | exact side _ (by assumption) | assumption | rfl | (simp; done) | (simp; omega))) rfl ?_)
      rintro _ _ _ ⟨rfl, rfl, rfl⟩
      simp only [List.cons_append, List.nil_append]
      refine j_run it 1 rfl (by simp) ?_
      refine j_nf [.c [1, 1, 1, 0, 1], .c [1, 1, 1, 1]] rfl ?_
      refine j_true rfl rfl ?_
      refine j_nf [.o [1, 1, 1, 0, 1, 0, 0] 0, .c [1, 1, 1, 0, 1, 0, 1], .c [1, 1, 1, 1]] rfl ?_
      refine j_run it 3 rfl (by simp) ?_
      refine j_split_dec (t := 33) rfl (fun h2 => ?_) (fun h2 => by exfalso; omega)
      refine j_gstep rfl rfl (x_field rfl fd26_0 ?_)
      refine j_gstep rfl rfl (x_bld 0 rfl rfl ld23 rfl ?_)
      refine j_gstep rfl rfl (x_len sl23 rfl ?_)
      refine j_gstep rfl rfl (x_field rfl fd26_1 ?_)
      refine j_gstep rfl rfl (x_bld 0 rfl rfl ld24 rfl ?_)
      refine j_gstep rfl rfl (x_len sl24 rfl ?_)
      refine j_run it 1 rfl (by repeat' first | exact trivial | apply And.intro | omega) ?_
      refine j_gstep rfl rfl (x_field rfl fd26_2 ?_)
      refine j_gstep rfl rfl (x_bld 0 rfl rfl ld23 rfl ?_)
      refine j_gstep rfl rfl (x_len sl23 rfl ?_)
      refine j_run it 4 rfl (by repeat' first | exact trivial | apply And.intro | omega) ?_
      refine j_nf [.c [1, 1, 1, 0, 1, 0, 1], .c [1, 1, 1, 1]] rfl ?_
      refine j_giv [] rfl rfl rfl ⟨rfl, rfl, rfl⟩

theorem op3 : Opens Try.prog 3 (encInt .i64 8) := opens_int rfl rfl rfl

theorem delsartePrograms_says : LawSays Try.prog 3 Try.f3 := by
  intro W args h
  have h : Args Try.prog W [3, 3, 3] args := h
  match args, h with
  | [v0, v1, v2], ⟨h0, h1, h2, _⟩ =>
    obtain ⟨q0, rfl, _⟩ := h0.int Try.underlying3
    obtain ⟨q1, rfl, _⟩ := h1.int Try.underlying3
    obtain ⟨q2, rfl, _⟩ := h2.int Try.underlying3
    exact law_of_gives S_DelsartePrograms (fun v Φ β h => h.1) (fun g hg => by cases hg)


/-! ### The row -/

theorem delsartePrograms_lifted (os : Os) (started : os.Started) (H : Type) (enc : TypeId × Value → H) :
    ReturnsInHanded {} Try.checked os 3 .any (Rows.delsarteProgramsSpec.pre6 enc Try.prog Try.f3 Rows.delsarteProgramsRow.domain false) (Rows.delsarteProgramsSpec.post enc Try.prog Try.f3 false true false false) :=
  law_lift (C := Try.checked) (by kernel_rfl) started (by kernel_rfl) Try.func3
    (ChangeSpec.witness6 (enc := enc) (C := Try.checked) false ⟨#[], #[.int .i64 0, .int .i64 0, .int .i64 0], []⟩ 8 (by kernel_rfl) (by kernel_rfl) (by kernel_rfl) (by kernel_rfl))
    (by kernel_rfl) rfl (by kernel_rfl) rfl Try.underlying4 (fun ds h => match ds, h with | [d0, d1, d2], _ => rfl) delsartePrograms_says

theorem delsartePrograms_holds : Rows.DelsarteProgramsSaid :=
  OpenClaim.holds_of_wide 3 Try.f3 rfl rfl rfl rfl rfl rfl rfl ⟨rfl, rfl, rfl, rfl, rfl⟩ rfl rfl rfl rfl rfl (by kernel_rfl) Try.func3 (by kernel_rfl)
    (of_decide_eq_true (by kernel_rfl)) (by unfold Func.isWrapper; first | (rw [if_pos (by decide +kernel)]; kernel_rfl) | (rw [if_neg (by decide +kernel)]; exact ⟨rfl, rfl⟩))
    (fun os started H enc _ => delsartePrograms_lifted os started H enc)
#print axioms delsartePrograms_holds
end Go.Proofs.Ythahejfpdhcpiaa
