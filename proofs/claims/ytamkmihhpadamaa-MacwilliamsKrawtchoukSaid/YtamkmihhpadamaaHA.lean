/-
MacwilliamsKrawtchouk returns true: Krawtchouk of the program gives the specified value, or ErrRange.
-/
import Derived.Test.YtamkmihhpadamaaRows
import Derived.ProofKit
import Derived.JoinedOf
import Derived.Test.YtamkmihhpadamaaHA5
namespace Go.Proofs.Ytamkmihhpadamaa
open Go Go.Fw
set_option maxRecDepth 100000
set_option linter.unusedVariables false
set_option maxHeartbeats 4000000
theorem S_MacwilliamsKrawtchouk {q n k x : Int} :
    Ctr Try.prog 3 [.int .i64 q, .int .i64 n, .int .i64 k, .int .i64 x] [] [] (Rv (.bool true) []) := by
  refine Ctr_of_j' (F := F_codewrightlaw24_MacwilliamsKrawtchouk) rfl fun C => ?_
  by_cases hr : q < 2 ∨ 256 < q ∨ n < 0 ∨ 64 < n ∨ k < 0 ∨ n < k ∨ x < 0 ∨ n < x
  · refine j_nf [.o [0] 0, .c [1]] rfl ?_
    refine j_run it 1 rfl (by simp) ?_
    refine j_nf [.o [1, 0] 0, .c [1, 1]] rfl ?_
    refine j_run it 4 rfl (by simp) ?_
    refine j_step rfl (x_call [] rfl (S_macwilliams_Krawtchouk_err hr) rfl ?_)
    rintro _ _ _ ⟨pn1, cn1, pd1, cd1, rfl, rfl, rfl⟩
    simp only [List.cons_append, List.nil_append, List.length_nil]
    by_cases ho : q < 2 ∨ 256 < q
    · have hO : orderOf q = 6 := if_pos ho
      refine j_run it 3 rfl (by simp) ?_
      refine j_step rfl (x_alloc zo25 fun b1 => ?_)
      refine j_step rfl (x_bst_all 0 rfl rfl rfl ld25 rfl rfl (by simp [Value.oneCell']) ?_)
      refine j_run it 1 rfl (by simp) ?_
      refine j_nf [.o [1, 1, 0, 0] 0, .c [1, 1, 0, 1], .c [1, 1, 1]] rfl ?_
      refine j_run it 1 rfl (by simp) ?_
      refine j_step rfl (x_call [] rfl (S_codewrightref24_Order) rfl ?_)
      rintro _ _ _ ⟨rfl, rfl, rfl⟩
      simp only [List.cons_append, List.nil_append]
      refine j_run it 2 rfl (by simp) ?_
      refine j_split_ndec (t := 22) rfl (fun h1 => ?_) (fun h1 => by exfalso; omega)
      refine j_run it 25 rfl (by simp) ?_
      refine j_nf [.c [1, 1, 0, 1], .c [1, 1, 1]] rfl ?_
      refine j_true rfl rfl ?_
      refine j_nf [.o [1, 1, 0, 1, 0, 0] 0, .c [1, 1, 0, 1, 0, 1], .c [1, 1, 1]] rfl ?_
      refine j_run it 3 rfl (by simp) ?_
      refine j_split_dec (t := 50) rfl (fun h2 => ?_) (fun h2 => by exfalso; omega)
      refine j_gstep rfl rfl (x_bld_all 0 rfl rfl ld25 rfl ?_)
      refine j_gstep rfl rfl (x_call [] rfl (S_codewrightref02_Nil) rfl ?_)
      rintro _ _ _ ⟨rfl, rfl, rfl⟩
      simp only [List.cons_append, List.nil_append]
      simp only [decide_true]
      refine j_run it 2 rfl (by simp) ?_
      refine j_nf [.c [1, 1, 0, 1, 0, 1], .c [1, 1, 1]] rfl ?_
      refine j_giv [] rfl rfl rfl ⟨rfl, rfl, rfl⟩
    have hO : orderOf q = 0 := if_neg ho
    by_cases hc : n < 0
    · refine j_run it 3 rfl (by simp) ?_
      refine j_step rfl (x_alloc zo25 fun b1 => ?_)
      refine j_step rfl (x_bst_all 0 rfl rfl rfl ld25 rfl rfl (by simp [Value.oneCell']) ?_)
      refine j_run it 1 rfl (by simp) ?_
      refine j_nf [.o [1, 1, 0, 0] 0, .c [1, 1, 0, 1], .c [1, 1, 1]] rfl ?_
      refine j_run it 1 rfl (by simp) ?_
      refine j_step rfl (x_call [] rfl (S_codewrightref24_Order) rfl ?_)
      rintro _ _ _ ⟨rfl, rfl, rfl⟩
      simp only [List.cons_append, List.nil_append]
      refine j_run it 2 rfl (by simp) ?_
      refine j_split_ndec (t := 22) rfl (fun h1 => by exfalso; omega) (fun h1 => ?_)
      refine j_run it 4 rfl (by simp) ?_
      refine j_split_dec (t := 26) rfl (fun h2 => ?_) (fun h2 => by exfalso; omega)
      refine j_run it 21 rfl (by simp) ?_
      refine j_nf [.c [1, 1, 0, 1], .c [1, 1, 1]] rfl ?_
      refine j_true rfl rfl ?_
      refine j_nf [.o [1, 1, 0, 1, 0, 0] 0, .c [1, 1, 0, 1, 0, 1], .c [1, 1, 1]] rfl ?_
      refine j_run it 3 rfl (by simp) ?_
      refine j_split_dec (t := 50) rfl (fun h3 => ?_) (fun h3 => by exfalso; omega)
      refine j_gstep rfl rfl (x_bld_all 0 rfl rfl ld25 rfl ?_)
      refine j_gstep rfl rfl (x_call [] rfl (S_codewrightref02_Nil) rfl ?_)
      rintro _ _ _ ⟨rfl, rfl, rfl⟩
      simp only [List.cons_append, List.nil_append]
      simp only [decide_true]
      refine j_run it 2 rfl (by simp) ?_
      refine j_nf [.c [1, 1, 0, 1, 0, 1], .c [1, 1, 1]] rfl ?_
      refine j_giv [] rfl rfl rfl ⟨rfl, rfl, rfl⟩
    by_cases hc : 64 < n
    · refine j_run it 3 rfl (by simp) ?_
      refine j_step rfl (x_alloc zo25 fun b1 => ?_)
      refine j_step rfl (x_bst_all 0 rfl rfl rfl ld25 rfl rfl (by simp [Value.oneCell']) ?_)
      refine j_run it 1 rfl (by simp) ?_
      refine j_nf [.o [1, 1, 0, 0] 0, .c [1, 1, 0, 1], .c [1, 1, 1]] rfl ?_
      refine j_run it 1 rfl (by simp) ?_
      refine j_step rfl (x_call [] rfl (S_codewrightref24_Order) rfl ?_)
      rintro _ _ _ ⟨rfl, rfl, rfl⟩
      simp only [List.cons_append, List.nil_append]
      refine j_run it 2 rfl (by simp) ?_
      refine j_split_ndec (t := 22) rfl (fun h1 => by exfalso; omega) (fun h1 => ?_)
      refine j_run it 4 rfl (by simp) ?_
      refine j_split_dec (t := 26) rfl (fun h2 => by exfalso; omega) (fun h2 => ?_)
      refine j_run it 4 rfl (by simp) ?_
      refine j_split_dec (t := 30) rfl (fun h3 => ?_) (fun h3 => by exfalso; omega)
      refine j_run it 17 rfl (by simp) ?_
      refine j_nf [.c [1, 1, 0, 1], .c [1, 1, 1]] rfl ?_
      refine j_true rfl rfl ?_
      refine j_nf [.o [1, 1, 0, 1, 0, 0] 0, .c [1, 1, 0, 1, 0, 1], .c [1, 1, 1]] rfl ?_
      refine j_run it 3 rfl (by simp) ?_
      refine j_split_dec (t := 50) rfl (fun h4 => ?_) (fun h4 => by exfalso; omega)
      refine j_gstep rfl rfl (x_bld_all 0 rfl rfl ld25 rfl ?_)
      refine j_gstep rfl rfl (x_call [] rfl (S_codewrightref02_Nil) rfl ?_)
      rintro _ _ _ ⟨rfl, rfl, rfl⟩
      simp only [List.cons_append, List.nil_append]
      simp only [decide_true]
      refine j_run it 2 rfl (by simp) ?_
      refine j_nf [.c [1, 1, 0, 1, 0, 1], .c [1, 1, 1]] rfl ?_
      refine j_giv [] rfl rfl rfl ⟨rfl, rfl, rfl⟩
    by_cases hc : k < 0
    · refine j_run it 3 rfl (by simp) ?_
      refine j_step rfl (x_alloc zo25 fun b1 => ?_)
      refine j_step rfl (x_bst_all 0 rfl rfl rfl ld25 rfl rfl (by simp [Value.oneCell']) ?_)
      refine j_run it 1 rfl (by simp) ?_
      refine j_nf [.o [1, 1, 0, 0] 0, .c [1, 1, 0, 1], .c [1, 1, 1]] rfl ?_
      refine j_run it 1 rfl (by simp) ?_
      refine j_step rfl (x_call [] rfl (S_codewrightref24_Order) rfl ?_)
      rintro _ _ _ ⟨rfl, rfl, rfl⟩
      simp only [List.cons_append, List.nil_append]
      refine j_run it 2 rfl (by simp) ?_
      refine j_split_ndec (t := 22) rfl (fun h1 => by exfalso; omega) (fun h1 => ?_)
      refine j_run it 4 rfl (by simp) ?_
      refine j_split_dec (t := 26) rfl (fun h2 => by exfalso; omega) (fun h2 => ?_)
      refine j_run it 4 rfl (by simp) ?_
      refine j_split_dec (t := 30) rfl (fun h3 => by exfalso; omega) (fun h3 => ?_)
      refine j_run it 4 rfl (by simp) ?_
      refine j_split_dec (t := 34) rfl (fun h4 => ?_) (fun h4 => by exfalso; omega)
      refine j_run it 13 rfl (by simp) ?_
      refine j_nf [.c [1, 1, 0, 1], .c [1, 1, 1]] rfl ?_
      refine j_true rfl rfl ?_
      refine j_nf [.o [1, 1, 0, 1, 0, 0] 0, .c [1, 1, 0, 1, 0, 1], .c [1, 1, 1]] rfl ?_
      refine j_run it 3 rfl (by simp) ?_
      refine j_split_dec (t := 50) rfl (fun h5 => ?_) (fun h5 => by exfalso; omega)
      refine j_gstep rfl rfl (x_bld_all 0 rfl rfl ld25 rfl ?_)
      refine j_gstep rfl rfl (x_call [] rfl (S_codewrightref02_Nil) rfl ?_)
      rintro _ _ _ ⟨rfl, rfl, rfl⟩
      simp only [List.cons_append, List.nil_append]
      simp only [decide_true]
      refine j_run it 2 rfl (by simp) ?_
      refine j_nf [.c [1, 1, 0, 1, 0, 1], .c [1, 1, 1]] rfl ?_
      refine j_giv [] rfl rfl rfl ⟨rfl, rfl, rfl⟩
    by_cases hc : n < k
    · refine j_run it 3 rfl (by simp) ?_
      refine j_step rfl (x_alloc zo25 fun b1 => ?_)
      refine j_step rfl (x_bst_all 0 rfl rfl rfl ld25 rfl rfl (by simp [Value.oneCell']) ?_)
      refine j_run it 1 rfl (by simp) ?_
      refine j_nf [.o [1, 1, 0, 0] 0, .c [1, 1, 0, 1], .c [1, 1, 1]] rfl ?_
      refine j_run it 1 rfl (by simp) ?_
      refine j_step rfl (x_call [] rfl (S_codewrightref24_Order) rfl ?_)
      rintro _ _ _ ⟨rfl, rfl, rfl⟩
      simp only [List.cons_append, List.nil_append]
      refine j_run it 2 rfl (by simp) ?_
      refine j_split_ndec (t := 22) rfl (fun h1 => by exfalso; omega) (fun h1 => ?_)
      refine j_run it 4 rfl (by simp) ?_
      refine j_split_dec (t := 26) rfl (fun h2 => by exfalso; omega) (fun h2 => ?_)
      refine j_run it 4 rfl (by simp) ?_
      refine j_split_dec (t := 30) rfl (fun h3 => by exfalso; omega) (fun h3 => ?_)
      refine j_run it 4 rfl (by simp) ?_
      refine j_split_dec (t := 34) rfl (fun h4 => by exfalso; omega) (fun h4 => ?_)
      refine j_run it 5 rfl (by simp) ?_
      refine j_split_dec (t := 39) rfl (fun h5 => ?_) (fun h5 => by exfalso; omega)
      refine j_run it 8 rfl (by simp) ?_
      refine j_nf [.c [1, 1, 0, 1], .c [1, 1, 1]] rfl ?_
      refine j_true rfl rfl ?_
      refine j_nf [.o [1, 1, 0, 1, 0, 0] 0, .c [1, 1, 0, 1, 0, 1], .c [1, 1, 1]] rfl ?_
      refine j_run it 3 rfl (by simp) ?_
      refine j_split_dec (t := 50) rfl (fun h6 => ?_) (fun h6 => by exfalso; omega)
      refine j_gstep rfl rfl (x_bld_all 0 rfl rfl ld25 rfl ?_)
      refine j_gstep rfl rfl (x_call [] rfl (S_codewrightref02_Nil) rfl ?_)
      rintro _ _ _ ⟨rfl, rfl, rfl⟩
      simp only [List.cons_append, List.nil_append]
      simp only [decide_true]
      refine j_run it 2 rfl (by simp) ?_
      refine j_nf [.c [1, 1, 0, 1, 0, 1], .c [1, 1, 1]] rfl ?_
      refine j_giv [] rfl rfl rfl ⟨rfl, rfl, rfl⟩
    by_cases hc : x < 0
    · refine j_run it 3 rfl (by simp) ?_
      refine j_step rfl (x_alloc zo25 fun b1 => ?_)
      refine j_step rfl (x_bst_all 0 rfl rfl rfl ld25 rfl rfl (by simp [Value.oneCell']) ?_)
      refine j_run it 1 rfl (by simp) ?_
      refine j_nf [.o [1, 1, 0, 0] 0, .c [1, 1, 0, 1], .c [1, 1, 1]] rfl ?_
      refine j_run it 1 rfl (by simp) ?_
      refine j_step rfl (x_call [] rfl (S_codewrightref24_Order) rfl ?_)
      rintro _ _ _ ⟨rfl, rfl, rfl⟩
      simp only [List.cons_append, List.nil_append]
      refine j_run it 2 rfl (by simp) ?_
      refine j_split_ndec (t := 22) rfl (fun h1 => by exfalso; omega) (fun h1 => ?_)
      refine j_run it 4 rfl (by simp) ?_
      refine j_split_dec (t := 26) rfl (fun h2 => by exfalso; omega) (fun h2 => ?_)
      refine j_run it 4 rfl (by simp) ?_
      refine j_split_dec (t := 30) rfl (fun h3 => by exfalso; omega) (fun h3 => ?_)
      refine j_run it 4 rfl (by simp) ?_
      refine j_split_dec (t := 34) rfl (fun h4 => by exfalso; omega) (fun h4 => ?_)
      refine j_run it 5 rfl (by simp) ?_
      refine j_split_dec (t := 39) rfl (fun h5 => by exfalso; omega) (fun h5 => ?_)
      refine j_run it 4 rfl (by simp) ?_
      refine j_split_dec (t := 43) rfl (fun h6 => ?_) (fun h6 => by exfalso; omega)
      refine j_run it 4 rfl (by simp) ?_
      refine j_nf [.c [1, 1, 0, 1], .c [1, 1, 1]] rfl ?_
      refine j_true rfl rfl ?_
      refine j_nf [.o [1, 1, 0, 1, 0, 0] 0, .c [1, 1, 0, 1, 0, 1], .c [1, 1, 1]] rfl ?_
      refine j_run it 3 rfl (by simp) ?_
      refine j_split_dec (t := 50) rfl (fun h7 => ?_) (fun h7 => by exfalso; omega)
      refine j_gstep rfl rfl (x_bld_all 0 rfl rfl ld25 rfl ?_)
      refine j_gstep rfl rfl (x_call [] rfl (S_codewrightref02_Nil) rfl ?_)
      rintro _ _ _ ⟨rfl, rfl, rfl⟩
      simp only [List.cons_append, List.nil_append]
      simp only [decide_true]
      refine j_run it 2 rfl (by simp) ?_
      refine j_nf [.c [1, 1, 0, 1, 0, 1], .c [1, 1, 1]] rfl ?_
      refine j_giv [] rfl rfl rfl ⟨rfl, rfl, rfl⟩
    · refine j_run it 3 rfl (by simp) ?_
      refine j_step rfl (x_alloc zo25 fun b1 => ?_)
      refine j_step rfl (x_bst_all 0 rfl rfl rfl ld25 rfl rfl (by simp [Value.oneCell']) ?_)
      refine j_run it 1 rfl (by simp) ?_
      refine j_nf [.o [1, 1, 0, 0] 0, .c [1, 1, 0, 1], .c [1, 1, 1]] rfl ?_
      refine j_run it 1 rfl (by simp) ?_
      refine j_step rfl (x_call [] rfl (S_codewrightref24_Order) rfl ?_)
      rintro _ _ _ ⟨rfl, rfl, rfl⟩
      simp only [List.cons_append, List.nil_append]
      refine j_run it 2 rfl (by simp) ?_
      refine j_split_ndec (t := 22) rfl (fun h1 => by exfalso; omega) (fun h1 => ?_)
      refine j_run it 4 rfl (by simp) ?_
      refine j_split_dec (t := 26) rfl (fun h2 => by exfalso; omega) (fun h2 => ?_)
      refine j_run it 4 rfl (by simp) ?_
      refine j_split_dec (t := 30) rfl (fun h3 => by exfalso; omega) (fun h3 => ?_)
      refine j_run it 4 rfl (by simp) ?_
      refine j_split_dec (t := 34) rfl (fun h4 => by exfalso; omega) (fun h4 => ?_)
      refine j_run it 5 rfl (by simp) ?_
      refine j_split_dec (t := 39) rfl (fun h5 => by exfalso; omega) (fun h5 => ?_)
      refine j_run it 4 rfl (by simp) ?_
      refine j_split_dec (t := 43) rfl (fun h6 => by exfalso; omega) (fun h6 => ?_)
      refine j_run it 4 rfl (by simp) ?_
      refine j_nf [.c [1, 1, 0, 1], .c [1, 1, 1]] rfl ?_
      refine j_if rfl rfl (fun h7 => ?_) (fun h7 => by exfalso; omega)
      refine j_nf [.o [1, 1, 0, 1, 0, 0] 0, .c [1, 1, 0, 1, 0, 1], .c [1, 1, 1]] rfl ?_
      refine j_run it 3 rfl (by simp) ?_
      refine j_split_dec (t := 50) rfl (fun h8 => ?_) (fun h8 => by exfalso; omega)
      refine j_gstep rfl rfl (x_bld_all 0 rfl rfl ld25 rfl ?_)
      refine j_gstep rfl rfl (x_call [] rfl (S_codewrightref02_Nil) rfl ?_)
      rintro _ _ _ ⟨rfl, rfl, rfl⟩
      simp only [List.cons_append, List.nil_append]
      simp only [decide_true]
      refine j_run it 2 rfl (by simp) ?_
      refine j_nf [.c [1, 1, 0, 1, 0, 1], .c [1, 1, 1]] rfl ?_
      refine j_giv [] rfl rfl rfl ⟨rfl, rfl, rfl⟩
  · obtain ⟨q, rfl⟩ : ∃ a : Nat, q = a := ⟨q.toNat, by omega⟩
    obtain ⟨n, rfl⟩ : ∃ a : Nat, n = a := ⟨n.toNat, by omega⟩
    obtain ⟨k, rfl⟩ : ∃ a : Nat, k = a := ⟨k.toNat, by omega⟩
    obtain ⟨x, rfl⟩ : ∃ a : Nat, x = a := ⟨x.toNat, by omega⟩
    have hO : orderOf q = 0 := if_neg (by omega)
    refine j_nf [.o [0] 0, .c [1]] rfl ?_
    refine j_run it 1 rfl (by simp) ?_
    refine j_nf [.o [1, 0] 0, .c [1, 1]] rfl ?_
    refine j_run it 4 rfl (by simp) ?_
    refine j_step rfl (x_call [] rfl (S_macwilliams_Krawtchouk (by first | omega | exact side _ (by assumption) | assumption | rfl | (simp; done) | (simp; omega)) (by first | omega | exact side _ (by assumption) | assumption | rfl | (simp; done) | (simp; omega)) (by first | omega | exact side _ (by assumption) | assumption | rfl | (simp; done) | (simp; omega)) (by first | omega | exact side _ (by assumption) | assumption | rfl | (simp; done) | (simp; omega)) (by first | omega | exact side _ (by assumption) | assumption | rfl | (simp; done) | (simp; omega))) rfl ?_)
    rintro _ _ _ ⟨pn1, cn1, pd1, cd1, rfl, rfl, rfl⟩
    simp only [List.cons_append, List.nil_append]
    refine j_run it 3 rfl (by simp) ?_
    refine j_step rfl (x_alloc zo25 fun b1 => ?_)
    refine j_step rfl (x_bst_all 0 rfl rfl rfl ld25 rfl rfl (by simp [Value.oneCell']) ?_)
    refine j_run it 1 rfl (by simp) ?_
    refine j_nf [.o [1, 1, 0, 0] 0, .c [1, 1, 0, 1], .c [1, 1, 1]] rfl ?_
    refine j_run it 1 rfl (by simp) ?_
    refine j_step rfl (x_call [] rfl (S_codewrightref24_Order) rfl ?_)
    rintro _ _ _ ⟨rfl, rfl, rfl⟩
    simp only [List.cons_append, List.nil_append]
    refine j_run it 2 rfl (by simp) ?_
    refine j_split_ndec (t := 22) rfl (fun h1 => by exfalso; omega) (fun h1 => ?_)
    refine j_run it 8 rfl (by simp) ?_
    refine j_split_dec (t := 30) rfl (fun h2 => by exfalso; omega) (fun h2 => ?_)
    refine j_run it 9 rfl (by simp) ?_
    refine j_split_dec (t := 39) rfl (fun h3 => by exfalso; omega) (fun h3 => ?_)
    refine j_run it 8 rfl (by simp) ?_
    refine j_nf [.c [1, 1, 0, 1], .c [1, 1, 1]] rfl ?_
    refine j_if rfl rfl (fun h4 => by exfalso; omega) (fun h4 => ?_)
    refine j_nf [.c [1, 1, 1, 0], .c [1, 1, 1, 1]] rfl ?_
    (apply j_drawK it mx 11; (· rfl); (· rfl))
    (apply lxk_run 1; (· rfl); (· simp))
    (apply lxk_eq; (· rfl); (· exact d_x fun _ => x_true it rfl (by trivial) (by omega) dk_eq))
    (apply lxk_run 1; (· rfl); (· simp))
    (apply lxk_eq; (· rfl); (· exact d_bld_all 0 rfl rfl ld25 rfl))
    (apply lxk_run 4; (· rfl); (· simp))
    (apply lxk_rq; (· rfl); (· exact d_x fun _ => x_call [] rfl (S_codewrightref24_Krawtchouk (by first | omega | exact side _ (by assumption) | assumption | rfl | (simp; done) | (simp; omega)) (by first | omega | exact side _ (by assumption) | assumption | rfl | (simp; done) | (simp; omega)) (by first | omega | exact side _ (by assumption) | assumption | rfl | (simp; done) | (simp; omega)) (by first | omega | exact side _ (by assumption) | assumption | rfl | (simp; done) | (simp; omega)) (by first | omega | exact side _ (by assumption) | assumption | rfl | (simp; done) | (simp; omega))) rfl (by rintro _ _ _ ⟨pn2, cn2, pd2, cd2, rfl, rfl, rfl⟩; exact (dk_rq 0 1 rfl rfl))); intro pn2 cn2 pd2 cd2)
    (apply lxk_eq; (· rfl); (· exact d_x fun _ => x_call [2, 3, 0, 1] rfl (S_codewrightref02_Same) rfl (by rintro _ _ _ ⟨rfl, rfl, rfl⟩; exact dk_eq)))
    (apply lxk_run 1; (· rfl); (· simp))
    refine lxk_end rfl ?_
    simp only [List.map_cons, List.map_nil, List.cons_append, List.nil_append]
    refine j_run it 1 rfl (by simp) ?_
    refine j_nf [.c [1, 1, 1, 1]] rfl ?_
    refine j_giv [] rfl rfl rfl ⟨rfl, rfl, rfl⟩

theorem op3 : Opens Try.prog 3 (encInt .i64 8) := opens_int rfl rfl rfl

theorem macwilliamsKrawtchouk_says : LawSays Try.prog 3 Try.f3 := by
  intro W args h
  have h : Args Try.prog W [3, 3, 3, 3] args := h
  match args, h with
  | [v0, v1, v2, v3], ⟨h0, h1, h2, h3, _⟩ =>
    obtain ⟨q, rfl, _⟩ := h0.int Try.underlying3
    obtain ⟨n, rfl, _⟩ := h1.int Try.underlying3
    obtain ⟨k, rfl, _⟩ := h2.int Try.underlying3
    obtain ⟨x, rfl, _⟩ := h3.int Try.underlying3
    refine law_of_gives S_MacwilliamsKrawtchouk (fun v Φ β h => h.1) ?_
    intro g hg
    cases hg


/-! ### The row -/

theorem macwilliamsKrawtchouk_lifted (os : Os) (started : os.Started) (H : Type) (enc : TypeId × Value → H) :
    ReturnsInHanded {} Try.checked os 3 .any (Rows.macwilliamsKrawtchoukSpec.pre6 enc Try.prog Try.f3 Rows.macwilliamsKrawtchoukRow.domain false) (Rows.macwilliamsKrawtchoukSpec.post enc Try.prog Try.f3 false true false false) :=
  law_lift (C := Try.checked) (by kernel_rfl) started (by kernel_rfl) Try.func3
    (ChangeSpec.witness6 (enc := enc) (C := Try.checked) false ⟨#[], #[.int .i64 0, .int .i64 0, .int .i64 0, .int .i64 0], []⟩ 8 (by kernel_rfl) (by kernel_rfl) (by kernel_rfl) (by kernel_rfl))
    (by kernel_rfl) rfl (by kernel_rfl) rfl Try.underlying4 (fun ds h => match ds, h with | [d0, d1, d2, d3], _ => rfl) macwilliamsKrawtchouk_says

theorem macwilliamsKrawtchouk_holds : Rows.MacwilliamsKrawtchoukSaid :=
  OpenClaim.holds_of_wide 3 Try.f3 rfl rfl rfl rfl rfl rfl rfl ⟨rfl, rfl, rfl, rfl, rfl⟩ rfl rfl rfl rfl rfl (by kernel_rfl) Try.func3 (by kernel_rfl)
    (of_decide_eq_true (by kernel_rfl)) (by unfold Func.isWrapper; first | (rw [if_pos (by decide +kernel)]; kernel_rfl) | (rw [if_neg (by decide +kernel)]; exact ⟨rfl, rfl⟩))
    (fun os started H enc _ => macwilliamsKrawtchouk_lifted os started H enc)
#print axioms macwilliamsKrawtchouk_holds
end Go.Proofs.Ytamkmihhpadamaa
