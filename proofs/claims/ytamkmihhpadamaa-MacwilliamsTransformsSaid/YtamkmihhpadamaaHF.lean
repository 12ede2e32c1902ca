/-
MacwilliamsTransforms returns true: Transform of the program gives the specified distribution, or the specified error.
-/
import Derived.Test.YtamkmihhpadamaaRows
import Derived.ProofKit
import Derived.JoinedOf
import Derived.Test.YtamkmihhpadamaaHF6
namespace Go.Proofs.Ytamkmihhpadamaa
open Go Go.Fw
set_option maxRecDepth 100000
set_option linter.unusedVariables false
set_option linter.unusedSimpArgs false
set_option maxHeartbeats 4000000
theorem okR_large {m : Nat} {L : List Rt} (h : largeB m L = false) (hr : ∀ r ∈ L, (∀ x ∈ r.2.1, x < 4294967296) ∧ (∀ x ∈ r.2.2, x < 4294967296)) : ∀ r ∈ L, okR m r := fun r hm => by
  have := List.any_eq_false.1 h r hm
  simp only [decide_eq_true_eq] at this
  exact ⟨(hr r hm).1, (hr r hm).2, by omega, by omega⟩

theorem S_MacwilliamsTransforms {q : Int} {pa : Option Addr} {n ca : Nat} {L : List Rt} : Ctr Try.prog 8 [.int .i64 q, .slice pa n ca] [] [slF RatE pa n ca L] (Rv (.bool true) []) := by
  refine Ctr_of_j' (F := F_codewrightlaw24_MacwilliamsTransforms) rfl fun C => ?_
  refine j_len 0 rfl fun hn hb _ => ?_
  have hb' : L.length * 56 ≤ 140737488355328 := hb
  refine rts_range 0 rfl fun hr => ?_
  refine j_nf [.o [0] 0, .c [1]] rfl ?_
  refine j_run it 1 rfl (by simp) ?_
  refine j_nf [.o [1, 0, 0] 0, .c [1, 0, 1], .c [1, 1]] rfl ?_
  refine j_run it 1 rfl (by simp) ?_
  refine j_step rfl (x_call [0] rfl (S_codewrightlaw24_large) rfl ?_)
  rintro _ _ _ ⟨rfl, rfl, rfl⟩
  simp only [List.cons_append, List.nil_append]
  refine j_nf [.c [1, 0, 1], .c [1, 1]] rfl ?_
  refine j_cond rfl rfl (fun h1 => ?_) (fun h1 => ?_)
  · refine j_nf [.o [1, 0, 1, 0, 0] 0, .c [1, 0, 1, 0, 1], .c [1, 1]] rfl ?_
    refine j_run it 1 rfl (by simp) ?_
    refine j_nf [.c [1, 0, 1, 0, 1], .c [1, 1]] rfl ?_
    refine j_giv [] rfl rfl rfl ⟨rfl, rfl, rfl⟩
  · have hlf : largeB 4 L = false := by assumption
    have hok := okR_large hlf hr
    by_cases hmid : 20 < n ∧ n ≤ 65
    · obtain ⟨m1, m2⟩ := hmid
      refine j_nf [.o [1, 1, 0, 0] 0, .c [1, 1, 0, 1], .c [1, 1, 1]] rfl ?_
      refine j_run it 1 rfl (by simp) ?_
      refine j_step rfl (x_len sl44 rfl ?_)
      refine j_run it 2 rfl (by simp) ?_
      refine j_split_dec (t := 12) rfl (fun h2 => ?_) (fun h2 => by exfalso; omega)
      refine j_run it 1 rfl (by simp) ?_
      refine j_gstep rfl rfl (x_len sl44 rfl ?_)
      refine j_run it 2 rfl (by simp) ?_
      refine j_nf [.c [1, 1, 0, 1], .c [1, 1, 1]] rfl ?_
      refine j_if rfl rfl (fun h3 => ?_) (fun h3 => by exfalso; omega)
      refine j_nf [.o [1, 1, 0, 1, 0, 0] 0, .c [1, 1, 0, 1, 0, 1], .c [1, 1, 1]] rfl ?_
      refine j_run it 1 rfl (by simp) ?_
      refine j_nf [.c [1, 1, 0, 1, 0, 1], .c [1, 1, 1]] rfl ?_
      refine j_giv [] rfl rfl rfl ⟨rfl, rfl, rfl⟩
    · by_cases hq : q < 2 ∨ 256 < q
      · have hO : orderOf q = 6 := if_pos hq
        have hw : wrongOf q n = 6 := by rw [wrongOf, if_pos hq]
        by_cases h20 : 20 < n
        · refine j_nf [.o [1, 1, 0, 0] 0, .c [1, 1, 0, 1], .c [1, 1, 1]] rfl ?_
          refine j_run it 1 rfl (by simp) ?_
          refine j_step rfl (x_len sl44 rfl ?_)
          refine j_run it 2 rfl (by simp) ?_
          refine j_split_dec (t := 12) rfl (fun h2 => ?_) (fun h2 => by exfalso; omega)
          refine j_run it 1 rfl (by simp) ?_
          refine j_gstep rfl rfl (x_len sl44 rfl ?_)
          refine j_run it 2 rfl (by simp) ?_
          refine j_nf [.c [1, 1, 0, 1], .c [1, 1, 1]] rfl ?_
          refine j_if rfl rfl (fun h3 => by exfalso; omega) (fun h3 => ?_)
          refine j_nf [.o [1, 1, 1, 0] 0, .c [1, 1, 1, 1]] rfl ?_
          refine j_run it 2 rfl (by simp) ?_
          refine j_step rfl (x_call [] rfl (S_macwilliams_Transform_err (L := L) (by rw [hw]; decide)) rfl ?_)
          rintro _ _ _ ⟨pa1, ca1, rfl, rfl, rfl⟩
          simp only [List.cons_append, List.nil_append, hw]
          refine j_run it 5 rfl (by simp) ?_
          refine j_nf [.o [1, 1, 1, 1, 0, 0] 0, .c [1, 1, 1, 1, 0, 1], .c [1, 1, 1, 1, 1]] rfl ?_
          refine j_run it 1 rfl (by simp) ?_
          refine j_step rfl (x_call [] rfl (S_codewrightref24_Order) rfl ?_)
          rintro _ _ _ ⟨rfl, rfl, rfl⟩
          simp only [List.cons_append, List.nil_append]
          refine j_run it 1 rfl (by simp) ?_
          refine j_nf [.c [1, 1, 1, 1, 0, 1], .c [1, 1, 1, 1, 1]] rfl ?_
          refine j_ifn rfl rfl (fun h4 => ?_) (fun h4 => by exfalso; omega)
          refine j_nf [.o [1, 1, 1, 1, 0, 1, 0, 0] 0, .c [1, 1, 1, 1, 0, 1, 0, 1], .c [1, 1, 1, 1, 1]] rfl ?_
          refine j_run it 4 rfl (by simp) ?_
          refine j_split_dec (t := 28) rfl (fun h5 => ?_) (fun h5 => by exfalso; omega)
          refine j_gstep rfl rfl (x_len sl44 rfl ?_)
          refine j_run it 3 rfl (by simp) ?_
          refine j_nf [.c [1, 1, 1, 1, 0, 1, 0, 1], .c [1, 1, 1, 1, 1]] rfl ?_
          refine j_giv [] rfl rfl rfl ⟨rfl, rfl, rfl⟩
        · refine j_nf [.o [1, 1, 0, 0] 0, .c [1, 1, 0, 1], .c [1, 1, 1]] rfl ?_
          refine j_run it 1 rfl (by simp) ?_
          refine j_step rfl (x_len sl44 rfl ?_)
          refine j_run it 2 rfl (by simp) ?_
          refine j_split_dec (t := 12) rfl (fun h2 => by exfalso; omega) (fun h2 => ?_)
          refine j_run it 4 rfl (by simp) ?_
          refine j_nf [.c [1, 1, 0, 1], .c [1, 1, 1]] rfl ?_
          refine j_false rfl rfl ?_
          refine j_nf [.o [1, 1, 1, 0] 0, .c [1, 1, 1, 1]] rfl ?_
          refine j_run it 2 rfl (by simp) ?_
          refine j_step rfl (x_call [] rfl (S_macwilliams_Transform_err (L := L) (by rw [hw]; decide)) rfl ?_)
          rintro _ _ _ ⟨pa1, ca1, rfl, rfl, rfl⟩
          simp only [List.cons_append, List.nil_append, hw]
          refine j_run it 5 rfl (by simp) ?_
          refine j_nf [.o [1, 1, 1, 1, 0, 0] 0, .c [1, 1, 1, 1, 0, 1], .c [1, 1, 1, 1, 1]] rfl ?_
          refine j_run it 1 rfl (by simp) ?_
          refine j_step rfl (x_call [] rfl (S_codewrightref24_Order) rfl ?_)
          rintro _ _ _ ⟨rfl, rfl, rfl⟩
          simp only [List.cons_append, List.nil_append]
          refine j_run it 1 rfl (by simp) ?_
          refine j_nf [.c [1, 1, 1, 1, 0, 1], .c [1, 1, 1, 1, 1]] rfl ?_
          refine j_ifn rfl rfl (fun h3 => ?_) (fun h3 => by exfalso; omega)
          refine j_nf [.o [1, 1, 1, 1, 0, 1, 0, 0] 0, .c [1, 1, 1, 1, 0, 1, 0, 1], .c [1, 1, 1, 1, 1]] rfl ?_
          refine j_run it 4 rfl (by simp) ?_
          refine j_split_dec (t := 28) rfl (fun h4 => ?_) (fun h4 => by exfalso; omega)
          refine j_gstep rfl rfl (x_len sl44 rfl ?_)
          refine j_run it 3 rfl (by simp) ?_
          refine j_nf [.c [1, 1, 1, 1, 0, 1, 0, 1], .c [1, 1, 1, 1, 1]] rfl ?_
          refine j_giv [] rfl rfl rfl ⟨rfl, rfl, rfl⟩
      · have hO : orderOf q = 0 := if_neg hq
        by_cases hs : n < 1 ∨ 65 < n
        · have hS : shapeOf n = 3 := if_pos hs
          have hw : wrongOf q n = 3 := by rw [wrongOf, if_neg hq, hS]
          by_cases h20 : 20 < n
          · refine j_nf [.o [1, 1, 0, 0] 0, .c [1, 1, 0, 1], .c [1, 1, 1]] rfl ?_
            refine j_run it 1 rfl (by simp) ?_
            refine j_step rfl (x_len sl44 rfl ?_)
            refine j_run it 2 rfl (by simp) ?_
            refine j_split_dec (t := 12) rfl (fun h2 => ?_) (fun h2 => by exfalso; omega)
            refine j_run it 1 rfl (by simp) ?_
            refine j_gstep rfl rfl (x_len sl44 rfl ?_)
            refine j_run it 2 rfl (by simp) ?_
            refine j_nf [.c [1, 1, 0, 1], .c [1, 1, 1]] rfl ?_
            refine j_if rfl rfl (fun h3 => by exfalso; omega) (fun h3 => ?_)
            refine j_nf [.o [1, 1, 1, 0] 0, .c [1, 1, 1, 1]] rfl ?_
            refine j_run it 2 rfl (by simp) ?_
            refine j_step rfl (x_call [] rfl (S_macwilliams_Transform_err (L := L) (by rw [hw]; decide)) rfl ?_)
            rintro _ _ _ ⟨pa1, ca1, rfl, rfl, rfl⟩
            simp only [List.cons_append, List.nil_append, hw]
            refine j_run it 5 rfl (by simp) ?_
            refine j_nf [.o [1, 1, 1, 1, 0, 0] 0, .c [1, 1, 1, 1, 0, 1], .c [1, 1, 1, 1, 1]] rfl ?_
            refine j_run it 1 rfl (by simp) ?_
            refine j_step rfl (x_call [] rfl (S_codewrightref24_Order) rfl ?_)
            rintro _ _ _ ⟨rfl, rfl, rfl⟩
            simp only [List.cons_append, List.nil_append]
            refine j_run it 1 rfl (by simp) ?_
            refine j_nf [.c [1, 1, 1, 1, 0, 1], .c [1, 1, 1, 1, 1]] rfl ?_
            refine j_ifn rfl rfl (fun h4 => by exfalso; omega) (fun h4 => ?_)
            refine j_nf [.o [1, 1, 1, 1, 1, 0, 0] 0, .c [1, 1, 1, 1, 1, 0, 1], .c [1, 1, 1, 1, 1, 1]] rfl ?_
            refine j_run it 1 rfl (by simp) ?_
            refine j_step rfl (x_len sl44 rfl ?_)
            refine j_step rfl (x_call [] rfl (S_codewrightref24_Shape) rfl ?_)
            rintro _ _ _ ⟨rfl, rfl, rfl⟩
            simp only [List.cons_append, List.nil_append]
            refine j_run it 1 rfl (by simp) ?_
            refine j_nf [.c [1, 1, 1, 1, 1, 0, 1], .c [1, 1, 1, 1, 1, 1]] rfl ?_
            refine j_ifn rfl rfl (fun h5 => ?_) (fun h5 => by exfalso; omega)
            refine j_nf [.o [1, 1, 1, 1, 1, 0, 1, 0, 0] 0, .c [1, 1, 1, 1, 1, 0, 1, 0, 1], .c [1, 1, 1, 1, 1, 1]] rfl ?_
            refine j_run it 4 rfl (by simp) ?_
            refine j_split_dec (t := 39) rfl (fun h6 => ?_) (fun h6 => by exfalso; omega)
            refine j_gstep rfl rfl (x_len sl44 rfl ?_)
            refine j_run it 3 rfl (by simp) ?_
            refine j_nf [.c [1, 1, 1, 1, 1, 0, 1, 0, 1], .c [1, 1, 1, 1, 1, 1]] rfl ?_
            refine j_giv [] rfl rfl rfl ⟨rfl, rfl, rfl⟩
          · refine j_nf [.o [1, 1, 0, 0] 0, .c [1, 1, 0, 1], .c [1, 1, 1]] rfl ?_
            refine j_run it 1 rfl (by simp) ?_
            refine j_step rfl (x_len sl44 rfl ?_)
            refine j_run it 2 rfl (by simp) ?_
            refine j_split_dec (t := 12) rfl (fun h2 => by exfalso; omega) (fun h2 => ?_)
            refine j_run it 4 rfl (by simp) ?_
            refine j_nf [.c [1, 1, 0, 1], .c [1, 1, 1]] rfl ?_
            refine j_false rfl rfl ?_
            refine j_nf [.o [1, 1, 1, 0] 0, .c [1, 1, 1, 1]] rfl ?_
            refine j_run it 2 rfl (by simp) ?_
            refine j_step rfl (x_call [] rfl (S_macwilliams_Transform_err (L := L) (by rw [hw]; decide)) rfl ?_)
            rintro _ _ _ ⟨pa1, ca1, rfl, rfl, rfl⟩
            simp only [List.cons_append, List.nil_append, hw]
            refine j_run it 5 rfl (by simp) ?_
            refine j_nf [.o [1, 1, 1, 1, 0, 0] 0, .c [1, 1, 1, 1, 0, 1], .c [1, 1, 1, 1, 1]] rfl ?_
            refine j_run it 1 rfl (by simp) ?_
            refine j_step rfl (x_call [] rfl (S_codewrightref24_Order) rfl ?_)
            rintro _ _ _ ⟨rfl, rfl, rfl⟩
            simp only [List.cons_append, List.nil_append]
            refine j_run it 1 rfl (by simp) ?_
            refine j_nf [.c [1, 1, 1, 1, 0, 1], .c [1, 1, 1, 1, 1]] rfl ?_
            refine j_ifn rfl rfl (fun h3 => by exfalso; omega) (fun h3 => ?_)
            refine j_nf [.o [1, 1, 1, 1, 1, 0, 0] 0, .c [1, 1, 1, 1, 1, 0, 1], .c [1, 1, 1, 1, 1, 1]] rfl ?_
            refine j_run it 1 rfl (by simp) ?_
            refine j_step rfl (x_len sl44 rfl ?_)
            refine j_step rfl (x_call [] rfl (S_codewrightref24_Shape) rfl ?_)
            rintro _ _ _ ⟨rfl, rfl, rfl⟩
            simp only [List.cons_append, List.nil_append]
            refine j_run it 1 rfl (by simp) ?_
            refine j_nf [.c [1, 1, 1, 1, 1, 0, 1], .c [1, 1, 1, 1, 1, 1]] rfl ?_
            refine j_ifn rfl rfl (fun h4 => ?_) (fun h4 => by exfalso; omega)
            refine j_nf [.o [1, 1, 1, 1, 1, 0, 1, 0, 0] 0, .c [1, 1, 1, 1, 1, 0, 1, 0, 1], .c [1, 1, 1, 1, 1, 1]] rfl ?_
            refine j_run it 4 rfl (by simp) ?_
            refine j_split_dec (t := 39) rfl (fun h5 => ?_) (fun h5 => by exfalso; omega)
            refine j_gstep rfl rfl (x_len sl44 rfl ?_)
            refine j_run it 3 rfl (by simp) ?_
            refine j_nf [.c [1, 1, 1, 1, 1, 0, 1, 0, 1], .c [1, 1, 1, 1, 1, 1]] rfl ?_
            refine j_giv [] rfl rfl rfl ⟨rfl, rfl, rfl⟩
        · have hS : shapeOf n = 0 := if_neg hs
          obtain ⟨q, rfl⟩ : ∃ a : Nat, q = a := ⟨q.toNat, by omega⟩
          obtain ⟨n, rfl⟩ : ∃ a : Nat, n = a + 1 := ⟨n - 1, by omega⟩
          have hl : L.length = n + 1 := hn.symm
          have hK1 : 1 ≤ 4 := by decide
          have hK2 : 4 ≤ 10000 := by decide
          refine j_nf [.o [1, 1, 0, 0] 0, .c [1, 1, 0, 1], .c [1, 1, 1]] rfl ?_
          refine j_run it 1 rfl (by simp) ?_
          refine j_step rfl (x_len sl44 rfl ?_)
          refine j_run it 2 rfl (by simp) ?_
          refine j_split_dec (t := 12) rfl (fun h2 => by exfalso; omega) (fun h2 => ?_)
          refine j_run it 4 rfl (by simp) ?_
          refine j_nf [.c [1, 1, 0, 1], .c [1, 1, 1]] rfl ?_
          refine j_false rfl rfl ?_
          refine j_nf [.o [1, 1, 1, 0] 0, .c [1, 1, 1, 1]] rfl ?_
          refine j_run it 2 rfl (by simp) ?_
          refine j_step rfl (x_call [0] rfl (S_macwilliams_Transform (by first | omega | exact side _ (by assumption) | assumption | rfl | (simp; done) | (simp; omega)) (by first | omega | exact side _ (by assumption) | assumption | rfl | (simp; done) | (simp; omega)) (by first | omega | exact side _ (by assumption) | assumption | rfl | (simp; done) | (simp; omega)) (by first | omega | exact side _ (by assumption) | assumption | rfl | (simp; done) | (simp; omega)) (by first | omega | exact side _ (by assumption) | assumption | rfl | (simp; done) | (simp; omega)) (by first | omega | exact side _ (by assumption) | assumption | rfl | (simp; done) | (simp; omega)) (by first | omega | exact side _ (by assumption) | assumption | rfl | (simp; done) | (simp; omega))) rfl ?_)
          rintro _ _ _ ⟨pa1, ca1, rfl, rfl, rfl⟩
          simp only [List.cons_append, List.nil_append]
          refine j_run it 5 rfl (by simp) ?_
          refine j_nf [.o [1, 1, 1, 1, 0, 0] 0, .c [1, 1, 1, 1, 0, 1], .c [1, 1, 1, 1, 1]] rfl ?_
          refine j_run it 1 rfl (by simp) ?_
          refine j_step rfl (x_call [] rfl (S_codewrightref24_Order) rfl ?_)
          rintro _ _ _ ⟨rfl, rfl, rfl⟩
          simp only [List.cons_append, List.nil_append]
          refine j_run it 1 rfl (by simp) ?_
          refine j_nf [.c [1, 1, 1, 1, 0, 1], .c [1, 1, 1, 1, 1]] rfl ?_
          refine j_ifn rfl rfl (fun h3 => by exfalso; omega) (fun h3 => ?_)
          refine j_nf [.o [1, 1, 1, 1, 1, 0, 0] 0, .c [1, 1, 1, 1, 1, 0, 1], .c [1, 1, 1, 1, 1, 1]] rfl ?_
          refine j_run it 1 rfl (by simp) ?_
          refine j_step rfl (x_len sl44 rfl ?_)
          refine j_step rfl (x_call [] rfl (S_codewrightref24_Shape) rfl ?_)
          rintro _ _ _ ⟨rfl, rfl, rfl⟩
          simp only [List.cons_append, List.nil_append]
          refine j_run it 1 rfl (by simp) ?_
          refine j_nf [.c [1, 1, 1, 1, 1, 0, 1], .c [1, 1, 1, 1, 1, 1]] rfl ?_
          refine j_ifn rfl rfl (fun h4 => by exfalso; omega) (fun h4 => ?_)
          refine j_nf [.o [1, 1, 1, 1, 1, 1, 0] 0, .c [1, 1, 1, 1, 1, 1, 1]] rfl ?_
          refine j_run it 6 rfl (by simp) ?_
          refine j_split_dec (t := 46) rfl (fun h5 => ?_) (fun h5 => by exfalso; omega)
          refine j_gstep rfl rfl (x_call [1] rfl (S_codewrightref24_Transform (by first | omega | exact side _ (by assumption) | assumption | rfl | (simp; done) | (simp; omega)) (by first | omega | exact side _ (by assumption) | assumption | rfl | (simp; done) | (simp; omega)) (by first | omega | exact side _ (by assumption) | assumption | rfl | (simp; done) | (simp; omega)) (by first | omega | exact side _ (by assumption) | assumption | rfl | (simp; done) | (simp; omega)) (by first | omega | exact side _ (by assumption) | assumption | rfl | (simp; done) | (simp; omega)) (by first | omega | exact side _ (by assumption) | assumption | rfl | (simp; done) | (simp; omega)) (by first | omega | exact side _ (by assumption) | assumption | rfl | (simp; done) | (simp; omega))) rfl ?_)
          rintro _ _ _ ⟨pa2, ca2, rfl, rfl, rfl⟩
          simp only [List.cons_append, List.nil_append]
          simp only [decide_true]
          refine j_gstep rfl rfl (x_call [1, 0] rfl (S_codewrightref02_SameList) rfl ?_)
          rintro _ _ _ ⟨rfl, rfl, rfl⟩
          simp only [List.cons_append, List.nil_append]
          simp only [decide_true]
          refine j_run it 2 rfl (by simp) ?_
          refine j_nf [.c [1, 1, 1, 1, 1, 1, 1]] rfl ?_
          refine j_giv [] rfl rfl rfl ⟨rfl, rfl, rfl⟩

theorem op3 : Opens Try.prog 3 (encInt .i64 8) := opens_int rfl rfl rfl
theorem op4 : Opens Try.prog 4 encBool := opens_bool rfl rfl rfl
theorem op65 : Opens Try.prog 65 (encNat .u32 4) := opens_nat rfl rfl rfl (fun n h => h.1)
theorem op23 : Opens Try.prog 23 (encSl (encNat .u32 4)) := opens_sl rfl op65 rfl rfl (by decide)
theorem op25 : Opens Try.prog 25 (encPair encBool (encPair (encSl (encNat .u32 4)) (encSl (encNat .u32 4)) 48) 56) := opens_struct rfl (opensAll_cons 56 rfl op4 (opensAll_cons 48 rfl op23 (opensAll_one rfl op23))) rfl rfl
theorem op44 : Opens Try.prog 44 (encSl (encPair encBool (encPair (encSl (encNat .u32 4)) (encSl (encNat .u32 4)) 48) 56)) := opens_sl rfl op25 rfl rfl (by decide)

theorem macwilliamsTransforms_says : LawSays Try.prog 8 Try.f8 := by
  intro W args h
  have h : Args Try.prog W [3, 44] args := h
  match args, h with
  | [v0, v1], ⟨h0, h1, _⟩ =>
    obtain ⟨q, rfl, _⟩ := h0.int Try.underlying3
    obtain ⟨pa, ca, l, rfl, hl⟩ := h1.slice Try.underlying44 op44
    refine law_of_gives (S_MacwilliamsTransforms (L := l)) (fun v Φ β h => h.1) ?_
    intro g hg
    simp only [List.mem_cons, List.not_mem_nil, or_false] at hg
    subst hg
    exact hl


/-! ### The row -/

theorem macwilliamsTransforms_lifted (os : Os) (started : os.Started) (H : Type) (enc : TypeId × Value → H) :
    ReturnsInHanded {} Try.checked os 8 .any (Rows.macwilliamsTransformsSpec.pre6 enc Try.prog Try.f8 Rows.macwilliamsTransformsRow.domain false) (Rows.macwilliamsTransformsSpec.post enc Try.prog Try.f8 false true false false) :=
  law_lift (C := Try.checked) (by kernel_rfl) started (by kernel_rfl) Try.func8
    (ChangeSpec.witness6 (enc := enc) (C := Try.checked) false ⟨#[], #[.int .i64 0, .slice none 0 0], []⟩ 8 (by kernel_rfl) (by kernel_rfl) (by kernel_rfl) (by kernel_rfl))
    (by kernel_rfl) rfl (by kernel_rfl) rfl Try.underlying4 (fun ds h => match ds, h with | [d0, d1], _ => rfl) macwilliamsTransforms_says

theorem macwilliamsTransforms_holds : Rows.MacwilliamsTransformsSaid :=
  OpenClaim.holds_of_wide 8 Try.f8 rfl rfl rfl rfl rfl rfl rfl ⟨rfl, rfl, rfl, rfl, rfl⟩ rfl rfl rfl rfl rfl (by kernel_rfl) Try.func8 (by kernel_rfl)
    (of_decide_eq_true (by kernel_rfl)) (by unfold Func.isWrapper; first | (rw [if_pos (by decide +kernel)]; kernel_rfl) | (rw [if_neg (by decide +kernel)]; exact ⟨rfl, rfl⟩))
    (fun os started H enc _ => macwilliamsTransforms_lifted os started H enc)
#print axioms macwilliamsTransforms_holds
end Go.Proofs.Ytamkmihhpadamaa
