/-
MacwilliamsRecurrence returns true: three consecutive degrees of the program's Krawtchouk values satisfy the recurrence.
-/
import Derived.Test.YtamkmihhpadamaaRows
import Derived.ProofKit
import Derived.JoinedOf
import Derived.Test.YtamkmihhpadamaaHC5
namespace Go.Proofs.Ytamkmihhpadamaa
open Go Go.Fw
set_option maxRecDepth 100000
set_option linter.unusedVariables false
set_option linter.unusedSimpArgs false
set_option maxHeartbeats 4000000
theorem S_MacwilliamsRecurrence {q n j x : Nat} (hq : q ≤ 255) (hn : n ≤ 255) (hj : j ≤ 255) (hx : x ≤ 255) :
    Ctr Try.prog 7 [.int .u8 q, .int .u8 n, .int .u8 j, .int .u8 x] [] [] (Rv (.bool true) []) := by
  refine Ctr_of_j' (F := F_codewrightlaw24_MacwilliamsRecurrence) rfl fun C => ?_
  by_cases h1 : q < 2
  · refine j_nf [.o [0] 0, .c [1]] rfl ?_
    refine j_run it 1 rfl (by simp) ?_
    refine j_nf [.o [1, 0, 0] 0, .c [1, 0, 1], .c [1, 1]] rfl ?_
    refine j_run it 3 rfl (by simp) ?_
    refine j_split_dec (t := 20) rfl (fun h2 => ?_) (fun h2 => by exfalso; omega)
    refine j_run it 17 rfl (by simp) ?_
    refine j_nf [.c [1, 0, 1], .c [1, 1]] rfl ?_
    refine j_true rfl rfl ?_
    refine j_nf [.o [1, 0, 1, 0, 0] 0, .c [1, 0, 1, 0, 1], .c [1, 1]] rfl ?_
    refine j_run it 1 rfl (by simp) ?_
    refine j_nf [.c [1, 0, 1, 0, 1], .c [1, 1]] rfl ?_
    refine j_giv [] rfl rfl rfl ⟨rfl, rfl, rfl⟩
  by_cases h2 : 48 < n
  · refine j_nf [.o [0] 0, .c [1]] rfl ?_
    refine j_run it 1 rfl (by simp) ?_
    refine j_nf [.o [1, 0, 0] 0, .c [1, 0, 1], .c [1, 1]] rfl ?_
    refine j_run it 3 rfl (by simp) ?_
    refine j_split_dec (t := 20) rfl (fun h3 => by exfalso; omega) (fun h3 => ?_)
    refine j_run it 4 rfl (by simp) ?_
    refine j_split_dec (t := 24) rfl (fun h4 => ?_) (fun h4 => by exfalso; omega)
    refine j_run it 13 rfl (by simp) ?_
    refine j_nf [.c [1, 0, 1], .c [1, 1]] rfl ?_
    refine j_true rfl rfl ?_
    refine j_nf [.o [1, 0, 1, 0, 0] 0, .c [1, 0, 1, 0, 1], .c [1, 1]] rfl ?_
    refine j_run it 1 rfl (by simp) ?_
    refine j_nf [.c [1, 0, 1, 0, 1], .c [1, 1]] rfl ?_
    refine j_giv [] rfl rfl rfl ⟨rfl, rfl, rfl⟩
  by_cases h3 : j < 1
  · refine j_nf [.o [0] 0, .c [1]] rfl ?_
    refine j_run it 1 rfl (by simp) ?_
    refine j_nf [.o [1, 0, 0] 0, .c [1, 0, 1], .c [1, 1]] rfl ?_
    refine j_run it 3 rfl (by simp) ?_
    refine j_split_dec (t := 20) rfl (fun h4 => by exfalso; omega) (fun h4 => ?_)
    refine j_run it 4 rfl (by simp) ?_
    refine j_split_dec (t := 24) rfl (fun h5 => by exfalso; omega) (fun h5 => ?_)
    refine j_run it 4 rfl (by simp) ?_
    refine j_split_dec (t := 28) rfl (fun h6 => ?_) (fun h6 => by exfalso; omega)
    refine j_run it 9 rfl (by simp) ?_
    refine j_nf [.c [1, 0, 1], .c [1, 1]] rfl ?_
    refine j_true rfl rfl ?_
    refine j_nf [.o [1, 0, 1, 0, 0] 0, .c [1, 0, 1, 0, 1], .c [1, 1]] rfl ?_
    refine j_run it 1 rfl (by simp) ?_
    refine j_nf [.c [1, 0, 1, 0, 1], .c [1, 1]] rfl ?_
    refine j_giv [] rfl rfl rfl ⟨rfl, rfl, rfl⟩
  by_cases h4 : n ≤ j
  · refine j_nf [.o [0] 0, .c [1]] rfl ?_
    refine j_run it 1 rfl (by simp) ?_
    refine j_nf [.o [1, 0, 0] 0, .c [1, 0, 1], .c [1, 1]] rfl ?_
    refine j_run it 3 rfl (by simp) ?_
    refine j_split_dec (t := 20) rfl (fun h5 => by exfalso; omega) (fun h5 => ?_)
    refine j_run it 4 rfl (by simp) ?_
    refine j_split_dec (t := 24) rfl (fun h6 => by exfalso; omega) (fun h6 => ?_)
    refine j_run it 4 rfl (by simp) ?_
    refine j_split_dec (t := 28) rfl (fun h7 => by exfalso; omega) (fun h7 => ?_)
    refine j_run it 5 rfl (by simp) ?_
    refine j_split_dec (t := 33) rfl (fun h8 => ?_) (fun h8 => by exfalso; omega)
    refine j_run it 4 rfl (by simp) ?_
    refine j_nf [.c [1, 0, 1], .c [1, 1]] rfl ?_
    refine j_true rfl rfl ?_
    refine j_nf [.o [1, 0, 1, 0, 0] 0, .c [1, 0, 1, 0, 1], .c [1, 1]] rfl ?_
    refine j_run it 1 rfl (by simp) ?_
    refine j_nf [.c [1, 0, 1, 0, 1], .c [1, 1]] rfl ?_
    refine j_giv [] rfl rfl rfl ⟨rfl, rfl, rfl⟩
  by_cases h5 : n < x
  · refine j_nf [.o [0] 0, .c [1]] rfl ?_
    refine j_run it 1 rfl (by simp) ?_
    refine j_nf [.o [1, 0, 0] 0, .c [1, 0, 1], .c [1, 1]] rfl ?_
    refine j_run it 3 rfl (by simp) ?_
    refine j_split_dec (t := 20) rfl (fun h6 => by exfalso; omega) (fun h6 => ?_)
    refine j_run it 4 rfl (by simp) ?_
    refine j_split_dec (t := 24) rfl (fun h7 => by exfalso; omega) (fun h7 => ?_)
    refine j_run it 4 rfl (by simp) ?_
    refine j_split_dec (t := 28) rfl (fun h8 => by exfalso; omega) (fun h8 => ?_)
    refine j_run it 5 rfl (by simp) ?_
    refine j_split_dec (t := 33) rfl (fun h9 => by exfalso; omega) (fun h9 => ?_)
    refine j_run it 4 rfl (by simp) ?_
    refine j_nf [.c [1, 0, 1], .c [1, 1]] rfl ?_
    refine j_if rfl rfl (fun h10 => ?_) (fun h10 => by exfalso; omega)
    refine j_nf [.o [1, 0, 1, 0, 0] 0, .c [1, 0, 1, 0, 1], .c [1, 1]] rfl ?_
    refine j_run it 1 rfl (by simp) ?_
    refine j_nf [.c [1, 0, 1, 0, 1], .c [1, 1]] rfl ?_
    refine j_giv [] rfl rfl rfl ⟨rfl, rfl, rfl⟩
  have hm1 : InR .i64 1 := by simp [InR]
  have one : rt ((kr ((q : Int) - 1) n 0 x : Int) : Rat) = rt (((1 : Int) : Rat)) := by rw [kr_zero]
  have g1 : 0 ≤ ((n : Int) - j) * ((q : Int) - 1) := Int.mul_nonneg (by omega) (by omega)
  have g2 : ((n : Int) - j) * ((q : Int) - 1) ≤ 48 * 254 := Int.mul_le_mul (by omega) (by omega) (by omega) (by omega)
  have g3 : 0 ≤ (q : Int) * x := Int.mul_nonneg (by omega) (by omega)
  have g4 : (q : Int) * x ≤ 255 * 48 := Int.mul_le_mul (by omega) (by omega) (by omega) (by omega)
  have g5 : 0 ≤ ((q - 1 : Nat) : Int) * (((n - j : Nat) : Int) + 1) := Int.mul_nonneg (by omega) (by omega)
  have g6 : ((q - 1 : Nat) : Int) * (((n - j : Nat) : Int) + 1) ≤ 254 * 48 := Int.mul_le_mul (by omega) (by omega) (by omega) (by omega)
  have i1 : InR .i64 (((n : Int) - j) * ((q : Int) - 1) + j - q * x) := by simp only [InR]; omega
  have i2 : InR .i64 (((q - 1 : Nat) : Int) * (((n - j : Nat) : Int) + 1)) := by simp only [InR]; omega
  have i3 : InR .i64 ((j : Int) + 1) := by simp only [InR]; omega
  have P1 : (4294967296 : Nat) ^ 1 = 4294967296 := Nat.pow_one _
  have a1 : ((n : Int) - j) * ((q : Int) - 1) + j - q * x = ((n : Int) - j) * ((q : Int) - 1) + j - q * x := rfl
  have n1 : (((n : Int) - j) * ((q : Int) - 1) + j - q * x).natAbs < 4294967296 ^ 1 := by rw [P1]; omega
  have n2 : (((q - 1 : Nat) : Int) * (((n - j : Nat) : Int) + 1)).natAbs < 4294967296 ^ 1 := by rw [P1]; omega
  have n3 : ((j : Int) + 1).natAbs < 4294967296 ^ 1 := by rw [P1]; omega
  have k1 := kr_lt (show 2 ≤ q by omega) (show q ≤ 256 by omega) (show n ≤ 64 by omega) (show x ≤ n by omega) (k := j + 1)
  have k2 := kr_lt (show 2 ≤ q by omega) (show q ≤ 256 by omega) (show n ≤ 64 by omega) (show x ≤ n by omega) (k := j)
  have k3 := kr_lt (show 2 ≤ q by omega) (show q ≤ 256 by omega) (show n ≤ 64 by omega) (show x ≤ n by omega) (k := j - 1)
  obtain ⟨l1, l2⟩ := rt_int_len k1
  obtain ⟨l3, l4⟩ := rt_int_len k2
  obtain ⟨l5, l6⟩ := rt_int_len k3
  obtain ⟨l7, l8⟩ := rt_int_len n1
  obtain ⟨l9, l10⟩ := rt_int_len n2
  obtain ⟨l11, l12⟩ := rt_int_len n3
  obtain ⟨l13, l14⟩ := rt_mul_len n1 k2
  obtain ⟨l15, l16⟩ := rt_mul_len n2 k3
  have fin : rt ((((j : Int) + 1 : Int) : Rat) * ((kr ((q : Int) - 1) n (j + 1) x : Int) : Rat)) = rt (((((n : Int) - j) * ((q : Int) - 1) + j - q * x : Int) : Rat) * ((kr ((q : Int) - 1) n j x : Int) : Rat) - ((((q - 1 : Nat) : Int) * (((n - j : Nat) : Int) + 1) : Int) : Rat) * ((kr ((q : Int) - 1) n (j - 1) x : Int) : Rat)) := by
    simp only [← Rat.intCast_mul, ← Rat.intCast_sub]
    rw [kr_three ((q : Int) - 1) (show x ≤ n by omega) (show 1 ≤ j by omega)]
    have e1 : ((q - 1 : Nat) : Int) = (q : Int) - 1 := by omega
    have e2 : ((n - j : Nat) : Int) = (n : Int) - j := by omega
    rw [e1, e2, Int.sub_add_cancel]
  refine j_nf [.o [0] 0, .c [1]] rfl ?_
  refine j_run it 1 rfl (by simp) ?_
  refine j_nf [.o [1, 0, 0] 0, .c [1, 0, 1], .c [1, 1]] rfl ?_
  refine j_run it 3 rfl (by simp) ?_
  refine j_split_dec (t := 20) rfl (fun h6 => by exfalso; omega) (fun h6 => ?_)
  refine j_run it 4 rfl (by simp) ?_
  refine j_split_dec (t := 24) rfl (fun h7 => by exfalso; omega) (fun h7 => ?_)
  refine j_run it 4 rfl (by simp) ?_
  refine j_split_dec (t := 28) rfl (fun h8 => by exfalso; omega) (fun h8 => ?_)
  refine j_run it 5 rfl (by simp) ?_
  refine j_split_dec (t := 33) rfl (fun h9 => by exfalso; omega) (fun h9 => ?_)
  refine j_run it 4 rfl (by simp) ?_
  refine j_nf [.c [1, 0, 1], .c [1, 1]] rfl ?_
  refine j_if rfl rfl (fun h10 => by exfalso; omega) (fun h10 => ?_)
  refine j_nf [.o [1, 1, 0] 0, .c [1, 1, 1]] rfl ?_
  refine j_run it 9 rfl (by repeat' first | exact trivial | apply And.intro | omega) ?_
  refine j_recast (t := 45) ((((j) + 1) : Nat) : Int) rfl (by omega) ?_
  refine j_step rfl (x_call [] rfl (S_codewrightlaw24_k (by first | omega | exact side _ (by assumption) | assumption | rfl | (simp; done) | (simp; omega)) (by first | omega | exact side _ (by assumption) | assumption | rfl | (simp; done) | (simp; omega)) (by first | omega | exact side _ (by assumption) | assumption | rfl | (simp; done) | (simp; omega)) (by first | omega | exact side _ (by assumption) | assumption | rfl | (simp; done) | (simp; omega)) (by first | omega | exact side _ (by assumption) | assumption | rfl | (simp; done) | (simp; omega))) rfl ?_)
  rintro _ _ _ ⟨pn1, cn1, pd1, cd1, rfl, rfl, rfl⟩
  simp only [List.cons_append, List.nil_append]
  refine j_run it 3 rfl (by simp) ?_
  refine j_step rfl (x_alloc zo25 fun b1 => ?_)
  refine j_step rfl (x_bst_all 0 rfl rfl rfl ld25 rfl rfl (by simp [Value.oneCell']) ?_)
  refine j_run it 1 rfl (by simp) ?_
  refine j_nf [.o [1, 1, 1, 0] 0, .c [1, 1, 1, 1]] rfl ?_
  refine j_run it 8 rfl (by repeat' first | exact trivial | apply And.intro | omega) ?_
  refine j_step rfl (x_call [] rfl (S_codewrightlaw24_k (by first | omega | exact side _ (by assumption) | assumption | rfl | (simp; done) | (simp; omega)) (by first | omega | exact side _ (by assumption) | assumption | rfl | (simp; done) | (simp; omega)) (by first | omega | exact side _ (by assumption) | assumption | rfl | (simp; done) | (simp; omega)) (by first | omega | exact side _ (by assumption) | assumption | rfl | (simp; done) | (simp; omega)) (by first | omega | exact side _ (by assumption) | assumption | rfl | (simp; done) | (simp; omega))) rfl ?_)
  rintro _ _ _ ⟨pn2, cn2, pd2, cd2, rfl, rfl, rfl⟩
  simp only [List.cons_append, List.nil_append]
  refine j_run it 3 rfl (by simp) ?_
  refine j_step rfl (x_alloc zo25 fun b2 => ?_)
  refine j_step rfl (x_bst_all 0 rfl rfl rfl ld25 rfl rfl (by simp [Value.oneCell']) ?_)
  refine j_run it 1 rfl (by simp) ?_
  refine j_nf [.o [1, 1, 1, 1, 0] 0, .c [1, 1, 1, 1, 1]] rfl ?_
  refine j_run it 9 rfl (by repeat' first | exact trivial | apply And.intro | omega) ?_
  refine j_recast (t := 70) ((((j) - 1) : Nat) : Int) rfl (by omega) ?_
  refine j_step rfl (x_call [] rfl (S_codewrightlaw24_k (by first | omega | exact side _ (by assumption) | assumption | rfl | (simp; done) | (simp; omega)) (by first | omega | exact side _ (by assumption) | assumption | rfl | (simp; done) | (simp; omega)) (by first | omega | exact side _ (by assumption) | assumption | rfl | (simp; done) | (simp; omega)) (by first | omega | exact side _ (by assumption) | assumption | rfl | (simp; done) | (simp; omega)) (by first | omega | exact side _ (by assumption) | assumption | rfl | (simp; done) | (simp; omega))) rfl ?_)
  rintro _ _ _ ⟨pn3, cn3, pd3, cd3, rfl, rfl, rfl⟩
  simp only [List.cons_append, List.nil_append]
  refine j_run it 3 rfl (by simp) ?_
  refine j_step rfl (x_alloc zo25 fun b3 => ?_)
  refine j_step rfl (x_bst_all 0 rfl rfl rfl ld25 rfl rfl (by simp [Value.oneCell']) ?_)
  refine j_run it 1 rfl (by simp) ?_
  refine j_nf [.o [1, 1, 1, 1, 1, 0] 0, .c [1, 1, 1, 1, 1, 1]] rfl ?_
  refine j_run it 6 rfl (by repeat' first | exact trivial | apply And.intro | omega) ?_
  refine j_step rfl (x_call [] rfl (S_macwilliams_Krawtchouk (by first | omega | exact side _ (by assumption) | assumption | rfl | (simp; done) | (simp; omega)) (by first | omega | exact side _ (by assumption) | assumption | rfl | (simp; done) | (simp; omega)) (by first | omega | exact side _ (by assumption) | assumption | rfl | (simp; done) | (simp; omega)) (by first | omega | exact side _ (by assumption) | assumption | rfl | (simp; done) | (simp; omega)) (by first | omega | exact side _ (by assumption) | assumption | rfl | (simp; done) | (simp; omega))) rfl ?_)
  rintro _ _ _ ⟨pn4, cn4, pd4, cd4, rfl, rfl, rfl⟩
  simp only [List.cons_append, List.nil_append]
  refine j_run it 3 rfl (by simp) ?_
  refine j_step rfl (x_alloc zo25 fun b4 => ?_)
  refine j_step rfl (x_bst_all 0 rfl rfl rfl ld25 rfl rfl (by simp [Value.oneCell']) ?_)
  refine j_run it 1 rfl (by simp) ?_
  refine j_nf [.c [1, 1, 1, 1, 1, 1, 0, 0], .c [1, 1, 1, 1, 1, 1, 0, 1], .c [1, 1, 1, 1, 1, 1, 1]] rfl ?_
  (apply j_drawK it mx 20; (· rfl); (· rfl))
  (apply lxk_run 12; (· rfl); (· simp))
  (apply lxk_run 3; (· rfl); (· simp))
  (apply lxk_eq; (· rfl); (· exact d_bld_all 0 rfl rfl ld25 rfl))
  (apply lxk_rq; (· rfl); (· exact d_x fun _ => x_call [] rfl (S_codewrightref02_Int (by first | omega | exact side _ (by assumption) | assumption | rfl | (simp; done) | (simp; omega))) rfl (by rintro _ _ _ ⟨pn5, cn5, pd5, cd5, rfl, rfl, rfl⟩; exact (dk_rq 0 1 rfl rfl))); intro pn5 cn5 pd5 cd5)
  simp only [vq_rt']
  (apply lxk_eq; (· rfl); (· exact d_x fun _ => x_call [2, 3, 0, 1] rfl (S_codewrightref02_Same) rfl (by rintro _ _ _ ⟨rfl, rfl, rfl⟩; exact dk_eq)))
  simp only [vq_rt']
  (apply lxk_run 2; (· rfl); (· simp))
  refine lxk_end rfl ?_
  simp only [List.map_cons, List.map_nil, List.cons_append, List.nil_append]
  refine j_nf [.c [1, 1, 1, 1, 1, 1, 0, 1], .c [1, 1, 1, 1, 1, 1, 1]] rfl ?_
  refine j_ifn rfl rfl (fun h11 => ?_) (fun h11 => ?_)
  · exact absurd one (by assumption)
  · refine j_nf [.o [1, 1, 1, 1, 1, 1, 1, 0] 0, .c [1, 1, 1, 1, 1, 1, 1, 1]] rfl ?_
    refine j_run it 19 rfl (by repeat' first | exact trivial | apply And.intro | omega) ?_
    refine j_nf [.c [1, 1, 1, 1, 1, 1, 1, 1, 0], .c [1, 1, 1, 1, 1, 1, 1, 1, 1]] rfl ?_
    (apply j_drawK it mx 25; (· rfl); (· rfl))
    (apply lxk_run 3; (· rfl); (· exact (by repeat' first | exact trivial | apply And.intro | omega)))
    (apply lxk_rq; (· rfl); (· exact d_x fun _ => x_call [] rfl (S_codewrightref02_Int (by first | omega | exact side _ (by assumption) | assumption | rfl | (simp; done) | (simp; omega))) rfl (by rintro _ _ _ ⟨pn6, cn6, pd6, cd6, rfl, rfl, rfl⟩; exact (dk_rq 0 1 rfl rfl))); intro pn6 cn6 pd6 cd6)
    simp only [vq_rt']
    (apply lxk_eq; (· rfl); (· exact d_bld_all 3 rfl rfl ld25 rfl))
    (apply lxk_rq; (· rfl); (· exact d_x fun _ => x_call [0, 1, 10, 11] rfl (S_codewrightref02_Mul (by first | omega | exact side _ (by assumption) | assumption | rfl | (simp; done) | (simp; omega)) (by first | omega | exact side _ (by assumption) | assumption | rfl | (simp; done) | (simp; omega)) (by first | omega | exact side _ (by assumption) | assumption | rfl | (simp; done) | (simp; omega)) (by first | omega | exact side _ (by assumption) | assumption | rfl | (simp; done) | (simp; omega))) rfl (by rintro _ _ _ ⟨pn7, cn7, pd7, cd7, rfl, rfl, rfl⟩; exact (dk_rq 0 1 rfl rfl))); intro pn7 cn7 pd7 cd7)
    simp only [vq_rt']
    (apply lxk_run 1; (· rfl); (· simp))
    (apply lxk_rq; (· rfl); (· exact d_x fun _ => x_call [] rfl (S_codewrightref02_Int (by first | omega | exact side _ (by assumption) | assumption | rfl | (simp; done) | (simp; omega))) rfl (by rintro _ _ _ ⟨pn8, cn8, pd8, cd8, rfl, rfl, rfl⟩; exact (dk_rq 0 1 rfl rfl))); intro pn8 cn8 pd8 cd8)
    simp only [vq_rt']
    (apply lxk_eq; (· rfl); (· exact d_bld_all 2 rfl rfl ld25 rfl))
    (apply lxk_rq; (· rfl); (· exact d_x fun _ => x_call [0, 1, 12, 13] rfl (S_codewrightref02_Mul (by first | omega | exact side _ (by assumption) | assumption | rfl | (simp; done) | (simp; omega)) (by first | omega | exact side _ (by assumption) | assumption | rfl | (simp; done) | (simp; omega)) (by first | omega | exact side _ (by assumption) | assumption | rfl | (simp; done) | (simp; omega)) (by first | omega | exact side _ (by assumption) | assumption | rfl | (simp; done) | (simp; omega))) rfl (by rintro _ _ _ ⟨pn9, cn9, pd9, cd9, rfl, rfl, rfl⟩; exact (dk_rq 0 1 rfl rfl))); intro pn9 cn9 pd9 cd9)
    simp only [vq_rt']
    (apply lxk_run 2; (· rfl); (· exact (by repeat' first | exact trivial | apply And.intro | omega)))
    (apply lxk_eq (v := Value.int IntKind.i64 ((((q) - 1 : Nat)) : Int)); (· rfl); (· exact d_x fun _ => x_asN it _ rfl (by repeat' first | exact trivial | apply And.intro | omega) (by omega) dk_eq))
    (apply lxk_run 4; (· rfl); (· exact (by repeat' first | exact trivial | apply And.intro | omega)))
    (apply lxk_eq (v := Value.int IntKind.i64 ((((n) - (j) : Nat)) : Int)); (· rfl); (· exact d_x fun _ => x_asN it _ rfl (by repeat' first | exact trivial | apply And.intro | omega) (by omega) dk_eq))
    (apply lxk_run 2; (· rfl); (· exact (by repeat' first | exact trivial | apply And.intro | omega)))
    (apply lxk_rq; (· rfl); (· exact d_x fun _ => x_call [] rfl (S_codewrightref02_Int (by first | omega | exact side _ (by assumption) | assumption | rfl | (simp; done) | (simp; omega))) rfl (by rintro _ _ _ ⟨pn10, cn10, pd10, cd10, rfl, rfl, rfl⟩; exact (dk_rq 0 1 rfl rfl))); intro pn10 cn10 pd10 cd10)
    simp only [vq_rt']
    (apply lxk_eq; (· rfl); (· exact d_bld_all 1 rfl rfl ld25 rfl))
    (apply lxk_rq; (· rfl); (· exact d_x fun _ => x_call [0, 1, 14, 15] rfl (S_codewrightref02_Mul (by first | omega | exact side _ (by assumption) | assumption | rfl | (simp; done) | (simp; omega)) (by first | omega | exact side _ (by assumption) | assumption | rfl | (simp; done) | (simp; omega)) (by first | omega | exact side _ (by assumption) | assumption | rfl | (simp; done) | (simp; omega)) (by first | omega | exact side _ (by assumption) | assumption | rfl | (simp; done) | (simp; omega))) rfl (by rintro _ _ _ ⟨pn11, cn11, pd11, cd11, rfl, rfl, rfl⟩; exact (dk_rq 0 1 rfl rfl))); intro pn11 cn11 pd11 cd11)
    simp only [vq_rt']
    (apply lxk_rq; (· rfl); (· exact d_x fun _ => x_call [4, 5, 0, 1] rfl (S_codewrightref02_Sub (by first | omega | exact side _ (by assumption) | assumption | rfl | (simp; done) | (simp; omega)) (by first | omega | exact side _ (by assumption) | assumption | rfl | (simp; done) | (simp; omega)) (by first | omega | exact side _ (by assumption) | assumption | rfl | (simp; done) | (simp; omega)) (by first | omega | exact side _ (by assumption) | assumption | rfl | (simp; done) | (simp; omega))) rfl (by rintro _ _ _ ⟨pn12, cn12, pd12, cd12, rfl, rfl, rfl⟩; exact (dk_rq 0 1 rfl rfl))); intro pn12 cn12 pd12 cd12)
    simp only [vq_rt']
    (apply lxk_eq; (· rfl); (· exact d_x fun _ => x_call [10, 11, 0, 1] rfl (S_codewrightref02_Same) rfl (by rintro _ _ _ ⟨rfl, rfl, rfl⟩; exact dk_eq)))
    simp only [vq_rt']
    refine lxk_end rfl ?_
    simp only [List.map_cons, List.map_nil, List.cons_append, List.nil_append]
    refine j_run it 1 rfl (by simp) ?_
    refine j_nf [.c [1, 1, 1, 1, 1, 1, 1, 1, 1]] rfl ?_
    rw [decide_eq_true fin]
    refine j_giv [] rfl rfl rfl ⟨rfl, rfl, rfl⟩

theorem op5 : Opens Try.prog 5 (encNat .u8 1) := opens_nat rfl rfl rfl (fun n h => h.1)

theorem macwilliamsRecurrence_says : LawSays Try.prog 7 Try.f7 := by
  intro W args h
  have h : Args Try.prog W [5, 5, 5, 5] args := h
  match args, h with
  | [v0, v1, v2, v3], ⟨h0, h1, h2, h3, _⟩ =>
    obtain ⟨q, rfl, r0⟩ := h0.int Try.underlying5
    obtain ⟨n, rfl, r1⟩ := h1.int Try.underlying5
    obtain ⟨j, rfl, r2⟩ := h2.int Try.underlying5
    obtain ⟨x, rfl, r3⟩ := h3.int Try.underlying5
    simp only [InR] at r0
    obtain ⟨q, rfl⟩ : ∃ a : Nat, q = a := ⟨q.toNat, by omega⟩
    simp only [InR] at r1
    obtain ⟨n, rfl⟩ : ∃ a : Nat, n = a := ⟨n.toNat, by omega⟩
    simp only [InR] at r2
    obtain ⟨j, rfl⟩ : ∃ a : Nat, j = a := ⟨j.toNat, by omega⟩
    simp only [InR] at r3
    obtain ⟨x, rfl⟩ : ∃ a : Nat, x = a := ⟨x.toNat, by omega⟩
    refine law_of_gives (S_MacwilliamsRecurrence (by omega) (by omega) (by omega) (by omega)) (fun v Φ β h => h.1) ?_
    intro g hg
    cases hg


/-! ### The row -/

theorem macwilliamsRecurrence_lifted (os : Os) (started : os.Started) (H : Type) (enc : TypeId × Value → H) :
    ReturnsInHanded {} Try.checked os 7 .any (Rows.macwilliamsRecurrenceSpec.pre6 enc Try.prog Try.f7 Rows.macwilliamsRecurrenceRow.domain false) (Rows.macwilliamsRecurrenceSpec.post enc Try.prog Try.f7 false true false false) :=
  law_lift (C := Try.checked) (by kernel_rfl) started (by kernel_rfl) Try.func7
    (ChangeSpec.witness6 (enc := enc) (C := Try.checked) false ⟨#[], #[.int .u8 0, .int .u8 0, .int .u8 0, .int .u8 0], []⟩ 8 (by kernel_rfl) (by kernel_rfl) (by kernel_rfl) (by kernel_rfl))
    (by kernel_rfl) rfl (by kernel_rfl) rfl Try.underlying4 (fun ds h => match ds, h with | [d0, d1, d2, d3], _ => rfl) macwilliamsRecurrence_says

theorem macwilliamsRecurrence_holds : Rows.MacwilliamsRecurrenceSaid :=
  OpenClaim.holds_of_wide 7 Try.f7 rfl rfl rfl rfl rfl rfl rfl ⟨rfl, rfl, rfl, rfl, rfl⟩ rfl rfl rfl rfl rfl (by kernel_rfl) Try.func7 (by kernel_rfl)
    (of_decide_eq_true (by kernel_rfl)) (by unfold Func.isWrapper; first | (rw [if_pos (by decide +kernel)]; kernel_rfl) | (rw [if_neg (by decide +kernel)]; exact ⟨rfl, rfl⟩))
    (fun os started H enc _ => macwilliamsRecurrence_lifted os started H enc)
#print axioms macwilliamsRecurrence_holds
end Go.Proofs.Ytamkmihhpadamaa
