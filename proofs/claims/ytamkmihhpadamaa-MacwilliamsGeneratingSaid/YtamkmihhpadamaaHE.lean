/-
MacwilliamsGenerating returns true: the program's Krawtchouk values at x are the coefficients of the generating polynomial, evaluated at any integer.
-/
import Derived.Test.YtamkmihhpadamaaRows
import Derived.ProofKit
import Derived.JoinedOf
import Derived.Test.YtamkmihhpadamaaHE5
namespace Go.Proofs.Ytamkmihhpadamaa
open Go Go.Fw
set_option maxRecDepth 100000
set_option linter.unusedVariables false
set_option linter.unusedSimpArgs false
set_option maxHeartbeats 4000000
def geTerm (q n x : Nat) (z : Int) (j : Nat) : Int := kr ((q : Int) - 1) n j x * z ^ j
theorem geTerm_lt {q n x : Nat} {z : Int} (hq : 2 ≤ q) (hq2 : q ≤ 256) (hn : n ≤ 64) (hx : x ≤ n) (hz : z.natAbs < 4294967296) {j : Nat} (hj : j ≤ 64) : (geTerm q n x z j).natAbs < 4294967296 ^ 82 := by
  rw [geTerm, Int.natAbs_mul]
  exact mul_pow (j := 17) (k := 65) (kr_lt hq hq2 hn hx) (int_pow_lt hz hj)
theorem geSum_lt {q n x : Nat} {z : Int} (hq : 2 ≤ q) (hq2 : q ≤ 256) (hn : n ≤ 64) (hx : x ≤ n) (hz : z.natAbs < 4294967296) {k : Nat} (hk : k ≤ n + 1) : (sm k (geTerm q n x z)).natAbs < 4294967296 ^ 83 := by
  have h := sm_abs (n := k) (M := 4294967296 ^ 82) (f := geTerm q n x z) fun i hi => Nat.le_of_lt (geTerm_lt hq hq2 hn hx hz (by omega))
  have e : (4294967296 : Nat) ^ 83 = 4294967296 ^ 82 * 4294967296 := Nat.pow_succ ..
  rw [e]
  have hp : 0 < (4294967296 : Nat) ^ 82 := Nat.pow_pos (by decide)
  generalize (4294967296 : Nat) ^ 82 = P at *
  have := Nat.mul_le_mul_right P (show k ≤ 65 by omega)
  omega

theorem S_MacwilliamsGenerating {q n x : Nat} {z : Int} (hq : q ≤ 255) (hn : n ≤ 255) (hx : x ≤ 255) (hz : InR .i8 z) :
    Ctr Try.prog 4 [.int .u8 q, .int .u8 n, .int .u8 x, .int .i8 z] [] [] (Rv (.bool true) []) := by
  refine Ctr_of_j' (F := F_codewrightlaw24_MacwilliamsGenerating) rfl fun C => ?_
  simp only [InR] at hz
  by_cases h1 : q < 2
  · refine j_nf [.o [0] 0, .c [1]] rfl ?_
    refine j_run it 1 rfl (by simp) ?_
    refine j_nf [.o [1, 0, 0] 0, .c [1, 0, 1], .c [1, 1]] rfl ?_
    refine j_run it 3 rfl (by simp) ?_
    refine j_split_dec (t := 20) rfl (fun h2 => ?_) (fun h2 => by exfalso; omega)
    refine j_run it 8 rfl (by simp) ?_
    refine j_nf [.c [1, 0, 1], .c [1, 1]] rfl ?_
    refine j_true rfl rfl ?_
    refine j_nf [.o [1, 0, 1, 0, 0] 0, .c [1, 0, 1, 0, 1], .c [1, 1]] rfl ?_
    refine j_run it 1 rfl (by simp) ?_
    refine j_nf [.c [1, 0, 1, 0, 1], .c [1, 1]] rfl ?_
    refine j_giv [] rfl rfl rfl ⟨rfl, rfl, rfl⟩
  by_cases h2 : 32 < n
  · refine j_nf [.o [0] 0, .c [1]] rfl ?_
    refine j_run it 1 rfl (by simp) ?_
    refine j_nf [.o [1, 0, 0] 0, .c [1, 0, 1], .c [1, 1]] rfl ?_
    refine j_run it 3 rfl (by simp) ?_
    refine j_split_dec (t := 20) rfl (fun h3 => by exfalso; omega) (fun h3 => ?_)
    refine j_run it 4 rfl (by simp) ?_
    refine j_split_dec (t := 24) rfl (fun h4 => ?_) (fun h4 => by exfalso; omega)
    refine j_run it 4 rfl (by simp) ?_
    refine j_nf [.c [1, 0, 1], .c [1, 1]] rfl ?_
    refine j_true rfl rfl ?_
    refine j_nf [.o [1, 0, 1, 0, 0] 0, .c [1, 0, 1, 0, 1], .c [1, 1]] rfl ?_
    refine j_run it 1 rfl (by simp) ?_
    refine j_nf [.c [1, 0, 1, 0, 1], .c [1, 1]] rfl ?_
    refine j_giv [] rfl rfl rfl ⟨rfl, rfl, rfl⟩
  by_cases h3 : n < x
  · refine j_nf [.o [0] 0, .c [1]] rfl ?_
    refine j_run it 1 rfl (by simp) ?_
    refine j_nf [.o [1, 0, 0] 0, .c [1, 0, 1], .c [1, 1]] rfl ?_
    refine j_run it 3 rfl (by simp) ?_
    refine j_split_dec (t := 20) rfl (fun h4 => by exfalso; omega) (fun h4 => ?_)
    refine j_run it 4 rfl (by simp) ?_
    refine j_split_dec (t := 24) rfl (fun h5 => by exfalso; omega) (fun h5 => ?_)
    refine j_run it 4 rfl (by simp) ?_
    refine j_nf [.c [1, 0, 1], .c [1, 1]] rfl ?_
    refine j_if rfl rfl (fun h6 => ?_) (fun h6 => by exfalso; omega)
    refine j_nf [.o [1, 0, 1, 0, 0] 0, .c [1, 0, 1, 0, 1], .c [1, 1]] rfl ?_
    refine j_run it 1 rfl (by simp) ?_
    refine j_nf [.c [1, 0, 1, 0, 1], .c [1, 1]] rfl ?_
    refine j_giv [] rfl rfl rfl ⟨rfl, rfl, rfl⟩
  have hm0 : InR .i64 0 := by simp [InR]
  have hm1 : InR .i64 1 := by simp [InR]
  have hmz : InR .i64 z := by simp only [InR]; omega
  have g1 : ((q : Int) - 1) * -128 ≤ ((q : Int) - 1) * z := Int.mul_le_mul_of_nonneg_left (by omega) (by omega)
  have g2 : ((q : Int) - 1) * z ≤ ((q : Int) - 1) * 127 := Int.mul_le_mul_of_nonneg_left (by omega) (by omega)
  have ha : (1 + ((q : Int) - 1) * z).natAbs < 4294967296 := by omega
  have hb : (1 - z).natAbs < 4294967296 := by omega
  have hia : InR .i64 (1 + ((q : Int) - 1) * z) := by simp only [InR]; omega
  have hib : InR .i64 (1 - z) := by simp only [InR]; omega
  have hz2 : z.natAbs < 4294967296 := by omega
  have hz3 : z.natAbs < 4294967296 ^ 1 := by rw [Nat.pow_one]; exact hz2
  refine j_nf [.o [0] 0, .c [1]] rfl ?_
  refine j_run it 1 rfl (by simp) ?_
  refine j_nf [.o [1, 0, 0] 0, .c [1, 0, 1], .c [1, 1]] rfl ?_
  refine j_run it 3 rfl (by simp) ?_
  refine j_split_dec (t := 20) rfl (fun h4 => by exfalso; omega) (fun h4 => ?_)
  refine j_run it 4 rfl (by simp) ?_
  refine j_split_dec (t := 24) rfl (fun h5 => by exfalso; omega) (fun h5 => ?_)
  refine j_run it 4 rfl (by simp) ?_
  refine j_nf [.c [1, 0, 1], .c [1, 1]] rfl ?_
  refine j_if rfl rfl (fun h6 => by exfalso; omega) (fun h6 => ?_)
  refine j_nf [.o [1, 1, 0] 0, .c [1, 1, 1]] rfl ?_
  refine j_step rfl (x_call [] rfl (S_codewrightref02_Int (by first | omega | exact side _ (by assumption) | assumption | rfl | (simp; done) | (simp; omega))) rfl ?_)
  rintro _ _ _ ⟨pn1, cn1, pd1, cd1, rfl, rfl, rfl⟩
  simp only [List.cons_append, List.nil_append]
  refine j_step rfl (x_alloc zo25 fun b1 => ?_)
  refine j_step rfl (x_bst_all 0 rfl rfl rfl ld25 rfl rfl (by simp [Value.oneCell']) ?_)
  refine j_nf [.o [1, 1, 1, 0] 0, .c [1, 1, 1, 1]] rfl ?_
  refine j_step rfl (x_call [] rfl (S_codewrightref02_Int (by first | omega | exact side _ (by assumption) | assumption | rfl | (simp; done) | (simp; omega))) rfl ?_)
  rintro _ _ _ ⟨pn2, cn2, pd2, cd2, rfl, rfl, rfl⟩
  simp only [List.cons_append, List.nil_append]
  refine j_step rfl (x_alloc zo25 fun b2 => ?_)
  refine j_step rfl (x_bst_all 0 rfl rfl rfl ld25 rfl rfl (by simp [Value.oneCell']) ?_)
  refine j_nf [.o [1, 1, 1, 1, 0, 0] 0, .c [1, 1, 1, 1, 0, 1], .c [1, 1, 1, 1, 1]] rfl ?_
  refine j_run it 1 rfl (by simp) ?_
  refine j_nf [.c [1, 1, 1, 1, 0, 1, 0], .blk 0, .c [1, 1, 1, 1, 1]] rfl ?_
  rw [show (((0 : Int) : Rat)) = ((sm 0 (geTerm q n x z) : Int) : Rat) from rfl, show (((1 : Int) : Rat)) = ((z ^ 0 : Int) : Rat) by rw [Int.pow_zero]]
  refine j_loopG (X := Nat × ((Option Addr × Nat) × (Option Addr × Nat)) × (Option Addr × Nat) × (Option Addr × Nat)) [0, 1, 2, 3, 9, 10] [] (fun y => [(11, .int .i64 y.1)])
    (fun y => [(some b2, 25, [.bool (rt ((z ^ y.1 : Int) : Rat)).1, .slice y.2.2.1.1 (rt ((z ^ y.1 : Int) : Rat)).2.1.length y.2.2.1.2, .slice y.2.2.2.1 (rt ((z ^ y.1 : Int) : Rat)).2.2.length y.2.2.2.2]),
      (some b1, 25, [.bool (rt ((sm y.1 (geTerm q n x z) : Int) : Rat)).1, .slice y.2.1.1.1 (rt ((sm y.1 (geTerm q n x z) : Int) : Rat)).2.1.length y.2.1.1.2, .slice y.2.1.2.1 (rt ((sm y.1 (geTerm q n x z) : Int) : Rat)).2.2.length y.2.1.2.2])])
    (fun y => [slF U32 y.2.1.1.1 (rt ((sm y.1 (geTerm q n x z) : Int) : Rat)).2.1.length y.2.1.1.2 (rt ((sm y.1 (geTerm q n x z) : Int) : Rat)).2.1, slF U32 y.2.1.2.1 (rt ((sm y.1 (geTerm q n x z) : Int) : Rat)).2.2.length y.2.1.2.2 (rt ((sm y.1 (geTerm q n x z) : Int) : Rat)).2.2,
      slF U32 y.2.2.1.1 (rt ((z ^ y.1 : Int) : Rat)).2.1.length y.2.2.1.2 (rt ((z ^ y.1 : Int) : Rat)).2.1, slF U32 y.2.2.2.1 (rt ((z ^ y.1 : Int) : Rat)).2.2.length y.2.2.2.2 (rt ((z ^ y.1 : Int) : Rat)).2.2])
    (fun y => y.1 ≤ n + 1) (fun y => n + 1 - y.1) (0, ((pn1, cn1), (pd1, cd1)), (pn2, cn2), (pd2, cd2)) [2, 3, 0, 1] rfl rfl rfl (Nat.zero_le _) (by repeat (first | exact Fr.sub_nil _ | refine Fr.sub_cons rfl ?_)) rfl rfl ?_
  rintro ⟨j, ⟨⟨pn, cn⟩, ⟨pd, cd⟩⟩, ⟨pn', cn'⟩, ⟨pd', cd'⟩⟩ hj ih
  simp only [List.cons_append, List.nil_append] at hj ih ⊢
  obtain ⟨lO1, lO2⟩ := rt_int_len (geSum_lt (x := x) (show 2 ≤ q by omega) (show q ≤ 256 by omega) (show n ≤ 64 by omega) (by omega) hz2 hj)
  by_cases hjl : j ≤ n
  · have b3 := kr_lt (show 2 ≤ q by omega) (show q ≤ 256 by omega) (show n ≤ 64 by omega) (show x ≤ n by omega) (k := j)
    have b4 := int_pow_lt hz2 (show j ≤ 64 by omega)
    obtain ⟨l1, l2⟩ := rt_int_len b3
    obtain ⟨l3, l4⟩ := rt_int_len b4
    obtain ⟨l5, l6⟩ := rt_int_len hz3
    obtain ⟨l7, l8⟩ := rt_mul_len b3 b4
    have eA : ((sm j (geTerm q n x z) : Int) : Rat) + ((kr ((q : Int) - 1) n j x : Int) : Rat) * ((z ^ j : Int) : Rat) = ((sm (j + 1) (geTerm q n x z) : Int) : Rat) := by rw [← Rat.intCast_mul, ← Rat.intCast_add]; rfl
    have eB : ((z ^ j : Int) : Rat) * ((z : Int) : Rat) = ((z ^ (j + 1) : Int) : Rat) := by rw [← Rat.intCast_mul, Int.pow_succ]
    refine j_nf [.o [1, 1, 1, 1, 0, 1, 0, 0, 0, 0] 0, .c [1, 1, 1, 1, 0, 1, 0, 0, 0, 1], .c [1, 1, 1, 1, 0, 1, 0, 0, 1], .lp [1, 1, 1, 1, 0, 1, 0, 0], .blk 0, .c [1, 1, 1, 1, 1]] rfl ?_
    refine j_run it 4 rfl (by repeat' first | exact trivial | apply And.intro | omega) ?_
    refine j_nf [.c [1, 1, 1, 1, 0, 1, 0, 0, 0, 1], .c [1, 1, 1, 1, 0, 1, 0, 0, 1], .lp [1, 1, 1, 1, 0, 1, 0, 0], .blk 0, .c [1, 1, 1, 1, 1]] rfl ?_
    refine j_if rfl rfl (fun h7 => ?_) (fun h7 => by exfalso; omega)
    refine j_nf [.o [1, 1, 1, 1, 0, 1, 0, 0, 1, 0, 0, 0] 0, .c [1, 1, 1, 1, 0, 1, 0, 0, 1, 0, 0, 1], .blk 1, .c [1, 1, 1, 1, 0, 1, 0, 0, 1, 1], .lp [1, 1, 1, 1, 0, 1, 0, 0], .blk 0, .c [1, 1, 1, 1, 1]] rfl ?_
    refine j_run it 7 rfl (by repeat' first | exact trivial | apply And.intro | omega) ?_
    refine j_step rfl (x_call [] rfl (S_codewrightlaw24_k (by first | omega | exact side _ (by assumption) | assumption | rfl | (simp; done) | (simp; omega)) (by first | omega | exact side _ (by assumption) | assumption | rfl | (simp; done) | (simp; omega)) (by first | omega | exact side _ (by assumption) | assumption | rfl | (simp; done) | (simp; omega)) (by first | omega | exact side _ (by assumption) | assumption | rfl | (simp; done) | (simp; omega)) (by first | omega | exact side _ (by assumption) | assumption | rfl | (simp; done) | (simp; omega))) rfl ?_)
    rintro _ _ _ ⟨pn3, cn3, pd3, cd3, rfl, rfl, rfl⟩
    simp only [List.cons_append, List.nil_append]
    refine j_run it 3 rfl (by simp) ?_
    refine j_step rfl (x_alloc zo25 fun b5 => ?_)
    refine j_step rfl (x_bst_all 0 rfl rfl rfl ld25 rfl rfl (by simp [Value.oneCell']) ?_)
    refine j_run it 1 rfl (by simp) ?_
    refine j_nf [.o [1, 1, 1, 1, 0, 1, 0, 0, 1, 0, 0, 1, 0, 0] 0, .c [1, 1, 1, 1, 0, 1, 0, 0, 1, 0, 0, 1, 0, 1], .c [1, 1, 1, 1, 0, 1, 0, 0, 1, 0, 0, 1, 1], .blk 1, .c [1, 1, 1, 1, 0, 1, 0, 0, 1, 1], .lp [1, 1, 1, 1, 0, 1, 0, 0], .blk 0, .c [1, 1, 1, 1, 1]] rfl ?_
    refine j_run it 2 rfl (by simp) ?_
    refine j_nf [.c [1, 1, 1, 1, 0, 1, 0, 0, 1, 0, 0, 1, 0, 1], .c [1, 1, 1, 1, 0, 1, 0, 0, 1, 0, 0, 1, 1], .blk 1, .c [1, 1, 1, 1, 0, 1, 0, 0, 1, 1], .lp [1, 1, 1, 1, 0, 1, 0, 0], .blk 0, .c [1, 1, 1, 1, 1]] rfl ?_
    refine j_false rfl rfl ?_
    refine j_nf [.c [1, 1, 1, 1, 0, 1, 0, 0, 1, 0, 0, 1, 1, 0], .c [1, 1, 1, 1, 0, 1, 0, 0, 1, 0, 0, 1, 1, 1], .blk 1, .c [1, 1, 1, 1, 0, 1, 0, 0, 1, 1], .lp [1, 1, 1, 1, 0, 1, 0, 0], .blk 0, .c [1, 1, 1, 1, 1]] rfl ?_
    (apply j_drawK it mx 5; (· rfl); (· rfl))
    (apply lxk_eq; (· rfl); (· exact d_bld_all 2 rfl rfl ld25 rfl))
    (apply lxk_eq; (· rfl); (· exact d_bld_all 0 rfl rfl ld25 rfl))
    (apply lxk_eq; (· rfl); (· exact d_bld_all 1 rfl rfl ld25 rfl))
    (apply lxk_rq; (· rfl); (· exact d_x fun _ => x_call [0, 1, 4, 5] rfl (S_codewrightref02_Mul (by first | omega | exact side _ (by assumption) | assumption | rfl | (simp; done) | (simp; omega)) (by first | omega | exact side _ (by assumption) | assumption | rfl | (simp; done) | (simp; omega)) (by first | omega | exact side _ (by assumption) | assumption | rfl | (simp; done) | (simp; omega)) (by first | omega | exact side _ (by assumption) | assumption | rfl | (simp; done) | (simp; omega))) rfl (by rintro _ _ _ ⟨pn4, cn4, pd4, cd4, rfl, rfl, rfl⟩; exact (dk_rq 0 1 rfl rfl))); intro pn4 cn4 pd4 cd4)
    simp only [vq_rt']
    (apply lxk_rq; (· rfl); (· exact d_x fun _ => x_call [4, 5, 0, 1] rfl (S_codewrightref02_Add (by first | omega | exact side _ (by assumption) | assumption | rfl | (simp; done) | (simp; omega)) (by first | omega | exact side _ (by assumption) | assumption | rfl | (simp; done) | (simp; omega)) (by first | omega | exact side _ (by assumption) | assumption | rfl | (simp; done) | (simp; omega)) (by first | omega | exact side _ (by assumption) | assumption | rfl | (simp; done) | (simp; omega))) rfl (by rintro _ _ _ ⟨pn5, cn5, pd5, cd5, rfl, rfl, rfl⟩; exact (dk_rq 0 1 rfl rfl))); intro pn5 cn5 pd5 cd5)
    simp only [vq_rt']
    refine lxk_end rfl ?_
    simp only [List.map_cons, List.map_nil, List.cons_append, List.nil_append]
    refine j_step rfl (x_bst_all 2 rfl rfl rfl ld25 rfl rfl (by simp [Value.oneCell']) ?_)
    refine j_nf [.c [1, 1, 1, 1, 0, 1, 0, 0, 1, 0, 0, 1, 1, 1], .blk 1, .c [1, 1, 1, 1, 0, 1, 0, 0, 1, 1], .lp [1, 1, 1, 1, 0, 1, 0, 0], .blk 0, .c [1, 1, 1, 1, 1]] rfl ?_
    (apply j_drawK it mx 5; (· rfl); (· rfl))
    (apply lxk_eq; (· rfl); (· exact d_bld_all 1 rfl rfl ld25 rfl))
    (apply lxk_run 2; (· rfl); (· exact (by repeat' first | exact trivial | apply And.intro | omega)))
    (apply lxk_rq; (· rfl); (· exact d_x fun _ => x_call [] rfl (S_codewrightref02_Int (by first | omega | exact side _ (by assumption) | assumption | rfl | (simp; done) | (simp; omega))) rfl (by rintro _ _ _ ⟨pn6, cn6, pd6, cd6, rfl, rfl, rfl⟩; exact (dk_rq 0 1 rfl rfl))); intro pn6 cn6 pd6 cd6)
    simp only [vq_rt']
    (apply lxk_rq; (· rfl); (· exact d_x fun _ => x_call [10, 11, 0, 1] rfl (S_codewrightref02_Mul (by first | omega | exact side _ (by assumption) | assumption | rfl | (simp; done) | (simp; omega)) (by first | omega | exact side _ (by assumption) | assumption | rfl | (simp; done) | (simp; omega)) (by first | omega | exact side _ (by assumption) | assumption | rfl | (simp; done) | (simp; omega)) (by first | omega | exact side _ (by assumption) | assumption | rfl | (simp; done) | (simp; omega))) rfl (by rintro _ _ _ ⟨pn7, cn7, pd7, cd7, rfl, rfl, rfl⟩; exact (dk_rq 0 1 rfl rfl))); intro pn7 cn7 pd7 cd7)
    simp only [vq_rt']
    refine lxk_end rfl ?_
    simp only [List.map_cons, List.map_nil, List.cons_append, List.nil_append]
    refine j_step rfl (x_bst_all 1 rfl rfl rfl ld25 rfl rfl (by simp [Value.oneCell']) ?_)
    refine j_nf [.o [1, 1, 1, 1, 0, 1, 0, 0, 1, 1] 0, .lp [1, 1, 1, 1, 0, 1, 0, 0], .blk 0, .c [1, 1, 1, 1, 1]] rfl ?_
    refine j_run it 3 rfl (by repeat' first | exact trivial | apply And.intro | omega) ?_
    refine j_nfn 1 [.lp [1, 1, 1, 1, 0, 1, 0, 0], .blk 0, .c [1, 1, 1, 1, 1]] rfl ?_
    rw [eA, eB]
    refine j_toM [false, true, true] [4, 5, 0, 1] (by repeat (first | exact Fr.sub_nil _ | refine Fr.sub_cons rfl ?_ | refine Fr.sub_consI rfl (by first | omega | (dsimp only; omega)) ?_ | refine Fr.sub_consS rfl (by first | omega | (dsimp only; omega)) (by first | omega | (dsimp only; omega)) ?_)) rfl rfl (ih (j + 1, ((pn5, cn5), (pd5, cd5)), (pn7, cn7), (pd7, cd7)) (by dsimp only; omega) (by dsimp only; omega))
  · obtain rfl : j = n + 1 := by omega
    have b5 := int_pow_lt ha (show n - x ≤ 64 by omega)
    have b6 := int_pow_lt hb (show x ≤ 64 by omega)
    obtain ⟨l1, l2⟩ := rt_int_len b5
    obtain ⟨l3, l4⟩ := rt_int_len b6
    have fin : rt ((sm (n + 1) (geTerm q n x z) : Int) : Rat) = rt ((((1 + ((q : Int) - 1) * z) ^ (n - x) : Int) : Rat) * (((1 - z) ^ x : Int) : Rat)) := by
      rw [← Rat.intCast_mul, ← kr_val ((q : Int) - 1) z (show x ≤ n by omega)]; rfl
    refine j_nf [.o [1, 1, 1, 1, 0, 1, 0, 0, 0, 0] 0, .c [1, 1, 1, 1, 0, 1, 0, 0, 0, 1], .c [1, 1, 1, 1, 0, 1, 0, 0, 1], .lp [1, 1, 1, 1, 0, 1, 0, 0], .blk 0, .c [1, 1, 1, 1, 1]] rfl ?_
    refine j_run it 4 rfl (by repeat' first | exact trivial | apply And.intro | omega) ?_
    refine j_nf [.c [1, 1, 1, 1, 0, 1, 0, 0, 0, 1], .c [1, 1, 1, 1, 0, 1, 0, 0, 1], .lp [1, 1, 1, 1, 0, 1, 0, 0], .blk 0, .c [1, 1, 1, 1, 1]] rfl ?_
    refine j_if rfl rfl (fun h7 => by exfalso; omega) (fun h7 => ?_)
    refine j_nf [.o [1, 1, 1, 1, 1, 0] 0, .c [1, 1, 1, 1, 1, 1]] rfl ?_
    refine j_run it 7 rfl (by repeat' first | exact trivial | apply And.intro | omega) ?_
    refine j_step rfl (x_call [] rfl (S_codewrightref02_Int (by first | omega | exact side _ (by assumption) | assumption | rfl | (simp; done) | (simp; omega))) rfl ?_)
    rintro _ _ _ ⟨pn3, cn3, pd3, cd3, rfl, rfl, rfl⟩
    simp only [List.cons_append, List.nil_append]
    refine j_run it 4 rfl (by repeat' first | exact trivial | apply And.intro | omega) ?_
    refine j_recast (t := 72) ((((n) - (x)) : Nat) : Int) rfl (by omega) ?_
    refine j_step rfl (x_call [0, 1] rfl (S_codewrightref02_Pow (by first | omega | exact side _ (by assumption) | assumption | rfl | (simp; done) | (simp; omega)) (by first | omega | exact side _ (by assumption) | assumption | rfl | (simp; done) | (simp; omega))) rfl ?_)
    rintro _ _ _ ⟨pn4, cn4, pd4, cd4, rfl, rfl, rfl⟩
    simp only [List.cons_append, List.nil_append]
    refine j_run it 3 rfl (by simp) ?_
    refine j_step rfl (x_alloc zo25 fun b3 => ?_)
    refine j_step rfl (x_bst_all 0 rfl rfl rfl ld25 rfl rfl (by simp [Value.oneCell']) ?_)
    refine j_run it 1 rfl (by simp) ?_
    refine j_nf [.o [1, 1, 1, 1, 1, 1, 0] 0, .c [1, 1, 1, 1, 1, 1, 1]] rfl ?_
    refine j_run it 3 rfl (by repeat' first | exact trivial | apply And.intro | omega) ?_
    refine j_step rfl (x_call [] rfl (S_codewrightref02_Int (by first | omega | exact side _ (by assumption) | assumption | rfl | (simp; done) | (simp; omega))) rfl ?_)
    rintro _ _ _ ⟨pn5, cn5, pd5, cd5, rfl, rfl, rfl⟩
    simp only [List.cons_append, List.nil_append]
    refine j_run it 2 rfl (by repeat' first | exact trivial | apply And.intro | omega) ?_
    refine j_step rfl (x_call [0, 1] rfl (S_codewrightref02_Pow (by first | omega | exact side _ (by assumption) | assumption | rfl | (simp; done) | (simp; omega)) (by first | omega | exact side _ (by assumption) | assumption | rfl | (simp; done) | (simp; omega))) rfl ?_)
    rintro _ _ _ ⟨pn6, cn6, pd6, cd6, rfl, rfl, rfl⟩
    simp only [List.cons_append, List.nil_append]
    refine j_run it 3 rfl (by simp) ?_
    refine j_step rfl (x_alloc zo25 fun b4 => ?_)
    refine j_step rfl (x_bst_all 0 rfl rfl rfl ld25 rfl rfl (by simp [Value.oneCell']) ?_)
    refine j_run it 1 rfl (by simp) ?_
    refine j_nf [.c [1, 1, 1, 1, 1, 1, 1, 0], .c [1, 1, 1, 1, 1, 1, 1, 1]] rfl ?_
    (apply j_drawK it mx 5; (· rfl); (· rfl))
    (apply lxk_eq; (· rfl); (· exact d_bld_all 3 rfl rfl ld25 rfl))
    (apply lxk_eq; (· rfl); (· exact d_bld_all 1 rfl rfl ld25 rfl))
    (apply lxk_eq; (· rfl); (· exact d_bld_all 0 rfl rfl ld25 rfl))
    (apply lxk_rq; (· rfl); (· exact d_x fun _ => x_call [4, 5, 0, 1] rfl (S_codewrightref02_Mul (by first | omega | exact side _ (by assumption) | assumption | rfl | (simp; done) | (simp; omega)) (by first | omega | exact side _ (by assumption) | assumption | rfl | (simp; done) | (simp; omega)) (by first | omega | exact side _ (by assumption) | assumption | rfl | (simp; done) | (simp; omega)) (by first | omega | exact side _ (by assumption) | assumption | rfl | (simp; done) | (simp; omega))) rfl (by rintro _ _ _ ⟨pn7, cn7, pd7, cd7, rfl, rfl, rfl⟩; exact (dk_rq 0 1 rfl rfl))); intro pn7 cn7 pd7 cd7)
    simp only [vq_rt']
    (apply lxk_eq; (· rfl); (· exact d_x fun _ => x_call [10, 11, 0, 1] rfl (S_codewrightref02_Same) rfl (by rintro _ _ _ ⟨rfl, rfl, rfl⟩; exact dk_eq)))
    simp only [vq_rt']
    refine lxk_end rfl ?_
    simp only [List.map_cons, List.map_nil, List.cons_append, List.nil_append]
    refine j_run it 1 rfl (by simp) ?_
    refine j_nf [.c [1, 1, 1, 1, 1, 1, 1, 1]] rfl ?_
    rw [decide_eq_true fin]
    refine j_giv [] rfl rfl rfl ⟨rfl, rfl, rfl⟩

theorem op5 : Opens Try.prog 5 (encNat .u8 1) := opens_nat rfl rfl rfl (fun n h => h.1)
theorem op34 : Opens Try.prog 34 (encInt .i8 1) := opens_int rfl rfl rfl

theorem macwilliamsGenerating_says : LawSays Try.prog 4 Try.f4 := by
  intro W args h
  have h : Args Try.prog W [5, 5, 5, 34] args := h
  match args, h with
  | [v0, v1, v2, v3], ⟨h0, h1, h2, h3, _⟩ =>
    obtain ⟨q, rfl, r0⟩ := h0.int Try.underlying5
    obtain ⟨n, rfl, r1⟩ := h1.int Try.underlying5
    obtain ⟨x, rfl, r2⟩ := h2.int Try.underlying5
    obtain ⟨z, rfl, r3⟩ := h3.int Try.underlying34
    simp only [InR] at r0
    obtain ⟨q, rfl⟩ : ∃ a : Nat, q = a := ⟨q.toNat, by omega⟩
    simp only [InR] at r1
    obtain ⟨n, rfl⟩ : ∃ a : Nat, n = a := ⟨n.toNat, by omega⟩
    simp only [InR] at r2
    obtain ⟨x, rfl⟩ : ∃ a : Nat, x = a := ⟨x.toNat, by omega⟩
    refine law_of_gives (S_MacwilliamsGenerating (by omega) (by omega) (by omega) r3) (fun v Φ β h => h.1) ?_
    intro g hg
    cases hg


/-! ### The row -/

theorem macwilliamsGenerating_lifted (os : Os) (started : os.Started) (H : Type) (enc : TypeId × Value → H) :
    ReturnsInHanded {} Try.checked os 4 .any (Rows.macwilliamsGeneratingSpec.pre6 enc Try.prog Try.f4 Rows.macwilliamsGeneratingRow.domain false) (Rows.macwilliamsGeneratingSpec.post enc Try.prog Try.f4 false true false false) :=
  law_lift (C := Try.checked) (by kernel_rfl) started (by kernel_rfl) Try.func4
    (ChangeSpec.witness6 (enc := enc) (C := Try.checked) false ⟨#[], #[.int .u8 0, .int .u8 0, .int .u8 0, .int .i8 0], []⟩ 8 (by kernel_rfl) (by kernel_rfl) (by kernel_rfl) (by kernel_rfl))
    (by kernel_rfl) rfl (by kernel_rfl) rfl Try.underlying4 (fun ds h => match ds, h with | [d0, d1, d2, d3], _ => rfl) macwilliamsGenerating_says

theorem macwilliamsGenerating_holds : Rows.MacwilliamsGeneratingSaid :=
  OpenClaim.holds_of_wide 4 Try.f4 rfl rfl rfl rfl rfl rfl rfl ⟨rfl, rfl, rfl, rfl, rfl⟩ rfl rfl rfl rfl rfl (by kernel_rfl) Try.func4 (by kernel_rfl)
    (of_decide_eq_true (by kernel_rfl)) (by unfold Func.isWrapper; first | (rw [if_pos (by decide +kernel)]; kernel_rfl) | (rw [if_neg (by decide +kernel)]; exact ⟨rfl, rfl⟩))
    (fun os started H enc _ => macwilliamsGenerating_lifted os started H enc)
#print axioms macwilliamsGenerating_holds
end Go.Proofs.Ytamkmihhpadamaa
