/-
MacwilliamsOrthogonal returns true: the program's Krawtchouk values of different degrees are orthogonal with their weights.
-/
import Derived.Test.YtamkmihhpadamaaRows
import Derived.ProofKit
import Derived.JoinedOf
import Derived.Test.YtamkmihhpadamaaHD5
namespace Go.Proofs.Ytamkmihhpadamaa
open Go Go.Fw
set_option maxRecDepth 100000
set_option linter.unusedVariables false
set_option linter.unusedSimpArgs false
set_option maxHeartbeats 4000000
/-- A term of the sum. -/
def orTerm (q n r s i : Nat) : Int := (binom n i : Int) * (((q - 1) ^ i : Nat) : Int) * (kr ((q : Int) - 1) n r i * kr ((q : Int) - 1) n s i)
theorem orTerm_lt {q n r s i : Nat} (hq : 2 ≤ q) (hq2 : q ≤ 256) (hn : n ≤ 64) (hi : i ≤ n) : (orTerm q n r s i).natAbs < 4294967296 ^ (3 + 17 + (17 + 17)) := by
  rw [orTerm, Int.natAbs_mul, Int.natAbs_mul, Int.natAbs_mul]
  exact mul_pow (mul_pow (nat_lt (binom_lt hn i)) (nat_lt (qn_lt (by omega) (by omega) (Nat.le_refl 17)))) (mul_pow (kr_lt hq hq2 hn hi) (kr_lt hq hq2 hn hi))
theorem orSum_lt {q n r s : Nat} (hq : 2 ≤ q) (hq2 : q ≤ 256) (hn : n ≤ 64) {k : Nat} (hk : k ≤ n + 1) : (sm k (orTerm q n r s)).natAbs < 4294967296 ^ 55 := by
  have h := sm_abs (n := k) (M := 4294967296 ^ 54) (f := orTerm q n r s) fun i hi => Nat.le_of_lt (orTerm_lt hq hq2 hn (by omega))
  have e : (4294967296 : Nat) ^ 55 = 4294967296 ^ 54 * 4294967296 := Nat.pow_succ ..
  rw [e]
  have hp : 0 < (4294967296 : Nat) ^ 54 := Nat.pow_pos (by decide)
  generalize (4294967296 : Nat) ^ 54 = P at *
  have := Nat.mul_le_mul_right P (show k ≤ 65 by omega)
  omega
theorem orSum {q n r s : Nat} (hq : 1 ≤ q) : sm (n + 1) (orTerm q n r s) = orth ((q : Int) - 1) n r s := by
  rw [orth]
  refine sm_congr fun i _ => ?_
  rw [orTerm, sub_one_cast hq]

theorem S_MacwilliamsOrthogonal {q n r s : Nat} (hq : q ≤ 255) (hn : n ≤ 255) (hr : r ≤ 255) (hs : s ≤ 255) :
    Ctr Try.prog 5 [.int .u8 q, .int .u8 n, .int .u8 r, .int .u8 s] [] [] (Rv (.bool true) []) := by
  refine Ctr_of_j' (F := F_codewrightlaw24_MacwilliamsOrthogonal) rfl fun C => ?_
  by_cases h1 : q < 2
  · refine j_nf [.o [0] 0, .c [1]] rfl ?_
    refine j_run it 1 rfl (by simp) ?_
    refine j_nf [.o [1, 0, 0] 0, .c [1, 0, 1], .c [1, 1]] rfl ?_
    refine j_run it 3 rfl (by simp) ?_
    refine j_split_dec (t := 17) rfl (fun h2 => ?_) (fun h2 => by exfalso; omega)
    refine j_run it 13 rfl (by simp) ?_
    refine j_nf [.c [1, 0, 1], .c [1, 1]] rfl ?_
    refine j_true rfl rfl ?_
    refine j_nf [.o [1, 0, 1, 0, 0] 0, .c [1, 0, 1, 0, 1], .c [1, 1]] rfl ?_
    refine j_run it 1 rfl (by simp) ?_
    refine j_nf [.c [1, 0, 1, 0, 1], .c [1, 1]] rfl ?_
    refine j_giv [] rfl rfl rfl ⟨rfl, rfl, rfl⟩
  by_cases h2 : 16 < n
  · refine j_nf [.o [0] 0, .c [1]] rfl ?_
    refine j_run it 1 rfl (by simp) ?_
    refine j_nf [.o [1, 0, 0] 0, .c [1, 0, 1], .c [1, 1]] rfl ?_
    refine j_run it 3 rfl (by simp) ?_
    refine j_split_dec (t := 17) rfl (fun h3 => by exfalso; omega) (fun h3 => ?_)
    refine j_run it 4 rfl (by simp) ?_
    refine j_split_dec (t := 21) rfl (fun h4 => ?_) (fun h4 => by exfalso; omega)
    refine j_run it 9 rfl (by simp) ?_
    refine j_nf [.c [1, 0, 1], .c [1, 1]] rfl ?_
    refine j_true rfl rfl ?_
    refine j_nf [.o [1, 0, 1, 0, 0] 0, .c [1, 0, 1, 0, 1], .c [1, 1]] rfl ?_
    refine j_run it 1 rfl (by simp) ?_
    refine j_nf [.c [1, 0, 1, 0, 1], .c [1, 1]] rfl ?_
    refine j_giv [] rfl rfl rfl ⟨rfl, rfl, rfl⟩
  by_cases h3 : n < r
  · refine j_nf [.o [0] 0, .c [1]] rfl ?_
    refine j_run it 1 rfl (by simp) ?_
    refine j_nf [.o [1, 0, 0] 0, .c [1, 0, 1], .c [1, 1]] rfl ?_
    refine j_run it 3 rfl (by simp) ?_
    refine j_split_dec (t := 17) rfl (fun h4 => by exfalso; omega) (fun h4 => ?_)
    refine j_run it 4 rfl (by simp) ?_
    refine j_split_dec (t := 21) rfl (fun h5 => by exfalso; omega) (fun h5 => ?_)
    refine j_run it 5 rfl (by simp) ?_
    refine j_split_dec (t := 26) rfl (fun h6 => ?_) (fun h6 => by exfalso; omega)
    refine j_run it 4 rfl (by simp) ?_
    refine j_nf [.c [1, 0, 1], .c [1, 1]] rfl ?_
    refine j_true rfl rfl ?_
    refine j_nf [.o [1, 0, 1, 0, 0] 0, .c [1, 0, 1, 0, 1], .c [1, 1]] rfl ?_
    refine j_run it 1 rfl (by simp) ?_
    refine j_nf [.c [1, 0, 1, 0, 1], .c [1, 1]] rfl ?_
    refine j_giv [] rfl rfl rfl ⟨rfl, rfl, rfl⟩
  by_cases h4 : n < s
  · refine j_nf [.o [0] 0, .c [1]] rfl ?_
    refine j_run it 1 rfl (by simp) ?_
    refine j_nf [.o [1, 0, 0] 0, .c [1, 0, 1], .c [1, 1]] rfl ?_
    refine j_run it 3 rfl (by simp) ?_
    refine j_split_dec (t := 17) rfl (fun h5 => by exfalso; omega) (fun h5 => ?_)
    refine j_run it 4 rfl (by simp) ?_
    refine j_split_dec (t := 21) rfl (fun h6 => by exfalso; omega) (fun h6 => ?_)
    refine j_run it 5 rfl (by simp) ?_
    refine j_split_dec (t := 26) rfl (fun h7 => by exfalso; omega) (fun h7 => ?_)
    refine j_run it 4 rfl (by simp) ?_
    refine j_nf [.c [1, 0, 1], .c [1, 1]] rfl ?_
    refine j_if rfl rfl (fun h8 => ?_) (fun h8 => by exfalso; omega)
    refine j_nf [.o [1, 0, 1, 0, 0] 0, .c [1, 0, 1, 0, 1], .c [1, 1]] rfl ?_
    refine j_run it 1 rfl (by simp) ?_
    refine j_nf [.c [1, 0, 1, 0, 1], .c [1, 1]] rfl ?_
    refine j_giv [] rfl rfl rfl ⟨rfl, rfl, rfl⟩
  have hm0 : InR .i64 0 := by simp [InR]
  have b1 := fun i (h : i ≤ n) => qn_lt (show q - 1 ≤ 256 by omega) (show i ≤ 64 by omega) (Nat.le_refl 17)
  have b2 := fun i => binom_lt (show n ≤ 64 by omega) i
  have b3 := fun i (h : i ≤ n) => kr_lt (show 2 ≤ q by omega) (show q ≤ 256 by omega) (show n ≤ 64 by omega) h (k := r)
  have b4 := fun i (h : i ≤ n) => kr_lt (show 2 ≤ q by omega) (show q ≤ 256 by omega) (show n ≤ 64 by omega) h (k := s)
  refine j_nf [.o [0] 0, .c [1]] rfl ?_
  refine j_run it 1 rfl (by simp) ?_
  refine j_nf [.o [1, 0, 0] 0, .c [1, 0, 1], .c [1, 1]] rfl ?_
  refine j_run it 3 rfl (by simp) ?_
  refine j_split_dec (t := 17) rfl (fun h5 => by exfalso; omega) (fun h5 => ?_)
  refine j_run it 4 rfl (by simp) ?_
  refine j_split_dec (t := 21) rfl (fun h6 => by exfalso; omega) (fun h6 => ?_)
  refine j_run it 5 rfl (by simp) ?_
  refine j_split_dec (t := 26) rfl (fun h7 => by exfalso; omega) (fun h7 => ?_)
  refine j_run it 4 rfl (by simp) ?_
  refine j_nf [.c [1, 0, 1], .c [1, 1]] rfl ?_
  refine j_if rfl rfl (fun h8 => by exfalso; omega) (fun h8 => ?_)
  refine j_nf [.o [1, 1, 0] 0, .c [1, 1, 1]] rfl ?_
  refine j_step rfl (x_call [] rfl (S_codewrightref02_Int (by first | omega | exact side _ (by assumption) | assumption | rfl | (simp; done) | (simp; omega))) rfl ?_)
  rintro _ _ _ ⟨pn1, cn1, pd1, cd1, rfl, rfl, rfl⟩
  simp only [List.cons_append, List.nil_append]
  refine j_step rfl (x_alloc zo25 fun b5 => ?_)
  refine j_step rfl (x_bst_all 0 rfl rfl rfl ld25 rfl rfl (by simp [Value.oneCell']) ?_)
  refine j_nf [.o [1, 1, 1, 0, 0] 0, .c [1, 1, 1, 0, 1], .c [1, 1, 1, 1]] rfl ?_
  refine j_run it 1 rfl (by simp) ?_
  refine j_nf [.c [1, 1, 1, 0, 1, 0], .blk 0, .c [1, 1, 1, 1]] rfl ?_
  rw [show (((0 : Int) : Rat)) = ((sm 0 (orTerm q n r s) : Int) : Rat) from rfl]
  refine j_loopG (X := Nat × (Option Addr × Nat) × (Option Addr × Nat)) [0, 1, 2, 3, 9] [] (fun y => [(10, .int .i64 y.1)])
    (fun y => [(some b5, 25, [.bool (rt ((sm y.1 (orTerm q n r s) : Int) : Rat)).1, .slice y.2.1.1 (rt ((sm y.1 (orTerm q n r s) : Int) : Rat)).2.1.length y.2.1.2, .slice y.2.2.1 (rt ((sm y.1 (orTerm q n r s) : Int) : Rat)).2.2.length y.2.2.2])])
    (fun y => [slF U32 y.2.1.1 (rt ((sm y.1 (orTerm q n r s) : Int) : Rat)).2.1.length y.2.1.2 (rt ((sm y.1 (orTerm q n r s) : Int) : Rat)).2.1, slF U32 y.2.2.1 (rt ((sm y.1 (orTerm q n r s) : Int) : Rat)).2.2.length y.2.2.2 (rt ((sm y.1 (orTerm q n r s) : Int) : Rat)).2.2])
    (fun y => y.1 ≤ n + 1) (fun y => n + 1 - y.1) (0, (pn1, cn1), (pd1, cd1)) [0, 1] rfl rfl rfl (Nat.zero_le _) (by repeat (first | exact Fr.sub_nil _ | refine Fr.sub_cons rfl ?_)) rfl rfl ?_
  rintro ⟨i, ⟨pn, cn⟩, ⟨pd, cd⟩⟩ hi ih
  simp only [List.cons_append, List.nil_append] at hi ih ⊢
  obtain ⟨lO1, lO2⟩ := rt_int_len (orSum_lt (r := r) (s := s) (show 2 ≤ q by omega) (show q ≤ 256 by omega) (show n ≤ 64 by omega) hi)
  by_cases hil : i ≤ n
  · obtain ⟨l1, l2⟩ := rt_nat_len (b1 i hil)
    obtain ⟨l3, l4⟩ := rt_nat_len (b2 i)
    obtain ⟨l5, l6⟩ := rt_int_len (b3 i hil)
    obtain ⟨l7, l8⟩ := rt_int_len (b4 i hil)
    obtain ⟨l9, l10⟩ := rt_mul_len (nat_lt (b2 i)) (nat_lt (b1 i hil))
    obtain ⟨l11, l12⟩ := rt_mul_len (b3 i hil) (b4 i hil)
    have eT : ((((binom n i : Nat) : Int) : Rat) * ((((q - 1) ^ i : Nat) : Int) : Rat)) * (((kr ((q : Int) - 1) n r i : Int) : Rat) * ((kr ((q : Int) - 1) n s i : Int) : Rat)) = ((orTerm q n r s i : Int) : Rat) := by
      simp only [← Rat.intCast_mul]; rfl
    obtain ⟨l13, l14⟩ := rt_int_len (orTerm_lt (r := r) (s := s) (show 2 ≤ q by omega) (show q ≤ 256 by omega) (show n ≤ 64 by omega) hil)
    rw [← eT] at l13 l14
    have eA : ((sm i (orTerm q n r s) : Int) : Rat) + ((orTerm q n r s i : Int) : Rat) = ((sm (i + 1) (orTerm q n r s) : Int) : Rat) := by rw [sm, Rat.intCast_add]
    refine j_nf [.o [1, 1, 1, 0, 1, 0, 0, 0, 0] 0, .c [1, 1, 1, 0, 1, 0, 0, 0, 1], .c [1, 1, 1, 0, 1, 0, 0, 1], .lp [1, 1, 1, 0, 1, 0, 0], .blk 0, .c [1, 1, 1, 1]] rfl ?_
    refine j_run it 4 rfl (by repeat' first | exact trivial | apply And.intro | omega) ?_
    refine j_nf [.c [1, 1, 1, 0, 1, 0, 0, 0, 1], .c [1, 1, 1, 0, 1, 0, 0, 1], .lp [1, 1, 1, 0, 1, 0, 0], .blk 0, .c [1, 1, 1, 1]] rfl ?_
    refine j_if rfl rfl (fun h9 => ?_) (fun h9 => by exfalso; omega)
    refine j_nf [.o [1, 1, 1, 0, 1, 0, 0, 1, 0, 0, 0] 0, .c [1, 1, 1, 0, 1, 0, 0, 1, 0, 0, 1], .blk 1, .c [1, 1, 1, 0, 1, 0, 0, 1, 1], .lp [1, 1, 1, 0, 1, 0, 0], .blk 0, .c [1, 1, 1, 1]] rfl ?_
    refine j_run it 7 rfl (by repeat' first | exact trivial | apply And.intro | omega) ?_
    refine j_step rfl (x_call [] rfl (S_codewrightlaw24_k (by first | omega | exact side _ (by assumption) | assumption | rfl | (simp; done) | (simp; omega)) (by first | omega | exact side _ (by assumption) | assumption | rfl | (simp; done) | (simp; omega)) (by first | omega | exact side _ (by assumption) | assumption | rfl | (simp; done) | (simp; omega)) (by first | omega | exact side _ (by assumption) | assumption | rfl | (simp; done) | (simp; omega)) (by first | omega | exact side _ (by assumption) | assumption | rfl | (simp; done) | (simp; omega))) rfl ?_)
    rintro _ _ _ ⟨pn2, cn2, pd2, cd2, rfl, rfl, rfl⟩
    simp only [List.cons_append, List.nil_append]
    refine j_run it 3 rfl (by simp) ?_
    refine j_step rfl (x_alloc zo25 fun b6 => ?_)
    refine j_step rfl (x_bst_all 0 rfl rfl rfl ld25 rfl rfl (by simp [Value.oneCell']) ?_)
    refine j_run it 1 rfl (by simp) ?_
    refine j_nf [.o [1, 1, 1, 0, 1, 0, 0, 1, 0, 0, 1, 0] 0, .c [1, 1, 1, 0, 1, 0, 0, 1, 0, 0, 1, 1], .blk 1, .c [1, 1, 1, 0, 1, 0, 0, 1, 1], .lp [1, 1, 1, 0, 1, 0, 0], .blk 0, .c [1, 1, 1, 1]] rfl ?_
    refine j_run it 7 rfl (by repeat' first | exact trivial | apply And.intro | omega) ?_
    refine j_step rfl (x_call [] rfl (S_codewrightlaw24_k (by first | omega | exact side _ (by assumption) | assumption | rfl | (simp; done) | (simp; omega)) (by first | omega | exact side _ (by assumption) | assumption | rfl | (simp; done) | (simp; omega)) (by first | omega | exact side _ (by assumption) | assumption | rfl | (simp; done) | (simp; omega)) (by first | omega | exact side _ (by assumption) | assumption | rfl | (simp; done) | (simp; omega)) (by first | omega | exact side _ (by assumption) | assumption | rfl | (simp; done) | (simp; omega))) rfl ?_)
    rintro _ _ _ ⟨pn3, cn3, pd3, cd3, rfl, rfl, rfl⟩
    simp only [List.cons_append, List.nil_append]
    refine j_run it 3 rfl (by simp) ?_
    refine j_step rfl (x_alloc zo25 fun b7 => ?_)
    refine j_step rfl (x_bst_all 0 rfl rfl rfl ld25 rfl rfl (by simp [Value.oneCell']) ?_)
    refine j_run it 1 rfl (by simp) ?_
    refine j_nf [.o [1, 1, 1, 0, 1, 0, 0, 1, 0, 0, 1, 1, 0, 0] 0, .c [1, 1, 1, 0, 1, 0, 0, 1, 0, 0, 1, 1, 0, 1], .c [1, 1, 1, 0, 1, 0, 0, 1, 0, 0, 1, 1, 1], .blk 1, .c [1, 1, 1, 0, 1, 0, 0, 1, 1], .lp [1, 1, 1, 0, 1, 0, 0], .blk 0, .c [1, 1, 1, 1]] rfl ?_
    refine j_run it 6 rfl (by simp) ?_
    refine j_nf [.c [1, 1, 1, 0, 1, 0, 0, 1, 0, 0, 1, 1, 0, 1], .c [1, 1, 1, 0, 1, 0, 0, 1, 0, 0, 1, 1, 1], .blk 1, .c [1, 1, 1, 0, 1, 0, 0, 1, 1], .lp [1, 1, 1, 0, 1, 0, 0], .blk 0, .c [1, 1, 1, 1]] rfl ?_
    refine j_false rfl rfl ?_
    refine j_nf [.c [1, 1, 1, 0, 1, 0, 0, 1, 0, 0, 1, 1, 1], .blk 1, .c [1, 1, 1, 0, 1, 0, 0, 1, 1], .lp [1, 1, 1, 0, 1, 0, 0], .blk 0, .c [1, 1, 1, 1]] rfl ?_
    (apply j_drawK it mx 16; (· rfl); (· rfl))
    (apply lxk_eq; (· rfl); (· exact d_bld_all 2 rfl rfl ld25 rfl))
    (apply lxk_run 3; (· rfl); (· exact (by repeat' first | exact trivial | apply And.intro | omega)))
    (apply lxk_rq; (· rfl); (· exact d_x fun _ => x_call [] rfl (S_codewrightlaw24_choose (by first | omega | exact side _ (by assumption) | assumption | rfl | (simp; done) | (simp; omega))) rfl (by rintro _ _ _ ⟨pn4, cn4, pd4, cd4, rfl, rfl, rfl⟩; exact (dk_rq 0 1 rfl rfl))); intro pn4 cn4 pd4 cd4)
    simp only [vq_rt']
    (apply lxk_run 2; (· rfl); (· exact (by repeat' first | exact trivial | apply And.intro | omega)))
    (apply lxk_eq (v := Value.int IntKind.i64 ((((q) - 1 : Nat)) : Int)); (· rfl); (· exact d_x fun _ => x_asN it _ rfl (by repeat' first | exact trivial | apply And.intro | omega) (by omega) dk_eq))
    (apply lxk_run 1; (· rfl); (· simp))
    (apply lxk_rq; (· rfl); (· exact d_x fun _ => x_call [] rfl (S_codewrightlaw24_pow (by first | omega | exact side _ (by assumption) | assumption | rfl | (simp; done) | (simp; omega)) (by first | omega | exact side _ (by assumption) | assumption | rfl | (simp; done) | (simp; omega))) rfl (by rintro _ _ _ ⟨pn5, cn5, pd5, cd5, rfl, rfl, rfl⟩; exact (dk_rq 0 1 rfl rfl))); intro pn5 cn5 pd5 cd5)
    simp only [vq_rt']
    (apply lxk_rq; (· rfl); (· exact d_x fun _ => x_call [2, 3, 0, 1] rfl (S_codewrightref02_Mul (by first | omega | exact side _ (by assumption) | assumption | rfl | (simp; done) | (simp; omega)) (by first | omega | exact side _ (by assumption) | assumption | rfl | (simp; done) | (simp; omega)) (by first | omega | exact side _ (by assumption) | assumption | rfl | (simp; done) | (simp; omega)) (by first | omega | exact side _ (by assumption) | assumption | rfl | (simp; done) | (simp; omega))) rfl (by rintro _ _ _ ⟨pn6, cn6, pd6, cd6, rfl, rfl, rfl⟩; exact (dk_rq 0 1 rfl rfl))); intro pn6 cn6 pd6 cd6)
    simp only [vq_rt']
    (apply lxk_eq; (· rfl); (· exact d_bld_all 1 rfl rfl ld25 rfl))
    (apply lxk_eq; (· rfl); (· exact d_bld_all 0 rfl rfl ld25 rfl))
    (apply lxk_rq; (· rfl); (· exact d_x fun _ => x_call [8, 9, 6, 7] rfl (S_codewrightref02_Mul (by first | omega | exact side _ (by assumption) | assumption | rfl | (simp; done) | (simp; omega)) (by first | omega | exact side _ (by assumption) | assumption | rfl | (simp; done) | (simp; omega)) (by first | omega | exact side _ (by assumption) | assumption | rfl | (simp; done) | (simp; omega)) (by first | omega | exact side _ (by assumption) | assumption | rfl | (simp; done) | (simp; omega))) rfl (by rintro _ _ _ ⟨pn7, cn7, pd7, cd7, rfl, rfl, rfl⟩; exact (dk_rq 0 1 rfl rfl))); intro pn7 cn7 pd7 cd7)
    simp only [vq_rt']
    (apply lxk_rq; (· rfl); (· exact d_x fun _ => x_call [2, 3, 0, 1] rfl (S_codewrightref02_Mul (by first | omega | exact side _ (by assumption) | assumption | rfl | (simp; done) | (simp; omega)) (by first | omega | exact side _ (by assumption) | assumption | rfl | (simp; done) | (simp; omega)) (by first | omega | exact side _ (by assumption) | assumption | rfl | (simp; done) | (simp; omega)) (by first | omega | exact side _ (by assumption) | assumption | rfl | (simp; done) | (simp; omega))) rfl (by rintro _ _ _ ⟨pn8, cn8, pd8, cd8, rfl, rfl, rfl⟩; exact (dk_rq 0 1 rfl rfl))); intro pn8 cn8 pd8 cd8)
    simp only [vq_rt']
    (apply lxk_rq; (· rfl); (· exact d_x fun _ => x_call [14, 15, 0, 1] rfl (S_codewrightref02_Add (by first | omega | exact side _ (by assumption) | assumption | rfl | (simp; done) | (simp; omega)) (by first | omega | exact side _ (by assumption) | assumption | rfl | (simp; done) | (simp; omega)) (by first | omega | exact side _ (by assumption) | assumption | rfl | (simp; done) | (simp; omega)) (by first | omega | exact side _ (by assumption) | assumption | rfl | (simp; done) | (simp; omega))) rfl (by rintro _ _ _ ⟨pn9, cn9, pd9, cd9, rfl, rfl, rfl⟩; exact (dk_rq 0 1 rfl rfl))); intro pn9 cn9 pd9 cd9)
    simp only [vq_rt']
    refine lxk_end rfl ?_
    simp only [List.map_cons, List.map_nil, List.cons_append, List.nil_append]
    refine j_step rfl (x_bst_all 2 rfl rfl rfl ld25 rfl rfl (by simp [Value.oneCell']) ?_)
    refine j_nf [.o [1, 1, 1, 0, 1, 0, 0, 1, 1] 0, .lp [1, 1, 1, 0, 1, 0, 0], .blk 0, .c [1, 1, 1, 1]] rfl ?_
    refine j_run it 3 rfl (by repeat' first | exact trivial | apply And.intro | omega) ?_
    refine j_nfn 1 [.lp [1, 1, 1, 0, 1, 0, 0], .blk 0, .c [1, 1, 1, 1]] rfl ?_
    rw [eT, eA]
    refine j_toM [false, false, true] [0, 1] (by repeat (first | exact Fr.sub_nil _ | refine Fr.sub_cons rfl ?_ | refine Fr.sub_consI rfl (by first | omega | (dsimp only; omega)) ?_ | refine Fr.sub_consS rfl (by first | omega | (dsimp only; omega)) (by first | omega | (dsimp only; omega)) ?_)) rfl rfl (ih (i + 1, (pn9, cn9), (pd9, cd9)) (by dsimp only; omega) (by dsimp only; omega))
  · obtain rfl : i = n + 1 := by omega
    rw [orSum (by omega), orth_eq] at lO1 lO2 ⊢
    by_cases hrs : r = s
    · subst hrs
      rw [if_pos rfl] at lO1 lO2 ⊢
      have c1 := qn_lt (show q ≤ 256 by omega) (show n ≤ 64 by omega) (Nat.le_refl 17)
      have c2 := b1 r (by omega)
      have c3 := b2 r
      obtain ⟨l1, l2⟩ := rt_nat_len c1
      obtain ⟨l3, l4⟩ := rt_nat_len c2
      obtain ⟨l5, l6⟩ := rt_nat_len c3
      obtain ⟨l7, l8⟩ := rt_mul_len (nat_lt c2) (nat_lt c3)
      have fin : rt ((((q : Int) - 1 + 1) ^ n * (((q : Int) - 1) ^ r * (binom n r : Int)) : Int) : Rat) = rt (((((q ^ n : Nat) : Int)) : Rat) * (((((q - 1) ^ r : Nat) : Int) : Rat) * (((binom n r : Nat) : Int) : Rat))) := by
        simp only [← Rat.intCast_mul, sub_one_cast (show 1 ≤ q by omega), Int.natCast_pow, Int.sub_add_cancel]
      refine j_nf [.o [1, 1, 1, 0, 1, 0, 0, 0, 0] 0, .c [1, 1, 1, 0, 1, 0, 0, 0, 1], .c [1, 1, 1, 0, 1, 0, 0, 1], .lp [1, 1, 1, 0, 1, 0, 0], .blk 0, .c [1, 1, 1, 1]] rfl ?_
      refine j_run it 4 rfl (by repeat' first | exact trivial | apply And.intro | omega) ?_
      refine j_nf [.c [1, 1, 1, 0, 1, 0, 0, 0, 1], .c [1, 1, 1, 0, 1, 0, 0, 1], .lp [1, 1, 1, 0, 1, 0, 0], .blk 0, .c [1, 1, 1, 1]] rfl ?_
      refine j_if rfl rfl (fun h9 => by exfalso; omega) (fun h9 => ?_)
      refine j_nf [.o [1, 1, 1, 1, 0, 0] 0, .c [1, 1, 1, 1, 0, 1], .c [1, 1, 1, 1, 1]] rfl ?_
      refine j_run it 3 rfl (by simp) ?_
      refine j_nf [.c [1, 1, 1, 1, 0, 1], .c [1, 1, 1, 1, 1]] rfl ?_
      refine j_ifn rfl rfl (fun h10 => by exfalso; omega) (fun h10 => ?_)
      refine j_nf [.c [1, 1, 1, 1, 1, 0], .c [1, 1, 1, 1, 1, 1]] rfl ?_
      (apply j_drawK it mx 20; (· rfl); (· rfl))
      (apply lxk_eq; (· rfl); (· exact d_bld_all 0 rfl rfl ld25 rfl))
      (apply lxk_run 4; (· rfl); (· exact (by repeat' first | exact trivial | apply And.intro | omega)))
      (apply lxk_rq; (· rfl); (· exact d_x fun _ => x_call [] rfl (S_codewrightlaw24_pow (by first | omega | exact side _ (by assumption) | assumption | rfl | (simp; done) | (simp; omega)) (by first | omega | exact side _ (by assumption) | assumption | rfl | (simp; done) | (simp; omega))) rfl (by rintro _ _ _ ⟨pn2, cn2, pd2, cd2, rfl, rfl, rfl⟩; exact (dk_rq 0 1 rfl rfl))); intro pn2 cn2 pd2 cd2)
      simp only [vq_rt']
      (apply lxk_run 2; (· rfl); (· exact (by repeat' first | exact trivial | apply And.intro | omega)))
      (apply lxk_eq (v := Value.int IntKind.i64 ((((q) - 1 : Nat)) : Int)); (· rfl); (· exact d_x fun _ => x_asN it _ rfl (by repeat' first | exact trivial | apply And.intro | omega) (by omega) dk_eq))
      (apply lxk_run 2; (· rfl); (· exact (by repeat' first | exact trivial | apply And.intro | omega)))
      (apply lxk_rq; (· rfl); (· exact d_x fun _ => x_call [] rfl (S_codewrightlaw24_pow (by first | omega | exact side _ (by assumption) | assumption | rfl | (simp; done) | (simp; omega)) (by first | omega | exact side _ (by assumption) | assumption | rfl | (simp; done) | (simp; omega))) rfl (by rintro _ _ _ ⟨pn3, cn3, pd3, cd3, rfl, rfl, rfl⟩; exact (dk_rq 0 1 rfl rfl))); intro pn3 cn3 pd3 cd3)
      simp only [vq_rt']
      (apply lxk_run 4; (· rfl); (· exact (by repeat' first | exact trivial | apply And.intro | omega)))
      (apply lxk_rq; (· rfl); (· exact d_x fun _ => x_call [] rfl (S_codewrightlaw24_choose (by first | omega | exact side _ (by assumption) | assumption | rfl | (simp; done) | (simp; omega))) rfl (by rintro _ _ _ ⟨pn4, cn4, pd4, cd4, rfl, rfl, rfl⟩; exact (dk_rq 0 1 rfl rfl))); intro pn4 cn4 pd4 cd4)
      simp only [vq_rt']
      (apply lxk_rq; (· rfl); (· exact d_x fun _ => x_call [2, 3, 0, 1] rfl (S_codewrightref02_Mul (by first | omega | exact side _ (by assumption) | assumption | rfl | (simp; done) | (simp; omega)) (by first | omega | exact side _ (by assumption) | assumption | rfl | (simp; done) | (simp; omega)) (by first | omega | exact side _ (by assumption) | assumption | rfl | (simp; done) | (simp; omega)) (by first | omega | exact side _ (by assumption) | assumption | rfl | (simp; done) | (simp; omega))) rfl (by rintro _ _ _ ⟨pn5, cn5, pd5, cd5, rfl, rfl, rfl⟩; exact (dk_rq 0 1 rfl rfl))); intro pn5 cn5 pd5 cd5)
      simp only [vq_rt']
      (apply lxk_rq; (· rfl); (· exact d_x fun _ => x_call [6, 7, 0, 1] rfl (S_codewrightref02_Mul (by first | omega | exact side _ (by assumption) | assumption | rfl | (simp; done) | (simp; omega)) (by first | omega | exact side _ (by assumption) | assumption | rfl | (simp; done) | (simp; omega)) (by first | omega | exact side _ (by assumption) | assumption | rfl | (simp; done) | (simp; omega)) (by first | omega | exact side _ (by assumption) | assumption | rfl | (simp; done) | (simp; omega))) rfl (by rintro _ _ _ ⟨pn6, cn6, pd6, cd6, rfl, rfl, rfl⟩; exact (dk_rq 0 1 rfl rfl))); intro pn6 cn6 pd6 cd6)
      simp only [vq_rt']
      (apply lxk_eq; (· rfl); (· exact d_x fun _ => x_call [10, 11, 0, 1] rfl (S_codewrightref02_Same) rfl (by rintro _ _ _ ⟨rfl, rfl, rfl⟩; exact dk_eq)))
      simp only [vq_rt']
      refine lxk_end rfl ?_
      simp only [List.map_cons, List.map_nil, List.cons_append, List.nil_append]
      refine j_run it 1 rfl (by simp) ?_
      refine j_nf [.c [1, 1, 1, 1, 1, 1]] rfl ?_
      rw [decide_eq_true fin]
      refine j_giv [] rfl rfl rfl ⟨rfl, rfl, rfl⟩
    · rw [if_neg hrs] at lO1 lO2 ⊢
      refine j_nf [.o [1, 1, 1, 0, 1, 0, 0, 0, 0] 0, .c [1, 1, 1, 0, 1, 0, 0, 0, 1], .c [1, 1, 1, 0, 1, 0, 0, 1], .lp [1, 1, 1, 0, 1, 0, 0], .blk 0, .c [1, 1, 1, 1]] rfl ?_
      refine j_run it 4 rfl (by repeat' first | exact trivial | apply And.intro | omega) ?_
      refine j_nf [.c [1, 1, 1, 0, 1, 0, 0, 0, 1], .c [1, 1, 1, 0, 1, 0, 0, 1], .lp [1, 1, 1, 0, 1, 0, 0], .blk 0, .c [1, 1, 1, 1]] rfl ?_
      refine j_if rfl rfl (fun h9 => by exfalso; omega) (fun h9 => ?_)
      refine j_nf [.o [1, 1, 1, 1, 0, 0] 0, .c [1, 1, 1, 1, 0, 1], .c [1, 1, 1, 1, 1]] rfl ?_
      refine j_run it 3 rfl (by simp) ?_
      refine j_nf [.c [1, 1, 1, 1, 0, 1], .c [1, 1, 1, 1, 1]] rfl ?_
      refine j_ifn rfl rfl (fun h10 => ?_) (fun h10 => by exfalso; omega)
      refine j_nf [.o [1, 1, 1, 1, 0, 1, 0, 0] 0, .c [1, 1, 1, 1, 0, 1, 0, 1], .c [1, 1, 1, 1, 1]] rfl ?_
      refine j_step rfl (x_bld_all 0 rfl rfl ld25 rfl ?_)
      refine j_step rfl (x_call [0, 1] rfl (S_codewrightref02_Sign (by first | omega | exact side _ (by assumption) | assumption | rfl | (simp; done) | (simp; omega)) (by first | omega | exact side _ (by assumption) | assumption | rfl | (simp; done) | (simp; omega))) rfl ?_)
      rintro _ _ _ ⟨rfl, rfl, rfl⟩
      simp only [List.cons_append, List.nil_append]
      simp only [vq_rt']
      refine j_run it 2 rfl (by simp) ?_
      refine j_nf [.c [1, 1, 1, 1, 0, 1, 0, 1], .c [1, 1, 1, 1, 1]] rfl ?_
      rw [decide_eq_true (show ((0 : Int) : Rat).num.sign = 0 from rfl)]
      refine j_giv [] rfl rfl rfl ⟨rfl, rfl, rfl⟩

theorem op5 : Opens Try.prog 5 (encNat .u8 1) := opens_nat rfl rfl rfl (fun n h => h.1)

theorem macwilliamsOrthogonal_says : LawSays Try.prog 5 Try.f5 := by
  intro W args h
  have h : Args Try.prog W [5, 5, 5, 5] args := h
  match args, h with
  | [v0, v1, v2, v3], ⟨h0, h1, h2, h3, _⟩ =>
    obtain ⟨q, rfl, r0⟩ := h0.int Try.underlying5
    obtain ⟨n, rfl, r1⟩ := h1.int Try.underlying5
    obtain ⟨r, rfl, r2⟩ := h2.int Try.underlying5
    obtain ⟨s, rfl, r3⟩ := h3.int Try.underlying5
    simp only [InR] at r0
    obtain ⟨q, rfl⟩ : ∃ a : Nat, q = a := ⟨q.toNat, by omega⟩
    simp only [InR] at r1
    obtain ⟨n, rfl⟩ : ∃ a : Nat, n = a := ⟨n.toNat, by omega⟩
    simp only [InR] at r2
    obtain ⟨r, rfl⟩ : ∃ a : Nat, r = a := ⟨r.toNat, by omega⟩
    simp only [InR] at r3
    obtain ⟨s, rfl⟩ : ∃ a : Nat, s = a := ⟨s.toNat, by omega⟩
    refine law_of_gives (S_MacwilliamsOrthogonal (by omega) (by omega) (by omega) (by omega)) (fun v Φ β h => h.1) ?_
    intro g hg
    cases hg


/-! ### The row -/

theorem macwilliamsOrthogonal_lifted (os : Os) (started : os.Started) (H : Type) (enc : TypeId × Value → H) :
    ReturnsInHanded {} Try.checked os 5 .any (Rows.macwilliamsOrthogonalSpec.pre6 enc Try.prog Try.f5 Rows.macwilliamsOrthogonalRow.domain false) (Rows.macwilliamsOrthogonalSpec.post enc Try.prog Try.f5 false true false false) :=
  law_lift (C := Try.checked) (by kernel_rfl) started (by kernel_rfl) Try.func5
    (ChangeSpec.witness6 (enc := enc) (C := Try.checked) false ⟨#[], #[.int .u8 0, .int .u8 0, .int .u8 0, .int .u8 0], []⟩ 8 (by kernel_rfl) (by kernel_rfl) (by kernel_rfl) (by kernel_rfl))
    (by kernel_rfl) rfl (by kernel_rfl) rfl Try.underlying4 (fun ds h => match ds, h with | [d0, d1, d2, d3], _ => rfl) macwilliamsOrthogonal_says

theorem macwilliamsOrthogonal_holds : Rows.MacwilliamsOrthogonalSaid :=
  OpenClaim.holds_of_wide 5 Try.f5 rfl rfl rfl rfl rfl rfl rfl ⟨rfl, rfl, rfl, rfl, rfl⟩ rfl rfl rfl rfl rfl (by kernel_rfl) Try.func5 (by kernel_rfl)
    (of_decide_eq_true (by kernel_rfl)) (by unfold Func.isWrapper; first | (rw [if_pos (by decide +kernel)]; kernel_rfl) | (rw [if_neg (by decide +kernel)]; exact ⟨rfl, rfl⟩))
    (fun os started H enc _ => macwilliamsOrthogonal_lifted os started H enc)
#print axioms macwilliamsOrthogonal_holds
end Go.Proofs.Ytamkmihhpadamaa
