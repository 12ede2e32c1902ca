/-
MacwilliamsReciprocal returns true: degree and argument of the program's Krawtchouk values change places with their weights.
-/
import Derived.Test.YtamkmihhpadamaaRows
import Derived.ProofKit
import Derived.JoinedOf
import Derived.Test.YtamkmihhpadamaaHB5
namespace Go.Proofs.Ytamkmihhpadamaa
open Go Go.Fw
set_option maxRecDepth 100000
set_option linter.unusedVariables false
set_option linter.unusedSimpArgs false
set_option maxHeartbeats 4000000
theorem S_MacwilliamsReciprocal {q n i s : Nat} (hq : q ≤ 255) (hn : n ≤ 255) (hi : i ≤ 255) (hs : s ≤ 255) :
    Ctr Try.prog 6 [.int .u8 q, .int .u8 n, .int .u8 i, .int .u8 s] [] [] (Rv (.bool true) []) := by
  refine Ctr_of_j' (F := F_codewrightlaw24_MacwilliamsReciprocal) rfl fun C => ?_
  by_cases h1 : q < 2
  · refine j_nf [.o [0] 0, .c [1]] rfl ?_
    refine j_run it 1 rfl (by simp) ?_
    refine j_nf [.o [1, 0, 0] 0, .c [1, 0, 1], .c [1, 1]] rfl ?_
    refine j_run it 3 rfl (by simp) ?_
    refine j_split_dec (t := 17) rfl (fun h2 => ?_) (fun h2 => by exfalso; omega)
    refine j_run it 13 rfl (by simp) ?_
    refine j_nf [.c [1, 0, 1], .c [1, 1]] rfl ?_
    refine j_true rfl rfl ?_
    refine j_nf [.o [1, 0, 1, 0, 0] 0, .c [1, 0, 1, 0, 1], .c [1, 1]] rfl ?_
    refine j_run it 1 rfl (by simp) ?_
    refine j_nf [.c [1, 0, 1, 0, 1], .c [1, 1]] rfl ?_
    refine j_giv [] rfl rfl rfl ⟨rfl, rfl, rfl⟩
  by_cases h2 : 32 < n
  · refine j_nf [.o [0] 0, .c [1]] rfl ?_
    refine j_run it 1 rfl (by simp) ?_
    refine j_nf [.o [1, 0, 0] 0, .c [1, 0, 1], .c [1, 1]] rfl ?_
    refine j_run it 3 rfl (by simp) ?_
    refine j_split_dec (t := 17) rfl (fun h3 => by exfalso; omega) (fun h3 => ?_)
    refine j_run it 4 rfl (by simp) ?_
    refine j_split_dec (t := 21) rfl (fun h4 => ?_) (fun h4 => by exfalso; omega)
    refine j_run it 9 rfl (by simp) ?_
    refine j_nf [.c [1, 0, 1], .c [1, 1]] rfl ?_
    refine j_true rfl rfl ?_
    refine j_nf [.o [1, 0, 1, 0, 0] 0, .c [1, 0, 1, 0, 1], .c [1, 1]] rfl ?_
    refine j_run it 1 rfl (by simp) ?_
    refine j_nf [.c [1, 0, 1, 0, 1], .c [1, 1]] rfl ?_
    refine j_giv [] rfl rfl rfl ⟨rfl, rfl, rfl⟩
  by_cases h3 : n < i
  · refine j_nf [.o [0] 0, .c [1]] rfl ?_
    refine j_run it 1 rfl (by simp) ?_
    refine j_nf [.o [1, 0, 0] 0, .c [1, 0, 1], .c [1, 1]] rfl ?_
    refine j_run it 3 rfl (by simp) ?_
    refine j_split_dec (t := 17) rfl (fun h4 => by exfalso; omega) (fun h4 => ?_)
    refine j_run it 4 rfl (by simp) ?_
    refine j_split_dec (t := 21) rfl (fun h5 => by exfalso; omega) (fun h5 => ?_)
    refine j_run it 5 rfl (by simp) ?_
    refine j_split_dec (t := 26) rfl (fun h6 => ?_) (fun h6 => by exfalso; omega)
    refine j_run it 4 rfl (by simp) ?_
    refine j_nf [.c [1, 0, 1], .c [1, 1]] rfl ?_
    refine j_true rfl rfl ?_
    refine j_nf [.o [1, 0, 1, 0, 0] 0, .c [1, 0, 1, 0, 1], .c [1, 1]] rfl ?_
    refine j_run it 1 rfl (by simp) ?_
    refine j_nf [.c [1, 0, 1, 0, 1], .c [1, 1]] rfl ?_
    refine j_giv [] rfl rfl rfl ⟨rfl, rfl, rfl⟩
  by_cases h4 : n < s
  · refine j_nf [.o [0] 0, .c [1]] rfl ?_
    refine j_run it 1 rfl (by simp) ?_
    refine j_nf [.o [1, 0, 0] 0, .c [1, 0, 1], .c [1, 1]] rfl ?_
    refine j_run it 3 rfl (by simp) ?_
    refine j_split_dec (t := 17) rfl (fun h5 => by exfalso; omega) (fun h5 => ?_)
    refine j_run it 4 rfl (by simp) ?_
    refine j_split_dec (t := 21) rfl (fun h6 => by exfalso; omega) (fun h6 => ?_)
    refine j_run it 5 rfl (by simp) ?_
    refine j_split_dec (t := 26) rfl (fun h7 => by exfalso; omega) (fun h7 => ?_)
    refine j_run it 4 rfl (by simp) ?_
    refine j_nf [.c [1, 0, 1], .c [1, 1]] rfl ?_
    refine j_if rfl rfl (fun h8 => ?_) (fun h8 => by exfalso; omega)
    refine j_nf [.o [1, 0, 1, 0, 0] 0, .c [1, 0, 1, 0, 1], .c [1, 1]] rfl ?_
    refine j_run it 1 rfl (by simp) ?_
    refine j_nf [.c [1, 0, 1, 0, 1], .c [1, 1]] rfl ?_
    refine j_giv [] rfl rfl rfl ⟨rfl, rfl, rfl⟩
  have hm1 : InR .i64 (-1) := by simp [InR]
  have one : rt ((kr (((2 : Nat) : Int) - 1) 1 1 1 : Int) : Rat) = rt (((-1 : Int) : Rat)) := rfl
  have b1 := qn_lt (show q - 1 ≤ 256 by omega) (show i ≤ 64 by omega) (Nat.le_refl 17)
  have b2 := qn_lt (show q - 1 ≤ 256 by omega) (show s ≤ 64 by omega) (Nat.le_refl 17)
  have b3 := binom_lt (show n ≤ 64 by omega) i
  have b4 := binom_lt (show n ≤ 64 by omega) s
  obtain ⟨l1, l2⟩ := rt_nat_len b1
  obtain ⟨l3, l4⟩ := rt_nat_len b2
  obtain ⟨l5, l6⟩ := rt_nat_len b3
  obtain ⟨l7, l8⟩ := rt_nat_len b4
  obtain ⟨l9, l10⟩ := rt_int_len (kr_lt (show 2 ≤ q by omega) (show q ≤ 256 by omega) (show n ≤ 64 by omega) (show i ≤ n by omega) (k := s))
  obtain ⟨l11, l12⟩ := rt_int_len (kr_lt (show 2 ≤ q by omega) (show q ≤ 256 by omega) (show n ≤ 64 by omega) (show s ≤ n by omega) (k := i))
  obtain ⟨l13, l14⟩ := rt_mul_len (nat_lt b1) (nat_lt b3)
  obtain ⟨l15, l16⟩ := rt_mul_len (nat_lt b2) (nat_lt b4)
  have fin : rt (((kr ((q : Int) - 1) n s i : Int) : Rat) * (((((q - 1) ^ i : Nat) : Int) : Rat) * (((binom n i : Nat) : Int) : Rat))) = rt (((kr ((q : Int) - 1) n i s : Int) : Rat) * (((((q - 1) ^ s : Nat) : Int) : Rat) * (((binom n s : Nat) : Int) : Rat))) := by
    simp only [← Rat.intCast_mul, sub_one_cast (show 1 ≤ q by omega)]
    rw [recip _ n i s (by omega) (by omega)]
  refine j_nf [.o [0] 0, .c [1]] rfl ?_
  refine j_run it 1 rfl (by simp) ?_
  refine j_nf [.o [1, 0, 0] 0, .c [1, 0, 1], .c [1, 1]] rfl ?_
  refine j_run it 3 rfl (by simp) ?_
  refine j_split_dec (t := 17) rfl (fun h5 => by exfalso; omega) (fun h5 => ?_)
  refine j_run it 4 rfl (by simp) ?_
  refine j_split_dec (t := 21) rfl (fun h6 => by exfalso; omega) (fun h6 => ?_)
  refine j_run it 5 rfl (by simp) ?_
  refine j_split_dec (t := 26) rfl (fun h7 => by exfalso; omega) (fun h7 => ?_)
  refine j_run it 4 rfl (by simp) ?_
  refine j_nf [.c [1, 0, 1], .c [1, 1]] rfl ?_
  refine j_if rfl rfl (fun h8 => by exfalso; omega) (fun h8 => ?_)
  refine j_nf [.o [1, 1, 0] 0, .c [1, 1, 1]] rfl ?_
  refine j_run it 8 rfl (by repeat' first | exact trivial | apply And.intro | omega) ?_
  refine j_step rfl (x_call [] rfl (S_codewrightlaw24_k (by first | omega | exact side _ (by assumption) | assumption | rfl | (simp; done) | (simp; omega)) (by first | omega | exact side _ (by assumption) | assumption | rfl | (simp; done) | (simp; omega)) (by first | omega | exact side _ (by assumption) | assumption | rfl | (simp; done) | (simp; omega)) (by first | omega | exact side _ (by assumption) | assumption | rfl | (simp; done) | (simp; omega)) (by first | omega | exact side _ (by assumption) | assumption | rfl | (simp; done) | (simp; omega))) rfl ?_)
  rintro _ _ _ ⟨pn1, cn1, pd1, cd1, rfl, rfl, rfl⟩
  simp only [List.cons_append, List.nil_append]
  refine j_run it 3 rfl (by simp) ?_
  refine j_step rfl (x_alloc zo25 fun b5 => ?_)
  refine j_step rfl (x_bst_all 0 rfl rfl rfl ld25 rfl rfl (by simp [Value.oneCell']) ?_)
  refine j_run it 1 rfl (by simp) ?_
  refine j_nf [.o [1, 1, 1, 0] 0, .c [1, 1, 1, 1]] rfl ?_
  refine j_run it 8 rfl (by repeat' first | exact trivial | apply And.intro | omega) ?_
  refine j_step rfl (x_call [] rfl (S_codewrightlaw24_k (by first | omega | exact side _ (by assumption) | assumption | rfl | (simp; done) | (simp; omega)) (by first | omega | exact side _ (by assumption) | assumption | rfl | (simp; done) | (simp; omega)) (by first | omega | exact side _ (by assumption) | assumption | rfl | (simp; done) | (simp; omega)) (by first | omega | exact side _ (by assumption) | assumption | rfl | (simp; done) | (simp; omega)) (by first | omega | exact side _ (by assumption) | assumption | rfl | (simp; done) | (simp; omega))) rfl ?_)
  rintro _ _ _ ⟨pn2, cn2, pd2, cd2, rfl, rfl, rfl⟩
  simp only [List.cons_append, List.nil_append]
  refine j_run it 3 rfl (by simp) ?_
  refine j_step rfl (x_alloc zo25 fun b6 => ?_)
  refine j_step rfl (x_bst_all 0 rfl rfl rfl ld25 rfl rfl (by simp [Value.oneCell']) ?_)
  refine j_run it 1 rfl (by simp) ?_
  refine j_nf [.o [1, 1, 1, 1, 0] 0, .c [1, 1, 1, 1, 1]] rfl ?_
  refine j_step rfl (x_call [] rfl (S_codewrightlaw24_k (by first | omega | exact side _ (by assumption) | assumption | rfl | (simp; done) | (simp; omega)) (by first | omega | exact side _ (by assumption) | assumption | rfl | (simp; done) | (simp; omega)) (by first | omega | exact side _ (by assumption) | assumption | rfl | (simp; done) | (simp; omega)) (by first | omega | exact side _ (by assumption) | assumption | rfl | (simp; done) | (simp; omega)) (by first | omega | exact side _ (by assumption) | assumption | rfl | (simp; done) | (simp; omega))) rfl ?_)
  rintro _ _ _ ⟨pn3, cn3, pd3, cd3, rfl, rfl, rfl⟩
  simp only [List.cons_append, List.nil_append]
  refine j_run it 3 rfl (by simp) ?_
  refine j_step rfl (x_alloc zo25 fun b7 => ?_)
  refine j_step rfl (x_bst_all 0 rfl rfl rfl ld25 rfl rfl (by simp [Value.oneCell']) ?_)
  refine j_run it 1 rfl (by simp) ?_
  refine j_nf [.c [1, 1, 1, 1, 1, 0, 0], .c [1, 1, 1, 1, 1, 0, 1], .c [1, 1, 1, 1, 1, 1]] rfl ?_
  (apply j_drawK it mx 16; (· rfl); (· rfl))
  (apply lxk_run 11; (· rfl); (· simp))
  (apply lxk_eq; (· rfl); (· exact d_bld_all 0 rfl rfl ld25 rfl))
  (apply lxk_rq; (· rfl); (· exact d_x fun _ => x_call [] rfl (S_codewrightref02_Int (by first | omega | exact side _ (by assumption) | assumption | rfl | (simp; done) | (simp; omega))) rfl (by rintro _ _ _ ⟨pn4, cn4, pd4, cd4, rfl, rfl, rfl⟩; exact (dk_rq 0 1 rfl rfl))); intro pn4 cn4 pd4 cd4)
  simp only [vq_rt']
  (apply lxk_eq; (· rfl); (· exact d_x fun _ => x_call [2, 3, 0, 1] rfl (S_codewrightref02_Same) rfl (by rintro _ _ _ ⟨rfl, rfl, rfl⟩; exact dk_eq)))
  simp only [vq_rt']
  (apply lxk_run 2; (· rfl); (· simp))
  refine lxk_end rfl ?_
  simp only [List.map_cons, List.map_nil, List.cons_append, List.nil_append]
  refine j_nf [.c [1, 1, 1, 1, 1, 0, 1], .c [1, 1, 1, 1, 1, 1]] rfl ?_
  refine j_ifn rfl rfl (fun h9 => ?_) (fun h9 => ?_)
  · exact (h9 one).elim
  · refine j_nf [.c [1, 1, 1, 1, 1, 1, 0], .c [1, 1, 1, 1, 1, 1, 1]] rfl ?_
    (apply j_drawK it mx 29; (· rfl); (· rfl))
    (apply lxk_eq; (· rfl); (· exact d_bld_all 2 rfl rfl ld25 rfl))
    (apply lxk_run 2; (· rfl); (· exact (by repeat' first | exact trivial | apply And.intro | omega)))
    (apply lxk_eq (v := Value.int IntKind.i64 ((((q) - 1 : Nat)) : Int)); (· rfl); (· exact d_x fun _ => x_asN it _ rfl (by repeat' first | exact trivial | apply And.intro | omega) (by omega) dk_eq))
    (apply lxk_run 2; (· rfl); (· exact (by repeat' first | exact trivial | apply And.intro | omega)))
    (apply lxk_rq; (· rfl); (· exact d_x fun _ => x_call [] rfl (S_codewrightlaw24_pow (by first | omega | exact side _ (by assumption) | assumption | rfl | (simp; done) | (simp; omega)) (by first | omega | exact side _ (by assumption) | assumption | rfl | (simp; done) | (simp; omega))) rfl (by rintro _ _ _ ⟨pn5, cn5, pd5, cd5, rfl, rfl, rfl⟩; exact (dk_rq 0 1 rfl rfl))); intro pn5 cn5 pd5 cd5)
    simp only [vq_rt']
    (apply lxk_run 4; (· rfl); (· exact (by repeat' first | exact trivial | apply And.intro | omega)))
    (apply lxk_rq; (· rfl); (· exact d_x fun _ => x_call [] rfl (S_codewrightlaw24_choose (by first | omega | exact side _ (by assumption) | assumption | rfl | (simp; done) | (simp; omega))) rfl (by rintro _ _ _ ⟨pn6, cn6, pd6, cd6, rfl, rfl, rfl⟩; exact (dk_rq 0 1 rfl rfl))); intro pn6 cn6 pd6 cd6)
    simp only [vq_rt']
    (apply lxk_rq; (· rfl); (· exact d_x fun _ => x_call [2, 3, 0, 1] rfl (S_codewrightref02_Mul (by first | omega | exact side _ (by assumption) | assumption | rfl | (simp; done) | (simp; omega)) (by first | omega | exact side _ (by assumption) | assumption | rfl | (simp; done) | (simp; omega)) (by first | omega | exact side _ (by assumption) | assumption | rfl | (simp; done) | (simp; omega)) (by first | omega | exact side _ (by assumption) | assumption | rfl | (simp; done) | (simp; omega))) rfl (by rintro _ _ _ ⟨pn7, cn7, pd7, cd7, rfl, rfl, rfl⟩; exact (dk_rq 0 1 rfl rfl))); intro pn7 cn7 pd7 cd7)
    simp only [vq_rt']
    (apply lxk_rq; (· rfl); (· exact d_x fun _ => x_call [12, 13, 0, 1] rfl (S_codewrightref02_Mul (by first | omega | exact side _ (by assumption) | assumption | rfl | (simp; done) | (simp; omega)) (by first | omega | exact side _ (by assumption) | assumption | rfl | (simp; done) | (simp; omega)) (by first | omega | exact side _ (by assumption) | assumption | rfl | (simp; done) | (simp; omega)) (by first | omega | exact side _ (by assumption) | assumption | rfl | (simp; done) | (simp; omega))) rfl (by rintro _ _ _ ⟨pn8, cn8, pd8, cd8, rfl, rfl, rfl⟩; exact (dk_rq 0 1 rfl rfl))); intro pn8 cn8 pd8 cd8)
    simp only [vq_rt']
    (apply lxk_eq; (· rfl); (· exact d_bld_all 1 rfl rfl ld25 rfl))
    (apply lxk_run 2; (· rfl); (· exact (by repeat' first | exact trivial | apply And.intro | omega)))
    (apply lxk_eq (v := Value.int IntKind.i64 ((((q) - 1 : Nat)) : Int)); (· rfl); (· exact d_x fun _ => x_asN it _ rfl (by repeat' first | exact trivial | apply And.intro | omega) (by omega) dk_eq))
    (apply lxk_run 2; (· rfl); (· exact (by repeat' first | exact trivial | apply And.intro | omega)))
    (apply lxk_rq; (· rfl); (· exact d_x fun _ => x_call [] rfl (S_codewrightlaw24_pow (by first | omega | exact side _ (by assumption) | assumption | rfl | (simp; done) | (simp; omega)) (by first | omega | exact side _ (by assumption) | assumption | rfl | (simp; done) | (simp; omega))) rfl (by rintro _ _ _ ⟨pn9, cn9, pd9, cd9, rfl, rfl, rfl⟩; exact (dk_rq 0 1 rfl rfl))); intro pn9 cn9 pd9 cd9)
    simp only [vq_rt']
    (apply lxk_run 4; (· rfl); (· exact (by repeat' first | exact trivial | apply And.intro | omega)))
    (apply lxk_rq; (· rfl); (· exact d_x fun _ => x_call [] rfl (S_codewrightlaw24_choose (by first | omega | exact side _ (by assumption) | assumption | rfl | (simp; done) | (simp; omega))) rfl (by rintro _ _ _ ⟨pn10, cn10, pd10, cd10, rfl, rfl, rfl⟩; exact (dk_rq 0 1 rfl rfl))); intro pn10 cn10 pd10 cd10)
    simp only [vq_rt']
    (apply lxk_rq; (· rfl); (· exact d_x fun _ => x_call [2, 3, 0, 1] rfl (S_codewrightref02_Mul (by first | omega | exact side _ (by assumption) | assumption | rfl | (simp; done) | (simp; omega)) (by first | omega | exact side _ (by assumption) | assumption | rfl | (simp; done) | (simp; omega)) (by first | omega | exact side _ (by assumption) | assumption | rfl | (simp; done) | (simp; omega)) (by first | omega | exact side _ (by assumption) | assumption | rfl | (simp; done) | (simp; omega))) rfl (by rintro _ _ _ ⟨pn11, cn11, pd11, cd11, rfl, rfl, rfl⟩; exact (dk_rq 0 1 rfl rfl))); intro pn11 cn11 pd11 cd11)
    simp only [vq_rt']
    (apply lxk_rq; (· rfl); (· exact d_x fun _ => x_call [18, 19, 0, 1] rfl (S_codewrightref02_Mul (by first | omega | exact side _ (by assumption) | assumption | rfl | (simp; done) | (simp; omega)) (by first | omega | exact side _ (by assumption) | assumption | rfl | (simp; done) | (simp; omega)) (by first | omega | exact side _ (by assumption) | assumption | rfl | (simp; done) | (simp; omega)) (by first | omega | exact side _ (by assumption) | assumption | rfl | (simp; done) | (simp; omega))) rfl (by rintro _ _ _ ⟨pn12, cn12, pd12, cd12, rfl, rfl, rfl⟩; exact (dk_rq 0 1 rfl rfl))); intro pn12 cn12 pd12 cd12)
    simp only [vq_rt']
    (apply lxk_eq; (· rfl); (· exact d_x fun _ => x_call [8, 9, 0, 1] rfl (S_codewrightref02_Same) rfl (by rintro _ _ _ ⟨rfl, rfl, rfl⟩; exact dk_eq)))
    simp only [vq_rt']
    refine lxk_end rfl ?_
    simp only [List.map_cons, List.map_nil, List.cons_append, List.nil_append]
    refine j_run it 1 rfl (by simp) ?_
    refine j_nf [.c [1, 1, 1, 1, 1, 1, 1]] rfl ?_
    rw [decide_eq_true fin]
    refine j_giv [] rfl rfl rfl ⟨rfl, rfl, rfl⟩

theorem op5 : Opens Try.prog 5 (encNat .u8 1) := opens_nat rfl rfl rfl (fun n h => h.1)

theorem macwilliamsReciprocal_says : LawSays Try.prog 6 Try.f6 := by
  intro W args h
  have h : Args Try.prog W [5, 5, 5, 5] args := h
  match args, h with
  | [v0, v1, v2, v3], ⟨h0, h1, h2, h3, _⟩ =>
    obtain ⟨q, rfl, r0⟩ := h0.int Try.underlying5
    obtain ⟨n, rfl, r1⟩ := h1.int Try.underlying5
    obtain ⟨i, rfl, r2⟩ := h2.int Try.underlying5
    obtain ⟨s, rfl, r3⟩ := h3.int Try.underlying5
    simp only [InR] at r0
    obtain ⟨q, rfl⟩ : ∃ a : Nat, q = a := ⟨q.toNat, by omega⟩
    simp only [InR] at r1
    obtain ⟨n, rfl⟩ : ∃ a : Nat, n = a := ⟨n.toNat, by omega⟩
    simp only [InR] at r2
    obtain ⟨i, rfl⟩ : ∃ a : Nat, i = a := ⟨i.toNat, by omega⟩
    simp only [InR] at r3
    obtain ⟨s, rfl⟩ : ∃ a : Nat, s = a := ⟨s.toNat, by omega⟩
    refine law_of_gives (S_MacwilliamsReciprocal (by omega) (by omega) (by omega) (by omega)) (fun v Φ β h => h.1) ?_
    intro g hg
    cases hg


/-! ### The row -/

theorem macwilliamsReciprocal_lifted (os : Os) (started : os.Started) (H : Type) (enc : TypeId × Value → H) :
    ReturnsInHanded {} Try.checked os 6 .any (Rows.macwilliamsReciprocalSpec.pre6 enc Try.prog Try.f6 Rows.macwilliamsReciprocalRow.domain false) (Rows.macwilliamsReciprocalSpec.post enc Try.prog Try.f6 false true false false) :=
  law_lift (C := Try.checked) (by kernel_rfl) started (by kernel_rfl) Try.func6
    (ChangeSpec.witness6 (enc := enc) (C := Try.checked) false ⟨#[], #[.int .u8 0, .int .u8 0, .int .u8 0, .int .u8 0], []⟩ 8 (by kernel_rfl) (by kernel_rfl) (by kernel_rfl) (by kernel_rfl))
    (by kernel_rfl) rfl (by kernel_rfl) rfl Try.underlying4 (fun ds h => match ds, h with | [d0, d1, d2, d3], _ => rfl) macwilliamsReciprocal_says

theorem macwilliamsReciprocal_holds : Rows.MacwilliamsReciprocalSaid :=
  OpenClaim.holds_of_wide 6 Try.f6 rfl rfl rfl rfl rfl rfl rfl ⟨rfl, rfl, rfl, rfl, rfl⟩ rfl rfl rfl rfl rfl (by kernel_rfl) Try.func6 (by kernel_rfl)
    (of_decide_eq_true (by kernel_rfl)) (by unfold Func.isWrapper; first | (rw [if_pos (by decide +kernel)]; kernel_rfl) | (rw [if_neg (by decide +kernel)]; exact ⟨rfl, rfl⟩))
    (fun os started H enc _ => macwilliamsReciprocal_lifted os started H enc)
#print axioms macwilliamsReciprocal_holds
end Go.Proofs.Ytamkmihhpadamaa
