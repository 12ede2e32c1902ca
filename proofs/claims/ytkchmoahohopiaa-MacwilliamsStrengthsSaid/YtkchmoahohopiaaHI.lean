/-
MacwilliamsStrengths returns true: External of the program is the number of distances of the dual.
-/
import Derived.Test.YtkchmoahohopiaaRows
import Derived.ProofKit
import Derived.JoinedOf
import Derived.Test.YtkchmoahohopiaaHI6
namespace Go.Proofs.Ytkchmoahohopiaa
open Go Go.Fw
set_option maxRecDepth 100000
set_option linter.unusedVariables false
set_option linter.unusedSimpArgs false
set_option maxHeartbeats 4000000
theorem okN_longS {m : Nat} {L : List (List Nat)} (h : longL m L = false) (hr : ∀ l ∈ L, ∀ x ∈ l, x < 4294967296) : ∀ l ∈ L, okN m l := fun l hl => by
  have := List.any_eq_false.1 h l hl
  simp only [decide_eq_true_eq] at this
  exact ⟨hr l hl, by omega⟩

theorem S_MacwilliamsStrengths {q : Int} {pa : Option Addr} {n ca : Nat} {L : List (List Nat)} : Ctr Try.prog 4 [.int .i64 q, .slice pa n ca] [] [slF NatE pa n ca L] (Rv (.bool true) []) := by
  refine Ctr_of_j' (F := F_codewrightlaw24_MacwilliamsStrengths) rfl fun C => ?_
  refine j_len 0 rfl fun hn hb _ => ?_
  have hb' : L.length * 24 ≤ 140737488355328 := hb
  refine rows_range 0 rfl fun hr => ?_
  refine j_nf [.o [0] 0, .c [1]] rfl ?_
  refine j_run it 1 rfl (by simp) ?_
  refine j_nf [.o [1, 0, 0] 0, .c [1, 0, 1], .c [1, 1]] rfl ?_
  refine j_run it 1 rfl (by simp) ?_
  refine j_step rfl (x_call [0] rfl (S_codewrightlaw24_long) rfl ?_)
  rintro _ _ _ ⟨rfl, rfl, rfl⟩
  simp only [List.cons_append, List.nil_append]
  refine j_nf [.c [1, 0, 1], .c [1, 1]] rfl ?_
  refine j_cond rfl rfl (fun h1 => ?_) (fun h1 => ?_)
  · refine j_nf [.o [1, 0, 1, 0, 0] 0, .c [1, 0, 1, 0, 1], .c [1, 1]] rfl ?_
    refine j_run it 1 rfl (by simp) ?_
    refine j_nf [.c [1, 0, 1, 0, 1], .c [1, 1]] rfl ?_
    refine j_giv [] rfl rfl rfl ⟨rfl, rfl, rfl⟩
  · have hlf : longL 8 L = false := by assumption
    have hok   := okN_longS hlf hr
    have hK : 8 ≤ 10000 := by decide
    have hK2 : 8 ≤ 9000 := by decide
    by_cases hmid : 20 < n ∧ n ≤ 65
    · obtain ⟨m1, m2⟩ := hmid
      refine j_nf [.o [1, 1, 0, 0] 0, .c [1, 1, 0, 1], .c [1, 1, 1]] rfl ?_
      refine j_run it 1 rfl (by simp) ?_
      refine j_step rfl (x_len sl22 rfl ?_)
      refine j_run it 2 rfl (by simp) ?_
      refine j_split_dec (t := 15) rfl (fun h2 => ?_) (fun h2 => by exfalso; omega)
      refine j_run it 1 rfl (by simp) ?_
      refine j_gstep rfl rfl (x_len sl22 rfl ?_)
      refine j_run it 2 rfl (by simp) ?_
      refine j_nf [.c [1, 1, 0, 1], .c [1, 1, 1]] rfl ?_
      refine j_if rfl rfl (fun h3 => ?_) (fun h3 => by exfalso; omega)
      refine j_nf [.o [1, 1, 0, 1, 0, 0] 0, .c [1, 1, 0, 1, 0, 1], .c [1, 1, 1]] rfl ?_
      refine j_run it 1 rfl (by simp) ?_
      refine j_nf [.c [1, 1, 0, 1, 0, 1], .c [1, 1, 1]] rfl ?_
      refine j_giv [] rfl rfl rfl ⟨rfl, rfl, rfl⟩
    · by_cases hd : DE q n L = 0
      · obtain ⟨d1, d2, d3, d4⟩ := DE_zero hd
        have hn20 : n ≤ 20 := by omega
        have hle := leP_le L (n - 1)
        by_cases h0 : leP L (n - 1) = 0
        · have e1 : stV q n L = 0 := by rw [stV, if_neg (not_not_intro hd), if_pos h0]
          have e2 : stE q n L = 11 := by rw [stE, if_neg (not_not_intro hd), if_pos h0]
          refine j_nf [.o [1, 1, 0, 0] 0, .c [1, 1, 0, 1], .c [1, 1, 1]] rfl ?_
          refine j_run it 1 rfl (by simp) ?_
          refine j_step rfl (x_len sl22 rfl ?_)
          refine j_run it 2 rfl (by simp) ?_
          refine j_split_dec (t := 15) rfl (fun h2 => by exfalso; omega) (fun h2 => ?_)
          refine j_run it 4 rfl (by simp) ?_
          refine j_nf [.c [1, 1, 0, 1], .c [1, 1, 1]] rfl ?_
          refine j_false rfl rfl ?_
          refine j_nf [.o [1, 1, 1, 0] 0, .c [1, 1, 1, 1]] rfl ?_
          refine j_run it 2 rfl (by simp) ?_
          refine j_step rfl (x_call [0] rfl (S_macwilliams_Strength (by first | omega | exact side _ (by assumption) | assumption | rfl | (simp; done) | (simp; omega)) (by first | omega | exact side _ (by assumption) | assumption | rfl | (simp; done) | (simp; omega))) rfl ?_)
          rintro _ _ _ ⟨rfl, rfl, rfl⟩
          simp only [List.cons_append, List.nil_append]
          refine j_run it 5 rfl (by simp) ?_
          refine j_nf [.o [1, 1, 1, 1, 0] 0, .c [1, 1, 1, 1, 1]] rfl ?_
          refine j_run it 2 rfl (by simp) ?_
          refine j_step rfl (x_call [0] rfl (S_codewrightref24_Dual (by first | omega | exact side _ (by assumption) | assumption | rfl | (simp; done) | (simp; omega)) (by first | omega | exact side _ (by assumption) | assumption | rfl | (simp; done) | (simp; omega))) rfl ?_)
          rintro _ _ _ ⟨pa1, ca1, rfl, rfl, rfl⟩
          simp only [List.cons_append, List.nil_append]
          refine j_run it 5 rfl (by simp) ?_
          refine j_nf [.o [1, 1, 1, 1, 1, 0, 0] 0, .c [1, 1, 1, 1, 1, 0, 1], .c [1, 1, 1, 1, 1, 1]] rfl ?_
          refine j_run it 2 rfl (by simp) ?_
          refine j_nf [.c [1, 1, 1, 1, 1, 0, 1], .c [1, 1, 1, 1, 1, 1]] rfl ?_
          refine j_ifn rfl rfl (fun h3 => by exfalso; omega) (fun h3 => ?_)
          refine j_nf [.o [1, 1, 1, 1, 1, 1, 0] 0, .c [1, 1, 1, 1, 1, 1, 1]] rfl ?_
          refine j_run it 1 rfl (by simp) ?_
          refine j_step rfl (x_call [1] rfl (S_codewrightref24_Least (by first | omega | exact side _ (by assumption) | assumption | rfl | (simp; done) | (simp; omega))) rfl ?_)
          rintro _ _ _ ⟨rfl, rfl, rfl⟩
          simp only [List.cons_append, List.nil_append]
          refine j_run it 1 rfl (by simp) ?_
          refine j_nf [.o [1, 1, 1, 1, 1, 1, 1, 0, 0] 0, .c [1, 1, 1, 1, 1, 1, 1, 0, 1], .c [1, 1, 1, 1, 1, 1, 1, 1]] rfl ?_
          refine j_run it 2 rfl (by simp) ?_
          refine j_nf [.c [1, 1, 1, 1, 1, 1, 1, 0, 1], .c [1, 1, 1, 1, 1, 1, 1, 1]] rfl ?_
          refine j_if rfl rfl (fun h4 => ?_) (fun h4 => by exfalso; omega)
          refine j_nf [.o [1, 1, 1, 1, 1, 1, 1, 0, 1, 0, 0] 0, .c [1, 1, 1, 1, 1, 1, 1, 0, 1, 0, 1], .c [1, 1, 1, 1, 1, 1, 1, 1]] rfl ?_
          refine j_run it 3 rfl (by simp) ?_
          refine j_split_dec (t := 47) rfl (fun h5 => ?_) (fun h5 => by exfalso; omega)
          refine j_run it 4 rfl (by simp) ?_
          refine j_nf [.c [1, 1, 1, 1, 1, 1, 1, 0, 1, 0, 1], .c [1, 1, 1, 1, 1, 1, 1, 1]] rfl ?_
          rw [e1, decide_eq_true (show ((0 : Nat) : Int) = 0 from rfl)]
          refine j_giv [] rfl rfl rfl ⟨rfl, rfl, rfl⟩
        · have e1 : stV q n L = stP (DR q n L) (n - 1) (leP L (n - 1)) (leP L (n - 1) - 1) := by rw [stV, if_neg (not_not_intro hd), if_neg h0]
          have e2 : stE q n L = 0 := by rw [stE, if_neg (not_not_intro hd), if_neg h0]
          refine j_nf [.o [1, 1, 0, 0] 0, .c [1, 1, 0, 1], .c [1, 1, 1]] rfl ?_
          refine j_run it 1 rfl (by simp) ?_
          refine j_step rfl (x_len sl22 rfl ?_)
          refine j_run it 2 rfl (by simp) ?_
          refine j_split_dec (t := 15) rfl (fun h2 => by exfalso; omega) (fun h2 => ?_)
          refine j_run it 4 rfl (by simp) ?_
          refine j_nf [.c [1, 1, 0, 1], .c [1, 1, 1]] rfl ?_
          refine j_false rfl rfl ?_
          refine j_nf [.o [1, 1, 1, 0] 0, .c [1, 1, 1, 1]] rfl ?_
          refine j_run it 2 rfl (by simp) ?_
          refine j_step rfl (x_call [0] rfl (S_macwilliams_Strength (by first | omega | exact side _ (by assumption) | assumption | rfl | (simp; done) | (simp; omega)) (by first | omega | exact side _ (by assumption) | assumption | rfl | (simp; done) | (simp; omega))) rfl ?_)
          rintro _ _ _ ⟨rfl, rfl, rfl⟩
          simp only [List.cons_append, List.nil_append]
          refine j_run it 5 rfl (by simp) ?_
          refine j_nf [.o [1, 1, 1, 1, 0] 0, .c [1, 1, 1, 1, 1]] rfl ?_
          refine j_run it 2 rfl (by simp) ?_
          refine j_step rfl (x_call [0] rfl (S_codewrightref24_Dual (by first | omega | exact side _ (by assumption) | assumption | rfl | (simp; done) | (simp; omega)) (by first | omega | exact side _ (by assumption) | assumption | rfl | (simp; done) | (simp; omega))) rfl ?_)
          rintro _ _ _ ⟨pa1, ca1, rfl, rfl, rfl⟩
          simp only [List.cons_append, List.nil_append]
          refine j_run it 5 rfl (by simp) ?_
          refine j_nf [.o [1, 1, 1, 1, 1, 0, 0] 0, .c [1, 1, 1, 1, 1, 0, 1], .c [1, 1, 1, 1, 1, 1]] rfl ?_
          refine j_run it 2 rfl (by simp) ?_
          refine j_nf [.c [1, 1, 1, 1, 1, 0, 1], .c [1, 1, 1, 1, 1, 1]] rfl ?_
          refine j_ifn rfl rfl (fun h3 => by exfalso; omega) (fun h3 => ?_)
          refine j_nf [.o [1, 1, 1, 1, 1, 1, 0] 0, .c [1, 1, 1, 1, 1, 1, 1]] rfl ?_
          refine j_run it 1 rfl (by simp) ?_
          refine j_step rfl (x_call [1] rfl (S_codewrightref24_Least (by first | omega | exact side _ (by assumption) | assumption | rfl | (simp; done) | (simp; omega))) rfl ?_)
          rintro _ _ _ ⟨rfl, rfl, rfl⟩
          simp only [List.cons_append, List.nil_append]
          refine j_run it 1 rfl (by simp) ?_
          refine j_nf [.o [1, 1, 1, 1, 1, 1, 1, 0, 0] 0, .c [1, 1, 1, 1, 1, 1, 1, 0, 1], .c [1, 1, 1, 1, 1, 1, 1, 1]] rfl ?_
          refine j_run it 2 rfl (by simp) ?_
          refine j_nf [.c [1, 1, 1, 1, 1, 1, 1, 0, 1], .c [1, 1, 1, 1, 1, 1, 1, 1]] rfl ?_
          refine j_if rfl rfl (fun h4 => by exfalso; omega) (fun h4 => ?_)
          refine j_nf [.o [1, 1, 1, 1, 1, 1, 1, 1, 0] 0, .c [1, 1, 1, 1, 1, 1, 1, 1, 1]] rfl ?_
          refine j_run it 3 rfl (by simp) ?_
          refine j_split_dec (t := 53) rfl (fun h5 => ?_) (fun h5 => by exfalso; omega)
          refine j_run it 3 rfl (by simp) ?_
          refine j_gstep rfl rfl (x_call [0] rfl (S_codewrightref24_Strength (by first | omega | exact side _ (by assumption) | assumption | rfl | (simp; done) | (simp; omega)) (by first | omega | exact side _ (by assumption) | assumption | rfl | (simp; done) | (simp; omega)) (by first | omega | exact side _ (by assumption) | assumption | rfl | (simp; done) | (simp; omega))) rfl ?_)
          rintro _ _ _ ⟨rfl, rfl, rfl⟩
          simp only [List.cons_append, List.nil_append]
          refine j_run it 3 rfl (by simp) ?_
          refine j_nf [.c [1, 1, 1, 1, 1, 1, 1, 1, 1]] rfl ?_
          rw [e1, d3, decide_eq_true (show ((stP (DR q n L) (n - 1) (leP L (n - 1)) (leP L (n - 1) - 1) : Nat) : Int) = ((stP (DR q n L) (n - 1) (leP L (n - 1)) (leP L (n - 1) - 1) : Nat) : Int) from rfl)]
          refine j_giv [] rfl rfl rfl ⟨rfl, rfl, rfl⟩
      · have e1 : stV q n L = 0 := by rw [stV, if_pos hd]
        have e2 : stE q n L = DE q n L := by rw [stE, if_pos hd]
        by_cases h20 : 20 < n
        · refine j_nf [.o [1, 1, 0, 0] 0, .c [1, 1, 0, 1], .c [1, 1, 1]] rfl ?_
          refine j_run it 1 rfl (by simp) ?_
          refine j_step rfl (x_len sl22 rfl ?_)
          refine j_run it 2 rfl (by simp) ?_
          refine j_split_dec (t := 15) rfl (fun h2 => ?_) (fun h2 => by exfalso; omega)
          refine j_run it 1 rfl (by simp) ?_
          refine j_gstep rfl rfl (x_len sl22 rfl ?_)
          refine j_run it 2 rfl (by simp) ?_
          refine j_nf [.c [1, 1, 0, 1], .c [1, 1, 1]] rfl ?_
          refine j_if rfl rfl (fun h3 => by exfalso; omega) (fun h3 => ?_)
          refine j_nf [.o [1, 1, 1, 0] 0, .c [1, 1, 1, 1]] rfl ?_
          refine j_run it 2 rfl (by simp) ?_
          refine j_step rfl (x_call [0] rfl (S_macwilliams_Strength (by first | omega | exact side _ (by assumption) | assumption | rfl | (simp; done) | (simp; omega)) (by first | omega | exact side _ (by assumption) | assumption | rfl | (simp; done) | (simp; omega))) rfl ?_)
          rintro _ _ _ ⟨rfl, rfl, rfl⟩
          simp only [List.cons_append, List.nil_append]
          refine j_run it 5 rfl (by simp) ?_
          refine j_nf [.o [1, 1, 1, 1, 0] 0, .c [1, 1, 1, 1, 1]] rfl ?_
          refine j_run it 2 rfl (by simp) ?_
          refine j_step rfl (x_call [0] rfl (S_codewrightref24_Dual (by first | omega | exact side _ (by assumption) | assumption | rfl | (simp; done) | (simp; omega)) (by first | omega | exact side _ (by assumption) | assumption | rfl | (simp; done) | (simp; omega))) rfl ?_)
          rintro _ _ _ ⟨pa1, ca1, rfl, rfl, rfl⟩
          simp only [List.cons_append, List.nil_append]
          refine j_run it 5 rfl (by simp) ?_
          refine j_nf [.o [1, 1, 1, 1, 1, 0, 0] 0, .c [1, 1, 1, 1, 1, 0, 1], .c [1, 1, 1, 1, 1, 1]] rfl ?_
          refine j_run it 2 rfl (by simp) ?_
          refine j_nf [.c [1, 1, 1, 1, 1, 0, 1], .c [1, 1, 1, 1, 1, 1]] rfl ?_
          refine j_ifn rfl rfl (fun h4 => ?_) (fun h4 => by exfalso; omega)
          refine j_nf [.o [1, 1, 1, 1, 1, 0, 1, 0, 0] 0, .c [1, 1, 1, 1, 1, 0, 1, 0, 1], .c [1, 1, 1, 1, 1, 1]] rfl ?_
          refine j_run it 4 rfl (by simp) ?_
          refine j_split_dec (t := 37) rfl (fun h5 => ?_) (fun h5 => by exfalso; omega)
          refine j_run it 4 rfl (by simp) ?_
          refine j_nf [.c [1, 1, 1, 1, 1, 0, 1, 0, 1], .c [1, 1, 1, 1, 1, 1]] rfl ?_
          rw [e1, decide_eq_true (show ((0 : Nat) : Int) = 0 from rfl)]
          refine j_giv [] rfl rfl rfl ⟨rfl, rfl, rfl⟩
        · refine j_nf [.o [1, 1, 0, 0] 0, .c [1, 1, 0, 1], .c [1, 1, 1]] rfl ?_
          refine j_run it 1 rfl (by simp) ?_
          refine j_step rfl (x_len sl22 rfl ?_)
          refine j_run it 2 rfl (by simp) ?_
          refine j_split_dec (t := 15) rfl (fun h2 => by exfalso; omega) (fun h2 => ?_)
          refine j_run it 4 rfl (by simp) ?_
          refine j_nf [.c [1, 1, 0, 1], .c [1, 1, 1]] rfl ?_
          refine j_false rfl rfl ?_
          refine j_nf [.o [1, 1, 1, 0] 0, .c [1, 1, 1, 1]] rfl ?_
          refine j_run it 2 rfl (by simp) ?_
          refine j_step rfl (x_call [0] rfl (S_macwilliams_Strength (by first | omega | exact side _ (by assumption) | assumption | rfl | (simp; done) | (simp; omega)) (by first | omega | exact side _ (by assumption) | assumption | rfl | (simp; done) | (simp; omega))) rfl ?_)
          rintro _ _ _ ⟨rfl, rfl, rfl⟩
          simp only [List.cons_append, List.nil_append]
          refine j_run it 5 rfl (by simp) ?_
          refine j_nf [.o [1, 1, 1, 1, 0] 0, .c [1, 1, 1, 1, 1]] rfl ?_
          refine j_run it 2 rfl (by simp) ?_
          refine j_step rfl (x_call [0] rfl (S_codewrightref24_Dual (by first | omega | exact side _ (by assumption) | assumption | rfl | (simp; done) | (simp; omega)) (by first | omega | exact side _ (by assumption) | assumption | rfl | (simp; done) | (simp; omega))) rfl ?_)
          rintro _ _ _ ⟨pa1, ca1, rfl, rfl, rfl⟩
          simp only [List.cons_append, List.nil_append]
          refine j_run it 5 rfl (by simp) ?_
          refine j_nf [.o [1, 1, 1, 1, 1, 0, 0] 0, .c [1, 1, 1, 1, 1, 0, 1], .c [1, 1, 1, 1, 1, 1]] rfl ?_
          refine j_run it 2 rfl (by simp) ?_
          refine j_nf [.c [1, 1, 1, 1, 1, 0, 1], .c [1, 1, 1, 1, 1, 1]] rfl ?_
          refine j_ifn rfl rfl (fun h3 => ?_) (fun h3 => by exfalso; omega)
          refine j_nf [.o [1, 1, 1, 1, 1, 0, 1, 0, 0] 0, .c [1, 1, 1, 1, 1, 0, 1, 0, 1], .c [1, 1, 1, 1, 1, 1]] rfl ?_
          refine j_run it 4 rfl (by simp) ?_
          refine j_split_dec (t := 37) rfl (fun h4 => ?_) (fun h4 => by exfalso; omega)
          refine j_run it 4 rfl (by simp) ?_
          refine j_nf [.c [1, 1, 1, 1, 1, 0, 1, 0, 1], .c [1, 1, 1, 1, 1, 1]] rfl ?_
          rw [e1, decide_eq_true (show ((0 : Nat) : Int) = 0 from rfl)]
          refine j_giv [] rfl rfl rfl ⟨rfl, rfl, rfl⟩

theorem op3 : Opens Try.prog 3 (encInt .i64 8) := opens_int rfl rfl rfl
theorem op84 : Opens Try.prog 84 (encNat .u32 4) := opens_nat rfl rfl rfl (fun n h => h.1)
theorem op42 : Opens Try.prog 42 (encSl (encNat .u32 4)) := opens_sl rfl op84 rfl rfl (by decide)
theorem op22 : Opens Try.prog 22 (encSl (encSl (encNat .u32 4))) := opens_sl rfl op42 rfl rfl (by decide)

theorem macwilliamsStrengths_says : LawSays Try.prog 4 Try.f4 := by
  intro W args h
  have h : Args Try.prog W [3, 22] args := h
  match args, h with
  | [v0, v1], ⟨h0, h1, _⟩ =>
    obtain ⟨q, rfl, _⟩ := h0.int Try.underlying3
    obtain ⟨pa, ca, l, rfl, hl⟩ := h1.slice Try.underlying22 op22
    refine law_of_gives (S_MacwilliamsStrengths (L := l)) (fun v Φ β h => h.1) ?_
    intro g hg
    simp only [List.mem_cons, List.not_mem_nil, or_false] at hg
    subst hg
    exact hl


/-! ### The row -/

theorem macwilliamsStrengths_lifted (os : Os) (started : os.Started) (H : Type) (enc : TypeId × Value → H) :
    ReturnsInHanded {} Try.checked os 4 .any (Rows.macwilliamsStrengthsSpec.pre6 enc Try.prog Try.f4 Rows.macwilliamsStrengthsRow.domain false) (Rows.macwilliamsStrengthsSpec.post enc Try.prog Try.f4 false true false false) :=
  law_lift (C := Try.checked) (by kernel_rfl) started (by kernel_rfl) Try.func4
    (ChangeSpec.witness6 (enc := enc) (C := Try.checked) false ⟨#[], #[.int .i64 0, .slice none 0 0], []⟩ 8 (by kernel_rfl) (by kernel_rfl) (by kernel_rfl) (by kernel_rfl))
    (by kernel_rfl) rfl (by kernel_rfl) rfl Try.underlying4 (fun ds h => match ds, h with | [d0, d1], _ => rfl) macwilliamsStrengths_says

theorem macwilliamsStrengths_holds : Rows.MacwilliamsStrengthsSaid :=
  OpenClaim.holds_of_wide 4 Try.f4 rfl rfl rfl rfl rfl rfl rfl ⟨rfl, rfl, rfl, rfl, rfl⟩ rfl rfl rfl rfl rfl (by kernel_rfl) Try.func4 (by kernel_rfl)
    (of_decide_eq_true (by kernel_rfl)) (by unfold Func.isWrapper; first | (rw [if_pos (by decide +kernel)]; kernel_rfl) | (rw [if_neg (by decide +kernel)]; exact ⟨rfl, rfl⟩))
    (fun os started H enc _ => macwilliamsStrengths_lifted os started H enc)
#print axioms macwilliamsStrengths_holds
end Go.Proofs.Ytkchmoahohopiaa
