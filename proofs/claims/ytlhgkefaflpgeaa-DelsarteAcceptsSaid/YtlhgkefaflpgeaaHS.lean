/-
DelsarteAccepts returns true: Accept of the program returns the bound of just the document's certificates, and its error otherwise.
-/
import Derived.Test.YtlhgkefaflpgeaaRows
import Derived.ProofKit
import Derived.JoinedOf
import Derived.Test.YtlhgkefaflpgeaaHS7
namespace Go.Proofs.Ytlhgkefaflpgeaa
open Go Go.Fw
set_option maxRecDepth 100000
set_option linter.unusedVariables false
set_option linter.unusedSimpArgs false
set_option maxHeartbeats 4000000
theorem S_DelsarteAccepts {q n d : Int} {pa : Option Addr} {nf ca : Nat} {f : List Rt} : Ctr Try.prog 6 [.int .i64 q, .int .i64 n, .int .i64 d, .slice pa nf ca] [] [slF RatE pa nf ca f] (Rv (.bool true) []) := by
  refine Ctr_of_j' (F := F_codewrightlaw36_DelsarteAccepts) rfl fun C => ?_
  refine rts_range 0 rfl fun rf => ?_
  by_cases hr : rangeP q n d
  · have hr' : decide (rangeP q n d) = true := decide_eq_true hr
    by_cases h14 : 14 < n
    · refine j_nf [.o [0] 0, .c [1]] rfl ?_
      refine j_run it 1 rfl (by simp) ?_
      refine j_nf [.o [1, 0, 0] 0, .c [1, 0, 1], .c [1, 1]] rfl ?_
      refine j_run it 3 rfl (by simp) ?_
      refine j_split_dec (t := 15) rfl (fun h1 => ?_) (fun h1 => by exfalso; omega)
      refine j_run it 3 rfl (by simp) ?_
      refine j_gstep rfl rfl (x_call [] rfl (S_codewrightref34_Range (by first | omega | exact side _ (by assumption) | assumption | rfl | (simp; done) | (simp; omega))) rfl ?_)
      rintro _ _ _ ⟨rfl, rfl, rfl⟩
      simp only [List.cons_append, List.nil_append]
      refine j_run it 6 rfl (by simp) ?_
      refine j_nf [.c [1, 0, 1], .c [1, 1]] rfl ?_
      refine j_true rfl rfl ?_
      refine j_nf [.o [1, 0, 1, 0, 0] 0, .c [1, 0, 1, 0, 1], .c [1, 1]] rfl ?_
      refine j_run it 1 rfl (by simp) ?_
      refine j_nf [.c [1, 0, 1, 0, 1], .c [1, 1]] rfl ?_
      refine j_giv [] rfl rfl rfl ⟨rfl, rfl, rfl⟩
    · cases hfit : fitsF f with
      | false =>
        refine j_nf [.o [0] 0, .c [1]] rfl ?_
        refine j_run it 1 rfl (by simp) ?_
        refine j_nf [.o [1, 0, 0] 0, .c [1, 0, 1], .c [1, 1]] rfl ?_
        refine j_run it 3 rfl (by simp) ?_
        refine j_split_dec (t := 15) rfl (fun h1 => by exfalso; omega) (fun h1 => ?_)
        refine j_run it 7 rfl (by simp) ?_
        refine j_gstep rfl rfl (x_call [0] rfl (S_codewrightlaw36_fits (by first | omega | exact side _ (by assumption) | assumption | rfl | (simp; done) | (simp; omega))) rfl ?_)
        rintro _ _ _ ⟨rfl, rfl, rfl⟩
        simp only [List.cons_append, List.nil_append]
        refine j_run it 2 rfl (by simp) ?_
        refine j_nf [.c [1, 0, 1], .c [1, 1]] rfl ?_
        refine j_true rfl rfl ?_
        refine j_nf [.o [1, 0, 1, 0, 0] 0, .c [1, 0, 1, 0, 1], .c [1, 1]] rfl ?_
        refine j_run it 1 rfl (by simp) ?_
        refine j_nf [.c [1, 0, 1, 0, 1], .c [1, 1]] rfl ?_
        refine j_giv [] rfl rfl rfl ⟨rfl, rfl, rfl⟩
      | true =>
        have hf := fits_ok hfit rf
        obtain ⟨p, m, k, rfl, rfl, rfl, h1, h2, h3, h4, h5, h6⟩ := range_nat hr
        obtain ⟨eE, eR⟩ := dac_nat hr f
        refine j_nf [.o [0] 0, .c [1]] rfl ?_
        refine j_run it 1 rfl (by simp) ?_
        refine j_nf [.o [1, 0, 0] 0, .c [1, 0, 1], .c [1, 1]] rfl ?_
        refine j_run it 3 rfl (by simp) ?_
        refine j_split_dec (t := 15) rfl (fun h7 => by exfalso; omega) (fun h7 => ?_)
        refine j_run it 7 rfl (by simp) ?_
        refine j_gstep rfl rfl (x_call [0] rfl (S_codewrightlaw36_fits (by first | omega | exact side _ (by assumption) | assumption | rfl | (simp; done) | (simp; omega))) rfl ?_)
        rintro _ _ _ ⟨rfl, rfl, rfl⟩
        simp only [List.cons_append, List.nil_append]
        refine j_run it 2 rfl (by simp) ?_
        refine j_nf [.c [1, 0, 1], .c [1, 1]] rfl ?_
        refine j_false rfl rfl ?_
        refine j_nf [.o [1, 1, 0] 0, .c [1, 1, 1]] rfl ?_
        refine j_run it 4 rfl (by simp) ?_
        refine j_step rfl (x_call [0] rfl (S_delsarte_Accept (by first | omega | exact side _ (by assumption) | assumption | rfl | (simp; done) | (simp; omega)) (by first | omega | exact side _ (by assumption) | assumption | rfl | (simp; done) | (simp; omega)) (by first | omega | exact side _ (by assumption) | assumption | rfl | (simp; done) | (simp; omega))) rfl ?_)
        rintro _ _ _ ⟨pn1, cn1, pd1, cd1, rfl, rfl, rfl⟩
        simp only [List.cons_append, List.nil_append]
        refine j_run it 3 rfl (by simp) ?_
        refine j_step rfl (x_alloc zo35 fun b1 => ?_)
        refine j_step rfl (x_bst_all 0 rfl rfl rfl ld35 rfl rfl (by simp [Value.oneCell']) ?_)
        refine j_run it 1 rfl (by simp) ?_
        refine j_nf [.o [1, 1, 1, 0, 0] 0, .c [1, 1, 1, 0, 1], .c [1, 1, 1, 1]] rfl ?_
        refine j_run it 3 rfl (by simp) ?_
        refine j_step rfl (x_call [] rfl (S_codewrightref34_Range (by first | omega | exact side _ (by assumption) | assumption | rfl | (simp; done) | (simp; omega))) rfl ?_)
        rintro _ _ _ ⟨rfl, rfl, rfl⟩
        simp only [List.cons_append, List.nil_append]
        refine j_run it 1 rfl (by simp) ?_
        refine j_nf [.c [1, 1, 1, 0, 1], .c [1, 1, 1, 1]] rfl ?_
        refine j_false rfl rfl ?_
        refine j_nf [.o [1, 1, 1, 1, 0, 0] 0, .c [1, 1, 1, 1, 0, 1], .c [1, 1, 1, 1, 1]] rfl ?_
        refine j_run it 2 rfl (by simp) ?_
        refine j_nf [.c [1, 1, 1, 1, 0, 1], .c [1, 1, 1, 1, 1]] rfl ?_
        refine j_if rfl rfl (fun h8 => by exfalso; omega) (fun h8 => ?_)
        refine j_nf [.o [1, 1, 1, 1, 1, 0] 0, .c [1, 1, 1, 1, 1, 1]] rfl ?_
        refine j_run it 4 rfl (by simp) ?_
        refine j_step rfl (x_call [2] rfl (S_codewrightref36_Accept (by first | omega | exact side _ (by assumption) | assumption | rfl | (simp; done) | (simp; omega)) (by first | omega | exact side _ (by assumption) | assumption | rfl | (simp; done) | (simp; omega)) (by first | omega | exact side _ (by assumption) | assumption | rfl | (simp; done) | (simp; omega)) (by first | omega | exact side _ (by assumption) | assumption | rfl | (simp; done) | (simp; omega)) (by first | omega | exact side _ (by assumption) | assumption | rfl | (simp; done) | (simp; omega)) (by first | omega | exact side _ (by assumption) | assumption | rfl | (simp; done) | (simp; omega)) (by first | omega | exact side _ (by assumption) | assumption | rfl | (simp; done) | (simp; omega)) (by first | omega | exact side _ (by assumption) | assumption | rfl | (simp; done) | (simp; omega))) rfl ?_)
        rintro _ _ _ ⟨pn2, cn2, pd2, cd2, rfl, rfl, rfl⟩
        simp only [List.cons_append, List.nil_append]
        refine j_run it 3 rfl (by simp) ?_
        refine j_step rfl (x_alloc zo35 fun b2 => ?_)
        refine j_step rfl (x_bst_all 0 rfl rfl rfl ld35 rfl rfl (by simp [Value.oneCell']) ?_)
        refine j_run it 1 rfl (by simp) ?_
        refine j_nf [.o [1, 1, 1, 1, 1, 1, 0] 0, .c [1, 1, 1, 1, 1, 1, 1]] rfl ?_
        refine j_run it 4 rfl (by simp) ?_
        refine j_split_dec (t := 58) rfl (fun h9 => ?_) (fun h9 => by exfalso; omega)
        refine j_gstep rfl rfl (x_bld_all 1 rfl rfl ld35 rfl ?_)
        refine j_gstep rfl rfl (x_bld_all 0 rfl rfl ld35 rfl ?_)
        refine j_gstep rfl rfl (x_call [2, 3, 0, 1] rfl (S_codewrightref02_Same) rfl ?_)
        rintro _ _ _ ⟨rfl, rfl, rfl⟩
        simp only [List.cons_append, List.nil_append]
        simp only [decide_true]
        refine j_run it 2 rfl (by simp) ?_
        refine j_nf [.c [1, 1, 1, 1, 1, 1, 1]] rfl ?_
        refine j_giv [] rfl rfl rfl ⟨rfl, rfl, rfl⟩
  · have hr' : decide (rangeP q n d) = false := decide_eq_false hr
    cases hfit : fitsF f with
    | false =>
      by_cases h14 : 14 < n
      · refine j_nf [.o [0] 0, .c [1]] rfl ?_
        refine j_run it 1 rfl (by simp) ?_
        refine j_nf [.o [1, 0, 0] 0, .c [1, 0, 1], .c [1, 1]] rfl ?_
        refine j_run it 3 rfl (by simp) ?_
        refine j_split_dec (t := 15) rfl (fun h1 => ?_) (fun h1 => by exfalso; omega)
        refine j_run it 3 rfl (by simp) ?_
        refine j_gstep rfl rfl (x_call [] rfl (S_codewrightref34_Range (by first | omega | exact side _ (by assumption) | assumption | rfl | (simp; done) | (simp; omega))) rfl ?_)
        rintro _ _ _ ⟨rfl, rfl, rfl⟩
        simp only [List.cons_append, List.nil_append]
        refine j_run it 3 rfl (by simp) ?_
        refine j_gstep rfl rfl (x_call [0] rfl (S_codewrightlaw36_fits (by first | omega | exact side _ (by assumption) | assumption | rfl | (simp; done) | (simp; omega))) rfl ?_)
        rintro _ _ _ ⟨rfl, rfl, rfl⟩
        simp only [List.cons_append, List.nil_append]
        refine j_run it 2 rfl (by simp) ?_
        refine j_nf [.c [1, 0, 1], .c [1, 1]] rfl ?_
        refine j_true rfl rfl ?_
        refine j_nf [.o [1, 0, 1, 0, 0] 0, .c [1, 0, 1, 0, 1], .c [1, 1]] rfl ?_
        refine j_run it 1 rfl (by simp) ?_
        refine j_nf [.c [1, 0, 1, 0, 1], .c [1, 1]] rfl ?_
        refine j_giv [] rfl rfl rfl ⟨rfl, rfl, rfl⟩
      · refine j_nf [.o [0] 0, .c [1]] rfl ?_
        refine j_run it 1 rfl (by simp) ?_
        refine j_nf [.o [1, 0, 0] 0, .c [1, 0, 1], .c [1, 1]] rfl ?_
        refine j_run it 3 rfl (by simp) ?_
        refine j_split_dec (t := 15) rfl (fun h1 => by exfalso; omega) (fun h1 => ?_)
        refine j_run it 7 rfl (by simp) ?_
        refine j_gstep rfl rfl (x_call [0] rfl (S_codewrightlaw36_fits (by first | omega | exact side _ (by assumption) | assumption | rfl | (simp; done) | (simp; omega))) rfl ?_)
        rintro _ _ _ ⟨rfl, rfl, rfl⟩
        simp only [List.cons_append, List.nil_append]
        refine j_run it 2 rfl (by simp) ?_
        refine j_nf [.c [1, 0, 1], .c [1, 1]] rfl ?_
        refine j_true rfl rfl ?_
        refine j_nf [.o [1, 0, 1, 0, 0] 0, .c [1, 0, 1, 0, 1], .c [1, 1]] rfl ?_
        refine j_run it 1 rfl (by simp) ?_
        refine j_nf [.c [1, 0, 1, 0, 1], .c [1, 1]] rfl ?_
        refine j_giv [] rfl rfl rfl ⟨rfl, rfl, rfl⟩
    | true =>
      have hf := fits_ok hfit rf
      obtain ⟨eE, eR⟩ := dac_bad hr f
      by_cases h14 : 14 < n
      · refine j_nf [.o [0] 0, .c [1]] rfl ?_
        refine j_run it 1 rfl (by simp) ?_
        refine j_nf [.o [1, 0, 0] 0, .c [1, 0, 1], .c [1, 1]] rfl ?_
        refine j_run it 3 rfl (by simp) ?_
        refine j_split_dec (t := 15) rfl (fun h1 => ?_) (fun h1 => by exfalso; omega)
        refine j_run it 3 rfl (by simp) ?_
        refine j_gstep rfl rfl (x_call [] rfl (S_codewrightref34_Range (by first | omega | exact side _ (by assumption) | assumption | rfl | (simp; done) | (simp; omega))) rfl ?_)
        rintro _ _ _ ⟨rfl, rfl, rfl⟩
        simp only [List.cons_append, List.nil_append]
        refine j_run it 3 rfl (by simp) ?_
        refine j_gstep rfl rfl (x_call [0] rfl (S_codewrightlaw36_fits (by first | omega | exact side _ (by assumption) | assumption | rfl | (simp; done) | (simp; omega))) rfl ?_)
        rintro _ _ _ ⟨rfl, rfl, rfl⟩
        simp only [List.cons_append, List.nil_append]
        refine j_run it 2 rfl (by simp) ?_
        refine j_nf [.c [1, 0, 1], .c [1, 1]] rfl ?_
        refine j_false rfl rfl ?_
        refine j_nf [.o [1, 1, 0] 0, .c [1, 1, 1]] rfl ?_
        refine j_run it 4 rfl (by simp) ?_
        refine j_step rfl (x_call [0] rfl (S_delsarte_Accept (by first | omega | exact side _ (by assumption) | assumption | rfl | (simp; done) | (simp; omega)) (by first | omega | exact side _ (by assumption) | assumption | rfl | (simp; done) | (simp; omega)) (by first | omega | exact side _ (by assumption) | assumption | rfl | (simp; done) | (simp; omega))) rfl ?_)
        rintro _ _ _ ⟨pn1, cn1, pd1, cd1, rfl, rfl, rfl⟩
        simp only [List.cons_append, List.nil_append]
        refine j_run it 3 rfl (by simp) ?_
        refine j_step rfl (x_alloc zo35 fun b1 => ?_)
        refine j_step rfl (x_bst_all 0 rfl rfl rfl ld35 rfl rfl (by simp [Value.oneCell']) ?_)
        refine j_run it 1 rfl (by simp) ?_
        refine j_nf [.o [1, 1, 1, 0, 0] 0, .c [1, 1, 1, 0, 1], .c [1, 1, 1, 1]] rfl ?_
        refine j_run it 3 rfl (by simp) ?_
        refine j_step rfl (x_call [] rfl (S_codewrightref34_Range (by first | omega | exact side _ (by assumption) | assumption | rfl | (simp; done) | (simp; omega))) rfl ?_)
        rintro _ _ _ ⟨rfl, rfl, rfl⟩
        simp only [List.cons_append, List.nil_append]
        refine j_run it 1 rfl (by simp) ?_
        refine j_nf [.c [1, 1, 1, 0, 1], .c [1, 1, 1, 1]] rfl ?_
        refine j_true rfl rfl ?_
        refine j_nf [.o [1, 1, 1, 0, 1, 0, 0] 0, .c [1, 1, 1, 0, 1, 0, 1], .c [1, 1, 1, 1]] rfl ?_
        refine j_run it 3 rfl (by simp) ?_
        refine j_split_dec (t := 41) rfl (fun h2 => ?_) (fun h2 => by exfalso; omega)
        refine j_gstep rfl rfl (x_bld_all 0 rfl rfl ld35 rfl ?_)
        refine j_gstep rfl rfl (x_call [] rfl (S_codewrightref02_Nil) rfl ?_)
        rintro _ _ _ ⟨rfl, rfl, rfl⟩
        simp only [List.cons_append, List.nil_append]
        simp only [decide_true]
        refine j_run it 2 rfl (by simp) ?_
        refine j_nf [.c [1, 1, 1, 0, 1, 0, 1], .c [1, 1, 1, 1]] rfl ?_
        refine j_giv [] rfl rfl rfl ⟨rfl, rfl, rfl⟩
      · refine j_nf [.o [0] 0, .c [1]] rfl ?_
        refine j_run it 1 rfl (by simp) ?_
        refine j_nf [.o [1, 0, 0] 0, .c [1, 0, 1], .c [1, 1]] rfl ?_
        refine j_run it 3 rfl (by simp) ?_
        refine j_split_dec (t := 15) rfl (fun h1 => by exfalso; omega) (fun h1 => ?_)
        refine j_run it 7 rfl (by simp) ?_
        refine j_gstep rfl rfl (x_call [0] rfl (S_codewrightlaw36_fits (by first | omega | exact side _ (by assumption) | assumption | rfl | (simp; done) | (simp; omega))) rfl ?_)
        rintro _ _ _ ⟨rfl, rfl, rfl⟩
        simp only [List.cons_append, List.nil_append]
        refine j_run it 2 rfl (by simp) ?_
        refine j_nf [.c [1, 0, 1], .c [1, 1]] rfl ?_
        refine j_false rfl rfl ?_
        refine j_nf [.o [1, 1, 0] 0, .c [1, 1, 1]] rfl ?_
        refine j_run it 4 rfl (by simp) ?_
        refine j_step rfl (x_call [0] rfl (S_delsarte_Accept (by first | omega | exact side _ (by assumption) | assumption | rfl | (simp; done) | (simp; omega)) (by first | omega | exact side _ (by assumption) | assumption | rfl | (simp; done) | (simp; omega)) (by first | omega | exact side _ (by assumption) | assumption | rfl | (simp; done) | (simp; omega))) rfl ?_)
        rintro _ _ _ ⟨pn1, cn1, pd1, cd1, rfl, rfl, rfl⟩
        simp only [List.cons_append, List.nil_append]
        refine j_run it 3 rfl (by simp) ?_
        refine j_step rfl (x_alloc zo35 fun b1 => ?_)
        refine j_step rfl (x_bst_all 0 rfl rfl rfl ld35 rfl rfl (by simp [Value.oneCell']) ?_)
        refine j_run it 1 rfl (by simp) ?_
        refine j_nf [.o [1, 1, 1, 0, 0] 0, .c [1, 1, 1, 0, 1], .c [1, 1, 1, 1]] rfl ?_
        refine j_run it 3 rfl (by simp) ?_
        refine j_step rfl (x_call [] rfl (S_codewrightref34_Range (by first | omega | exact side _ (by assumption) | assumption | rfl | (simp; done) | (simp; omega))) rfl ?_)
        rintro _ _ _ ⟨rfl, rfl, rfl⟩
        simp only [List.cons_append, List.nil_append]
        refine j_run it 1 rfl (by simp) ?_
        refine j_nf [.c [1, 1, 1, 0, 1], .c [1, 1, 1, 1]] rfl ?_
        refine j_true rfl rfl ?_
        refine j_nf [.o [1, 1, 1, 0, 1, 0, 0] 0, .c [1, 1, 1, 0, 1, 0, 1], .c [1, 1, 1, 1]] rfl ?_
        refine j_run it 3 rfl (by simp) ?_
        refine j_split_dec (t := 41) rfl (fun h2 => ?_) (fun h2 => by exfalso; omega)
        refine j_gstep rfl rfl (x_bld_all 0 rfl rfl ld35 rfl ?_)
        refine j_gstep rfl rfl (x_call [] rfl (S_codewrightref02_Nil) rfl ?_)
        rintro _ _ _ ⟨rfl, rfl, rfl⟩
        simp only [List.cons_append, List.nil_append]
        simp only [decide_true]
        refine j_run it 2 rfl (by simp) ?_
        refine j_nf [.c [1, 1, 1, 0, 1, 0, 1], .c [1, 1, 1, 1]] rfl ?_
        refine j_giv [] rfl rfl rfl ⟨rfl, rfl, rfl⟩

theorem op3 : Opens Try.prog 3 (encInt .i64 8) := opens_int rfl rfl rfl
theorem op4 : Opens Try.prog 4 encBool := opens_bool rfl rfl rfl
theorem op78 : Opens Try.prog 78 (encNat .u32 4) := opens_nat rfl rfl rfl (fun n h => h.1)
theorem op33 : Opens Try.prog 33 (encSl (encNat .u32 4)) := opens_sl rfl op78 rfl rfl (by decide)
theorem op35 : Opens Try.prog 35 (encPair encBool (encPair (encSl (encNat .u32 4)) (encSl (encNat .u32 4)) 48) 56) := opens_struct rfl (opensAll_cons 56 rfl op4 (opensAll_cons 48 rfl op33 (opensAll_one rfl op33))) rfl rfl
theorem op23 : Opens Try.prog 23 (encSl (encPair encBool (encPair (encSl (encNat .u32 4)) (encSl (encNat .u32 4)) 48) 56)) := opens_sl rfl op35 rfl rfl (by decide)

theorem delsarteAccepts_says : LawSays Try.prog 6 Try.f6 := by
  intro W args h
  have h : Args Try.prog W [3, 3, 3, 23] args := h
  match args, h with
  | [v0, v1, v2, v3], ⟨h0, h1, h2, h3, _⟩ =>
    obtain ⟨q0, rfl, _⟩ := h0.int Try.underlying3
    obtain ⟨q1, rfl, _⟩ := h1.int Try.underlying3
    obtain ⟨q2, rfl, _⟩ := h2.int Try.underlying3
    obtain ⟨p3, c3, l3, rfl, k3⟩ := h3.slice Try.underlying23 op23
    refine law_of_gives (S_DelsarteAccepts (f := l3)) (fun v Φ β h => h.1) ?_
    intro g hg
    simp only [List.mem_cons, List.not_mem_nil, or_false] at hg
    subst hg
    exact k3


/-! ### The row -/

theorem delsarteAccepts_lifted (os : Os) (started : os.Started) (H : Type) (enc : TypeId × Value → H) :
    ReturnsInHanded {} Try.checked os 6 .any (Rows.delsarteAcceptsSpec.pre6 enc Try.prog Try.f6 Rows.delsarteAcceptsRow.domain false) (Rows.delsarteAcceptsSpec.post enc Try.prog Try.f6 false true false false) :=
  law_lift (C := Try.checked) (by kernel_rfl) started (by kernel_rfl) Try.func6
    (ChangeSpec.witness6 (enc := enc) (C := Try.checked) false ⟨#[], #[.int .i64 0, .int .i64 0, .int .i64 0, .slice none 0 0], []⟩ 8 (by kernel_rfl) (by kernel_rfl) (by kernel_rfl) (by kernel_rfl))
    (by kernel_rfl) rfl (by kernel_rfl) rfl Try.underlying4 (fun ds h => match ds, h with | [d0, d1, d2, d3], _ => rfl) delsarteAccepts_says

theorem delsarteAccepts_holds : Rows.DelsarteAcceptsSaid :=
  OpenClaim.holds_of_wide 6 Try.f6 rfl rfl rfl rfl rfl rfl rfl ⟨rfl, rfl, rfl, rfl, rfl⟩ rfl rfl rfl rfl rfl (by kernel_rfl) Try.func6 (by kernel_rfl)
    (of_decide_eq_true (by kernel_rfl)) (by unfold Func.isWrapper; first | (rw [if_pos (by decide +kernel)]; kernel_rfl) | (rw [if_neg (by decide +kernel)]; exact ⟨rfl, rfl⟩))
    (fun os started H enc _ => delsarteAccepts_lifted os started H enc)
#print axioms delsarteAccepts_holds
end Go.Proofs.Ytlhgkefaflpgeaa
