/-
DelsarteLeast returns true: no certificate has a bound below that of Bound.
-/
import Derived.Test.YthahejfpdhcpiaaGreatRows
import Derived.ProofKit
import Derived.JoinedOf
import Derived.Test.YthahejfpdhcpiaaGreatHB8
namespace Go.Proofs.YthahejfpdhcpiaaGreat
open Go Go.Fw
set_option maxRecDepth 100000
set_option linter.unusedVariables false
set_option linter.unusedSimpArgs false
set_option maxHeartbeats 4000000
theorem S_DelsarteLeast {q n d : Int} {pa : Option Addr} {nf ca : Nat} {f : List Rt} : Ctr Tryz.prog 4 [.int .i64 q, .int .i64 n, .int .i64 d, .slice pa nf ca] [] [slF RatE pa nf ca f] (Rv (.bool true) []) := by
  refine Ctr_of_j' (F := F_codewrightlaw36_DelsarteLeast) rfl fun Cx => ?_
  refine rts_range 0 rfl fun rf => ?_
  cases hfit : fitsF f with
  | false =>
    refine j_nf [.o [0] 0, .c [1]] rfl ?_
    refine j_run it 1 rfl (by simp) ?_
    refine j_nf [.o [1, 0, 0] 0, .c [1, 0, 1], .c [1, 1]] rfl ?_
    refine j_run it 1 rfl (by simp) ?_
    refine j_step rfl (x_call [0] rfl (S_codewrightlaw36_fits (by omega)) rfl ?_)
    rintro _ _ _ ⟨rfl, rfl, rfl⟩
    simp only [List.cons_append, List.nil_append]
    refine j_run it 1 rfl (by simp) ?_
    refine j_nf [.c [1, 0, 1], .c [1, 1]] rfl ?_
    refine j_true rfl rfl ?_
    refine j_nf [.o [1, 0, 1, 0, 0] 0, .c [1, 0, 1, 0, 1], .c [1, 1]] rfl ?_
    refine j_run it 1 rfl (by simp) ?_
    refine j_nf [.c [1, 0, 1, 0, 1], .c [1, 1]] rfl ?_
    refine j_giv [] rfl rfl rfl ⟨rfl, rfl, rfl⟩
  | true =>
    have hf := fits_ok hfit rf
    by_cases hr : rangeP q n d
    · have hr' : decide (rangeP q n d) = true := decide_eq_true hr
      by_cases h8 : 8 < n
      · refine j_nf [.o [0] 0, .c [1]] rfl ?_
        refine j_run it 1 rfl (by simp) ?_
        refine j_nf [.o [1, 0, 0] 0, .c [1, 0, 1], .c [1, 1]] rfl ?_
        refine j_run it 1 rfl (by simp) ?_
        refine j_step rfl (x_call [0] rfl (S_codewrightlaw36_fits (by omega)) rfl ?_)
        rintro _ _ _ ⟨rfl, rfl, rfl⟩
        simp only [List.cons_append, List.nil_append]
        refine j_run it 1 rfl (by simp) ?_
        refine j_nf [.c [1, 0, 1], .c [1, 1]] rfl ?_
        refine j_false rfl rfl ?_
        refine j_nf [.o [1, 1, 0, 0] 0, .c [1, 1, 0, 1], .c [1, 1, 1]] rfl ?_
        refine j_run it 3 rfl (by simp) ?_
        refine j_step rfl (x_call [] rfl (S_codewrightref34_Range (by omega)) rfl ?_)
        rintro _ _ _ ⟨rfl, rfl, rfl⟩
        simp only [List.cons_append, List.nil_append]
        refine j_run it 5 rfl (by simp) ?_
        refine j_nf [.c [1, 1, 0, 1], .c [1, 1, 1]] rfl ?_
        refine j_if rfl rfl (fun h1 => ?_) (fun h1 => by exfalso; omega)
        refine j_nf [.o [1, 1, 0, 1, 0, 0] 0, .c [1, 1, 0, 1, 0, 1], .c [1, 1, 1]] rfl ?_
        refine j_run it 1 rfl (by simp) ?_
        refine j_nf [.c [1, 1, 0, 1, 0, 1], .c [1, 1, 1]] rfl ?_
        refine j_giv [] rfl rfl rfl ⟨rfl, rfl, rfl⟩
      · obtain ⟨p, m, k, rfl, rfl, rfl, h1, h2, h3, h4, h5, h6⟩ := range_nat hr
        have hm8 : m ≤ 8 := by omega
        refine j_nf [.o [0] 0, .c [1]] rfl ?_
        refine j_run it 1 rfl (by simp) ?_
        refine j_nf [.o [1, 0, 0] 0, .c [1, 0, 1], .c [1, 1]] rfl ?_
        refine j_run it 1 rfl (by simp) ?_
        refine j_step rfl (x_call [0] rfl (S_codewrightlaw36_fits (by omega)) rfl ?_)
        rintro _ _ _ ⟨rfl, rfl, rfl⟩
        simp only [List.cons_append, List.nil_append]
        refine j_run it 1 rfl (by simp) ?_
        refine j_nf [.c [1, 0, 1], .c [1, 1]] rfl ?_
        refine j_false rfl rfl ?_
        refine j_nf [.o [1, 1, 0, 0] 0, .c [1, 1, 0, 1], .c [1, 1, 1]] rfl ?_
        refine j_run it 3 rfl (by simp) ?_
        refine j_step rfl (x_call [] rfl (S_codewrightref34_Range (by omega)) rfl ?_)
        rintro _ _ _ ⟨rfl, rfl, rfl⟩
        simp only [List.cons_append, List.nil_append]
        refine j_run it 5 rfl (by simp) ?_
        refine j_nf [.c [1, 1, 0, 1], .c [1, 1, 1]] rfl ?_
        refine j_if rfl rfl (fun h7 => by exfalso; omega) (fun h7 => ?_)
        refine j_nf [.o [1, 1, 1, 0] 0, .c [1, 1, 1, 1]] rfl ?_
        refine j_run it 3 rfl (by simp) ?_
        refine j_step rfl (x_call [] rfl (S_delsarte_Bound (by omega) (by omega) (by omega) (by omega) (by omega)) rfl ?_)
        rintro _ _ _ ⟨f1, r1, pn1, cn1, pd1, cd1, pf1, cf1, h9, rfl, h10, rfl, rfl, rfl⟩
        simp only [List.cons_append, List.nil_append]
        have hL : leastP p m k f1 := by assumption
        have oF : ∀ x ∈ f1, okR 250000 x := by assumption
        have b1 := bd_mono (val_part_bd (K := 250000) (x := 0) h1 h2 h4 (Nat.zero_le m) (by decide) oF hL.1.1 (m + 1) (Nat.le_refl _)) (show _ ≤ 16000081 by omega)
        obtain ⟨w1, w2⟩ := bd_len b1
        have w1 : (rt (valF p m (fQ f1) 0)).2.1.length ≤ 16000081 := w1
        have w2 : (rt (valF p m (fQ f1) 0)).2.2.length ≤ 16000081 := w2
        by_cases hacc : accP p m k f
        · obtain ⟨g1, g2⟩ := accD_yes hacc
          have b2 := bd_mono (val_part_bd (K := 17) (x := 0) h1 h2 h4 (Nat.zero_le m) (by decide) hf hacc.1 (m + 1) (Nat.le_refl _)) (show _ ≤ 16000081 by omega)
          obtain ⟨w3, w4⟩ := bd_len b2
          have w3 : (rt (valF p m (fQ f) 0)).2.1.length ≤ 16000081 := w3
          have w4 : (rt (valF p m (fQ f) 0)).2.2.length ≤ 16000081 := w4
          have hle : (valF p m (fQ f1) 0 - valF p m (fQ f) 0).num.sign ≤ 0 := by
            have h := hL.2 f hacc
            have : ¬ 0 < (valF p m (fQ f1) 0 - valF p m (fQ f) 0).num.sign := fun e => Rat.not_lt.2 h (cmp_pos.1 e)
            omega
          refine j_run it 4 rfl (by simp) ?_
          refine j_step rfl (x_alloc zo26 fun b3 => ?_)
          refine j_step rfl (x_bst_all 0 rfl rfl rfl ld26 rfl rfl (by simp [Value.oneCell']) ?_)
          refine j_run it 2 rfl (by simp) ?_
          refine j_nf [.o [1, 1, 1, 1, 0] 0, .c [1, 1, 1, 1, 1]] rfl ?_
          refine j_run it 4 rfl (by simp) ?_
          refine j_step rfl (x_call [3] rfl (S_codewrightref36_Accept (by omega) (by omega) (by omega) (by omega) (by omega) (by omega) (by omega) (by omega)) rfl ?_)
          rintro _ _ _ ⟨pn2, cn2, pd2, cd2, rfl, rfl, rfl⟩
          simp only [List.cons_append, List.nil_append]
          refine j_run it 3 rfl (by simp) ?_
          refine j_step rfl (x_alloc zo26 fun b4 => ?_)
          refine j_step rfl (x_bst_all 0 rfl rfl rfl ld26 rfl rfl (by simp [Value.oneCell']) ?_)
          refine j_run it 1 rfl (by simp) ?_
          refine j_nf [.o [1, 1, 1, 1, 1, 0] 0, .c [1, 1, 1, 1, 1, 1]] rfl ?_
          refine j_run it 3 rfl (by simp) ?_
          refine j_split_dec (t := 44) rfl (fun h11 => ?_) (fun h11 => by exfalso; omega)
          refine j_gstep rfl rfl (x_bld_all 1 rfl rfl ld26 rfl ?_)
          refine j_gstep rfl rfl (x_call [2, 3] rfl (S_codewrightref02_Is (by omega) (by omega)) rfl ?_)
          rintro _ _ _ ⟨rfl, rfl, rfl⟩
          simp only [List.cons_append, List.nil_append]
          simp only [decide_true]
          simp only [vq_rt']
          refine j_run it 5 rfl (by simp) ?_
          refine j_split_ndec (t := 51) rfl (fun h12 => by exfalso; omega) (fun h12 => ?_)
          refine j_gstep rfl rfl (x_bld_all 1 rfl rfl ld26 rfl ?_)
          refine j_gstep rfl rfl (x_bld_all 0 rfl rfl ld26 rfl ?_)
          refine j_gstep rfl rfl (x_call [2, 3, 0, 1] rfl (S_codewrightref02_Cmp (by omega) (by omega) (by omega) (by omega)) rfl ?_)
          rintro _ _ _ ⟨rfl, rfl, rfl⟩
          simp only [List.cons_append, List.nil_append]
          simp only [decide_true]
          simp only [vq_rt']
          refine j_run it 4 rfl (by simp) ?_
          refine j_nf [.c [1, 1, 1, 1, 1, 1]] rfl ?_
          simp only [decide_eq_true hle]
          refine j_giv [] rfl rfl rfl ⟨rfl, rfl, rfl⟩
        · obtain ⟨g1, g2⟩ := accD_no hacc
          refine j_run it 4 rfl (by simp) ?_
          refine j_step rfl (x_alloc zo26 fun b2 => ?_)
          refine j_step rfl (x_bst_all 0 rfl rfl rfl ld26 rfl rfl (by simp [Value.oneCell']) ?_)
          refine j_run it 2 rfl (by simp) ?_
          refine j_nf [.o [1, 1, 1, 1, 0] 0, .c [1, 1, 1, 1, 1]] rfl ?_
          refine j_run it 4 rfl (by simp) ?_
          refine j_step rfl (x_call [3] rfl (S_codewrightref36_Accept (by omega) (by omega) (by omega) (by omega) (by omega) (by omega) (by omega) (by omega)) rfl ?_)
          rintro _ _ _ ⟨pn2, cn2, pd2, cd2, rfl, rfl, rfl⟩
          simp only [List.cons_append, List.nil_append]
          refine j_run it 3 rfl (by simp) ?_
          refine j_step rfl (x_alloc zo26 fun b3 => ?_)
          refine j_step rfl (x_bst_all 0 rfl rfl rfl ld26 rfl rfl (by simp [Value.oneCell']) ?_)
          refine j_run it 1 rfl (by simp) ?_
          refine j_nf [.o [1, 1, 1, 1, 1, 0] 0, .c [1, 1, 1, 1, 1, 1]] rfl ?_
          refine j_run it 3 rfl (by simp) ?_
          refine j_split_dec (t := 44) rfl (fun h11 => ?_) (fun h11 => by exfalso; omega)
          refine j_gstep rfl rfl (x_bld_all 1 rfl rfl ld26 rfl ?_)
          refine j_gstep rfl rfl (x_call [2, 3] rfl (S_codewrightref02_Is (by omega) (by omega)) rfl ?_)
          rintro _ _ _ ⟨rfl, rfl, rfl⟩
          simp only [List.cons_append, List.nil_append]
          simp only [decide_true]
          simp only [vq_rt']
          refine j_run it 12 rfl (by simp) ?_
          refine j_nf [.c [1, 1, 1, 1, 1, 1]] rfl ?_
          refine j_giv [] rfl rfl rfl ⟨rfl, rfl, rfl⟩
    · have hr' : decide (rangeP q n d) = false := decide_eq_false hr
      refine j_nf [.o [0] 0, .c [1]] rfl ?_
      refine j_run it 1 rfl (by simp) ?_
      refine j_nf [.o [1, 0, 0] 0, .c [1, 0, 1], .c [1, 1]] rfl ?_
      refine j_run it 1 rfl (by simp) ?_
      refine j_step rfl (x_call [0] rfl (S_codewrightlaw36_fits (by omega)) rfl ?_)
      rintro _ _ _ ⟨rfl, rfl, rfl⟩
      simp only [List.cons_append, List.nil_append]
      refine j_run it 1 rfl (by simp) ?_
      refine j_nf [.c [1, 0, 1], .c [1, 1]] rfl ?_
      refine j_false rfl rfl ?_
      refine j_nf [.o [1, 1, 0, 0] 0, .c [1, 1, 0, 1], .c [1, 1, 1]] rfl ?_
      refine j_run it 3 rfl (by simp) ?_
      refine j_step rfl (x_call [] rfl (S_codewrightref34_Range (by omega)) rfl ?_)
      rintro _ _ _ ⟨rfl, rfl, rfl⟩
      simp only [List.cons_append, List.nil_append]
      refine j_run it 5 rfl (by simp) ?_
      refine j_nf [.c [1, 1, 0, 1], .c [1, 1, 1]] rfl ?_
      refine j_true rfl rfl ?_
      refine j_nf [.o [1, 1, 0, 1, 0, 0] 0, .c [1, 1, 0, 1, 0, 1], .c [1, 1, 1]] rfl ?_
      refine j_run it 1 rfl (by simp) ?_
      refine j_nf [.c [1, 1, 0, 1, 0, 1], .c [1, 1, 1]] rfl ?_
      refine j_giv [] rfl rfl rfl ⟨rfl, rfl, rfl⟩

theorem op3 : Opens Tryz.prog 3 (encInt .i64 8) := opens_int rfl rfl rfl
theorem op4 : Opens Tryz.prog 4 encBool := opens_bool rfl rfl rfl
theorem op73 : Opens Tryz.prog 73 (encNat .u32 4) := opens_nat rfl rfl rfl (fun n h => h.1)
theorem op24 : Opens Tryz.prog 24 (encSl (encNat .u32 4)) := opens_sl rfl op73 rfl rfl (by decide)
theorem op26 : Opens Tryz.prog 26 (encPair encBool (encPair (encSl (encNat .u32 4)) (encSl (encNat .u32 4)) 48) 56) := opens_struct rfl (opensAll_cons 56 rfl op4 (opensAll_cons 48 rfl op24 (opensAll_one rfl op24))) rfl rfl
theorem op27 : Opens Tryz.prog 27 (encSl (encPair encBool (encPair (encSl (encNat .u32 4)) (encSl (encNat .u32 4)) 48) 56)) := opens_sl rfl op26 rfl rfl (by decide)

theorem delsarteLeast_says : LawSays Tryz.prog 4 Tryz.f4 := by
  intro W args h
  have h : Args Tryz.prog W [3, 3, 3, 27] args := h
  match args, h with
  | [v0, v1, v2, v3], ⟨h0, h1, h2, h3, _⟩ =>
    obtain ⟨q0, rfl, _⟩ := h0.int Tryz.underlying3
    obtain ⟨q1, rfl, _⟩ := h1.int Tryz.underlying3
    obtain ⟨q2, rfl, _⟩ := h2.int Tryz.underlying3
    obtain ⟨p3, c3, l3, rfl, k3⟩ := h3.slice Tryz.underlying27 op27
    refine law_of_gives (S_DelsarteLeast (f := l3)) (fun v Φ β h => h.1) ?_
    intro g hg
    simp only [List.mem_cons, List.not_mem_nil, or_false] at hg
    subst hg
    exact k3


/-! ### The row -/

theorem delsarteLeast_lifted (os : Os) (started : os.Started) (H : Type) (enc : TypeId × Value → H) :
    ReturnsInHanded {} Tryz.checked os 4 .any (Rows.delsarteLeastSpec.pre6 enc Tryz.prog Tryz.f4 Rows.delsarteLeastRow.domain false) (Rows.delsarteLeastSpec.post enc Tryz.prog Tryz.f4 false true false false) :=
  law_lift (C := Tryz.checked) (by kernel_rfl) started (by kernel_rfl) Tryz.func4
    (ChangeSpec.witness6 (enc := enc) (C := Tryz.checked) false ⟨#[], #[.int .i64 0, .int .i64 0, .int .i64 0, .slice none 0 0], []⟩ 8 (by kernel_rfl) (by kernel_rfl) (by kernel_rfl) (by kernel_rfl))
    (by kernel_rfl) rfl (by kernel_rfl) rfl Tryz.underlying4 (fun ds h => match ds, h with | [d0, d1, d2, d3], _ => rfl) delsarteLeast_says

theorem delsarteLeast_holds : Rows.DelsarteLeastSaid :=
  OpenClaim.holds_of_wide 4 Tryz.f4 rfl rfl rfl rfl rfl rfl rfl ⟨rfl, rfl, rfl, rfl, rfl⟩ rfl rfl rfl rfl rfl (by kernel_rfl) Tryz.func4 (by kernel_rfl)
    (of_decide_eq_true (by kernel_rfl)) (by unfold Func.isWrapper; first | (rw [if_pos (by decide +kernel)]; kernel_rfl) | (rw [if_neg (by decide +kernel)]; exact ⟨rfl, rfl⟩))
    (fun os started H enc _ => delsarteLeast_lifted os started H enc)
#print axioms delsarteLeast_holds
end Go.Proofs.YthahejfpdhcpiaaGreat
