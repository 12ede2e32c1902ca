/-
DelsarteClassical returns true: the least bound is at most the bounds of Singleton and Hamming, at least q, and does not grow with d.
-/
import Derived.Test.YthahejfpdhcpiaaRows
import Derived.ProofKit
import Derived.JoinedOf
import Derived.Test.YthahejfpdhcpiaaHD7
namespace Go.Proofs.Ythahejfpdhcpiaa
open Go Go.Fw
set_option maxRecDepth 100000
set_option linter.unusedVariables false
set_option linter.unusedSimpArgs false
set_option maxHeartbeats 4000000
theorem ham_half {d : Nat} (h : 1 ≤ d) : 2 * ((d - 1) / 2) + 1 ≤ d := by omega
theorem sgn_up {x y : Rat} (h : x ≤ y) : ¬ 0 < (x - y).num.sign := fun e => Rat.not_lt.2 h (cmp_pos.1 e)
theorem sgn_low {x y : Rat} (h : y ≤ x) : ¬ (x - y).num.sign < 0 := fun e => by
  have h1 := (signN _).1 e
  have : x - y < 0 := h1
  grind
theorem pow_lt17 {q k : Nat} (hq2 : q ≤ 256) (hk : k ≤ 64) : q ^ k < 4294967296 ^ 17 :=
  Nat.lt_of_le_of_lt (Nat.le_trans (Nat.pow_le_pow_left hq2 k) (Nat.pow_le_pow_right (by decide) hk)) (show 256 ^ 64 < 4294967296 ^ 17 by decide)
theorem ham_bd {q n d : Nat} (hq : 2 ≤ q) (hq2 : q ≤ 256) (hn : n ≤ 64) (hd : d ≤ n) : bd 36 (hamQ q n d) := by
  have h1 : bd 17 (((q ^ n : Nat) : Int) : Rat) := ⟨by rw [Rat.num_intCast, Int.natAbs_natCast]; exact pow_lt17 hq2 hn, by rw [Rat.den_intCast]; decide⟩
  have h2 := inv_bd (sum_bd hq hq2 hn (e := (d - 1) / 2 + 1) (by omega)) (by decide)
  exact bd_mono (bd_mul h1 h2 (by decide)) (by decide)
theorem val_bdN {q n K : Nat} {f : List Rt} (hq : 2 ≤ q) (hq2 : q ≤ 256) (hn : n ≤ 64) (hK : 1 ≤ K) (hf : ∀ r ∈ f, okR K r) (hl : f.length = n + 1) (hKn : (K + 18) * (n + 1) + 1 ≤ 16000081) : (rt (valF q n (fQ f) 0)).2.1.length ≤ 16000081 ∧ (rt (valF q n (fQ f) 0)).2.2.length ≤ 16000081 :=
  bd_len (bd_mono (val_part_bd hq hq2 hn (Nat.zero_le n) hK hf hl (n + 1) (Nat.le_refl _)) hKn)
theorem S_DelsarteClassical {q n d : Int} : Ctr Try.prog 8 [.int .i64 q, .int .i64 n, .int .i64 d] [] [] (Rv (.bool true) []) := by
  refine Ctr_of_j' (F := F_codewrightlaw36_DelsarteClassical) rfl fun Cx => ?_
  by_cases hr : rangeP q n d
  · have hr' : decide (rangeP q n d) = true := decide_eq_true hr
    by_cases h7 : 7 < n
    · refine j_nf [.o [0] 0, .c [1]] rfl ?_
      refine j_run it 1 rfl (by simp) ?_
      refine j_nf [.o [1, 0, 0] 0, .c [1, 0, 1], .c [1, 1]] rfl ?_
      refine j_run it 3 rfl (by simp) ?_
      refine j_step rfl (x_call [] rfl (S_codewrightref34_Range (by omega)) rfl ?_)
      rintro _ _ _ ⟨rfl, rfl, rfl⟩
      simp only [List.cons_append, List.nil_append]
      refine j_run it 5 rfl (by simp) ?_
      refine j_nf [.c [1, 0, 1], .c [1, 1]] rfl ?_
      refine j_if rfl rfl (fun h1 => ?_) (fun h1 => by exfalso; omega)
      refine j_nf [.o [1, 0, 1, 0, 0] 0, .c [1, 0, 1, 0, 1], .c [1, 1]] rfl ?_
      refine j_run it 1 rfl (by simp) ?_
      refine j_nf [.c [1, 0, 1, 0, 1], .c [1, 1]] rfl ?_
      refine j_giv [] rfl rfl rfl ⟨rfl, rfl, rfl⟩
    · obtain ⟨p, m, k, rfl, rfl, rfl, h1, h2, h3, h4, h5, h6⟩ := range_nat hr
      have hm8 : m ≤ 8 := by omega
      refine j_nf [.o [0] 0, .c [1]] rfl ?_
      refine j_run it 1 rfl (by simp) ?_
      refine j_nf [.o [1, 0, 0] 0, .c [1, 0, 1], .c [1, 1]] rfl ?_
      refine j_run it 3 rfl (by simp) ?_
      refine j_step rfl (x_call [] rfl (S_codewrightref34_Range (by omega)) rfl ?_)
      rintro _ _ _ ⟨rfl, rfl, rfl⟩
      simp only [List.cons_append, List.nil_append]
      refine j_run it 5 rfl (by simp) ?_
      refine j_nf [.c [1, 0, 1], .c [1, 1]] rfl ?_
      refine j_if rfl rfl (fun h8 => by exfalso; omega) (fun h8 => ?_)
      refine j_nf [.o [1, 1, 0] 0, .c [1, 1, 1]] rfl ?_
      refine j_run it 3 rfl (by simp) ?_
      refine j_step rfl (x_call [] rfl (S_delsarte_Bound (by omega) (by omega) (by omega) (by omega) (by omega)) rfl ?_)
      rintro _ _ _ ⟨f1, r1, pn1, cn1, pd1, cd1, pf1, cf1, h9, rfl, h10, rfl, rfl, rfl⟩
      simp only [List.cons_append, List.nil_append]
      have hL : leastP p m k f1 := by assumption
      have oF : ∀ x ∈ f1, okR 250000 x := by assumption
      have sA := sing_acc (q := p) h1 h5 h6
      have hS := hL.2 _ sA.1
      rw [sA.2] at hS
      have hA := ham_acc (q := p) (n := m) h1 (ham_half h5)
      have hH := hL.2 _ hA.1
      rw [hA.2, show ((p ^ m : Nat) : Int) * ((ball p m ((k - 1) / 2) : Int) : Rat)⁻¹ = hamQ p m k from rfl] at hH
      have hQ := acc_low h1 h6 hL.1
      have hQ : (((p : Nat) : Int) : Rat) ≤ valF p m (fQ f1) 0 := hQ
      obtain ⟨w1, w2⟩ := val_bdN h1 h2 h4 (by decide) oF hL.1.1 (by omega)
      obtain ⟨w3, w4⟩ := bd_len (ham_bd h1 h2 h4 h6)
      obtain ⟨w5, w6⟩ := rt_int_len (z := ((p ^ (m - k + 1) : Nat) : Int)) (m := 17) (by rw [Int.natAbs_natCast]; exact pow_lt17 h2 (by omega))
      obtain ⟨w7, w8⟩ := rt_int_len (z := (p : Int)) (m := 1) (by omega)
      have s1 := sgn_up hS
      have s2 := sgn_up hH
      have s3 := sgn_low hQ
      have ed : (m : Int) - (k : Int) + 1 = ((m - k + 1 : Nat) : Int) := by omega
      have hp : p < 4294967296 := by omega
      have hn : m - k + 1 ≤ 4000 := by omega
      have hiN : InR .i64 (p : Int) := by simp only [InR]; omega
      refine j_run it 4 rfl (by simp) ?_
      refine j_step rfl (x_alloc zo44 fun b1 => ?_)
      refine j_step rfl (x_bst_all 0 rfl rfl rfl ld44 rfl rfl (by simp [Value.oneCell']) ?_)
      refine j_run it 2 rfl (by simp) ?_
      refine j_nf [.c [1, 1, 1, 0, 0], .c [1, 1, 1, 0, 1], .c [1, 1, 1, 1]] rfl ?_
      (apply j_drawK it mx 29; (· rfl); (· rfl))
      (apply lxk_run 1; (· rfl); (· simp))
      (apply lxk_eq; (· rfl); (· exact d_x fun _ => x_falseN it rfl (by trivial) (by omega) dk_eq))
      (apply lxk_run 1; (· rfl); (· simp))
      (apply lxk_eq; (· rfl); (· exact d_bld_all 0 rfl rfl ld44 rfl))
      (apply lxk_run 5; (· rfl); (· exact ⟨⟨by omega, by omega⟩, ⟨by omega, by omega⟩, trivial, trivial, trivial, trivial⟩))
      (apply lxk_rq; (· rfl); (· exact d_x fun _ => x_call [] rfl (S_codewrightref36_Power (by omega) (by omega) (by omega)) rfl (by rintro _ _ _ ⟨pn2, cn2, pd2, cd2, rfl, rfl, rfl⟩; exact (dk_rq 0 1 rfl rfl))); intro pn2 cn2 pd2 cd2)
      (apply lxk_eq; (· rfl); (· exact d_x fun _ => x_call [2, 3, 0, 1] rfl (S_codewrightref02_Cmp (by omega) (by omega) (by omega) (by omega)) rfl (by rintro _ _ _ ⟨rfl, rfl, rfl⟩; exact dk_eq)))
      simp only [vq_rt']
      (apply lxk_eq; (· rfl); (· exact d_x fun _ => x_false it rfl (by trivial) (by omega) dk_eq))
      (apply lxk_run 2; (· rfl); (· simp))
      (apply lxk_eq; (· rfl); (· exact d_bld_all 0 rfl rfl ld44 rfl))
      (apply lxk_run 3; (· rfl); (· simp))
      (apply lxk_rq; (· rfl); (· exact d_x fun _ => x_call [] rfl (S_codewrightref36_Hamming (by omega) (by omega) (by omega) (by omega) (by omega)) rfl (by rintro _ _ _ ⟨pn3, cn3, pd3, cd3, rfl, rfl, rfl⟩; exact (dk_rq 0 1 rfl rfl))); intro pn3 cn3 pd3 cd3)
      (apply lxk_eq; (· rfl); (· exact d_x fun _ => x_call [4, 5, 0, 1] rfl (S_codewrightref02_Cmp (by omega) (by omega) (by omega) (by omega)) rfl (by rintro _ _ _ ⟨rfl, rfl, rfl⟩; exact dk_eq)))
      simp only [vq_rt']
      (apply lxk_eq; (· rfl); (· exact d_x fun _ => x_false it rfl (by trivial) (by omega) dk_eq))
      (apply lxk_run 2; (· rfl); (· simp))
      (apply lxk_eq; (· rfl); (· exact d_bld_all 0 rfl rfl ld44 rfl))
      (apply lxk_run 1; (· rfl); (· simp))
      (apply lxk_rq; (· rfl); (· exact d_x fun _ => x_call [] rfl (S_codewrightref02_Int (by omega)) rfl (by rintro _ _ _ ⟨pn4, cn4, pd4, cd4, rfl, rfl, rfl⟩; exact (dk_rq 0 1 rfl rfl))); intro pn4 cn4 pd4 cd4)
      simp only [vq_rt']
      (apply lxk_eq; (· rfl); (· exact d_x fun _ => x_call [6, 7, 0, 1] rfl (S_codewrightref02_Cmp (by omega) (by omega) (by omega) (by omega)) rfl (by rintro _ _ _ ⟨rfl, rfl, rfl⟩; exact dk_eq)))
      simp only [vq_rt']
      (apply lxk_eq; (· rfl); (· exact d_x fun _ => x_false it rfl (by trivial) (by omega) dk_eq))
      (apply lxk_run 1; (· rfl); (· simp))
      refine lxk_end rfl ?_
      simp only [List.map_cons, List.map_nil, List.cons_append, List.nil_append]
      refine j_nf [.c [1, 1, 1, 0, 1], .c [1, 1, 1, 1]] rfl ?_
      refine j_false rfl rfl ?_
      refine j_nf [.o [1, 1, 1, 1, 0, 0] 0, .c [1, 1, 1, 1, 0, 1], .c [1, 1, 1, 1, 1]] rfl ?_
      refine j_run it 3 rfl (by simp) ?_
      refine j_nf [.c [1, 1, 1, 1, 0, 1], .c [1, 1, 1, 1, 1]] rfl ?_
      refine j_if rfl rfl (fun h11 => ?_) (fun h11 => ?_)
      · obtain rfl : k = m := by omega
        have ev : valF p k (fQ f1) 0 = ((p : Int) : Rat) := by
          rw [Nat.sub_self, Nat.zero_add, Nat.pow_one] at hS
          exact Rat.le_antisymm hS hQ
        refine j_nf [.c [1, 1, 1, 1, 0, 1, 0, 0], .c [1, 1, 1, 1, 0, 1, 0, 1], .c [1, 1, 1, 1, 1]] rfl ?_
        (apply j_drawK it mx 4; (· rfl); (· rfl))
        (apply lxk_eq; (· rfl); (· exact d_bld_all 0 rfl rfl ld44 rfl))
        (apply lxk_run 1; (· rfl); (· simp))
        (apply lxk_rq; (· rfl); (· exact d_x fun _ => x_call [] rfl (S_codewrightref02_Int (by omega)) rfl (by rintro _ _ _ ⟨pn5, cn5, pd5, cd5, rfl, rfl, rfl⟩; exact (dk_rq 0 1 rfl rfl))); intro pn5 cn5 pd5 cd5)
        simp only [vq_rt']
        (apply lxk_eq; (· rfl); (· exact d_x fun _ => x_call [8, 9, 0, 1] rfl (S_codewrightref02_Same) rfl (by rintro _ _ _ ⟨rfl, rfl, rfl⟩; exact dk_eq)))
        simp only [vq_rt']
        refine lxk_end rfl ?_
        simp only [List.map_cons, List.map_nil, List.cons_append, List.nil_append]
        refine j_run it 1 rfl (by simp) ?_
        refine j_nf [.c [1, 1, 1, 1, 0, 1, 0, 1], .c [1, 1, 1, 1, 1]] rfl ?_
        simp only [ev, decide_true]
        refine j_giv [] rfl rfl rfl ⟨rfl, rfl, rfl⟩
      · have hk1 : k + 1 ≤ m := by omega
        have h51 : 1 ≤ k + 1 := by omega
        have c_delsarte_Bound := S_delsarte_Bound (q := p) (n := m) (d := k + 1) h1 h2 hm8 h51 hk1
        have ek : (k : Int) + 1 = ((k + 1 : Nat) : Int) := by omega
        refine j_nf [.o [1, 1, 1, 1, 1, 0] 0, .c [1, 1, 1, 1, 1, 1]] rfl ?_
        refine j_run it 4 rfl ⟨⟨by omega, by omega⟩, trivial, trivial, trivial, trivial⟩ ?_
        refine j_step rfl (x_call [] rfl (c_delsarte_Bound) rfl ?_)
        rintro _ _ _ ⟨f2, r1, pn5, cn5, pd5, cd5, pf2, cf2, h12, rfl, h13, rfl, rfl, rfl⟩
        simp only [List.cons_append, List.nil_append]
        have hL2 : leastP p m (k + 1) f2 := by assumption
        have oF2 : ∀ x ∈ f2, okR 250000 x := by assumption
        obtain ⟨w9, w10⟩ := val_bdN h1 h2 h4 (by decide) oF2 hL2.1.1 (by omega)
        have s4 := sgn_up (hL2.2 _ (acc_up hL.1 (Nat.le_succ k)))
        have s5 : (valF p m (fQ f2) 0 - valF p m (fQ f1) 0).num.sign ≤ 0 := by omega
        refine j_run it 4 rfl (by simp) ?_
        refine j_step rfl (x_alloc zo44 fun b2 => ?_)
        refine j_step rfl (x_bst_all 0 rfl rfl rfl ld44 rfl rfl (by simp [Value.oneCell']) ?_)
        refine j_run it 2 rfl (by simp) ?_
        refine j_nf [.o [1, 1, 1, 1, 1, 1, 0] 0, .c [1, 1, 1, 1, 1, 1, 1]] rfl ?_
        refine j_run it 3 rfl (by simp) ?_
        refine j_split_dec (t := 77) rfl (fun h14 => ?_) (fun h14 => by exfalso; omega)
        refine j_gstep rfl rfl (x_bld_all 0 rfl rfl ld44 rfl ?_)
        refine j_gstep rfl rfl (x_bld_all 1 rfl rfl ld44 rfl ?_)
        refine j_gstep rfl rfl (x_call [0, 1, 9, 10] rfl (S_codewrightref02_Cmp (by omega) (by omega) (by omega) (by omega)) rfl ?_)
        rintro _ _ _ ⟨rfl, rfl, rfl⟩
        simp only [List.cons_append, List.nil_append]
        simp only [decide_true]
        simp only [vq_rt']
        refine j_run it 3 rfl (by simp) ?_
        refine j_nf [.c [1, 1, 1, 1, 1, 1, 1]] rfl ?_
        simp only [decide_eq_true s5]
        refine j_giv [] rfl rfl rfl ⟨rfl, rfl, rfl⟩
  · have hr' : decide (rangeP q n d) = false := decide_eq_false hr
    refine j_nf [.o [0] 0, .c [1]] rfl ?_
    refine j_run it 1 rfl (by simp) ?_
    refine j_nf [.o [1, 0, 0] 0, .c [1, 0, 1], .c [1, 1]] rfl ?_
    refine j_run it 3 rfl (by simp) ?_
    refine j_step rfl (x_call [] rfl (S_codewrightref34_Range (by omega)) rfl ?_)
    rintro _ _ _ ⟨rfl, rfl, rfl⟩
    simp only [List.cons_append, List.nil_append]
    refine j_run it 5 rfl (by simp) ?_
    refine j_nf [.c [1, 0, 1], .c [1, 1]] rfl ?_
    refine j_true rfl rfl ?_
    refine j_nf [.o [1, 0, 1, 0, 0] 0, .c [1, 0, 1, 0, 1], .c [1, 1]] rfl ?_
    refine j_run it 1 rfl (by simp) ?_
    refine j_nf [.c [1, 0, 1, 0, 1], .c [1, 1]] rfl ?_
    refine j_giv [] rfl rfl rfl ⟨rfl, rfl, rfl⟩

theorem op3 : Opens Try.prog 3 (encInt .i64 8) := opens_int rfl rfl rfl

theorem delsarteClassical_says : LawSays Try.prog 8 Try.f8 := by
  intro W args h
  have h : Args Try.prog W [3, 3, 3] args := h
  match args, h with
  | [v0, v1, v2], ⟨h0, h1, h2, _⟩ =>
    obtain ⟨q0, rfl, _⟩ := h0.int Try.underlying3
    obtain ⟨q1, rfl, _⟩ := h1.int Try.underlying3
    obtain ⟨q2, rfl, _⟩ := h2.int Try.underlying3
    exact law_of_gives S_DelsarteClassical (fun v Φ β h => h.1) (fun g hg => by cases hg)


/-! ### The row -/

theorem delsarteClassical_lifted (os : Os) (started : os.Started) (H : Type) (enc : TypeId × Value → H) :
    ReturnsInHanded {} Try.checked os 8 .any (Rows.delsarteClassicalSpec.pre6 enc Try.prog Try.f8 Rows.delsarteClassicalRow.domain false) (Rows.delsarteClassicalSpec.post enc Try.prog Try.f8 false true false false) :=
  law_lift (C := Try.checked) (by kernel_rfl) started (by kernel_rfl) Try.func8
    (ChangeSpec.witness6 (enc := enc) (C := Try.checked) false ⟨#[], #[.int .i64 0, .int .i64 0, .int .i64 0], []⟩ 8 (by kernel_rfl) (by kernel_rfl) (by kernel_rfl) (by kernel_rfl))
    (by kernel_rfl) rfl (by kernel_rfl) rfl Try.underlying4 (fun ds h => match ds, h with | [d0, d1, d2], _ => rfl) delsarteClassical_says

theorem delsarteClassical_holds : Rows.DelsarteClassicalSaid :=
  OpenClaim.holds_of_wide 8 Try.f8 rfl rfl rfl rfl rfl rfl rfl ⟨rfl, rfl, rfl, rfl, rfl⟩ rfl rfl rfl rfl rfl (by kernel_rfl) Try.func8 (by kernel_rfl)
    (of_decide_eq_true (by kernel_rfl)) (by unfold Func.isWrapper; first | (rw [if_pos (by decide +kernel)]; kernel_rfl) | (rw [if_neg (by decide +kernel)]; exact ⟨rfl, rfl⟩))
    (fun os started H enc _ => delsarteClassical_lifted os started H enc)
#print axioms delsarteClassical_holds
end Go.Proofs.Ythahejfpdhcpiaa
