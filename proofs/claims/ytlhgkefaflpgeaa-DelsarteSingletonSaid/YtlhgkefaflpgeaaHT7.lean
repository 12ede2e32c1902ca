/-
The program's Accept of certificates. The document's Is, Inv and Pow of fractions; the laws' k, pow and choose. Singleton's certificate, powers; fits and the example of the laws.
-/
import Derived.Test.YtlhgkefaflpgeaaHT6
set_option linter.unusedVariables false
set_option linter.unusedSimpArgs false

namespace Go.Proofs.Ytlhgkefaflpgeaa
open Go Go.Fw
set_option maxRecDepth 100000
set_option linter.unusedVariables false
set_option linter.unusedSimpArgs false
set_option maxHeartbeats 4000000
open Classical in
/-- The error and the bound of Accept. -/
noncomputable def dacE (q n d : Int) (f : List Rt) : Int := if rangeP q n d then accDE q.toNat n.toNat d.toNat f else 6
open Classical in
noncomputable def dacR (q n d : Int) (f : List Rt) : Rt := if rangeP q n d then accDR q.toNat n.toNat d.toNat f else (false, [], [])
theorem range_nat {q n d : Int} (h : rangeP q n d) : ∃ (p m k : Nat), q = p ∧ n = m ∧ d = k ∧ 2 ≤ p ∧ p ≤ 256 ∧ 1 ≤ m ∧ m ≤ 64 ∧ 1 ≤ k ∧ k ≤ m := by
  unfold rangeP at h
  exact ⟨q.toNat, n.toNat, d.toNat, by omega, by omega, by omega, by omega, by omega, by omega, by omega, by omega, by omega⟩
theorem dac_nat {q n d : Nat} (h : rangeP q n d) (f : List Rt) : dacE q n d f = accDE q n d f ∧ dacR q n d f = accDR q n d f := ⟨if_pos h, if_pos h⟩
theorem dac_bad {q n d : Int} (h : ¬ rangeP q n d) (f : List Rt) : dacE q n d f = 6 ∧ dacR q n d f = (false, [], []) := ⟨if_neg h, if_neg h⟩

theorem S_delsarte_Accept {q n d : Int} {pa : Option Addr} {nf ca : Nat} {f : List Rt} (hf : ∀ r ∈ f, okR 17 r) {vr : Rt} {ve : Int} (hvr : dacR q n d f = vr) (hve : dacE q n d f = ve) :
    Ctr Try.prog 22 [.int .i64 q, .int .i64 n, .int .i64 d, .slice pa nf ca] [] [slF RatE pa nf ca f] (RtErr vr ve) := by
  subst hvr; subst hve
  refine Ctr_of_j' (F := F_delsarte_Accept) rfl fun C => ?_
  refine j_len 0 rfl fun hn hb _ => ?_
  have hb' : f.length * 56 ≤ 140737488355328 := hb
  subst hn
  by_cases hr : rangeP q n d
  · have hw : decide (rangeP q n d) = !false := by rw [decide_eq_true hr]; rfl
    obtain ⟨p, m, k, rfl, rfl, rfl, h1, h2, h3, h4, h5, h6⟩ := range_nat hr
    obtain ⟨eE, eR⟩ := dac_nat hr f
    rw [eE, eR]
    have no : ¬ accP p m k f → accDE p m k f = 13 ∧ accDR p m k f = (false, [], []) := accD_no
    by_cases hl : f.length = m + 1
    · have z0 := okR_at hf (show 0 < f.length by omega)
      obtain ⟨y1, y2⟩ := z0.2.2
      have e0 : vq ((f.getD 0 default).1, (f.getD 0 default).2.1, (f.getD 0 default).2.2) = fQ f 0 := rfl
      by_cases h0 : fQ f 0 = 1
      · have hs : (vq ((f.getD 0 default).1, (f.getD 0 default).2.1, (f.getD 0 default).2.2) - vq (false, [1], [1])).num.sign = 0 := cmp_zero.2 (by rw [e0, h0, vq_oneL])
        refine j_nf [.o [0] 0, .c [1]] rfl ?_
        refine j_step rfl (x_alloc zo35 fun b1 => ?_)
        refine j_run it 1 rfl (by simp) ?_
        refine j_nf [.o [1, 0, 0] 0, .c [1, 0, 1], .c [1, 1]] rfl ?_
        refine j_run it 3 rfl (by simp) ?_
        refine j_step rfl (x_call [] rfl (S_delsarte_wrong (by first | omega | exact side _ (by assumption) | assumption | rfl | (simp; done) | (simp; omega))) rfl ?_)
        rintro _ _ _ ⟨rfl, rfl, rfl⟩
        simp only [List.cons_append, List.nil_append]
        refine j_nf [.c [1, 0, 1], .c [1, 1]] rfl ?_
        refine j_false rfl rfl ?_
        refine j_nf [.c [1, 1, 0, 0], .c [1, 1, 0, 1], .c [1, 1, 1]] rfl ?_
        (apply j_drawK it mx 13; (· rfl); (· rfl))
        (apply lxk_run 1; (· rfl); (· simp))
        (apply lxk_eq; (· rfl); (· exact d_x fun _ => x_len sl23 rfl dk_eq))
        (apply lxk_run 2; (· rfl); (· exact (by repeat' first | exact trivial | apply And.intro | omega)))
        (apply lxk_eq; (· rfl); (· exact d_x fun _ => x_falseN it rfl (by trivial) (by omega) dk_eq))
        (apply lxk_run 2; (· rfl); (· simp))
        (apply lxk_pt; (· rfl); (· exact d_x fun _ => x_idx 0 0 rfl rfl rfl sl23 (by omega) (by omega) fun z1 hz1 b2 o1 => (dk_ptD default hz1 0 rfl)); intro b2 o1)
        (apply lxk_rq; (· rfl); (· exact d_x fun _ => x_ld_rt 0 rfl rfl ld35 fun pa1 ca1 pa2 ca2 => (dk_rq 0 1 rfl rfl)); intro pn1 cn1 pd1 cd1)
        (apply lxk_rq; (· rfl); (· exact d_x fun _ => x_call [] rfl (S_delsarte_one) rfl (by rintro _ _ _ ⟨pn2, cn2, pd2, cd2, rfl, rfl, rfl⟩; exact (dk_rq 0 1 rfl rfl))); intro pn2 cn2 pd2 cd2)
        (apply lxk_eq; (· rfl); (· exact d_x fun _ => x_call [2, 3, 0, 1] rfl (S_rational_Cmp (by first | omega | exact side _ (by assumption) | assumption | rfl | (simp; done) | (simp; omega)) (by first | omega | exact side _ (by assumption) | assumption | rfl | (simp; done) | (simp; omega)) (by first | omega | exact side _ (by assumption) | assumption | rfl | (simp; done) | (simp; omega)) (by first | omega | exact side _ (by assumption) | assumption | rfl | (simp; done) | (simp; omega))) rfl (by rintro _ _ _ ⟨rfl, rfl, rfl⟩; exact dk_eq)))
        simp only [vq_rt']
        (apply lxk_eq; (· rfl); (· exact d_x fun _ => x_falseN it rfl (by trivial) (by omega) dk_eq))
        (apply lxk_run 1; (· rfl); (· simp))
        refine lxk_end rfl ?_
        simp only [List.map_cons, List.map_nil, List.cons_append, List.nil_append]
        refine j_nf [.c [1, 1, 0, 1], .c [1, 1, 1]] rfl ?_
        refine j_false rfl rfl ?_
        refine j_nf [.o [1, 1, 1, 0, 0] 0, .c [1, 1, 1, 0, 1], .c [1, 1, 1, 1]] rfl ?_
        refine j_run it 1 rfl (by simp) ?_
        refine j_step rfl (x_len sl23 rfl ?_)
        refine j_run it 1 rfl (by simp) ?_
        refine j_nf [.c [1, 1, 1, 0, 1, 0], .blk 0, .c [1, 1, 1, 1]] rfl ?_
        refine j_loopG (X := Nat) [0, 1, 2, 3, 8, 34, 35] [0, 1, 2, 3, 4, 5] (fun k => [(36, .int .i64 k)]) (fun _ => [(some b1, 35, [.bool false, .slice none 0 0, .slice none 0 0])]) (fun _ => []) (fun k => k ≤ f.length ∧ posB (f.take k) = true) (fun k => f.length - k) 0 [] rfl rfl rfl ⟨Nat.zero_le _, rfl⟩ (by repeat (first | exact Fr.sub_nil _ | refine Fr.sub_cons rfl ?_)) rfl rfl ?_
        rintro j ⟨hj, hp⟩ ih
        simp only [List.cons_append, List.nil_append] at hj hp ih ⊢
        by_cases hjl : j < f.length
        · refine j_nf [.o [1, 1, 1, 0, 1, 0, 0, 0] 0, .c [1, 1, 1, 0, 1, 0, 0, 1], .lp [1, 1, 1, 0, 1, 0, 0], .blk 0, .c [1, 1, 1, 1]] rfl ?_
          refine j_run it 1 rfl (by simp) ?_
          refine j_nf [.c [1, 1, 1, 0, 1, 0, 0, 1, 0], .c [1, 1, 1, 0, 1, 0, 0, 1, 1], .lp [1, 1, 1, 0, 1, 0, 0], .blk 0, .c [1, 1, 1, 1]] rfl ?_
          refine j_if rfl rfl (fun h7 => ?_) (fun h7 => by exfalso; omega)
          refine j_nf [.o [1, 1, 1, 0, 1, 0, 0, 1, 1, 0, 0, 0] 0, .c [1, 1, 1, 0, 1, 0, 0, 1, 1, 0, 0, 1], .blk 1, .c [1, 1, 1, 0, 1, 0, 0, 1, 1, 1], .lp [1, 1, 1, 0, 1, 0, 0], .blk 0, .c [1, 1, 1, 1]] rfl ?_
          refine j_step rfl (x_idx 5 (j) rfl rfl rfl sl23 rfl (by omega) fun z1 hz1 b3 o2 => ?_)
          refine j_step rfl (x_ld_rt 0 rfl rfl ld35 fun pa1 ca1 pa2 ca2 => ?_)
          refine j_step rfl (x_alloc zo35 fun b4 => ?_)
          refine j_step rfl (x_bst_all 0 rfl rfl rfl ld35 rfl rfl (by simp [Value.oneCell']) ?_)
          refine j_nf [.o [1, 1, 1, 0, 1, 0, 0, 1, 1, 0, 0, 1, 0] 0, .c [1, 1, 1, 0, 1, 0, 0, 1, 1, 0, 0, 1, 1], .blk 1, .c [1, 1, 1, 0, 1, 0, 0, 1, 1, 1], .lp [1, 1, 1, 0, 1, 0, 0], .blk 0, .c [1, 1, 1, 1]] rfl ?_
          refine j_step rfl (x_bld_all 0 rfl rfl ld35 rfl ?_)
          refine j_step rfl (x_call [0, 1] rfl (S_rational_Sign) rfl ?_)
          rintro _ _ _ ⟨rfl, rfl, rfl⟩
          simp only [List.cons_append, List.nil_append]
          refine j_run it 1 rfl (by simp) ?_
          refine j_nf [.c [1, 1, 1, 0, 1, 0, 0, 1, 1, 0, 0, 1, 1], .blk 1, .c [1, 1, 1, 0, 1, 0, 0, 1, 1, 1], .lp [1, 1, 1, 0, 1, 0, 0], .blk 0, .c [1, 1, 1, 1]] rfl ?_
          refine j_if rfl rfl (fun h8 => ?_) (fun h8 => ?_)
          · obtain ⟨e1, e2⟩ := no fun h => by have := h.2.2.1; rw [pos_stop hz1 (by assumption)] at this; cases this
            rw [e1, e2]
            refine j_nf [.o [1, 1, 1, 0, 1, 0, 0, 1, 1, 0, 0, 1, 1, 0, 0] 0, .c [1, 1, 1, 0, 1, 0, 0, 1, 1, 0, 0, 1, 1, 0, 1], .blk 1, .c [1, 1, 1, 0, 1, 0, 0, 1, 1, 1], .lp [1, 1, 1, 0, 1, 0, 0], .blk 0, .c [1, 1, 1, 1]] rfl ?_
            refine j_step rfl (x_build (cs := [Value.bool false, Value.slice none 0 0, Value.slice none 0 0]) st35 zo35 rfl rfl ?_)
            refine j_step rfl (x_bst_all 1 rfl rfl rfl ld35 rfl rfl (by simp [Value.oneCell']) ?_)
            refine j_run it 1 rfl (by simp) ?_
            refine j_nf [.c [1, 1, 1, 0, 1, 0, 0, 1, 1, 0, 0, 1, 1, 0, 1], .blk 1, .c [1, 1, 1, 0, 1, 0, 0, 1, 1, 1], .lp [1, 1, 1, 0, 1, 0, 0], .blk 0, .c [1, 1, 1, 1]] rfl ?_
            refine j_add (slF U32 none 0 0 []) (fun w A _ => slF_nil _ _ _ _ _) ?_
            refine j_givC [0, 0] rfl (.agg 1 rfl rfl ld35 rfl (.tmp rfl .nil)) rfl ⟨_, _, _, _, rfl, rfl, rfl⟩
          · refine j_nf [.o [1, 1, 1, 0, 1, 0, 0, 1, 1, 1] 0, .lp [1, 1, 1, 0, 1, 0, 0], .blk 0, .c [1, 1, 1, 1]] rfl ?_
            refine j_run it 2 rfl (by repeat' first | exact trivial | apply And.intro | omega) ?_
            refine j_nfn 1 [.lp [1, 1, 1, 0, 1, 0, 0], .blk 0, .c [1, 1, 1, 1]] rfl ?_
            refine j_toM [false, true] [3, 4, 5, 6, 7, 8] (by repeat (first | exact Fr.sub_nil _ | refine Fr.sub_cons rfl ?_ | refine Fr.sub_consI rfl (by first | omega | (dsimp only; omega)) ?_ | refine Fr.sub_consS rfl (by first | omega | (dsimp only; omega)) (by first | omega | (dsimp only; omega)) ?_)) rfl rfl (ih (j + 1) (by omega) ⟨by omega, pos_step hz1 hp (by assumption)⟩)
        · obtain rfl : f.length = j := by omega
          rw [List.take_length] at hp
          clear ih
          refine j_nf [.o [1, 1, 1, 0, 1, 0, 0, 0] 0, .c [1, 1, 1, 0, 1, 0, 0, 1], .lp [1, 1, 1, 0, 1, 0, 0], .blk 0, .c [1, 1, 1, 1]] rfl ?_
          refine j_run it 1 rfl (by simp) ?_
          refine j_nf [.c [1, 1, 1, 0, 1, 0, 0, 1, 0], .c [1, 1, 1, 0, 1, 0, 0, 1, 1], .lp [1, 1, 1, 0, 1, 0, 0], .blk 0, .c [1, 1, 1, 1]] rfl ?_
          refine j_if rfl rfl (fun h7 => by exfalso; omega) (fun h7 => ?_)
          refine j_nf [.o [1, 1, 1, 1, 0, 0] 0, .c [1, 1, 1, 1, 0, 1], .c [1, 1, 1, 1, 1]] rfl ?_
          refine j_run it 2 rfl (by simp) ?_
          refine j_nf [.c [1, 1, 1, 1, 0, 1, 0], .blk 2, .c [1, 1, 1, 1, 1]] rfl ?_
          refine j_loopG (X := Nat) [0, 1, 3, 8] [0, 1, 2, 3, 4, 5] (fun i => [(12, .int .i64 i)]) (fun _ => [(some b1, 35, [.bool false, .slice none 0 0, .slice none 0 0])]) (fun _ => []) (fun i => k ≤ i ∧ i ≤ m + 1 ∧ ∀ i', k ≤ i' → i' < i → valF p m (fQ f) i' ≤ 0) (fun i => m + 1 - i) k [] rfl rfl rfl ⟨Nat.le_refl _, by omega, fun i' h h' => by omega⟩ (by repeat (first | exact Fr.sub_nil _ | refine Fr.sub_cons rfl ?_)) rfl rfl ?_
          rintro i ⟨hi1, hi2, hi3⟩ ih
          simp only [List.cons_append, List.nil_append] at hi1 hi2 hi3 ih ⊢
          by_cases hil : i ≤ m
          · have oc := colK_ok h1 h2 h4 hil
            have lc := colK_len p m i
            have ed := dot_col (q := p) hl i
            have hK : (1 : Nat) ≤ 17 := by decide
            refine j_nf [.o [1, 1, 1, 1, 0, 1, 0, 0, 0, 0] 0, .c [1, 1, 1, 1, 0, 1, 0, 0, 0, 1], .c [1, 1, 1, 1, 0, 1, 0, 0, 1], .lp [1, 1, 1, 1, 0, 1, 0, 0], .blk 2, .c [1, 1, 1, 1, 1]] rfl ?_
            refine j_run it 3 rfl (by simp) ?_
            refine j_nf [.c [1, 1, 1, 1, 0, 1, 0, 0, 0, 1], .c [1, 1, 1, 1, 0, 1, 0, 0, 1], .lp [1, 1, 1, 1, 0, 1, 0, 0], .blk 2, .c [1, 1, 1, 1, 1]] rfl ?_
            refine j_if rfl rfl (fun h8 => ?_) (fun h8 => by exfalso; omega)
            refine j_nf [.o [1, 1, 1, 1, 0, 1, 0, 0, 1, 0, 0, 0] 0, .c [1, 1, 1, 1, 0, 1, 0, 0, 1, 0, 0, 1], .blk 3, .c [1, 1, 1, 1, 0, 1, 0, 0, 1, 1], .lp [1, 1, 1, 1, 0, 1, 0, 0], .blk 2, .c [1, 1, 1, 1, 1]] rfl ?_
            refine j_run it 4 rfl (by simp) ?_
            refine j_step rfl (x_call [] rfl (S_delsarte_column (by first | omega | exact side _ (by assumption) | assumption | rfl | (simp; done) | (simp; omega)) (by first | omega | exact side _ (by assumption) | assumption | rfl | (simp; done) | (simp; omega)) (by first | omega | exact side _ (by assumption) | assumption | rfl | (simp; done) | (simp; omega)) (by first | omega | exact side _ (by assumption) | assumption | rfl | (simp; done) | (simp; omega))) rfl ?_)
            rintro _ _ _ ⟨pa1, ca1, rfl, rfl, rfl⟩
            simp only [List.cons_append, List.nil_append]
            refine j_step rfl (x_call [6, 0] rfl (S_rational_Dot (by first | omega | exact side _ (by assumption) | assumption | rfl | (simp; done) | (simp; omega)) (by first | omega | exact side _ (by assumption) | assumption | rfl | (simp; done) | (simp; omega)) (by first | omega | exact side _ (by assumption) | assumption | rfl | (simp; done) | (simp; omega)) (by first | omega | exact side _ (by assumption) | assumption | rfl | (simp; done) | (simp; omega)) (by first | omega | exact side _ (by assumption) | assumption | rfl | (simp; done) | (simp; omega)) (by first | omega | exact side _ (by assumption) | assumption | rfl | (simp; done) | (simp; omega))) rfl ?_)
            rintro _ _ _ ⟨pn3, cn3, pd3, cd3, rfl, rfl, rfl⟩
            simp only [List.cons_append, List.nil_append]
            refine j_run it 3 rfl (by simp) ?_
            refine j_step rfl (x_alloc zo35 fun b3 => ?_)
            refine j_step rfl (x_bst_all 0 rfl rfl rfl ld35 rfl rfl (by simp [Value.oneCell']) ?_)
            refine j_run it 1 rfl (by simp) ?_
            refine j_nf [.o [1, 1, 1, 1, 0, 1, 0, 0, 1, 0, 0, 1, 0] 0, .c [1, 1, 1, 1, 0, 1, 0, 0, 1, 0, 0, 1, 1], .blk 3, .c [1, 1, 1, 1, 0, 1, 0, 0, 1, 1], .lp [1, 1, 1, 1, 0, 1, 0, 0], .blk 2, .c [1, 1, 1, 1, 1]] rfl ?_
            refine j_step rfl (x_bld_all 0 rfl rfl ld35 rfl ?_)
            refine j_step rfl (x_call [0, 1] rfl (S_rational_Sign) rfl ?_)
            rintro _ _ _ ⟨rfl, rfl, rfl⟩
            simp only [List.cons_append, List.nil_append]
            simp only [vq_rt']
            refine j_run it 1 rfl (by simp) ?_
            refine j_nf [.c [1, 1, 1, 1, 0, 1, 0, 0, 1, 0, 0, 1, 1], .blk 3, .c [1, 1, 1, 1, 0, 1, 0, 0, 1, 1], .lp [1, 1, 1, 1, 0, 1, 0, 0], .blk 2, .c [1, 1, 1, 1, 1]] rfl ?_
            refine j_if rfl rfl (fun h9 => ?_) (fun h9 => ?_)
            · have hp2 : 0 < dotR f (colK p m i) := sign_pos.1 (by assumption)
              obtain ⟨e1, e2⟩ := no fun h => by have := h.2.2.2 i hi1 hil; rw [← ed] at this; exact Rat.not_lt.2 this hp2
              rw [e1, e2]
              refine j_nf [.o [1, 1, 1, 1, 0, 1, 0, 0, 1, 0, 0, 1, 1, 0, 0] 0, .c [1, 1, 1, 1, 0, 1, 0, 0, 1, 0, 0, 1, 1, 0, 1], .blk 3, .c [1, 1, 1, 1, 0, 1, 0, 0, 1, 1], .lp [1, 1, 1, 1, 0, 1, 0, 0], .blk 2, .c [1, 1, 1, 1, 1]] rfl ?_
              refine j_step rfl (x_build (cs := [Value.bool false, Value.slice none 0 0, Value.slice none 0 0]) st35 zo35 rfl rfl ?_)
              refine j_step rfl (x_bst_all 1 rfl rfl rfl ld35 rfl rfl (by simp [Value.oneCell']) ?_)
              refine j_run it 1 rfl (by simp) ?_
              refine j_nf [.c [1, 1, 1, 1, 0, 1, 0, 0, 1, 0, 0, 1, 1, 0, 1], .blk 3, .c [1, 1, 1, 1, 0, 1, 0, 0, 1, 1], .lp [1, 1, 1, 1, 0, 1, 0, 0], .blk 2, .c [1, 1, 1, 1, 1]] rfl ?_
              refine j_add (slF U32 none 0 0 []) (fun w A _ => slF_nil _ _ _ _ _) ?_
              refine j_givC [0, 0] rfl (.agg 1 rfl rfl ld35 rfl (.tmp rfl .nil)) rfl ⟨_, _, _, _, rfl, rfl, rfl⟩
            · have hp2 : ¬ 0 < dotR f (colK p m i) := fun h => absurd (sign_pos.2 h) (by assumption)
              refine j_nf [.o [1, 1, 1, 1, 0, 1, 0, 0, 1, 1] 0, .lp [1, 1, 1, 1, 0, 1, 0, 0], .blk 2, .c [1, 1, 1, 1, 1]] rfl ?_
              refine j_run it 3 rfl (by repeat' first | exact trivial | apply And.intro | omega) ?_
              refine j_nfn 1 [.lp [1, 1, 1, 1, 0, 1, 0, 0], .blk 2, .c [1, 1, 1, 1, 1]] rfl ?_
              refine j_toM [false, true] [3, 4, 5, 6, 7, 8] (by repeat (first | exact Fr.sub_nil _ | refine Fr.sub_cons rfl ?_ | refine Fr.sub_consI rfl (by first | omega | (dsimp only; omega)) ?_ | refine Fr.sub_consS rfl (by first | omega | (dsimp only; omega)) (by first | omega | (dsimp only; omega)) ?_)) rfl rfl (ih (i + 1) (by omega) ⟨by omega, by omega, fun i' a b => by
                rcases Nat.lt_succ_iff_lt_or_eq.1 b with b | rfl
                · exact hi3 i' a b
                · rw [← ed]; exact Rat.not_lt.1 hp2⟩)
          · obtain rfl : i = m + 1 := by omega
            have oc := colK_ok (i := 0) h1 h2 h4 (Nat.zero_le _)
            have ed := dot_col (q := p) hl 0
            have hK : (1 : Nat) ≤ 17 := by decide
            obtain ⟨e1, e2⟩ := accD_yes (q := p) (n := m) (d := k) (f := f) ⟨hl, h0, hp, fun i' a b => hi3 i' a (by omega)⟩
            rw [e1, e2, ← ed]
            refine j_nf [.o [1, 1, 1, 1, 0, 1, 0, 0, 0, 0] 0, .c [1, 1, 1, 1, 0, 1, 0, 0, 0, 1], .c [1, 1, 1, 1, 0, 1, 0, 0, 1], .lp [1, 1, 1, 1, 0, 1, 0, 0], .blk 2, .c [1, 1, 1, 1, 1]] rfl ?_
            refine j_run it 3 rfl (by simp) ?_
            refine j_nf [.c [1, 1, 1, 1, 0, 1, 0, 0, 0, 1], .c [1, 1, 1, 1, 0, 1, 0, 0, 1], .lp [1, 1, 1, 1, 0, 1, 0, 0], .blk 2, .c [1, 1, 1, 1, 1]] rfl ?_
            refine j_if rfl rfl (fun h8 => by exfalso; omega) (fun h8 => ?_)
            refine j_nf [.o [1, 1, 1, 1, 1, 0] 0, .c [1, 1, 1, 1, 1, 1]] rfl ?_
            refine j_run it 3 rfl (by simp) ?_
            refine j_step rfl (x_call [] rfl (S_delsarte_column (by first | omega | exact side _ (by assumption) | assumption | rfl | (simp; done) | (simp; omega)) (by first | omega | exact side _ (by assumption) | assumption | rfl | (simp; done) | (simp; omega)) (by first | omega | exact side _ (by assumption) | assumption | rfl | (simp; done) | (simp; omega)) (by first | omega | exact side _ (by assumption) | assumption | rfl | (simp; done) | (simp; omega))) rfl ?_)
            rintro _ _ _ ⟨pa1, ca1, rfl, rfl, rfl⟩
            simp only [List.cons_append, List.nil_append]
            refine j_step rfl (x_call [6, 0] rfl (S_rational_Dot (by first | omega | exact side _ (by assumption) | assumption | rfl | (simp; done) | (simp; omega)) (by first | omega | exact side _ (by assumption) | assumption | rfl | (simp; done) | (simp; omega)) (by first | omega | exact side _ (by assumption) | assumption | rfl | (simp; done) | (simp; omega)) (by first | omega | exact side _ (by assumption) | assumption | rfl | (simp; done) | (simp; omega)) (by first | omega | exact side _ (by assumption) | assumption | rfl | (simp; done) | (simp; omega)) (by first | omega | exact side _ (by assumption) | assumption | rfl | (simp; done) | (simp; omega))) rfl ?_)
            rintro _ _ _ ⟨pn3, cn3, pd3, cd3, rfl, rfl, rfl⟩
            simp only [List.cons_append, List.nil_append]
            refine j_run it 2 rfl (by simp) ?_
            refine j_step rfl (x_bst_all 0 rfl rfl rfl ld35 rfl rfl (by simp [Value.oneCell']) ?_)
            refine j_run it 1 rfl (by simp) ?_
            refine j_nf [.c [1, 1, 1, 1, 1, 1]] rfl ?_
            refine j_givC [0, 1] rfl (.agg 0 rfl rfl ld35 rfl (.tmp rfl .nil)) rfl ⟨_, _, _, _, rfl, rfl, rfl⟩
      · have hs : ¬ (vq ((f.getD 0 default).1, (f.getD 0 default).2.1, (f.getD 0 default).2.2) - vq (false, [1], [1])).num.sign = 0 := fun e => h0 (by have := cmp_zero.1 e; rw [e0, vq_oneL] at this; exact this)
        obtain ⟨e1, e2⟩ := no fun h => h0 h.2.1
        rw [e1, e2]
        refine j_nf [.o [0] 0, .c [1]] rfl ?_
        refine j_step rfl (x_alloc zo35 fun b1 => ?_)
        refine j_run it 1 rfl (by simp) ?_
        refine j_nf [.o [1, 0, 0] 0, .c [1, 0, 1], .c [1, 1]] rfl ?_
        refine j_run it 3 rfl (by simp) ?_
        refine j_step rfl (x_call [] rfl (S_delsarte_wrong (by first | omega | exact side _ (by assumption) | assumption | rfl | (simp; done) | (simp; omega))) rfl ?_)
        rintro _ _ _ ⟨rfl, rfl, rfl⟩
        simp only [List.cons_append, List.nil_append]
        refine j_nf [.c [1, 0, 1], .c [1, 1]] rfl ?_
        refine j_false rfl rfl ?_
        refine j_nf [.c [1, 1, 0, 0], .c [1, 1, 0, 1], .c [1, 1, 1]] rfl ?_
        (apply j_drawK it mx 13; (· rfl); (· rfl))
        (apply lxk_run 1; (· rfl); (· simp))
        (apply lxk_eq; (· rfl); (· exact d_x fun _ => x_len sl23 rfl dk_eq))
        (apply lxk_run 2; (· rfl); (· exact (by repeat' first | exact trivial | apply And.intro | omega)))
        (apply lxk_eq; (· rfl); (· exact d_x fun _ => x_falseN it rfl (by trivial) (by omega) dk_eq))
        (apply lxk_run 2; (· rfl); (· simp))
        (apply lxk_pt; (· rfl); (· exact d_x fun _ => x_idx 0 0 rfl rfl rfl sl23 (by omega) (by omega) fun z1 hz1 b2 o1 => (dk_ptD default hz1 0 rfl)); intro b2 o1)
        (apply lxk_rq; (· rfl); (· exact d_x fun _ => x_ld_rt 0 rfl rfl ld35 fun pa1 ca1 pa2 ca2 => (dk_rq 0 1 rfl rfl)); intro pn1 cn1 pd1 cd1)
        (apply lxk_rq; (· rfl); (· exact d_x fun _ => x_call [] rfl (S_delsarte_one) rfl (by rintro _ _ _ ⟨pn2, cn2, pd2, cd2, rfl, rfl, rfl⟩; exact (dk_rq 0 1 rfl rfl))); intro pn2 cn2 pd2 cd2)
        (apply lxk_eq; (· rfl); (· exact d_x fun _ => x_call [2, 3, 0, 1] rfl (S_rational_Cmp (by first | omega | exact side _ (by assumption) | assumption | rfl | (simp; done) | (simp; omega)) (by first | omega | exact side _ (by assumption) | assumption | rfl | (simp; done) | (simp; omega)) (by first | omega | exact side _ (by assumption) | assumption | rfl | (simp; done) | (simp; omega)) (by first | omega | exact side _ (by assumption) | assumption | rfl | (simp; done) | (simp; omega))) rfl (by rintro _ _ _ ⟨rfl, rfl, rfl⟩; exact dk_eq)))
        simp only [vq_rt']
        (apply lxk_eq; (· rfl); (· exact d_x fun _ => x_trueN it rfl (by trivial) (by omega) dk_eq))
        (apply lxk_run 1; (· rfl); (· simp))
        refine lxk_end rfl ?_
        simp only [List.map_cons, List.map_nil, List.cons_append, List.nil_append]
        refine j_nf [.c [1, 1, 0, 1], .c [1, 1, 1]] rfl ?_
        refine j_true rfl rfl ?_
        refine j_nf [.o [1, 1, 0, 1, 0, 0] 0, .c [1, 1, 0, 1, 0, 1], .c [1, 1, 1]] rfl ?_
        refine j_step rfl (x_build (cs := [Value.bool false, Value.slice none 0 0, Value.slice none 0 0]) st35 zo35 rfl rfl ?_)
        refine j_step rfl (x_bst_all 0 rfl rfl rfl ld35 rfl rfl (by simp [Value.oneCell']) ?_)
        refine j_run it 1 rfl (by simp) ?_
        refine j_nf [.c [1, 1, 0, 1, 0, 1], .c [1, 1, 1]] rfl ?_
        refine j_add (slF U32 none 0 0 []) (fun w A _ => slF_nil _ _ _ _ _) ?_
        refine j_givC [0, 0] rfl (.agg 0 rfl rfl ld35 rfl (.tmp rfl .nil)) rfl ⟨_, _, _, _, rfl, rfl, rfl⟩
    · obtain ⟨e1, e2⟩ := no fun h => hl h.1
      rw [e1, e2]
      refine j_nf [.o [0] 0, .c [1]] rfl ?_
      refine j_step rfl (x_alloc zo35 fun b1 => ?_)
      refine j_run it 1 rfl (by simp) ?_
      refine j_nf [.o [1, 0, 0] 0, .c [1, 0, 1], .c [1, 1]] rfl ?_
      refine j_run it 3 rfl (by simp) ?_
      refine j_step rfl (x_call [] rfl (S_delsarte_wrong (by first | omega | exact side _ (by assumption) | assumption | rfl | (simp; done) | (simp; omega))) rfl ?_)
      rintro _ _ _ ⟨rfl, rfl, rfl⟩
      simp only [List.cons_append, List.nil_append]
      refine j_nf [.c [1, 0, 1], .c [1, 1]] rfl ?_
      refine j_false rfl rfl ?_
      refine j_nf [.c [1, 1, 0, 0], .c [1, 1, 0, 1], .c [1, 1, 1]] rfl ?_
      (apply j_drawK it mx 13; (· rfl); (· rfl))
      (apply lxk_run 1; (· rfl); (· simp))
      (apply lxk_eq; (· rfl); (· exact d_x fun _ => x_len sl23 rfl dk_eq))
      (apply lxk_run 2; (· rfl); (· exact (by repeat' first | exact trivial | apply And.intro | omega)))
      (apply lxk_eq; (· rfl); (· exact d_x fun _ => x_trueN it rfl (by trivial) (by omega) dk_eq))
      (apply lxk_run 6; (· rfl); (· simp))
      (apply lxk_run 2; (· rfl); (· simp))
      refine lxk_end rfl ?_
      simp only [List.map_cons, List.map_nil, List.cons_append, List.nil_append]
      refine j_nf [.c [1, 1, 0, 1], .c [1, 1, 1]] rfl ?_
      refine j_true rfl rfl ?_
      refine j_nf [.o [1, 1, 0, 1, 0, 0] 0, .c [1, 1, 0, 1, 0, 1], .c [1, 1, 1]] rfl ?_
      refine j_step rfl (x_build (cs := [Value.bool false, Value.slice none 0 0, Value.slice none 0 0]) st35 zo35 rfl rfl ?_)
      refine j_step rfl (x_bst_all 0 rfl rfl rfl ld35 rfl rfl (by simp [Value.oneCell']) ?_)
      refine j_run it 1 rfl (by simp) ?_
      refine j_nf [.c [1, 1, 0, 1, 0, 1], .c [1, 1, 1]] rfl ?_
      refine j_add (slF U32 none 0 0 []) (fun w A _ => slF_nil _ _ _ _ _) ?_
      refine j_givC [0, 0] rfl (.agg 0 rfl rfl ld35 rfl (.tmp rfl .nil)) rfl ⟨_, _, _, _, rfl, rfl, rfl⟩
  · have hw : decide (rangeP q n d) = !true := by rw [decide_eq_false hr]; rfl
    obtain ⟨eE, eR⟩ := dac_bad hr f
    rw [eE, eR]
    refine j_nf [.o [0] 0, .c [1]] rfl ?_
    refine j_step rfl (x_alloc zo35 fun b1 => ?_)
    refine j_run it 1 rfl (by simp) ?_
    refine j_nf [.o [1, 0, 0] 0, .c [1, 0, 1], .c [1, 1]] rfl ?_
    refine j_run it 3 rfl (by simp) ?_
    refine j_step rfl (x_call [] rfl (S_delsarte_wrong (by first | omega | exact side _ (by assumption) | assumption | rfl | (simp; done) | (simp; omega))) rfl ?_)
    rintro _ _ _ ⟨rfl, rfl, rfl⟩
    simp only [List.cons_append, List.nil_append]
    refine j_nf [.c [1, 0, 1], .c [1, 1]] rfl ?_
    refine j_true rfl rfl ?_
    refine j_nf [.o [1, 0, 1, 0, 0] 0, .c [1, 0, 1, 0, 1], .c [1, 1]] rfl ?_
    refine j_step rfl (x_build (cs := [Value.bool false, Value.slice none 0 0, Value.slice none 0 0]) st35 zo35 rfl rfl ?_)
    refine j_step rfl (x_bst_all 0 rfl rfl rfl ld35 rfl rfl (by simp [Value.oneCell']) ?_)
    refine j_run it 1 rfl (by simp) ?_
    refine j_nf [.c [1, 0, 1, 0, 1], .c [1, 1]] rfl ?_
    refine j_add (slF U32 none 0 0 []) (fun w A _ => slF_nil _ _ _ _ _) ?_
    refine j_givC [0, 0] rfl (.agg 0 rfl rfl ld35 rfl (.tmp rfl .nil)) rfl ⟨_, _, _, _, rfl, rfl, rfl⟩

theorem val_step (q n : Nat) (f : Nat → Rat) (x k : Nat) : rs (k + 1) (fun k => f k * ((kr ((q : Int) - 1) n k x : Int) : Rat)) = rs k (fun k => f k * ((kr ((q : Int) - 1) n k x : Int) : Rat)) + f k * ((kr ((q : Int) - 1) n k x : Int) : Rat) := rfl
theorem val_part_bd {q n : Nat} {f : List Rt} {x : Nat} (hq : 2 ≤ q) (hq2 : q ≤ 256) (hn : n ≤ 64) (hx : x ≤ n) (hf : ∀ r ∈ f, okR 17 r) (hl : f.length = n + 1) : ∀ k, k ≤ n + 1 → bd (35 * k + 1) (rs k (fun k => fQ f k * ((kr ((q : Int) - 1) n k x : Int) : Rat)))
  | 0, _ => bd_zero (by omega)
  | k + 1, hk => by
    have h1 := val_part_bd hq hq2 hn hx hf hl k (by omega)
    have h2 := okR_bd (kr_ok (k := k) hq hq2 hn hx) (by decide)
    rw [vq_rt] at h2
    have h3 := bd_mul (okR_bd (okR_at hf (show k < f.length by omega)) (by decide)) h2 (by decide)
    exact bd_mono (bd_add h1 h3) (by omega)
theorem S_codewrightref36_value {q n x : Nat} {pa : Option Addr} {nf ca : Nat} {f : List Rt} (hq : 2 ≤ q) (hq2 : q ≤ 256) (hn : n ≤ 64) (hx : x ≤ n) (hf : ∀ r ∈ f, okR 17 r) (hl : f.length = n + 1) :
    Ctr Try.prog 50 [.int .i64 q, .int .i64 n, .slice pa nf ca, .int .i64 x] [] [slF RatE pa nf ca f] (RtV (rt (valF q n (fQ f) x))) := by
  refine Ctr_of_j' (F := F_codewrightref36_value) rfl fun C => ?_
  refine j_len 0 rfl fun hn' _ _ => ?_
  subst hn'
  have hi0 : InR .i64 (0 : Int) := by simp [InR]
  refine j_nf [.o [0] 0, .c [1]] rfl ?_
  refine j_step rfl (x_alloc zo35 fun b1 => ?_)
  refine j_nf [.o [1, 0] 0, .c [1, 1]] rfl ?_
  refine j_step rfl (x_call [] rfl (S_codewrightref02_Int (by first | omega | exact side _ (by assumption) | assumption | rfl | (simp; done) | (simp; omega))) rfl ?_)
  rintro _ _ _ ⟨pn1, cn1, pd1, cd1, rfl, rfl, rfl⟩
  simp only [List.cons_append, List.nil_append]
  refine j_step rfl (x_alloc zo35 fun b2 => ?_)
  refine j_step rfl (x_bst_all 0 rfl rfl rfl ld35 rfl rfl (by simp [Value.oneCell']) ?_)
  refine j_nf [.o [1, 1, 0, 0] 0, .c [1, 1, 0, 1], .c [1, 1, 1]] rfl ?_
  refine j_run it 1 rfl (by simp) ?_
  refine j_nf [.c [1, 1, 0, 1, 0], .blk 0, .c [1, 1, 1]] rfl ?_
  rw [show ((0 : Int) : Rat) = 0 from rfl]
  refine j_loopG (X := Nat × Rat × (Option Addr × Nat) × (Option Addr × Nat)) [0, 1, 2, 3, 8, 9] [0, 1, 2] (fun x => [(10, .int .i64 x.1)])
    (fun x => [(some b2, 35, [.bool (rt x.2.1).1, .slice x.2.2.1.1 (rt x.2.1).2.1.length x.2.2.1.2, .slice x.2.2.2.1 (rt x.2.1).2.2.length x.2.2.2.2]), (some b1, 35, [.bool false, .slice none 0 0, .slice none 0 0])])
    (fun x => [slF U32 x.2.2.1.1 (rt x.2.1).2.1.length x.2.2.1.2 (rt x.2.1).2.1, slF U32 x.2.2.2.1 (rt x.2.1).2.2.length x.2.2.2.2 (rt x.2.1).2.2])
    (fun y => y.1 ≤ n + 1 ∧ y.2.1 = rs y.1 (fun k => fQ f k * ((kr ((q : Int) - 1) n k x : Int) : Rat))) (fun x => n + 1 - x.1) (0, 0, (pn1, cn1), (pd1, cd1)) [0, 1] rfl rfl rfl ⟨Nat.zero_le _, rfl⟩ (by repeat (first | exact Fr.sub_nil _ | refine Fr.sub_cons rfl ?_)) rfl rfl ?_
  rintro ⟨k, s, ⟨pn, cn⟩, ⟨pd, cd⟩⟩ ⟨hk, hs⟩ ih
  simp only [List.cons_append, List.nil_append] at hk hs ih ⊢
  have b1 := val_part_bd hq hq2 hn hx hf hl k hk
  rw [← hs] at b1
  obtain ⟨w1, w2⟩ := bd_len b1
  by_cases hkl : k ≤ n
  · have z1 := okR_at hf (show k < f.length by omega)
    obtain ⟨y1, y2⟩ := z1.2.2
    have z2 := kr_ok (k := k) hq hq2 hn hx
    obtain ⟨y3, y4⟩ := z2.2.2
    have h2 := okR_bd z2 (by decide)
    rw [vq_rt] at h2
    have b2 := bd_mul (okR_bd z1 (by decide)) h2 (by decide)
    have ef : vq ((f.getD k default).1, (f.getD k default).2.1, (f.getD k default).2.2) = fQ f k := rfl
    have b2 : bd (17 + 17) (fQ f k * ((kr ((q : Int) - 1) n k x : Int) : Rat)) := b2
    rw [← ef] at b2
    obtain ⟨w3, w4⟩ := bd_len b2
    refine j_nf [.o [1, 1, 0, 1, 0, 0, 0, 0] 0, .c [1, 1, 0, 1, 0, 0, 0, 1], .c [1, 1, 0, 1, 0, 0, 1], .lp [1, 1, 0, 1, 0, 0], .blk 0, .c [1, 1, 1]] rfl ?_
    refine j_run it 3 rfl (by simp) ?_
    refine j_nf [.c [1, 1, 0, 1, 0, 0, 0, 1], .c [1, 1, 0, 1, 0, 0, 1], .lp [1, 1, 0, 1, 0, 0], .blk 0, .c [1, 1, 1]] rfl ?_
    refine j_if rfl rfl (fun h1 => ?_) (fun h1 => by exfalso; omega)
    refine j_nf [.c [1, 1, 0, 1, 0, 0, 1, 0, 0], .blk 1, .c [1, 1, 0, 1, 0, 0, 1, 1], .lp [1, 1, 0, 1, 0, 0], .blk 0, .c [1, 1, 1]] rfl ?_
    (apply j_drawK it mx 12; (· rfl); (· rfl))
    (apply lxk_eq; (· rfl); (· exact d_bld_all 0 rfl rfl ld35 rfl))
    (apply lxk_run 2; (· rfl); (· simp))
    (apply lxk_pt; (· rfl); (· exact d_x fun _ => x_idx 4 (k) rfl rfl rfl sl23 rfl (by omega) fun z3 hz1 b3 o1 => (dk_ptD default hz1 0 rfl)); intro b3 o1)
    (apply lxk_rq; (· rfl); (· exact d_x fun _ => x_ld_rt 0 rfl rfl ld35 fun pa1 ca1 pa2 ca2 => (dk_rq 0 1 rfl rfl)); intro pn2 cn2 pd2 cd2)
    (apply lxk_run 4; (· rfl); (· simp))
    (apply lxk_rq; (· rfl); (· exact d_x fun _ => x_call [] rfl (S_codewrightref24_Krawtchouk (by first | omega | exact side _ (by assumption) | assumption | rfl | (simp; done) | (simp; omega)) (by first | omega | exact side _ (by assumption) | assumption | rfl | (simp; done) | (simp; omega)) (by first | omega | exact side _ (by assumption) | assumption | rfl | (simp; done) | (simp; omega)) (by first | omega | exact side _ (by assumption) | assumption | rfl | (simp; done) | (simp; omega)) (by first | omega | exact side _ (by assumption) | assumption | rfl | (simp; done) | (simp; omega))) rfl (by rintro _ _ _ ⟨pn3, cn3, pd3, cd3, rfl, rfl, rfl⟩; exact (dk_rq 0 1 rfl rfl))); intro pn3 cn3 pd3 cd3)
    (apply lxk_rq; (· rfl); (· exact d_x fun _ => x_call [2, 3, 0, 1] rfl (S_codewrightref02_Mul (by first | omega | exact side _ (by assumption) | assumption | rfl | (simp; done) | (simp; omega)) (by first | omega | exact side _ (by assumption) | assumption | rfl | (simp; done) | (simp; omega)) (by first | omega | exact side _ (by assumption) | assumption | rfl | (simp; done) | (simp; omega)) (by first | omega | exact side _ (by assumption) | assumption | rfl | (simp; done) | (simp; omega))) rfl (by rintro _ _ _ ⟨pn4, cn4, pd4, cd4, rfl, rfl, rfl⟩; exact (dk_rq 0 1 rfl rfl))); intro pn4 cn4 pd4 cd4)
    simp only [vq_rt']
    (apply lxk_rq; (· rfl); (· exact d_x fun _ => x_call [7, 8, 0, 1] rfl (S_codewrightref02_Add (by first | omega | exact side _ (by assumption) | assumption | rfl | (simp; done) | (simp; omega)) (by first | omega | exact side _ (by assumption) | assumption | rfl | (simp; done) | (simp; omega)) (by first | omega | exact side _ (by assumption) | assumption | rfl | (simp; done) | (simp; omega)) (by first | omega | exact side _ (by assumption) | assumption | rfl | (simp; done) | (simp; omega))) rfl (by rintro _ _ _ ⟨pn5, cn5, pd5, cd5, rfl, rfl, rfl⟩; exact (dk_rq 0 1 rfl rfl))); intro pn5 cn5 pd5 cd5)
    simp only [vq_rt']
    refine lxk_end rfl ?_
    simp only [List.map_cons, List.map_nil, List.cons_append, List.nil_append]
    refine j_step rfl (x_bst_all 0 rfl rfl rfl ld35 rfl rfl (by simp [Value.oneCell']) ?_)
    refine j_nf [.o [1, 1, 0, 1, 0, 0, 1, 1] 0, .lp [1, 1, 0, 1, 0, 0], .blk 0, .c [1, 1, 1]] rfl ?_
    refine j_run it 3 rfl (by repeat' first | exact trivial | apply And.intro | omega) ?_
    refine j_nfn 1 [.lp [1, 1, 0, 1, 0, 0], .blk 0, .c [1, 1, 1]] rfl ?_
    rw [ef]
    refine j_to [0, 1, 11, 12, 13] (by repeat (first | exact Fr.sub_nil _ | refine Fr.sub_cons rfl ?_ | refine Fr.sub_consI rfl (by first | omega | (dsimp only; omega)) ?_ | refine Fr.sub_consS rfl (by first | omega | (dsimp only; omega)) (by first | omega | (dsimp only; omega)) ?_)) rfl rfl (ih (k + 1, s + fQ f k * ((kr ((q : Int) - 1) n k x : Int) : Rat), (pn5, cn5), (pd5, cd5)) (by dsimp only; omega) ⟨by dsimp only; omega, by dsimp only; rw [hs]; rfl⟩)
  · obtain rfl : k = n + 1 := by omega
    rw [show s = valF q n (fQ f) x from hs]
    refine j_nf [.o [1, 1, 0, 1, 0, 0, 0, 0] 0, .c [1, 1, 0, 1, 0, 0, 0, 1], .c [1, 1, 0, 1, 0, 0, 1], .lp [1, 1, 0, 1, 0, 0], .blk 0, .c [1, 1, 1]] rfl ?_
    refine j_run it 3 rfl (by simp) ?_
    refine j_nf [.c [1, 1, 0, 1, 0, 0, 0, 1], .c [1, 1, 0, 1, 0, 0, 1], .lp [1, 1, 0, 1, 0, 0], .blk 0, .c [1, 1, 1]] rfl ?_
    refine j_if rfl rfl (fun h1 => by exfalso; omega) (fun h1 => ?_)
    refine j_nf [.o [1, 1, 1, 0] 0, .c [1, 1, 1, 1]] rfl ?_
    refine j_step rfl (x_bld_all 0 rfl rfl ld35 rfl ?_)
    refine j_step rfl (x_bst_all 1 rfl rfl rfl ld35 rfl rfl (by simp [Value.oneCell']) ?_)
    refine j_nf [.c [1, 1, 1, 1]] rfl ?_
    refine j_givC [0, 1] rfl (.agg 1 rfl rfl ld35 rfl .nil) rfl ⟨_, _, _, _, rfl, rfl, rfl⟩
end Go.Proofs.Ytlhgkefaflpgeaa

namespace Go.Proofs.Ytlhgkefaflpgeaa
open Go Go.Fw
set_option maxRecDepth 100000
set_option linter.unusedVariables false
set_option linter.unusedSimpArgs false
set_option maxHeartbeats 4000000
/-- A fraction, and a test. -/
abbrev RtB (r : Rt) (e : Bool) : Value → List Fact → List Blk → Prop := fun v Φ β => ∃ pn cn pd cd, v = .tuple #[.agg #[.bool r.1, .slice pn r.2.1.length cn, .slice pd r.2.2.length cd], .bool e] ∧ Φ = [slF U32 pn r.2.1.length cn r.2.1, slF U32 pd r.2.2.length cd r.2.2] ∧ β = []
end Go.Proofs.Ytlhgkefaflpgeaa

namespace Go.Proofs.Ytlhgkefaflpgeaa
open Go Go.Fw
set_option maxRecDepth 100000
set_option linter.unusedVariables false
set_option linter.unusedSimpArgs false
set_option maxHeartbeats 4000000
def fewK (r : Rt) : Bool := decide (r.2.1.length + r.2.2.length ≤ 8)
def fitsF (f : List Rt) : Bool := f.all fewK && decide (f.length ≤ 20)
theorem allB_stop {α : Type} {L : List α} {k : Nat} {z : α} {f : α → Bool} (hz : L[k]? = some z) (h : f z = false) : L.all f = false := by
  rw [List.all_eq_false]; exact ⟨z, List.mem_of_getElem? hz, by simp [h]⟩
theorem allB_step {α : Type} {L : List α} {k : Nat} {z : α} {f : α → Bool} (hz : L[k]? = some z) (h : (L.take k).all f = true) (hf : f z = true) : (L.take (k + 1)).all f = true := by
  rw [List.take_add_one, hz, List.all_append, h]; simp [hf]
theorem rts_lens {P : Program} {F : Fun P} {C : Cx} {S : List It} {σ : Fr} {β : List Blk} {Γ : List Fact} {R : Value → World → Prop} {pa : Option Addr} {n ca : Nat} {ls : List Rt} (k : Nat) (hk : nth Γ k = some (slF RatE pa n ca ls))
    (h : (∀ r ∈ ls, r.2.1.length ≤ 35184372088832 ∧ r.2.2.length ≤ 35184372088832) → J F C S σ β Γ R) : J F C S σ β Γ R :=
  j_know (fun w A hG r hr => by
    obtain ⟨_, _, _, hs⟩ := hG _ (fact_mem hk)
    rcases hs with rfl | ⟨b, o, _, _, hel⟩
    · cases hr
    · obtain ⟨i, hi⟩ := List.getElem?_of_mem hr
      obtain ⟨vs, _, hrd⟩ := hel i r hi
      obtain ⟨_, _, _, _, _, h1, h2⟩ := rt_open hrd
      have k1 : r.2.1.length * 4 ≤ 140737488355328 := h1.2.1
      have k2 : r.2.2.length * 4 ≤ 140737488355328 := h2.2.1
      omega) h
theorem S_codewrightlaw36_fits {pa : Option Addr} {n ca : Nat} {f : List Rt} {res : Bool} (hres : fitsF f = res) : Ctr Try.prog 21 [.slice pa n ca] [] [slF RatE pa n ca f] (Rv (.bool res) []) := by
  subst hres
  refine Ctr_of_j' (F := F_codewrightlaw36_fits) rfl fun C => ?_
  refine j_len 0 rfl fun hn hb _ => ?_
  have hb' : f.length * 56 ≤ 140737488355328 := hb
  subst hn
  refine rts_lens 0 rfl fun hlen => ?_
  refine j_nf [.o [0] 0, .c [1]] rfl ?_
  refine j_run it 1 rfl (by simp) ?_
  refine j_nf [.o [1, 0, 0] 0, .c [1, 0, 1], .c [1, 1]] rfl ?_
  refine j_run it 1 rfl (by simp) ?_
  refine j_nf [.c [1, 0, 1, 0], .blk 0, .c [1, 1]] rfl ?_
  refine j_loopG (X := Nat) [0] [0] (fun k => [(3, .int .i64 k)]) (fun _ => []) (fun _ => []) (fun k => k ≤ f.length ∧ (f.take k).all fewK = true) (fun k => f.length - k) 0 [] rfl rfl rfl ⟨Nat.zero_le _, rfl⟩ (by repeat (first | exact Fr.sub_nil _ | refine Fr.sub_cons rfl ?_)) rfl rfl ?_
  rintro k ⟨hk, hp⟩ ih
  simp only [List.cons_append, List.nil_append] at hk hp ih ⊢
  by_cases hkl : k < f.length
  · have hz := getD_at hkl
    obtain ⟨l1, l2⟩ := hlen _ (List.mem_of_getElem? hz)
    refine j_nf [.o [1, 0, 1, 0, 0, 0, 0] 0, .c [1, 0, 1, 0, 0, 0, 1], .c [1, 0, 1, 0, 0, 1], .lp [1, 0, 1, 0, 0], .blk 0, .c [1, 1]] rfl ?_
    refine j_run it 2 rfl (by simp) ?_
    refine j_step rfl (x_len sl23 rfl ?_)
    refine j_run it 1 rfl (by simp) ?_
    refine j_nf [.c [1, 0, 1, 0, 0, 0, 1], .c [1, 0, 1, 0, 0, 1], .lp [1, 0, 1, 0, 0], .blk 0, .c [1, 1]] rfl ?_
    refine j_if rfl rfl (fun h1 => ?_) (fun h1 => by exfalso; omega)
    refine j_nf [.c [1, 0, 1, 0, 0, 1, 0, 0, 0], .c [1, 0, 1, 0, 0, 1, 0, 0, 1], .blk 1, .c [1, 0, 1, 0, 0, 1, 1], .lp [1, 0, 1, 0, 0], .blk 0, .c [1, 1]] rfl ?_
    (apply j_drawK it mx 14; (· rfl); (· rfl))
    (apply lxk_run 2; (· rfl); (· simp))
    (apply lxk_pt; (· rfl); (· exact d_x fun _ => x_idx 0 (k) rfl rfl rfl sl23 rfl (by omega) fun z1 hz1 b1 o1 => (dk_ptD default hz1 0 rfl)); intro b1 o1)
    (apply lxk_pt; (· rfl); (· exact d_x fun _ => x_field_rt rfl fd35_1 (fun w A hG => rt_f1 (hG _ (fact_mem (n := 0) rfl))) (dk_pt 0 rfl)); intro b2 o2)
    (apply lxk_sl; (· rfl); (· exact d_x fun _ => x_ld_sl 0 rfl rfl ld33 fun pa1 ca1 => (dk_sl 0 rfl)); intro pa1 ca1)
    (apply lxk_eq; (· rfl); (· exact d_x fun _ => x_len sl33 rfl dk_eq))
    (apply lxk_run 2; (· rfl); (· simp))
    (apply lxk_pt; (· rfl); (· exact d_x fun _ => x_idx 0 (k) rfl rfl rfl sl23 rfl (by omega) fun z1 hz1 b3 o3 => (dk_ptD default hz1 0 rfl)); intro b3 o3)
    (apply lxk_pt; (· rfl); (· exact d_x fun _ => x_field_rt rfl fd35_2 (fun w A hG => rt_f2 (hG _ (fact_mem (n := 0) rfl))) (dk_pt 0 rfl)); intro b4 o4)
    (apply lxk_sl; (· rfl); (· exact d_x fun _ => x_ld_sl 0 rfl rfl ld33 fun pa2 ca2 => (dk_sl 0 rfl)); intro pa2 ca2)
    (apply lxk_eq; (· rfl); (· exact d_x fun _ => x_len sl33 rfl dk_eq))
    (apply lxk_run 2; (· rfl); (· exact (by repeat' first | exact trivial | apply And.intro | omega)))
    refine lxk_end rfl ?_
    simp only [List.map_cons, List.map_nil, List.cons_append, List.nil_append]
    refine j_nf [.c [1, 0, 1, 0, 0, 1, 0, 0, 1], .blk 1, .c [1, 0, 1, 0, 0, 1, 1], .lp [1, 0, 1, 0, 0], .blk 0, .c [1, 1]] rfl ?_
    refine j_if rfl rfl (fun h2 => ?_) (fun h2 => ?_)
    · rw [fitsF, allB_stop hz (by rw [fewK]; refine decide_eq_false ?_; omega), Bool.false_and]
      refine j_nf [.o [1, 0, 1, 0, 0, 1, 0, 0, 1, 0, 0] 0, .c [1, 0, 1, 0, 0, 1, 0, 0, 1, 0, 1], .blk 1, .c [1, 0, 1, 0, 0, 1, 1], .lp [1, 0, 1, 0, 0], .blk 0, .c [1, 1]] rfl ?_
      refine j_run it 1 rfl (by simp) ?_
      refine j_nf [.c [1, 0, 1, 0, 0, 1, 0, 0, 1, 0, 1], .blk 1, .c [1, 0, 1, 0, 0, 1, 1], .lp [1, 0, 1, 0, 0], .blk 0, .c [1, 1]] rfl ?_
      refine j_giv [] rfl rfl rfl ⟨rfl, rfl, rfl⟩
    · refine j_nf [.o [1, 0, 1, 0, 0, 1, 1] 0, .lp [1, 0, 1, 0, 0], .blk 0, .c [1, 1]] rfl ?_
      refine j_run it 3 rfl (by repeat' first | exact trivial | apply And.intro | omega) ?_
      refine j_nfn 1 [.lp [1, 0, 1, 0, 0], .blk 0, .c [1, 1]] rfl ?_
      refine j_to [6] (by repeat (first | exact Fr.sub_nil _ | refine Fr.sub_cons rfl ?_ | refine Fr.sub_consI rfl (by first | omega | (dsimp only; omega)) ?_ | refine Fr.sub_consS rfl (by first | omega | (dsimp only; omega)) (by first | omega | (dsimp only; omega)) ?_)) rfl rfl (ih (k + 1) (by omega) ⟨by omega, allB_step hz hp (by rw [fewK]; refine decide_eq_true ?_; omega)⟩)
  · obtain rfl : f.length = k := by omega
    rw [List.take_length] at hp
    have e : fitsF f = decide ((f.length : Int) ≤ 20) := by
      rw [fitsF, hp, Bool.true_and]
      by_cases h : f.length ≤ 20
      · rw [decide_eq_true h, decide_eq_true (by omega)]
      · rw [decide_eq_false h, decide_eq_false (by omega)]
    rw [e]
    refine j_nf [.o [1, 0, 1, 0, 0, 0, 0] 0, .c [1, 0, 1, 0, 0, 0, 1], .c [1, 0, 1, 0, 0, 1], .lp [1, 0, 1, 0, 0], .blk 0, .c [1, 1]] rfl ?_
    refine j_run it 2 rfl (by simp) ?_
    refine j_step rfl (x_len sl23 rfl ?_)
    refine j_run it 1 rfl (by simp) ?_
    refine j_nf [.c [1, 0, 1, 0, 0, 0, 1], .c [1, 0, 1, 0, 0, 1], .lp [1, 0, 1, 0, 0], .blk 0, .c [1, 1]] rfl ?_
    refine j_if rfl rfl (fun h1 => by exfalso; omega) (fun h1 => ?_)
    refine j_nf [.o [1, 1, 0] 0, .c [1, 1, 1]] rfl ?_
    refine j_run it 1 rfl (by simp) ?_
    refine j_step rfl (x_len sl23 rfl ?_)
    refine j_run it 2 rfl (by simp) ?_
    refine j_nf [.c [1, 1, 1]] rfl ?_
    refine j_giv [] rfl rfl rfl ⟨rfl, rfl, rfl⟩
theorem fits_ok {f : List Rt} (h : fitsF f = true) (hr : ∀ r ∈ f, (∀ x ∈ r.2.1, x < 4294967296) ∧ (∀ x ∈ r.2.2, x < 4294967296)) : ∀ r ∈ f, okR 17 r := fun r hm => by
  rw [fitsF, Bool.and_eq_true] at h
  have := of_decide_eq_true (List.all_eq_true.1 h.1 r hm)
  exact ⟨(hr r hm).1, (hr r hm).2, by omega, by omega⟩

theorem S_codewrightref36_Power {q n : Nat} {z : Int} (hz : z = (n : Int)) (hq : q < 4294967296) (hn : n ≤ 4000) : Ctr Try.prog 28 [.int .i64 q, .int .i64 z] [] [] (RtV (rt (((q ^ n : Nat) : Int) : Rat))) := by
  subst hz
  refine Ctr_of_j' (F := F_codewrightref36_Power) rfl fun C => ?_
  have hv : val (limbs q) < 4294967296 := by rw [val_limbs]; exact hq
  have hp := pow_len hv hn
  refine j_nf [.o [0] 0, .c [1]] rfl ?_
  refine j_step rfl (x_alloc zo35 fun b1 => ?_)
  refine j_nf [.o [1, 0] 0, .c [1, 1]] rfl ?_
  refine j_run it 2 rfl (by repeat' first | exact trivial | apply And.intro | omega) ?_
  refine j_step rfl (x_call [] rfl (S_codewrightref01_Of (by first | omega | exact side _ (by assumption) | assumption | rfl | (simp; done) | (simp; omega))) rfl ?_)
  rintro _ _ _ ⟨pa1, ca1, rfl, rfl, rfl⟩
  simp only [List.cons_append, List.nil_append]
  refine j_run it 1 rfl (by simp) ?_
  refine j_step rfl (x_call [0] rfl (S_codewrightref01_Pow (by first | omega | exact side _ (by assumption) | assumption | rfl | (simp; done) | (simp; omega)) (by first | omega | exact side _ (by assumption) | assumption | rfl | (simp; done) | (simp; omega))) rfl ?_)
  rintro _ _ _ ⟨pa2, ca2, rfl, rfl, rfl⟩
  simp only [List.cons_append, List.nil_append]
  refine j_run it 5 rfl (by simp) ?_
  refine j_nf [.o [1, 1, 0] 0, .c [1, 1, 1]] rfl ?_
  refine j_run it 1 rfl (by simp) ?_
  refine j_step rfl (x_call [0] rfl (S_codewrightref02_Nat (by first | omega | exact side _ (by assumption) | assumption | rfl | (simp; done) | (simp; omega))) rfl ?_)
  rintro _ _ _ ⟨pn1, cn1, pd1, cd1, rfl, rfl, rfl⟩
  simp only [List.cons_append, List.nil_append]
  refine j_step rfl (x_bst_all 0 rfl rfl rfl ld35 rfl rfl (by simp [Value.oneCell']) ?_)
  refine j_nf [.c [1, 1, 1]] rfl ?_
  rw [val_limbs, val_limbs]
  refine j_givC [0, 1] rfl (.agg 0 rfl rfl ld35 rfl .nil) rfl ⟨_, _, _, _, rfl, rfl, rfl⟩
theorem S_codewrightref36_Singleton {n d : Nat} (hn : n ≤ 64) (h1 : 1 ≤ d) (h2 : d ≤ n) : Ctr Try.prog 27 [.int .i64 n, .int .i64 d] [] [] (SvM RatE (n + 1) (singR n d)) := by
  refine Ctr_of_j' (F := F_codewrightref36_Singleton) rfl fun C => ?_
  refine j_nf [.o [0] 0, .c [1]] rfl ?_
  refine j_run it 1 rfl (by simp) ?_
  refine j_nf [.o [1, 0] 0, .c [1, 1]] rfl ?_
  refine j_run it 1 rfl (by simp) ?_
  refine j_nf [.o [1, 1, 0, 0] 0, .c [1, 1, 0, 1], .c [1, 1, 1]] rfl ?_
  refine j_run it 1 rfl (by simp) ?_
  refine j_nf [.c [1, 1, 0, 1, 0], .blk 0, .c [1, 1, 1]] rfl ?_
  refine j_row0 RatE 35 ?_
  refine j_loopG (X := Nat × Row) [0, 1, 4] [] (fun x => [(6, .int .i64 x.1), (5, .slice (ad x.2.bo) x.1 x.2.cap)]) (fun x => [(x.2.bo, 35, x.2.cs)]) (fun x => [rowF RatE x.2 x.1 ((List.range x.1).map fun k => rt (mkRat (binom (n - k) (d - 1) : Int) (binom n (d - 1))))])
    (fun x => x.1 ≤ n + 1) (fun x => n + 1 - x.1) (0, ⟨none, 0, []⟩) [0] rfl rfl rfl (Nat.zero_le _) (by repeat (first | exact Fr.sub_nil _ | refine Fr.sub_cons rfl ?_)) rfl rfl ?_
  rintro ⟨k, r⟩ hk ih
  simp only [List.cons_append, List.nil_append] at hk ih ⊢
  by_cases hkl : k ≤ n
  · have hb1 := binom_len (show n - k ≤ 4096 by omega) (d - 1)
    have hb2 := binom_len (show n ≤ 4096 by omega) (d - 1)
    have ev' : vq (false, limbs (binom (n - k) (d - 1)), limbs (binom n (d - 1))) = mkRat (binom (n - k) (d - 1) : Int) (binom n (d - 1)) := by
      rw [vq_eq]; simp only [val_limbs]; rfl
    refine j_nf [.o [1, 1, 0, 1, 0, 0, 0, 0] 0, .c [1, 1, 0, 1, 0, 0, 0, 1], .c [1, 1, 0, 1, 0, 0, 1], .lp [1, 1, 0, 1, 0, 0], .blk 0, .c [1, 1, 1]] rfl ?_
    refine j_run it 3 rfl (by simp) ?_
    refine j_nf [.c [1, 1, 0, 1, 0, 0, 0, 1], .c [1, 1, 0, 1, 0, 0, 1], .lp [1, 1, 0, 1, 0, 0], .blk 0, .c [1, 1, 1]] rfl ?_
    refine j_if rfl rfl (fun h3 => ?_) (fun h3 => by exfalso; omega)
    refine j_nf [.o [1, 1, 0, 1, 0, 0, 1, 0, 0] 0, .blk 1, .c [1, 1, 0, 1, 0, 0, 1, 1], .lp [1, 1, 0, 1, 0, 0], .blk 0, .c [1, 1, 1]] rfl ?_
    refine j_run it 6 rfl (by repeat' first | exact trivial | apply And.intro | omega) ?_
    refine j_recast (t := 15) ((((n) - (k)) : Nat) : Int) rfl (by omega) ?_
    refine j_recast (t := 17) ((((d) - 1) : Nat) : Int) rfl (by omega) ?_
    refine j_step rfl (x_call [] rfl (S_codewrightref01_Choose (by first | omega | exact side _ (by assumption) | assumption | rfl | (simp; done) | (simp; omega))) rfl ?_)
    rintro _ _ _ ⟨pa1, ca1, rfl, rfl, rfl⟩
    simp only [List.cons_append, List.nil_append]
    refine j_run it 3 rfl (by repeat' first | exact trivial | apply And.intro | omega) ?_
    refine j_recast (t := 21) ((((d) - 1) : Nat) : Int) rfl (by omega) ?_
    refine j_step rfl (x_call [] rfl (S_codewrightref01_Choose (by first | omega | exact side _ (by assumption) | assumption | rfl | (simp; done) | (simp; omega))) rfl ?_)
    rintro _ _ _ ⟨pa2, ca2, rfl, rfl, rfl⟩
    simp only [List.cons_append, List.nil_append]
    refine j_step rfl (x_call [1, 0] rfl (S_codewrightref02_Make (by first | omega | exact side _ (by assumption) | assumption | rfl | (simp; done) | (simp; omega)) (by first | omega | exact side _ (by assumption) | assumption | rfl | (simp; done) | (simp; omega))) rfl ?_)
    rintro _ _ _ ⟨pn1, cn1, pd1, cd1, rfl, rfl, rfl⟩
    simp only [List.cons_append, List.nil_append]
    refine j_step rfl (x_lit sl23 zo23e rfl rfl rfl rfl (by decide) (by decide) rfl fun b1 => ?_)
    refine j_step rfl (x_appR (z := ((rt (vq (false, limbs (binom (n - k) (d - 1)), limbs (binom n (d - 1))))).fst, ((rt (vq (false, limbs (binom (n - k) (d - 1)), limbs (binom n (d - 1))))).snd.fst, (rt (vq (false, limbs (binom (n - k) (d - 1)), limbs (binom n (d - 1))))).snd.snd))) 1 0 4 rfl rfl rfl rfl rfl sl23 zo23e rfl (fun w A hG => (rd_pair (v1 := [Value.bool (rt (vq (false, limbs (binom (n - k) (d - 1)), limbs (binom n (d - 1))))).fst]) (rd_bool _) (rd_pair (v1 := [Value.slice pn1 (rt (vq (false, limbs (binom (n - k) (d - 1)), limbs (binom n (d - 1))))).snd.fst.length cn1]) (rd_of_slF (hG _ (fact_mem (n := 0) rfl))) (rd_of_slF (hG _ (fact_mem (n := 1) rfl)))))) (by omega) _ by23e (by omega) fun r1 => ?_)
    refine j_run it 1 rfl (by simp) ?_
    refine j_nf [.o [1, 1, 0, 1, 0, 0, 1, 1] 0, .lp [1, 1, 0, 1, 0, 0], .blk 0, .c [1, 1, 1]] rfl ?_
    refine j_run it 3 rfl (by repeat' first | exact trivial | apply And.intro | omega) ?_
    refine j_nfn 1 [.lp [1, 1, 0, 1, 0, 0], .blk 0, .c [1, 1, 1]] rfl ?_
    simp only [ev']
    rw [← range_snoc fun k => rt (mkRat (binom (n - k) (d - 1) : Int) (binom n (d - 1)))]
    refine j_toM [true, false] [0] (by repeat (first | exact Fr.sub_nil _ | refine Fr.sub_cons rfl ?_ | refine Fr.sub_consI rfl (by first | omega | (dsimp only; omega)) ?_ | refine Fr.sub_consS rfl (by first | omega | (dsimp only; omega)) (by first | omega | (dsimp only; omega)) ?_)) rfl rfl (ih (k + 1, r1) (by dsimp only; omega) (by dsimp only; omega))
  · obtain rfl : k = n + 1 := by omega
    refine j_nf [.o [1, 1, 0, 1, 0, 0, 0, 0] 0, .c [1, 1, 0, 1, 0, 0, 0, 1], .c [1, 1, 0, 1, 0, 0, 1], .lp [1, 1, 0, 1, 0, 0], .blk 0, .c [1, 1, 1]] rfl ?_
    refine j_run it 3 rfl (by simp) ?_
    refine j_nf [.c [1, 1, 0, 1, 0, 0, 0, 1], .c [1, 1, 0, 1, 0, 0, 1], .lp [1, 1, 0, 1, 0, 0], .blk 0, .c [1, 1, 1]] rfl ?_
    refine j_if rfl rfl (fun h3 => by exfalso; omega) (fun h3 => ?_)
    refine j_nf [.o [1, 1, 1, 0] 0, .c [1, 1, 1, 1]] rfl ?_
    refine j_run it 2 rfl (by simp) ?_
    refine j_nf [.c [1, 1, 1, 1]] rfl ?_
    refine j_pubR 0 0 rfl rfl (by show (n + 1) * 56 ≤ 140737488355328; omega) ?_
    rw [show ((List.range (n + 1)).map fun k => rt (mkRat (binom (n - k) (d - 1) : Int) (binom n (d - 1)))) = singR n d from rfl]
    refine j_giv [0] rfl rfl rfl ⟨_, _, rfl, rfl, rfl⟩
theorem sing_ok {n d : Nat} (hn : n ≤ 64) (h1 : 1 ≤ d) (h2 : d ≤ n) : ∀ r ∈ singR n d, okR 17 r := fun r hr => by
  obtain ⟨k, _, rfl⟩ := List.mem_map.1 hr
  have b1 := Nat.lt_of_lt_of_le (binom_lt (show n - k ≤ 64 by omega) (d - 1)) (Nat.pow_le_pow_right (show 0 < 4294967296 by decide) (show 3 ≤ 17 by decide))
  have b2 := Nat.lt_of_lt_of_le (binom_lt hn (d - 1)) (Nat.pow_le_pow_right (show 0 < 4294967296 by decide) (show 3 ≤ 17 by decide))
  exact okR_rt (bd_mk (n := false) (by decide) b1 b2)
end Go.Proofs.Ytlhgkefaflpgeaa
