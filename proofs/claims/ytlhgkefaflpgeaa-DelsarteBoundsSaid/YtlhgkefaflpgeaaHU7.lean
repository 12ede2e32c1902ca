/-
The program's Accept of certificates. The document's Is, Inv and Pow of fractions; the laws' k, pow and choose. Singleton's certificate, powers; fits and the example of the laws. The example of the laws on linear programming bounds: the words of even weight. The walk of DelsarteBounds.
-/
import Derived.Test.YtlhgkefaflpgeaaHU6
set_option linter.unusedVariables false
set_option linter.unusedSimpArgs false

namespace Go.Proofs.Ytlhgkefaflpgeaa
open Go Go.Fw
set_option maxRecDepth 100000
set_option linter.unusedVariables false
set_option linter.unusedSimpArgs false
set_option maxHeartbeats 4000000
open Classical in
/-- The error and the bound of Accept. -/
noncomputable def dacE (q n d : Int) (f : List Rt) : Int := if rangeP q n d then accDE q.toNat n.toNat d.toNat f else 6
open Classical in
noncomputable def dacR (q n d : Int) (f : List Rt) : Rt := if rangeP q n d then accDR q.toNat n.toNat d.toNat f else (false, [], [])
theorem range_nat {q n d : Int} (h : rangeP q n d) : ∃ (p m k : Nat), q = p ∧ n = m ∧ d = k ∧ 2 ≤ p ∧ p ≤ 256 ∧ 1 ≤ m ∧ m ≤ 64 ∧ 1 ≤ k ∧ k ≤ m := by
  unfold rangeP at h
  exact ⟨q.toNat, n.toNat, d.toNat, by omega, by omega, by omega, by omega, by omega, by omega, by omega, by omega, by omega⟩
theorem dac_nat {q n d : Nat} (h : rangeP q n d) (f : List Rt) : dacE q n d f = accDE q n d f ∧ dacR q n d f = accDR q n d f := ⟨if_pos h, if_pos h⟩
theorem dac_bad {q n d : Int} (h : ¬ rangeP q n d) (f : List Rt) : dacE q n d f = 6 ∧ dacR q n d f = (false, [], []) := ⟨if_neg h, if_neg h⟩

theorem S_delsarte_Accept {q n d : Int} {pa : Option Addr} {nf ca : Nat} {f : List Rt} (hf : ∀ r ∈ f, okR 17 r) {vr : Rt} {ve : Int} (hvr : dacR q n d f = vr) (hve : dacE q n d f = ve) :
    Ctr Try.prog 22 [.int .i64 q, .int .i64 n, .int .i64 d, .slice pa nf ca] [] [slF RatE pa nf ca f] (RtErr vr ve) := by
  subst hvr; subst hve
  refine Ctr_of_j' (F := F_delsarte_Accept) rfl fun C => ?_
  refine j_len 0 rfl fun hn hb _ => ?_
  have hb' : f.length * 56 ≤ 140737488355328 := hb
  subst hn
  by_cases hr : rangeP q n d
  · have hw : decide (rangeP q n d) = !false := by rw [decide_eq_true hr]; rfl
    obtain ⟨p, m, k, rfl, rfl, rfl, h1, h2, h3, h4, h5, h6⟩ := range_nat hr
    obtain ⟨eE, eR⟩ := dac_nat hr f
    rw [eE, eR]
    have no : ¬ accP p m k f → accDE p m k f = 13 ∧ accDR p m k f = (false, [], []) := accD_no
    by_cases hl : f.length = m + 1
    · have z0 := okR_at hf (show 0 < f.length by omega)
      obtain ⟨y1, y2⟩ := z0.2.2
      have e0 : vq ((f.getD 0 default).1, (f.getD 0 default).2.1, (f.getD 0 default).2.2) = fQ f 0 := rfl
      by_cases h0 : fQ f 0 = 1
      · have hs : (vq ((f.getD 0 default).1, (f.getD 0 default).2.1, (f.getD 0 default).2.2) - vq (false, [1], [1])).num.sign = 0 := cmp_zero.2 (by rw [e0, h0, vq_oneL])
        refine j_nf [.o [0] 0, .c [1]] rfl ?_
        refine j_step rfl (x_alloc zo35 fun b1 => ?_)
        refine j_run it 1 rfl (by simp) ?_
        refine j_nf [.o [1, 0, 0] 0, .c [1, 0, 1], .c [1, 1]] rfl ?_
        refine j_run it 3 rfl (by simp) ?_
        refine j_step rfl (x_call [] rfl (S_delsarte_wrong (by first | omega | exact side _ (by assumption) | assumption | rfl | (simp; done) | (simp; omega))) rfl ?_)
        rintro _ _ _ ⟨rfl, rfl, rfl⟩
        simp only [List.cons_append, List.nil_append]
        refine j_nf [.c [1, 0, 1], .c [1, 1]] rfl ?_
        refine j_false rfl rfl ?_
        refine j_nf [.c [1, 1, 0, 0], .c [1, 1, 0, 1], .c [1, 1, 1]] rfl ?_
        (apply j_drawK it mx 13; (· rfl); (· rfl))
        (apply lxk_run 1; (· rfl); (· simp))
        (apply lxk_eq; (· rfl); (· exact d_x fun _ => x_len sl23 rfl dk_eq))
        (apply lxk_run 2; (· rfl); (· exact (by repeat' first | exact trivial | apply And.intro | omega)))
        (apply lxk_eq; (· rfl); (· exact d_x fun _ => x_falseN it rfl (by trivial) (by omega) dk_eq))
        (apply lxk_run 2; (· rfl); (· simp))
        (apply lxk_pt; (· rfl); (· exact d_x fun _ => x_idx 0 0 rfl rfl rfl sl23 (by omega) (by omega) fun z1 hz1 b2 o1 => (dk_ptD default hz1 0 rfl)); intro b2 o1)
        (apply lxk_rq; (· rfl); (· exact d_x fun _ => x_ld_rt 0 rfl rfl ld35 fun pa1 ca1 pa2 ca2 => (dk_rq 0 1 rfl rfl)); intro pn1 cn1 pd1 cd1)
        (apply lxk_rq; (· rfl); (· exact d_x fun _ => x_call [] rfl (S_delsarte_one) rfl (by rintro _ _ _ ⟨pn2, cn2, pd2, cd2, rfl, rfl, rfl⟩; exact (dk_rq 0 1 rfl rfl))); intro pn2 cn2 pd2 cd2)
        (apply lxk_eq; (· rfl); (· exact d_x fun _ => x_call [2, 3, 0, 1] rfl (S_rational_Cmp (by first | omega | exact side _ (by assumption) | assumption | rfl | (simp; done) | (simp; omega)) (by first | omega | exact side _ (by assumption) | assumption | rfl | (simp; done) | (simp; omega)) (by first | omega | exact side _ (by assumption) | assumption | rfl | (simp; done) | (simp; omega)) (by first | omega | exact side _ (by assumption) | assumption | rfl | (simp; done) | (simp; omega))) rfl (by rintro _ _ _ ⟨rfl, rfl, rfl⟩; exact dk_eq)))
        simp only [vq_rt']
        (apply lxk_eq; (· rfl); (· exact d_x fun _ => x_falseN it rfl (by trivial) (by omega) dk_eq))
        (apply lxk_run 1; (· rfl); (· simp))
        refine lxk_end rfl ?_
        simp only [List.map_cons, List.map_nil, List.cons_append, List.nil_append]
        refine j_nf [.c [1, 1, 0, 1], .c [1, 1, 1]] rfl ?_
        refine j_false rfl rfl ?_
        refine j_nf [.o [1, 1, 1, 0, 0] 0, .c [1, 1, 1, 0, 1], .c [1, 1, 1, 1]] rfl ?_
        refine j_run it 1 rfl (by simp) ?_
        refine j_step rfl (x_len sl23 rfl ?_)
        refine j_run it 1 rfl (by simp) ?_
        refine j_nf [.c [1, 1, 1, 0, 1, 0], .blk 0, .c [1, 1, 1, 1]] rfl ?_
        refine j_loopG (X := Nat) [0, 1, 2, 3, 8, 34, 35] [0, 1, 2, 3, 4, 5] (fun k => [(36, .int .i64 k)]) (fun _ => [(some b1, 35, [.bool false, .slice none 0 0, .slice none 0 0])]) (fun _ => []) (fun k => k ≤ f.length ∧ posB (f.take k) = true) (fun k => f.length - k) 0 [] rfl rfl rfl ⟨Nat.zero_le _, rfl⟩ (by repeat (first | exact Fr.sub_nil _ | refine Fr.sub_cons rfl ?_)) rfl rfl ?_
        rintro j ⟨hj, hp⟩ ih
        simp only [List.cons_append, List.nil_append] at hj hp ih ⊢
        by_cases hjl : j < f.length
        · refine j_nf [.o [1, 1, 1, 0, 1, 0, 0, 0] 0, .c [1, 1, 1, 0, 1, 0, 0, 1], .lp [1, 1, 1, 0, 1, 0, 0], .blk 0, .c [1, 1, 1, 1]] rfl ?_
          refine j_run it 1 rfl (by simp) ?_
          refine j_nf [.c [1, 1, 1, 0, 1, 0, 0, 1, 0], .c [1, 1, 1, 0, 1, 0, 0, 1, 1], .lp [1, 1, 1, 0, 1, 0, 0], .blk 0, .c [1, 1, 1, 1]] rfl ?_
          refine j_if rfl rfl (fun h7 => ?_) (fun h7 => by exfalso; omega)
          refine j_nf [.o [1, 1, 1, 0, 1, 0, 0, 1, 1, 0, 0, 0] 0, .c [1, 1, 1, 0, 1, 0, 0, 1, 1, 0, 0, 1], .blk 1, .c [1, 1, 1, 0, 1, 0, 0, 1, 1, 1], .lp [1, 1, 1, 0, 1, 0, 0], .blk 0, .c [1, 1, 1, 1]] rfl ?_
          refine j_step rfl (x_idx 5 (j) rfl rfl rfl sl23 rfl (by omega) fun z1 hz1 b3 o2 => ?_)
          refine j_step rfl (x_ld_rt 0 rfl rfl ld35 fun pa1 ca1 pa2 ca2 => ?_)
          refine j_step rfl (x_alloc zo35 fun b4 => ?_)
          refine j_step rfl (x_bst_all 0 rfl rfl rfl ld35 rfl rfl (by simp [Value.oneCell']) ?_)
          refine j_nf [.o [1, 1, 1, 0, 1, 0, 0, 1, 1, 0, 0, 1, 0] 0, .c [1, 1, 1, 0, 1, 0, 0, 1, 1, 0, 0, 1, 1], .blk 1, .c [1, 1, 1, 0, 1, 0, 0, 1, 1, 1], .lp [1, 1, 1, 0, 1, 0, 0], .blk 0, .c [1, 1, 1, 1]] rfl ?_
          refine j_step rfl (x_bld_all 0 rfl rfl ld35 rfl ?_)
          refine j_step rfl (x_call [0, 1] rfl (S_rational_Sign) rfl ?_)
          rintro _ _ _ ⟨rfl, rfl, rfl⟩
          simp only [List.cons_append, List.nil_append]
          refine j_run it 1 rfl (by simp) ?_
          refine j_nf [.c [1, 1, 1, 0, 1, 0, 0, 1, 1, 0, 0, 1, 1], .blk 1, .c [1, 1, 1, 0, 1, 0, 0, 1, 1, 1], .lp [1, 1, 1, 0, 1, 0, 0], .blk 0, .c [1, 1, 1, 1]] rfl ?_
          refine j_if rfl rfl (fun h8 => ?_) (fun h8 => ?_)
          · obtain ⟨e1, e2⟩ := no fun h => by have := h.2.2.1; rw [pos_stop hz1 (by assumption)] at this; cases this
            rw [e1, e2]
            refine j_nf [.o [1, 1, 1, 0, 1, 0, 0, 1, 1, 0, 0, 1, 1, 0, 0] 0, .c [1, 1, 1, 0, 1, 0, 0, 1, 1, 0, 0, 1, 1, 0, 1], .blk 1, .c [1, 1, 1, 0, 1, 0, 0, 1, 1, 1], .lp [1, 1, 1, 0, 1, 0, 0], .blk 0, .c [1, 1, 1, 1]] rfl ?_
            refine j_step rfl (x_build (cs := [Value.bool false, Value.slice none 0 0, Value.slice none 0 0]) st35 zo35 rfl rfl ?_)
            refine j_step rfl (x_bst_all 1 rfl rfl rfl ld35 rfl rfl (by simp [Value.oneCell']) ?_)
            refine j_run it 1 rfl (by simp) ?_
            refine j_nf [.c [1, 1, 1, 0, 1, 0, 0, 1, 1, 0, 0, 1, 1, 0, 1], .blk 1, .c [1, 1, 1, 0, 1, 0, 0, 1, 1, 1], .lp [1, 1, 1, 0, 1, 0, 0], .blk 0, .c [1, 1, 1, 1]] rfl ?_
            refine j_add (slF U32 none 0 0 []) (fun w A _ => slF_nil _ _ _ _ _) ?_
            refine j_givC [0, 0] rfl (.agg 1 rfl rfl ld35 rfl (.tmp rfl .nil)) rfl ⟨_, _, _, _, rfl, rfl, rfl⟩
          · refine j_nf [.o [1, 1, 1, 0, 1, 0, 0, 1, 1, 1] 0, .lp [1, 1, 1, 0, 1, 0, 0], .blk 0, .c [1, 1, 1, 1]] rfl ?_
            refine j_run it 2 rfl (by repeat' first | exact trivial | apply And.intro | omega) ?_
            refine j_nfn 1 [.lp [1, 1, 1, 0, 1, 0, 0], .blk 0, .c [1, 1, 1, 1]] rfl ?_
            refine j_toM [false, true] [3, 4, 5, 6, 7, 8] (by repeat (first | exact Fr.sub_nil _ | refine Fr.sub_cons rfl ?_ | refine Fr.sub_consI rfl (by first | omega | (dsimp only; omega)) ?_ | refine Fr.sub_consS rfl (by first | omega | (dsimp only; omega)) (by first | omega | (dsimp only; omega)) ?_)) rfl rfl (ih (j + 1) (by omega) ⟨by omega, pos_step hz1 hp (by assumption)⟩)
        · obtain rfl : f.length = j := by omega
          rw [List.take_length] at hp
          clear ih
          refine j_nf [.o [1, 1, 1, 0, 1, 0, 0, 0] 0, .c [1, 1, 1, 0, 1, 0, 0, 1], .lp [1, 1, 1, 0, 1, 0, 0], .blk 0, .c [1, 1, 1, 1]] rfl ?_
          refine j_run it 1 rfl (by simp) ?_
          refine j_nf [.c [1, 1, 1, 0, 1, 0, 0, 1, 0], .c [1, 1, 1, 0, 1, 0, 0, 1, 1], .lp [1, 1, 1, 0, 1, 0, 0], .blk 0, .c [1, 1, 1, 1]] rfl ?_
          refine j_if rfl rfl (fun h7 => by exfalso; omega) (fun h7 => ?_)
          refine j_nf [.o [1, 1, 1, 1, 0, 0] 0, .c [1, 1, 1, 1, 0, 1], .c [1, 1, 1, 1, 1]] rfl ?_
          refine j_run it 2 rfl (by simp) ?_
          refine j_nf [.c [1, 1, 1, 1, 0, 1, 0], .blk 2, .c [1, 1, 1, 1, 1]] rfl ?_
          refine j_loopG (X := Nat) [0, 1, 3, 8] [0, 1, 2, 3, 4, 5] (fun i => [(12, .int .i64 i)]) (fun _ => [(some b1, 35, [.bool false, .slice none 0 0, .slice none 0 0])]) (fun _ => []) (fun i => k ≤ i ∧ i ≤ m + 1 ∧ ∀ i', k ≤ i' → i' < i → valF p m (fQ f) i' ≤ 0) (fun i => m + 1 - i) k [] rfl rfl rfl ⟨Nat.le_refl _, by omega, fun i' h h' => by omega⟩ (by repeat (first | exact Fr.sub_nil _ | refine Fr.sub_cons rfl ?_)) rfl rfl ?_
          rintro i ⟨hi1, hi2, hi3⟩ ih
          simp only [List.cons_append, List.nil_append] at hi1 hi2 hi3 ih ⊢
          by_cases hil : i ≤ m
          · have oc := colK_ok h1 h2 h4 hil
            have lc := colK_len p m i
            have ed := dot_col (q := p) hl i
            have hK : (1 : Nat) ≤ 17 := by decide
            refine j_nf [.o [1, 1, 1, 1, 0, 1, 0, 0, 0, 0] 0, .c [1, 1, 1, 1, 0, 1, 0, 0, 0, 1], .c [1, 1, 1, 1, 0, 1, 0, 0, 1], .lp [1, 1, 1, 1, 0, 1, 0, 0], .blk 2, .c [1, 1, 1, 1, 1]] rfl ?_
            refine j_run it 3 rfl (by simp) ?_
            refine j_nf [.c [1, 1, 1, 1, 0, 1, 0, 0, 0, 1], .c [1, 1, 1, 1, 0, 1, 0, 0, 1], .lp [1, 1, 1, 1, 0, 1, 0, 0], .blk 2, .c [1, 1, 1, 1, 1]] rfl ?_
            refine j_if rfl rfl (fun h8 => ?_) (fun h8 => by exfalso; omega)
            refine j_nf [.o [1, 1, 1, 1, 0, 1, 0, 0, 1, 0, 0, 0] 0, .c [1, 1, 1, 1, 0, 1, 0, 0, 1, 0, 0, 1], .blk 3, .c [1, 1, 1, 1, 0, 1, 0, 0, 1, 1], .lp [1, 1, 1, 1, 0, 1, 0, 0], .blk 2, .c [1, 1, 1, 1, 1]] rfl ?_
            refine j_run it 4 rfl (by simp) ?_
            refine j_step rfl (x_call [] rfl (S_delsarte_column (by first | omega | exact side _ (by assumption) | assumption | rfl | (simp; done) | (simp; omega)) (by first | omega | exact side _ (by assumption) | assumption | rfl | (simp; done) | (simp; omega)) (by first | omega | exact side _ (by assumption) | assumption | rfl | (simp; done) | (simp; omega)) (by first | omega | exact side _ (by assumption) | assumption | rfl | (simp; done) | (simp; omega))) rfl ?_)
            rintro _ _ _ ⟨pa1, ca1, rfl, rfl, rfl⟩
            simp only [List.cons_append, List.nil_append]
            refine j_step rfl (x_call [6, 0] rfl (S_rational_Dot (by first | omega | exact side _ (by assumption) | assumption | rfl | (simp; done) | (simp; omega)) (by first | omega | exact side _ (by assumption) | assumption | rfl | (simp; done) | (simp; omega)) (by first | omega | exact side _ (by assumption) | assumption | rfl | (simp; done) | (simp; omega)) (by first | omega | exact side _ (by assumption) | assumption | rfl | (simp; done) | (simp; omega)) (by first | omega | exact side _ (by assumption) | assumption | rfl | (simp; done) | (simp; omega)) (by first | omega | exact side _ (by assumption) | assumption | rfl | (simp; done) | (simp; omega))) rfl ?_)
            rintro _ _ _ ⟨pn3, cn3, pd3, cd3, rfl, rfl, rfl⟩
            simp only [List.cons_append, List.nil_append]
            refine j_run it 3 rfl (by simp) ?_
            refine j_step rfl (x_alloc zo35 fun b3 => ?_)
            refine j_step rfl (x_bst_all 0 rfl rfl rfl ld35 rfl rfl (by simp [Value.oneCell']) ?_)
            refine j_run it 1 rfl (by simp) ?_
            refine j_nf [.o [1, 1, 1, 1, 0, 1, 0, 0, 1, 0, 0, 1, 0] 0, .c [1, 1, 1, 1, 0, 1, 0, 0, 1, 0, 0, 1, 1], .blk 3, .c [1, 1, 1, 1, 0, 1, 0, 0, 1, 1], .lp [1, 1, 1, 1, 0, 1, 0, 0], .blk 2, .c [1, 1, 1, 1, 1]] rfl ?_
            refine j_step rfl (x_bld_all 0 rfl rfl ld35 rfl ?_)
            refine j_step rfl (x_call [0, 1] rfl (S_rational_Sign) rfl ?_)
            rintro _ _ _ ⟨rfl, rfl, rfl⟩
            simp only [List.cons_append, List.nil_append]
            simp only [vq_rt']
            refine j_run it 1 rfl (by simp) ?_
            refine j_nf [.c [1, 1, 1, 1, 0, 1, 0, 0, 1, 0, 0, 1, 1], .blk 3, .c [1, 1, 1, 1, 0, 1, 0, 0, 1, 1], .lp [1, 1, 1, 1, 0, 1, 0, 0], .blk 2, .c [1, 1, 1, 1, 1]] rfl ?_
            refine j_if rfl rfl (fun h9 => ?_) (fun h9 => ?_)
            · have hp2 : 0 < dotR f (colK p m i) := sign_pos.1 (by assumption)
              obtain ⟨e1, e2⟩ := no fun h => by have := h.2.2.2 i hi1 hil; rw [← ed] at this; exact Rat.not_lt.2 this hp2
              rw [e1, e2]
              refine j_nf [.o [1, 1, 1, 1, 0, 1, 0, 0, 1, 0, 0, 1, 1, 0, 0] 0, .c [1, 1, 1, 1, 0, 1, 0, 0, 1, 0, 0, 1, 1, 0, 1], .blk 3, .c [1, 1, 1, 1, 0, 1, 0, 0, 1, 1], .lp [1, 1, 1, 1, 0, 1, 0, 0], .blk 2, .c [1, 1, 1, 1, 1]] rfl ?_
              refine j_step rfl (x_build (cs := [Value.bool false, Value.slice none 0 0, Value.slice none 0 0]) st35 zo35 rfl rfl ?_)
              refine j_step rfl (x_bst_all 1 rfl rfl rfl ld35 rfl rfl (by simp [Value.oneCell']) ?_)
              refine j_run it 1 rfl (by simp) ?_
              refine j_nf [.c [1, 1, 1, 1, 0, 1, 0, 0, 1, 0, 0, 1, 1, 0, 1], .blk 3, .c [1, 1, 1, 1, 0, 1, 0, 0, 1, 1], .lp [1, 1, 1, 1, 0, 1, 0, 0], .blk 2, .c [1, 1, 1, 1, 1]] rfl ?_
              refine j_add (slF U32 none 0 0 []) (fun w A _ => slF_nil _ _ _ _ _) ?_
              refine j_givC [0, 0] rfl (.agg 1 rfl rfl ld35 rfl (.tmp rfl .nil)) rfl ⟨_, _, _, _, rfl, rfl, rfl⟩
            · have hp2 : ¬ 0 < dotR f (colK p m i) := fun h => absurd (sign_pos.2 h) (by assumption)
              refine j_nf [.o [1, 1, 1, 1, 0, 1, 0, 0, 1, 1] 0, .lp [1, 1, 1, 1, 0, 1, 0, 0], .blk 2, .c [1, 1, 1, 1, 1]] rfl ?_
              refine j_run it 3 rfl (by repeat' first | exact trivial | apply And.intro | omega) ?_
              refine j_nfn 1 [.lp [1, 1, 1, 1, 0, 1, 0, 0], .blk 2, .c [1, 1, 1, 1, 1]] rfl ?_
              refine j_toM [false, true] [3, 4, 5, 6, 7, 8] (by repeat (first | exact Fr.sub_nil _ | refine Fr.sub_cons rfl ?_ | refine Fr.sub_consI rfl (by first | omega | (dsimp only; omega)) ?_ | refine Fr.sub_consS rfl (by first | omega | (dsimp only; omega)) (by first | omega | (dsimp only; omega)) ?_)) rfl rfl (ih (i + 1) (by omega) ⟨by omega, by omega, fun i' a b => by
                rcases Nat.lt_succ_iff_lt_or_eq.1 b with b | rfl
                · exact hi3 i' a b
                · rw [← ed]; exact Rat.not_lt.1 hp2⟩)
          · obtain rfl : i = m + 1 := by omega
            have oc := colK_ok (i := 0) h1 h2 h4 (Nat.zero_le _)
            have ed := dot_col (q := p) hl 0
            have hK : (1 : Nat) ≤ 17 := by decide
            obtain ⟨e1, e2⟩ := accD_yes (q := p) (n := m) (d := k) (f := f) ⟨hl, h0, hp, fun i' a b => hi3 i' a (by omega)⟩
            rw [e1, e2, ← ed]
            refine j_nf [.o [1, 1, 1, 1, 0, 1, 0, 0, 0, 0] 0, .c [1, 1, 1, 1, 0, 1, 0, 0, 0, 1], .c [1, 1, 1, 1, 0, 1, 0, 0, 1], .lp [1, 1, 1, 1, 0, 1, 0, 0], .blk 2, .c [1, 1, 1, 1, 1]] rfl ?_
            refine j_run it 3 rfl (by simp) ?_
            refine j_nf [.c [1, 1, 1, 1, 0, 1, 0, 0, 0, 1], .c [1, 1, 1, 1, 0, 1, 0, 0, 1], .lp [1, 1, 1, 1, 0, 1, 0, 0], .blk 2, .c [1, 1, 1, 1, 1]] rfl ?_
            refine j_if rfl rfl (fun h8 => by exfalso; omega) (fun h8 => ?_)
            refine j_nf [.o [1, 1, 1, 1, 1, 0] 0, .c [1, 1, 1, 1, 1, 1]] rfl ?_
            refine j_run it 3 rfl (by simp) ?_
            refine j_step rfl (x_call [] rfl (S_delsarte_column (by first | omega | exact side _ (by assumption) | assumption | rfl | (simp; done) | (simp; omega)) (by first | omega | exact side _ (by assumption) | assumption | rfl | (simp; done) | (simp; omega)) (by first | omega | exact side _ (by assumption) | assumption | rfl | (simp; done) | (simp; omega)) (by first | omega | exact side _ (by assumption) | assumption | rfl | (simp; done) | (simp; omega))) rfl ?_)
            rintro _ _ _ ⟨pa1, ca1, rfl, rfl, rfl⟩
            simp only [List.cons_append, List.nil_append]
            refine j_step rfl (x_call [6, 0] rfl (S_rational_Dot (by first | omega | exact side _ (by assumption) | assumption | rfl | (simp; done) | (simp; omega)) (by first | omega | exact side _ (by assumption) | assumption | rfl | (simp; done) | (simp; omega)) (by first | omega | exact side _ (by assumption) | assumption | rfl | (simp; done) | (simp; omega)) (by first | omega | exact side _ (by assumption) | assumption | rfl | (simp; done) | (simp; omega)) (by first | omega | exact side _ (by assumption) | assumption | rfl | (simp; done) | (simp; omega)) (by first | omega | exact side _ (by assumption) | assumption | rfl | (simp; done) | (simp; omega))) rfl ?_)
            rintro _ _ _ ⟨pn3, cn3, pd3, cd3, rfl, rfl, rfl⟩
            simp only [List.cons_append, List.nil_append]
            refine j_run it 2 rfl (by simp) ?_
            refine j_step rfl (x_bst_all 0 rfl rfl rfl ld35 rfl rfl (by simp [Value.oneCell']) ?_)
            refine j_run it 1 rfl (by simp) ?_
            refine j_nf [.c [1, 1, 1, 1, 1, 1]] rfl ?_
            refine j_givC [0, 1] rfl (.agg 0 rfl rfl ld35 rfl (.tmp rfl .nil)) rfl ⟨_, _, _, _, rfl, rfl, rfl⟩
      · have hs : ¬ (vq ((f.getD 0 default).1, (f.getD 0 default).2.1, (f.getD 0 default).2.2) - vq (false, [1], [1])).num.sign = 0 := fun e => h0 (by have := cmp_zero.1 e; rw [e0, vq_oneL] at this; exact this)
        obtain ⟨e1, e2⟩ := no fun h => h0 h.2.1
        rw [e1, e2]
        refine j_nf [.o [0] 0, .c [1]] rfl ?_
        refine j_step rfl (x_alloc zo35 fun b1 => ?_)
        refine j_run it 1 rfl (by simp) ?_
        refine j_nf [.o [1, 0, 0] 0, .c [1, 0, 1], .c [1, 1]] rfl ?_
        refine j_run it 3 rfl (by simp) ?_
        refine j_step rfl (x_call [] rfl (S_delsarte_wrong (by first | omega | exact side _ (by assumption) | assumption | rfl | (simp; done) | (simp; omega))) rfl ?_)
        rintro _ _ _ ⟨rfl, rfl, rfl⟩
        simp only [List.cons_append, List.nil_append]
        refine j_nf [.c [1, 0, 1], .c [1, 1]] rfl ?_
        refine j_false rfl rfl ?_
        refine j_nf [.c [1, 1, 0, 0], .c [1, 1, 0, 1], .c [1, 1, 1]] rfl ?_
        (apply j_drawK it mx 13; (· rfl); (· rfl))
        (apply lxk_run 1; (· rfl); (· simp))
        (apply lxk_eq; (· rfl); (· exact d_x fun _ => x_len sl23 rfl dk_eq))
        (apply lxk_run 2; (· rfl); (· exact (by repeat' first | exact trivial | apply And.intro | omega)))
        (apply lxk_eq; (· rfl); (· exact d_x fun _ => x_falseN it rfl (by trivial) (by omega) dk_eq))
        (apply lxk_run 2; (· rfl); (· simp))
        (apply lxk_pt; (· rfl); (· exact d_x fun _ => x_idx 0 0 rfl rfl rfl sl23 (by omega) (by omega) fun z1 hz1 b2 o1 => (dk_ptD default hz1 0 rfl)); intro b2 o1)
        (apply lxk_rq; (· rfl); (· exact d_x fun _ => x_ld_rt 0 rfl rfl ld35 fun pa1 ca1 pa2 ca2 => (dk_rq 0 1 rfl rfl)); intro pn1 cn1 pd1 cd1)
        (apply lxk_rq; (· rfl); (· exact d_x fun _ => x_call [] rfl (S_delsarte_one) rfl (by rintro _ _ _ ⟨pn2, cn2, pd2, cd2, rfl, rfl, rfl⟩; exact (dk_rq 0 1 rfl rfl))); intro pn2 cn2 pd2 cd2)
        (apply lxk_eq; (· rfl); (· exact d_x fun _ => x_call [2, 3, 0, 1] rfl (S_rational_Cmp (by first | omega | exact side _ (by assumption) | assumption | rfl | (simp; done) | (simp; omega)) (by first | omega | exact side _ (by assumption) | assumption | rfl | (simp; done) | (simp; omega)) (by first | omega | exact side _ (by assumption) | assumption | rfl | (simp; done) | (simp; omega)) (by first | omega | exact side _ (by assumption) | assumption | rfl | (simp; done) | (simp; omega))) rfl (by rintro _ _ _ ⟨rfl, rfl, rfl⟩; exact dk_eq)))
        simp only [vq_rt']
        (apply lxk_eq; (· rfl); (· exact d_x fun _ => x_trueN it rfl (by trivial) (by omega) dk_eq))
        (apply lxk_run 1; (· rfl); (· simp))
        refine lxk_end rfl ?_
        simp only [List.map_cons, List.map_nil, List.cons_append, List.nil_append]
        refine j_nf [.c [1, 1, 0, 1], .c [1, 1, 1]] rfl ?_
        refine j_true rfl rfl ?_
        refine j_nf [.o [1, 1, 0, 1, 0, 0] 0, .c [1, 1, 0, 1, 0, 1], .c [1, 1, 1]] rfl ?_
        refine j_step rfl (x_build (cs := [Value.bool false, Value.slice none 0 0, Value.slice none 0 0]) st35 zo35 rfl rfl ?_)
        refine j_step rfl (x_bst_all 0 rfl rfl rfl ld35 rfl rfl (by simp [Value.oneCell']) ?_)
        refine j_run it 1 rfl (by simp) ?_
        refine j_nf [.c [1, 1, 0, 1, 0, 1], .c [1, 1, 1]] rfl ?_
        refine j_add (slF U32 none 0 0 []) (fun w A _ => slF_nil _ _ _ _ _) ?_
        refine j_givC [0, 0] rfl (.agg 0 rfl rfl ld35 rfl (.tmp rfl .nil)) rfl ⟨_, _, _, _, rfl, rfl, rfl⟩
    · obtain ⟨e1, e2⟩ := no fun h => hl h.1
      rw [e1, e2]
      refine j_nf [.o [0] 0, .c [1]] rfl ?_
      refine j_step rfl (x_alloc zo35 fun b1 => ?_)
      refine j_run it 1 rfl (by simp) ?_
      refine j_nf [.o [1, 0, 0] 0, .c [1, 0, 1], .c [1, 1]] rfl ?_
      refine j_run it 3 rfl (by simp) ?_
      refine j_step rfl (x_call [] rfl (S_delsarte_wrong (by first | omega | exact side _ (by assumption) | assumption | rfl | (simp; done) | (simp; omega))) rfl ?_)
      rintro _ _ _ ⟨rfl, rfl, rfl⟩
      simp only [List.cons_append, List.nil_append]
      refine j_nf [.c [1, 0, 1], .c [1, 1]] rfl ?_
      refine j_false rfl rfl ?_
      refine j_nf [.c [1, 1, 0, 0], .c [1, 1, 0, 1], .c [1, 1, 1]] rfl ?_
      (apply j_drawK it mx 13; (· rfl); (· rfl))
      (apply lxk_run 1; (· rfl); (· simp))
      (apply lxk_eq; (· rfl); (· exact d_x fun _ => x_len sl23 rfl dk_eq))
      (apply lxk_run 2; (· rfl); (· exact (by repeat' first | exact trivial | apply And.intro | omega)))
      (apply lxk_eq; (· rfl); (· exact d_x fun _ => x_trueN it rfl (by trivial) (by omega) dk_eq))
      (apply lxk_run 6; (· rfl); (· simp))
      (apply lxk_run 2; (· rfl); (· simp))
      refine lxk_end rfl ?_
      simp only [List.map_cons, List.map_nil, List.cons_append, List.nil_append]
      refine j_nf [.c [1, 1, 0, 1], .c [1, 1, 1]] rfl ?_
      refine j_true rfl rfl ?_
      refine j_nf [.o [1, 1, 0, 1, 0, 0] 0, .c [1, 1, 0, 1, 0, 1], .c [1, 1, 1]] rfl ?_
      refine j_step rfl (x_build (cs := [Value.bool false, Value.slice none 0 0, Value.slice none 0 0]) st35 zo35 rfl rfl ?_)
      refine j_step rfl (x_bst_all 0 rfl rfl rfl ld35 rfl rfl (by simp [Value.oneCell']) ?_)
      refine j_run it 1 rfl (by simp) ?_
      refine j_nf [.c [1, 1, 0, 1, 0, 1], .c [1, 1, 1]] rfl ?_
      refine j_add (slF U32 none 0 0 []) (fun w A _ => slF_nil _ _ _ _ _) ?_
      refine j_givC [0, 0] rfl (.agg 0 rfl rfl ld35 rfl (.tmp rfl .nil)) rfl ⟨_, _, _, _, rfl, rfl, rfl⟩
  · have hw : decide (rangeP q n d) = !true := by rw [decide_eq_false hr]; rfl
    obtain ⟨eE, eR⟩ := dac_bad hr f
    rw [eE, eR]
    refine j_nf [.o [0] 0, .c [1]] rfl ?_
    refine j_step rfl (x_alloc zo35 fun b1 => ?_)
    refine j_run it 1 rfl (by simp) ?_
    refine j_nf [.o [1, 0, 0] 0, .c [1, 0, 1], .c [1, 1]] rfl ?_
    refine j_run it 3 rfl (by simp) ?_
    refine j_step rfl (x_call [] rfl (S_delsarte_wrong (by first | omega | exact side _ (by assumption) | assumption | rfl | (simp; done) | (simp; omega))) rfl ?_)
    rintro _ _ _ ⟨rfl, rfl, rfl⟩
    simp only [List.cons_append, List.nil_append]
    refine j_nf [.c [1, 0, 1], .c [1, 1]] rfl ?_
    refine j_true rfl rfl ?_
    refine j_nf [.o [1, 0, 1, 0, 0] 0, .c [1, 0, 1, 0, 1], .c [1, 1]] rfl ?_
    refine j_step rfl (x_build (cs := [Value.bool false, Value.slice none 0 0, Value.slice none 0 0]) st35 zo35 rfl rfl ?_)
    refine j_step rfl (x_bst_all 0 rfl rfl rfl ld35 rfl rfl (by simp [Value.oneCell']) ?_)
    refine j_run it 1 rfl (by simp) ?_
    refine j_nf [.c [1, 0, 1, 0, 1], .c [1, 1]] rfl ?_
    refine j_add (slF U32 none 0 0 []) (fun w A _ => slF_nil _ _ _ _ _) ?_
    refine j_givC [0, 0] rfl (.agg 0 rfl rfl ld35 rfl (.tmp rfl .nil)) rfl ⟨_, _, _, _, rfl, rfl, rfl⟩

theorem val_step (q n : Nat) (f : Nat → Rat) (x k : Nat) : rs (k + 1) (fun k => f k * ((kr ((q : Int) - 1) n k x : Int) : Rat)) = rs k (fun k => f k * ((kr ((q : Int) - 1) n k x : Int) : Rat)) + f k * ((kr ((q : Int) - 1) n k x : Int) : Rat) := rfl
theorem val_part_bd {q n : Nat} {f : List Rt} {x : Nat} (hq : 2 ≤ q) (hq2 : q ≤ 256) (hn : n ≤ 64) (hx : x ≤ n) (hf : ∀ r ∈ f, okR 17 r) (hl : f.length = n + 1) : ∀ k, k ≤ n + 1 → bd (35 * k + 1) (rs k (fun k => fQ f k * ((kr ((q : Int) - 1) n k x : Int) : Rat)))
  | 0, _ => bd_zero (by omega)
  | k + 1, hk => by
    have h1 := val_part_bd hq hq2 hn hx hf hl k (by omega)
    have h2 := okR_bd (kr_ok (k := k) hq hq2 hn hx) (by decide)
    rw [vq_rt] at h2
    have h3 := bd_mul (okR_bd (okR_at hf (show k < f.length by omega)) (by decide)) h2 (by decide)
    exact bd_mono (bd_add h1 h3) (by omega)
theorem S_codewrightref36_value {q n x : Nat} {pa : Option Addr} {nf ca : Nat} {f : List Rt} (hq : 2 ≤ q) (hq2 : q ≤ 256) (hn : n ≤ 64) (hx : x ≤ n) (hf : ∀ r ∈ f, okR 17 r) (hl : f.length = n + 1) :
    Ctr Try.prog 50 [.int .i64 q, .int .i64 n, .slice pa nf ca, .int .i64 x] [] [slF RatE pa nf ca f] (RtV (rt (valF q n (fQ f) x))) := by
  refine Ctr_of_j' (F := F_codewrightref36_value) rfl fun C => ?_
  refine j_len 0 rfl fun hn' _ _ => ?_
  subst hn'
  have hi0 : InR .i64 (0 : Int) := by simp [InR]
  refine j_nf [.o [0] 0, .c [1]] rfl ?_
  refine j_step rfl (x_alloc zo35 fun b1 => ?_)
  refine j_nf [.o [1, 0] 0, .c [1, 1]] rfl ?_
  refine j_step rfl (x_call [] rfl (S_codewrightref02_Int (by first | omega | exact side _ (by assumption) | assumption | rfl | (simp; done) | (simp; omega))) rfl ?_)
  rintro _ _ _ ⟨pn1, cn1, pd1, cd1, rfl, rfl, rfl⟩
  simp only [List.cons_append, List.nil_append]
  refine j_step rfl (x_alloc zo35 fun b2 => ?_)
  refine j_step rfl (x_bst_all 0 rfl rfl rfl ld35 rfl rfl (by simp [Value.oneCell']) ?_)
  refine j_nf [.o [1, 1, 0, 0] 0, .c [1, 1, 0, 1], .c [1, 1, 1]] rfl ?_
  refine j_run it 1 rfl (by simp) ?_
  refine j_nf [.c [1, 1, 0, 1, 0], .blk 0, .c [1, 1, 1]] rfl ?_
  rw [show ((0 : Int) : Rat) = 0 from rfl]
  refine j_loopG (X := Nat × Rat × (Option Addr × Nat) × (Option Addr × Nat)) [0, 1, 2, 3, 8, 9] [0, 1, 2] (fun x => [(10, .int .i64 x.1)])
    (fun x => [(some b2, 35, [.bool (rt x.2.1).1, .slice x.2.2.1.1 (rt x.2.1).2.1.length x.2.2.1.2, .slice x.2.2.2.1 (rt x.2.1).2.2.length x.2.2.2.2]), (some b1, 35, [.bool false, .slice none 0 0, .slice none 0 0])])
    (fun x => [slF U32 x.2.2.1.1 (rt x.2.1).2.1.length x.2.2.1.2 (rt x.2.1).2.1, slF U32 x.2.2.2.1 (rt x.2.1).2.2.length x.2.2.2.2 (rt x.2.1).2.2])
    (fun y => y.1 ≤ n + 1 ∧ y.2.1 = rs y.1 (fun k => fQ f k * ((kr ((q : Int) - 1) n k x : Int) : Rat))) (fun x => n + 1 - x.1) (0, 0, (pn1, cn1), (pd1, cd1)) [0, 1] rfl rfl rfl ⟨Nat.zero_le _, rfl⟩ (by repeat (first | exact Fr.sub_nil _ | refine Fr.sub_cons rfl ?_)) rfl rfl ?_
  rintro ⟨k, s, ⟨pn, cn⟩, ⟨pd, cd⟩⟩ ⟨hk, hs⟩ ih
  simp only [List.cons_append, List.nil_append] at hk hs ih ⊢
  have b1 := val_part_bd hq hq2 hn hx hf hl k hk
  rw [← hs] at b1
  obtain ⟨w1, w2⟩ := bd_len b1
  by_cases hkl : k ≤ n
  · have z1 := okR_at hf (show k < f.length by omega)
    obtain ⟨y1, y2⟩ := z1.2.2
    have z2 := kr_ok (k := k) hq hq2 hn hx
    obtain ⟨y3, y4⟩ := z2.2.2
    have h2 := okR_bd z2 (by decide)
    rw [vq_rt] at h2
    have b2 := bd_mul (okR_bd z1 (by decide)) h2 (by decide)
    have ef : vq ((f.getD k default).1, (f.getD k default).2.1, (f.getD k default).2.2) = fQ f k := rfl
    have b2 : bd (17 + 17) (fQ f k * ((kr ((q : Int) - 1) n k x : Int) : Rat)) := b2
    rw [← ef] at b2
    obtain ⟨w3, w4⟩ := bd_len b2
    refine j_nf [.o [1, 1, 0, 1, 0, 0, 0, 0] 0, .c [1, 1, 0, 1, 0, 0, 0, 1], .c [1, 1, 0, 1, 0, 0, 1], .lp [1, 1, 0, 1, 0, 0], .blk 0, .c [1, 1, 1]] rfl ?_
    refine j_run it 3 rfl (by simp) ?_
    refine j_nf [.c [1, 1, 0, 1, 0, 0, 0, 1], .c [1, 1, 0, 1, 0, 0, 1], .lp [1, 1, 0, 1, 0, 0], .blk 0, .c [1, 1, 1]] rfl ?_
    refine j_if rfl rfl (fun h1 => ?_) (fun h1 => by exfalso; omega)
    refine j_nf [.c [1, 1, 0, 1, 0, 0, 1, 0, 0], .blk 1, .c [1, 1, 0, 1, 0, 0, 1, 1], .lp [1, 1, 0, 1, 0, 0], .blk 0, .c [1, 1, 1]] rfl ?_
    (apply j_drawK it mx 12; (· rfl); (· rfl))
    (apply lxk_eq; (· rfl); (· exact d_bld_all 0 rfl rfl ld35 rfl))
    (apply lxk_run 2; (· rfl); (· simp))
    (apply lxk_pt; (· rfl); (· exact d_x fun _ => x_idx 4 (k) rfl rfl rfl sl23 rfl (by omega) fun z3 hz1 b3 o1 => (dk_ptD default hz1 0 rfl)); intro b3 o1)
    (apply lxk_rq; (· rfl); (· exact d_x fun _ => x_ld_rt 0 rfl rfl ld35 fun pa1 ca1 pa2 ca2 => (dk_rq 0 1 rfl rfl)); intro pn2 cn2 pd2 cd2)
    (apply lxk_run 4; (· rfl); (· simp))
    (apply lxk_rq; (· rfl); (· exact d_x fun _ => x_call [] rfl (S_codewrightref24_Krawtchouk (by first | omega | exact side _ (by assumption) | assumption | rfl | (simp; done) | (simp; omega)) (by first | omega | exact side _ (by assumption) | assumption | rfl | (simp; done) | (simp; omega)) (by first | omega | exact side _ (by assumption) | assumption | rfl | (simp; done) | (simp; omega)) (by first | omega | exact side _ (by assumption) | assumption | rfl | (simp; done) | (simp; omega)) (by first | omega | exact side _ (by assumption) | assumption | rfl | (simp; done) | (simp; omega))) rfl (by rintro _ _ _ ⟨pn3, cn3, pd3, cd3, rfl, rfl, rfl⟩; exact (dk_rq 0 1 rfl rfl))); intro pn3 cn3 pd3 cd3)
    (apply lxk_rq; (· rfl); (· exact d_x fun _ => x_call [2, 3, 0, 1] rfl (S_codewrightref02_Mul (by first | omega | exact side _ (by assumption) | assumption | rfl | (simp; done) | (simp; omega)) (by first | omega | exact side _ (by assumption) | assumption | rfl | (simp; done) | (simp; omega)) (by first | omega | exact side _ (by assumption) | assumption | rfl | (simp; done) | (simp; omega)) (by first | omega | exact side _ (by assumption) | assumption | rfl | (simp; done) | (simp; omega))) rfl (by rintro _ _ _ ⟨pn4, cn4, pd4, cd4, rfl, rfl, rfl⟩; exact (dk_rq 0 1 rfl rfl))); intro pn4 cn4 pd4 cd4)
    simp only [vq_rt']
    (apply lxk_rq; (· rfl); (· exact d_x fun _ => x_call [7, 8, 0, 1] rfl (S_codewrightref02_Add (by first | omega | exact side _ (by assumption) | assumption | rfl | (simp; done) | (simp; omega)) (by first | omega | exact side _ (by assumption) | assumption | rfl | (simp; done) | (simp; omega)) (by first | omega | exact side _ (by assumption) | assumption | rfl | (simp; done) | (simp; omega)) (by first | omega | exact side _ (by assumption) | assumption | rfl | (simp; done) | (simp; omega))) rfl (by rintro _ _ _ ⟨pn5, cn5, pd5, cd5, rfl, rfl, rfl⟩; exact (dk_rq 0 1 rfl rfl))); intro pn5 cn5 pd5 cd5)
    simp only [vq_rt']
    refine lxk_end rfl ?_
    simp only [List.map_cons, List.map_nil, List.cons_append, List.nil_append]
    refine j_step rfl (x_bst_all 0 rfl rfl rfl ld35 rfl rfl (by simp [Value.oneCell']) ?_)
    refine j_nf [.o [1, 1, 0, 1, 0, 0, 1, 1] 0, .lp [1, 1, 0, 1, 0, 0], .blk 0, .c [1, 1, 1]] rfl ?_
    refine j_run it 3 rfl (by repeat' first | exact trivial | apply And.intro | omega) ?_
    refine j_nfn 1 [.lp [1, 1, 0, 1, 0, 0], .blk 0, .c [1, 1, 1]] rfl ?_
    rw [ef]
    refine j_to [0, 1, 11, 12, 13] (by repeat (first | exact Fr.sub_nil _ | refine Fr.sub_cons rfl ?_ | refine Fr.sub_consI rfl (by first | omega | (dsimp only; omega)) ?_ | refine Fr.sub_consS rfl (by first | omega | (dsimp only; omega)) (by first | omega | (dsimp only; omega)) ?_)) rfl rfl (ih (k + 1, s + fQ f k * ((kr ((q : Int) - 1) n k x : Int) : Rat), (pn5, cn5), (pd5, cd5)) (by dsimp only; omega) ⟨by dsimp only; omega, by dsimp only; rw [hs]; rfl⟩)
  · obtain rfl : k = n + 1 := by omega
    rw [show s = valF q n (fQ f) x from hs]
    refine j_nf [.o [1, 1, 0, 1, 0, 0, 0, 0] 0, .c [1, 1, 0, 1, 0, 0, 0, 1], .c [1, 1, 0, 1, 0, 0, 1], .lp [1, 1, 0, 1, 0, 0], .blk 0, .c [1, 1, 1]] rfl ?_
    refine j_run it 3 rfl (by simp) ?_
    refine j_nf [.c [1, 1, 0, 1, 0, 0, 0, 1], .c [1, 1, 0, 1, 0, 0, 1], .lp [1, 1, 0, 1, 0, 0], .blk 0, .c [1, 1, 1]] rfl ?_
    refine j_if rfl rfl (fun h1 => by exfalso; omega) (fun h1 => ?_)
    refine j_nf [.o [1, 1, 1, 0] 0, .c [1, 1, 1, 1]] rfl ?_
    refine j_step rfl (x_bld_all 0 rfl rfl ld35 rfl ?_)
    refine j_step rfl (x_bst_all 1 rfl rfl rfl ld35 rfl rfl (by simp [Value.oneCell']) ?_)
    refine j_nf [.c [1, 1, 1, 1]] rfl ?_
    refine j_givC [0, 1] rfl (.agg 1 rfl rfl ld35 rfl .nil) rfl ⟨_, _, _, _, rfl, rfl, rfl⟩
end Go.Proofs.Ytlhgkefaflpgeaa

namespace Go.Proofs.Ytlhgkefaflpgeaa
open Go Go.Fw
set_option maxRecDepth 100000
set_option linter.unusedVariables false
set_option linter.unusedSimpArgs false
set_option maxHeartbeats 4000000
/-- A fraction, and a test. -/
abbrev RtB (r : Rt) (e : Bool) : Value → List Fact → List Blk → Prop := fun v Φ β => ∃ pn cn pd cd, v = .tuple #[.agg #[.bool r.1, .slice pn r.2.1.length cn, .slice pd r.2.2.length cd], .bool e] ∧ Φ = [slF U32 pn r.2.1.length cn r.2.1, slF U32 pd r.2.2.length cd r.2.2] ∧ β = []
end Go.Proofs.Ytlhgkefaflpgeaa

namespace Go.Proofs.Ytlhgkefaflpgeaa
open Go Go.Fw
set_option maxRecDepth 100000
set_option linter.unusedVariables false
set_option linter.unusedSimpArgs false
set_option maxHeartbeats 4000000
def fewK (r : Rt) : Bool := decide (r.2.1.length + r.2.2.length ≤ 8)
def fitsF (f : List Rt) : Bool := f.all fewK && decide (f.length ≤ 20)
theorem allB_stop {α : Type} {L : List α} {k : Nat} {z : α} {f : α → Bool} (hz : L[k]? = some z) (h : f z = false) : L.all f = false := by
  rw [List.all_eq_false]; exact ⟨z, List.mem_of_getElem? hz, by simp [h]⟩
theorem allB_step {α : Type} {L : List α} {k : Nat} {z : α} {f : α → Bool} (hz : L[k]? = some z) (h : (L.take k).all f = true) (hf : f z = true) : (L.take (k + 1)).all f = true := by
  rw [List.take_add_one, hz, List.all_append, h]; simp [hf]
theorem rts_lens {P : Program} {F : Fun P} {C : Cx} {S : List It} {σ : Fr} {β : List Blk} {Γ : List Fact} {R : Value → World → Prop} {pa : Option Addr} {n ca : Nat} {ls : List Rt} (k : Nat) (hk : nth Γ k = some (slF RatE pa n ca ls))
    (h : (∀ r ∈ ls, r.2.1.length ≤ 35184372088832 ∧ r.2.2.length ≤ 35184372088832) → J F C S σ β Γ R) : J F C S σ β Γ R :=
  j_know (fun w A hG r hr => by
    obtain ⟨_, _, _, hs⟩ := hG _ (fact_mem hk)
    rcases hs with rfl | ⟨b, o, _, _, hel⟩
    · cases hr
    · obtain ⟨i, hi⟩ := List.getElem?_of_mem hr
      obtain ⟨vs, _, hrd⟩ := hel i r hi
      obtain ⟨_, _, _, _, _, h1, h2⟩ := rt_open hrd
      have k1 : r.2.1.length * 4 ≤ 140737488355328 := h1.2.1
      have k2 : r.2.2.length * 4 ≤ 140737488355328 := h2.2.1
      omega) h
theorem S_codewrightlaw36_fits {pa : Option Addr} {n ca : Nat} {f : List Rt} {res : Bool} (hres : fitsF f = res) : Ctr Try.prog 21 [.slice pa n ca] [] [slF RatE pa n ca f] (Rv (.bool res) []) := by
  subst hres
  refine Ctr_of_j' (F := F_codewrightlaw36_fits) rfl fun C => ?_
  refine j_len 0 rfl fun hn hb _ => ?_
  have hb' : f.length * 56 ≤ 140737488355328 := hb
  subst hn
  refine rts_lens 0 rfl fun hlen => ?_
  refine j_nf [.o [0] 0, .c [1]] rfl ?_
  refine j_run it 1 rfl (by simp) ?_
  refine j_nf [.o [1, 0, 0] 0, .c [1, 0, 1], .c [1, 1]] rfl ?_
  refine j_run it 1 rfl (by simp) ?_
  refine j_nf [.c [1, 0, 1, 0], .blk 0, .c [1, 1]] rfl ?_
  refine j_loopG (X := Nat) [0] [0] (fun k => [(3, .int .i64 k)]) (fun _ => []) (fun _ => []) (fun k => k ≤ f.length ∧ (f.take k).all fewK = true) (fun k => f.length - k) 0 [] rfl rfl rfl ⟨Nat.zero_le _, rfl⟩ (by repeat (first | exact Fr.sub_nil _ | refine Fr.sub_cons rfl ?_)) rfl rfl ?_
  rintro k ⟨hk, hp⟩ ih
  simp only [List.cons_append, List.nil_append] at hk hp ih ⊢
  by_cases hkl : k < f.length
  · have hz := getD_at hkl
    obtain ⟨l1, l2⟩ := hlen _ (List.mem_of_getElem? hz)
    refine j_nf [.o [1, 0, 1, 0, 0, 0, 0] 0, .c [1, 0, 1, 0, 0, 0, 1], .c [1, 0, 1, 0, 0, 1], .lp [1, 0, 1, 0, 0], .blk 0, .c [1, 1]] rfl ?_
    refine j_run it 2 rfl (by simp) ?_
    refine j_step rfl (x_len sl23 rfl ?_)
    refine j_run it 1 rfl (by simp) ?_
    refine j_nf [.c [1, 0, 1, 0, 0, 0, 1], .c [1, 0, 1, 0, 0, 1], .lp [1, 0, 1, 0, 0], .blk 0, .c [1, 1]] rfl ?_
    refine j_if rfl rfl (fun h1 => ?_) (fun h1 => by exfalso; omega)
    refine j_nf [.c [1, 0, 1, 0, 0, 1, 0, 0, 0], .c [1, 0, 1, 0, 0, 1, 0, 0, 1], .blk 1, .c [1, 0, 1, 0, 0, 1, 1], .lp [1, 0, 1, 0, 0], .blk 0, .c [1, 1]] rfl ?_
    (apply j_drawK it mx 14; (· rfl); (· rfl))
    (apply lxk_run 2; (· rfl); (· simp))
    (apply lxk_pt; (· rfl); (· exact d_x fun _ => x_idx 0 (k) rfl rfl rfl sl23 rfl (by omega) fun z1 hz1 b1 o1 => (dk_ptD default hz1 0 rfl)); intro b1 o1)
    (apply lxk_pt; (· rfl); (· exact d_x fun _ => x_field_rt rfl fd35_1 (fun w A hG => rt_f1 (hG _ (fact_mem (n := 0) rfl))) (dk_pt 0 rfl)); intro b2 o2)
    (apply lxk_sl; (· rfl); (· exact d_x fun _ => x_ld_sl 0 rfl rfl ld33 fun pa1 ca1 => (dk_sl 0 rfl)); intro pa1 ca1)
    (apply lxk_eq; (· rfl); (· exact d_x fun _ => x_len sl33 rfl dk_eq))
    (apply lxk_run 2; (· rfl); (· simp))
    (apply lxk_pt; (· rfl); (· exact d_x fun _ => x_idx 0 (k) rfl rfl rfl sl23 rfl (by omega) fun z1 hz1 b3 o3 => (dk_ptD default hz1 0 rfl)); intro b3 o3)
    (apply lxk_pt; (· rfl); (· exact d_x fun _ => x_field_rt rfl fd35_2 (fun w A hG => rt_f2 (hG _ (fact_mem (n := 0) rfl))) (dk_pt 0 rfl)); intro b4 o4)
    (apply lxk_sl; (· rfl); (· exact d_x fun _ => x_ld_sl 0 rfl rfl ld33 fun pa2 ca2 => (dk_sl 0 rfl)); intro pa2 ca2)
    (apply lxk_eq; (· rfl); (· exact d_x fun _ => x_len sl33 rfl dk_eq))
    (apply lxk_run 2; (· rfl); (· exact (by repeat' first | exact trivial | apply And.intro | omega)))
    refine lxk_end rfl ?_
    simp only [List.map_cons, List.map_nil, List.cons_append, List.nil_append]
    refine j_nf [.c [1, 0, 1, 0, 0, 1, 0, 0, 1], .blk 1, .c [1, 0, 1, 0, 0, 1, 1], .lp [1, 0, 1, 0, 0], .blk 0, .c [1, 1]] rfl ?_
    refine j_if rfl rfl (fun h2 => ?_) (fun h2 => ?_)
    · rw [fitsF, allB_stop hz (by rw [fewK]; refine decide_eq_false ?_; omega), Bool.false_and]
      refine j_nf [.o [1, 0, 1, 0, 0, 1, 0, 0, 1, 0, 0] 0, .c [1, 0, 1, 0, 0, 1, 0, 0, 1, 0, 1], .blk 1, .c [1, 0, 1, 0, 0, 1, 1], .lp [1, 0, 1, 0, 0], .blk 0, .c [1, 1]] rfl ?_
      refine j_run it 1 rfl (by simp) ?_
      refine j_nf [.c [1, 0, 1, 0, 0, 1, 0, 0, 1, 0, 1], .blk 1, .c [1, 0, 1, 0, 0, 1, 1], .lp [1, 0, 1, 0, 0], .blk 0, .c [1, 1]] rfl ?_
      refine j_giv [] rfl rfl rfl ⟨rfl, rfl, rfl⟩
    · refine j_nf [.o [1, 0, 1, 0, 0, 1, 1] 0, .lp [1, 0, 1, 0, 0], .blk 0, .c [1, 1]] rfl ?_
      refine j_run it 3 rfl (by repeat' first | exact trivial | apply And.intro | omega) ?_
      refine j_nfn 1 [.lp [1, 0, 1, 0, 0], .blk 0, .c [1, 1]] rfl ?_
      refine j_to [6] (by repeat (first | exact Fr.sub_nil _ | refine Fr.sub_cons rfl ?_ | refine Fr.sub_consI rfl (by first | omega | (dsimp only; omega)) ?_ | refine Fr.sub_consS rfl (by first | omega | (dsimp only; omega)) (by first | omega | (dsimp only; omega)) ?_)) rfl rfl (ih (k + 1) (by omega) ⟨by omega, allB_step hz hp (by rw [fewK]; refine decide_eq_true ?_; omega)⟩)
  · obtain rfl : f.length = k := by omega
    rw [List.take_length] at hp
    have e : fitsF f = decide ((f.length : Int) ≤ 20) := by
      rw [fitsF, hp, Bool.true_and]
      by_cases h : f.length ≤ 20
      · rw [decide_eq_true h, decide_eq_true (by omega)]
      · rw [decide_eq_false h, decide_eq_false (by omega)]
    rw [e]
    refine j_nf [.o [1, 0, 1, 0, 0, 0, 0] 0, .c [1, 0, 1, 0, 0, 0, 1], .c [1, 0, 1, 0, 0, 1], .lp [1, 0, 1, 0, 0], .blk 0, .c [1, 1]] rfl ?_
    refine j_run it 2 rfl (by simp) ?_
    refine j_step rfl (x_len sl23 rfl ?_)
    refine j_run it 1 rfl (by simp) ?_
    refine j_nf [.c [1, 0, 1, 0, 0, 0, 1], .c [1, 0, 1, 0, 0, 1], .lp [1, 0, 1, 0, 0], .blk 0, .c [1, 1]] rfl ?_
    refine j_if rfl rfl (fun h1 => by exfalso; omega) (fun h1 => ?_)
    refine j_nf [.o [1, 1, 0] 0, .c [1, 1, 1]] rfl ?_
    refine j_run it 1 rfl (by simp) ?_
    refine j_step rfl (x_len sl23 rfl ?_)
    refine j_run it 2 rfl (by simp) ?_
    refine j_nf [.c [1, 1, 1]] rfl ?_
    refine j_giv [] rfl rfl rfl ⟨rfl, rfl, rfl⟩
theorem fits_ok {f : List Rt} (h : fitsF f = true) (hr : ∀ r ∈ f, (∀ x ∈ r.2.1, x < 4294967296) ∧ (∀ x ∈ r.2.2, x < 4294967296)) : ∀ r ∈ f, okR 17 r := fun r hm => by
  rw [fitsF, Bool.and_eq_true] at h
  have := of_decide_eq_true (List.all_eq_true.1 h.1 r hm)
  exact ⟨(hr r hm).1, (hr r hm).2, by omega, by omega⟩

theorem S_codewrightref36_Power {q n : Nat} {z : Int} (hz : z = (n : Int)) (hq : q < 4294967296) (hn : n ≤ 4000) : Ctr Try.prog 28 [.int .i64 q, .int .i64 z] [] [] (RtV (rt (((q ^ n : Nat) : Int) : Rat))) := by
  subst hz
  refine Ctr_of_j' (F := F_codewrightref36_Power) rfl fun C => ?_
  have hv : val (limbs q) < 4294967296 := by rw [val_limbs]; exact hq
  have hp := pow_len hv hn
  refine j_nf [.o [0] 0, .c [1]] rfl ?_
  refine j_step rfl (x_alloc zo35 fun b1 => ?_)
  refine j_nf [.o [1, 0] 0, .c [1, 1]] rfl ?_
  refine j_run it 2 rfl (by repeat' first | exact trivial | apply And.intro | omega) ?_
  refine j_step rfl (x_call [] rfl (S_codewrightref01_Of (by first | omega | exact side _ (by assumption) | assumption | rfl | (simp; done) | (simp; omega))) rfl ?_)
  rintro _ _ _ ⟨pa1, ca1, rfl, rfl, rfl⟩
  simp only [List.cons_append, List.nil_append]
  refine j_run it 1 rfl (by simp) ?_
  refine j_step rfl (x_call [0] rfl (S_codewrightref01_Pow (by first | omega | exact side _ (by assumption) | assumption | rfl | (simp; done) | (simp; omega)) (by first | omega | exact side _ (by assumption) | assumption | rfl | (simp; done) | (simp; omega))) rfl ?_)
  rintro _ _ _ ⟨pa2, ca2, rfl, rfl, rfl⟩
  simp only [List.cons_append, List.nil_append]
  refine j_run it 5 rfl (by simp) ?_
  refine j_nf [.o [1, 1, 0] 0, .c [1, 1, 1]] rfl ?_
  refine j_run it 1 rfl (by simp) ?_
  refine j_step rfl (x_call [0] rfl (S_codewrightref02_Nat (by first | omega | exact side _ (by assumption) | assumption | rfl | (simp; done) | (simp; omega))) rfl ?_)
  rintro _ _ _ ⟨pn1, cn1, pd1, cd1, rfl, rfl, rfl⟩
  simp only [List.cons_append, List.nil_append]
  refine j_step rfl (x_bst_all 0 rfl rfl rfl ld35 rfl rfl (by simp [Value.oneCell']) ?_)
  refine j_nf [.c [1, 1, 1]] rfl ?_
  rw [val_limbs, val_limbs]
  refine j_givC [0, 1] rfl (.agg 0 rfl rfl ld35 rfl .nil) rfl ⟨_, _, _, _, rfl, rfl, rfl⟩
theorem S_codewrightref36_Singleton {n d : Nat} (hn : n ≤ 64) (h1 : 1 ≤ d) (h2 : d ≤ n) : Ctr Try.prog 27 [.int .i64 n, .int .i64 d] [] [] (SvM RatE (n + 1) (singR n d)) := by
  refine Ctr_of_j' (F := F_codewrightref36_Singleton) rfl fun C => ?_
  refine j_nf [.o [0] 0, .c [1]] rfl ?_
  refine j_run it 1 rfl (by simp) ?_
  refine j_nf [.o [1, 0] 0, .c [1, 1]] rfl ?_
  refine j_run it 1 rfl (by simp) ?_
  refine j_nf [.o [1, 1, 0, 0] 0, .c [1, 1, 0, 1], .c [1, 1, 1]] rfl ?_
  refine j_run it 1 rfl (by simp) ?_
  refine j_nf [.c [1, 1, 0, 1, 0], .blk 0, .c [1, 1, 1]] rfl ?_
  refine j_row0 RatE 35 ?_
  refine j_loopG (X := Nat × Row) [0, 1, 4] [] (fun x => [(6, .int .i64 x.1), (5, .slice (ad x.2.bo) x.1 x.2.cap)]) (fun x => [(x.2.bo, 35, x.2.cs)]) (fun x => [rowF RatE x.2 x.1 ((List.range x.1).map fun k => rt (mkRat (binom (n - k) (d - 1) : Int) (binom n (d - 1))))])
    (fun x => x.1 ≤ n + 1) (fun x => n + 1 - x.1) (0, ⟨none, 0, []⟩) [0] rfl rfl rfl (Nat.zero_le _) (by repeat (first | exact Fr.sub_nil _ | refine Fr.sub_cons rfl ?_)) rfl rfl ?_
  rintro ⟨k, r⟩ hk ih
  simp only [List.cons_append, List.nil_append] at hk ih ⊢
  by_cases hkl : k ≤ n
  · have hb1 := binom_len (show n - k ≤ 4096 by omega) (d - 1)
    have hb2 := binom_len (show n ≤ 4096 by omega) (d - 1)
    have ev' : vq (false, limbs (binom (n - k) (d - 1)), limbs (binom n (d - 1))) = mkRat (binom (n - k) (d - 1) : Int) (binom n (d - 1)) := by
      rw [vq_eq]; simp only [val_limbs]; rfl
    refine j_nf [.o [1, 1, 0, 1, 0, 0, 0, 0] 0, .c [1, 1, 0, 1, 0, 0, 0, 1], .c [1, 1, 0, 1, 0, 0, 1], .lp [1, 1, 0, 1, 0, 0], .blk 0, .c [1, 1, 1]] rfl ?_
    refine j_run it 3 rfl (by simp) ?_
    refine j_nf [.c [1, 1, 0, 1, 0, 0, 0, 1], .c [1, 1, 0, 1, 0, 0, 1], .lp [1, 1, 0, 1, 0, 0], .blk 0, .c [1, 1, 1]] rfl ?_
    refine j_if rfl rfl (fun h3 => ?_) (fun h3 => by exfalso; omega)
    refine j_nf [.o [1, 1, 0, 1, 0, 0, 1, 0, 0] 0, .blk 1, .c [1, 1, 0, 1, 0, 0, 1, 1], .lp [1, 1, 0, 1, 0, 0], .blk 0, .c [1, 1, 1]] rfl ?_
    refine j_run it 6 rfl (by repeat' first | exact trivial | apply And.intro | omega) ?_
    refine j_recast (t := 15) ((((n) - (k)) : Nat) : Int) rfl (by omega) ?_
    refine j_recast (t := 17) ((((d) - 1) : Nat) : Int) rfl (by omega) ?_
    refine j_step rfl (x_call [] rfl (S_codewrightref01_Choose (by first | omega | exact side _ (by assumption) | assumption | rfl | (simp; done) | (simp; omega))) rfl ?_)
    rintro _ _ _ ⟨pa1, ca1, rfl, rfl, rfl⟩
    simp only [List.cons_append, List.nil_append]
    refine j_run it 3 rfl (by repeat' first | exact trivial | apply And.intro | omega) ?_
    refine j_recast (t := 21) ((((d) - 1) : Nat) : Int) rfl (by omega) ?_
    refine j_step rfl (x_call [] rfl (S_codewrightref01_Choose (by first | omega | exact side _ (by assumption) | assumption | rfl | (simp; done) | (simp; omega))) rfl ?_)
    rintro _ _ _ ⟨pa2, ca2, rfl, rfl, rfl⟩
    simp only [List.cons_append, List.nil_append]
    refine j_step rfl (x_call [1, 0] rfl (S_codewrightref02_Make (by first | omega | exact side _ (by assumption) | assumption | rfl | (simp; done) | (simp; omega)) (by first | omega | exact side _ (by assumption) | assumption | rfl | (simp; done) | (simp; omega))) rfl ?_)
    rintro _ _ _ ⟨pn1, cn1, pd1, cd1, rfl, rfl, rfl⟩
    simp only [List.cons_append, List.nil_append]
    refine j_step rfl (x_lit sl23 zo23e rfl rfl rfl rfl (by decide) (by decide) rfl fun b1 => ?_)
    refine j_step rfl (x_appR (z := ((rt (vq (false, limbs (binom (n - k) (d - 1)), limbs (binom n (d - 1))))).fst, ((rt (vq (false, limbs (binom (n - k) (d - 1)), limbs (binom n (d - 1))))).snd.fst, (rt (vq (false, limbs (binom (n - k) (d - 1)), limbs (binom n (d - 1))))).snd.snd))) 1 0 4 rfl rfl rfl rfl rfl sl23 zo23e rfl (fun w A hG => (rd_pair (v1 := [Value.bool (rt (vq (false, limbs (binom (n - k) (d - 1)), limbs (binom n (d - 1))))).fst]) (rd_bool _) (rd_pair (v1 := [Value.slice pn1 (rt (vq (false, limbs (binom (n - k) (d - 1)), limbs (binom n (d - 1))))).snd.fst.length cn1]) (rd_of_slF (hG _ (fact_mem (n := 0) rfl))) (rd_of_slF (hG _ (fact_mem (n := 1) rfl)))))) (by omega) _ by23e (by omega) fun r1 => ?_)
    refine j_run it 1 rfl (by simp) ?_
    refine j_nf [.o [1, 1, 0, 1, 0, 0, 1, 1] 0, .lp [1, 1, 0, 1, 0, 0], .blk 0, .c [1, 1, 1]] rfl ?_
    refine j_run it 3 rfl (by repeat' first | exact trivial | apply And.intro | omega) ?_
    refine j_nfn 1 [.lp [1, 1, 0, 1, 0, 0], .blk 0, .c [1, 1, 1]] rfl ?_
    simp only [ev']
    rw [← range_snoc fun k => rt (mkRat (binom (n - k) (d - 1) : Int) (binom n (d - 1)))]
    refine j_toM [true, false] [0] (by repeat (first | exact Fr.sub_nil _ | refine Fr.sub_cons rfl ?_ | refine Fr.sub_consI rfl (by first | omega | (dsimp only; omega)) ?_ | refine Fr.sub_consS rfl (by first | omega | (dsimp only; omega)) (by first | omega | (dsimp only; omega)) ?_)) rfl rfl (ih (k + 1, r1) (by dsimp only; omega) (by dsimp only; omega))
  · obtain rfl : k = n + 1 := by omega
    refine j_nf [.o [1, 1, 0, 1, 0, 0, 0, 0] 0, .c [1, 1, 0, 1, 0, 0, 0, 1], .c [1, 1, 0, 1, 0, 0, 1], .lp [1, 1, 0, 1, 0, 0], .blk 0, .c [1, 1, 1]] rfl ?_
    refine j_run it 3 rfl (by simp) ?_
    refine j_nf [.c [1, 1, 0, 1, 0, 0, 0, 1], .c [1, 1, 0, 1, 0, 0, 1], .lp [1, 1, 0, 1, 0, 0], .blk 0, .c [1, 1, 1]] rfl ?_
    refine j_if rfl rfl (fun h3 => by exfalso; omega) (fun h3 => ?_)
    refine j_nf [.o [1, 1, 1, 0] 0, .c [1, 1, 1, 1]] rfl ?_
    refine j_run it 2 rfl (by simp) ?_
    refine j_nf [.c [1, 1, 1, 1]] rfl ?_
    refine j_pubR 0 0 rfl rfl (by show (n + 1) * 56 ≤ 140737488355328; omega) ?_
    rw [show ((List.range (n + 1)).map fun k => rt (mkRat (binom (n - k) (d - 1) : Int) (binom n (d - 1)))) = singR n d from rfl]
    refine j_giv [0] rfl rfl rfl ⟨_, _, rfl, rfl, rfl⟩
theorem sing_ok {n d : Nat} (hn : n ≤ 64) (h1 : 1 ≤ d) (h2 : d ≤ n) : ∀ r ∈ singR n d, okR 17 r := fun r hr => by
  obtain ⟨k, _, rfl⟩ := List.mem_map.1 hr
  have b1 := Nat.lt_of_lt_of_le (binom_lt (show n - k ≤ 64 by omega) (d - 1)) (Nat.pow_le_pow_right (show 0 < 4294967296 by decide) (show 3 ≤ 17 by decide))
  have b2 := Nat.lt_of_lt_of_le (binom_lt hn (d - 1)) (Nat.pow_le_pow_right (show 0 < 4294967296 by decide) (show 3 ≤ 17 by decide))
  exact okR_rt (bd_mk (n := false) (by decide) b1 b2)
end Go.Proofs.Ytlhgkefaflpgeaa

namespace Go.Proofs.Ytlhgkefaflpgeaa
open Go Go.Fw
set_option maxRecDepth 100000
set_option linter.unusedVariables false
set_option linter.unusedSimpArgs false
set_option maxHeartbeats 4000000
abbrev evF : List Rt := [rt 1, rt (mkRat 2 3), rt (mkRat 1 3), rt 0]
abbrev evG : List Rt := [rt 1, rt (mkRat 2 3), rt 0, rt 0]
theorem third1 : mkRat 1 3 * 3 = 1 := by
  have := mkRat_div 1 (b := 3) (by decide)
  exact this
theorem third2 : mkRat 2 3 * 3 = 2 := by
  have := mkRat_div 2 (b := 3) (by decide)
  exact this
theorem even_val (f0 f1 f2 f3 : Rat) (x : Nat) : valF 2 3 (fQ [rt f0, rt f1, rt f2, rt f3]) x = f0 * ((kr 1 3 0 x : Int) : Rat) + f1 * ((kr 1 3 1 x : Int) : Rat) + f2 * ((kr 1 3 2 x : Int) : Rat) + f3 * ((kr 1 3 3 x : Int) : Rat) := by
  simp [valF, rs, fQ, vq_rt, Rat.zero_add]
theorem even_nums : kr 1 3 0 0 = 1 ∧ kr 1 3 1 0 = 3 ∧ kr 1 3 2 0 = 3 ∧ kr 1 3 3 0 = 1 ∧ kr 1 3 0 2 = 1 ∧ kr 1 3 1 2 = -1 ∧ kr 1 3 2 2 = -1 ∧ kr 1 3 3 2 = 1 ∧ kr 1 3 0 3 = 1 ∧ kr 1 3 1 3 = -3 ∧ kr 1 3 2 3 = 3 ∧ kr 1 3 3 3 = -1 := by decide
theorem nn {a b : Nat} (hb : b ≠ 0) : 0 ≤ mkRat (a : Int) b := by
  rw [← Rat.divInt_ofNat]; exact Rat.divInt_nonneg (by omega) (by omega)
theorem even_yes : accP 2 3 2 evF ∧ valF 2 3 (fQ evF) 0 = 4 := by
  obtain ⟨n1, n2, n3, n4, n5, n6, n7, n8, n9, n10, n11, n12⟩ := even_nums
  have t1 := third1
  have t2 := third2
  have p1 : 0 ≤ mkRat 1 3 := nn (a := 1) (by decide)
  have p2 : 0 ≤ mkRat 2 3 := nn (a := 2) (by decide)
  generalize hx : mkRat 1 3 = x at *
  generalize hy : mkRat 2 3 = y at *
  refine ⟨⟨rfl, vq_rt 1, ?_, fun i hi hi3 => ?_⟩, ?_⟩
  · simp [posB, vq_rt, hx, hy, p1, p2, show (0 : Rat) ≤ 1 by decide, Rat.le_refl]
  · have : i = 2 ∨ i = 3 := by omega
    rcases this with rfl | rfl
    · rw [evF, even_val, n5, n6, n7, n8, hx, hy]
      push_cast
      grind
    · rw [evF, even_val, n9, n10, n11, n12, hx, hy]
      push_cast
      grind
  · rw [evF, even_val, n1, n2, n3, n4, hx, hy]
    push_cast
    grind
theorem even_no : ¬ accP 2 3 2 evG := fun h => by
  obtain ⟨n1, n2, n3, n4, n5, n6, n7, n8, n9, n10, n11, n12⟩ := even_nums
  have t2 := third2
  have h4 := h.2.2.2 2 (by decide) (by decide)
  rw [evG, even_val, n5, n6, n7, n8] at h4
  generalize mkRat 2 3 = y at *
  push_cast at h4
  grind
theorem ok_int {z : Int} (h : z.natAbs < 4294967296 ^ 17) : okR 17 (rt (z : Rat)) := by
  obtain ⟨h1, h2⟩ := rt_int_len h
  exact ⟨limbs_lt _, limbs_lt _, h1, by omega⟩
theorem ok_third (a : Nat) (h : a < 4294967296) : okR 17 (rt (mkRat (a : Int) 3)) :=
  okR_rt (bd_mk (n := false) (by decide) (Nat.lt_of_lt_of_le h (by decide)) (by decide))
theorem evF_ok : ∀ r ∈ evF, okR 17 r := fun r hr => by
  simp only [evF, List.mem_cons, List.not_mem_nil, or_false] at hr
  rcases hr with rfl | rfl | rfl | rfl
  · exact ok_int (z := 1) (by decide)
  · exact ok_third 2 (by decide)
  · exact ok_third 1 (by decide)
  · exact ok_int (z := 0) (by decide)
theorem evG_ok : ∀ r ∈ evG, okR 17 r := fun r hr => by
  simp only [evG, List.mem_cons, List.not_mem_nil, or_false] at hr
  rcases hr with rfl | rfl | rfl | rfl
  · exact ok_int (z := 1) (by decide)
  · exact ok_third 2 (by decide)
  · exact ok_int (z := 0) (by decide)
  · exact ok_int (z := 0) (by decide)
theorem S_codewrightlaw36_even : Ctr Try.prog 25 [] [] [] (Rv (.bool true) []) := by
  refine Ctr_of_j' (F := F_codewrightlaw36_even) rfl fun C => ?_
  have hi0 : InR .i64 (0 : Int) := by simp [InR]
  have hi1 : InR .i64 (1 : Int) := by simp [InR]
  have hi2 : InR .i64 (2 : Int) := by simp [InR]
  have hi4 : InR .i64 (4 : Int) := by simp [InR]
  have o1 := evF_ok
  have o2 := evG_ok
  have hr : rangeP ((2 : Nat) : Int) ((3 : Nat) : Int) ((2 : Nat) : Int) := by unfold rangeP; decide
  obtain ⟨a1, a2⟩ := dac_nat hr evF
  obtain ⟨a3, a4⟩ := dac_nat hr evG
  obtain ⟨b1, b2⟩ := accD_yes even_yes.1
  obtain ⟨b3, b4⟩ := accD_no even_no
  rw [b1] at a1
  rw [b2, even_yes.2] at a2
  rw [b3] at a3
  rw [b4] at a4
  have a1 : dacE 2 3 2 evF = 0 := a1
  have a2 : dacR 2 3 2 evF = rt 4 := a2
  have a3 : dacE 2 3 2 evG = 13 := a3
  have a4 : dacR 2 3 2 evG = (false, [], []) := a4
  refine j_nf [.o [0] 0, .c [1]] rfl ?_
  refine j_run it 1 rfl (by simp) ?_
  refine j_nf [.o [1, 0] 0, .c [1, 1]] rfl ?_
  refine j_step rfl (x_call [] rfl (S_codewrightref02_Int (by first | omega | exact side _ (by assumption) | assumption | rfl | (simp; done) | (simp; omega))) rfl ?_)
  rintro _ _ _ ⟨pn1, cn1, pd1, cd1, rfl, rfl, rfl⟩
  simp only [List.cons_append, List.nil_append]
  refine j_step rfl (x_call [] rfl (S_codewrightref02_Of (by first | omega | exact side _ (by assumption) | assumption | rfl | (simp; done) | (simp; omega)) (by first | omega | exact side _ (by assumption) | assumption | rfl | (simp; done) | (simp; omega)) (by first | omega | exact side _ (by assumption) | assumption | rfl | (simp; done) | (simp; omega))) rfl ?_)
  rintro _ _ _ ⟨pn2, cn2, pd2, cd2, rfl, rfl, rfl⟩
  simp only [List.cons_append, List.nil_append]
  refine j_step rfl (x_call [] rfl (S_codewrightref02_Of (by first | omega | exact side _ (by assumption) | assumption | rfl | (simp; done) | (simp; omega)) (by first | omega | exact side _ (by assumption) | assumption | rfl | (simp; done) | (simp; omega)) (by first | omega | exact side _ (by assumption) | assumption | rfl | (simp; done) | (simp; omega))) rfl ?_)
  rintro _ _ _ ⟨pn3, cn3, pd3, cd3, rfl, rfl, rfl⟩
  simp only [List.cons_append, List.nil_append]
  refine j_step rfl (x_call [] rfl (S_codewrightref02_Int (by first | omega | exact side _ (by assumption) | assumption | rfl | (simp; done) | (simp; omega))) rfl ?_)
  rintro _ _ _ ⟨pn4, cn4, pd4, cd4, rfl, rfl, rfl⟩
  simp only [List.cons_append, List.nil_append]
  refine j_step rfl (x_lit sl23 zo23e rfl rfl rfl rfl (by decide) (by decide) rfl fun b5 => ?_)
  simp only [show ((1 : Int) : Rat) = 1 from rfl, show ((0 : Int) : Rat) = 0 from rfl]
  refine j_pub_all (E := RatE) (n := 4) [[Value.bool (rt 1).fst, Value.slice pn1 (rt 1).snd.fst.length cn1, Value.slice pd1 (rt 1).snd.snd.length cd1], [Value.bool (rt (mkRat 2 3)).fst, Value.slice pn2 (rt (mkRat 2 3)).snd.fst.length cn2, Value.slice pd2 (rt (mkRat 2 3)).snd.snd.length cd2], [Value.bool (rt (mkRat 1 3)).fst, Value.slice pn3 (rt (mkRat 1 3)).snd.fst.length cn3, Value.slice pd3 (rt (mkRat 1 3)).snd.snd.length cd3], [Value.bool (rt 0).fst, Value.slice pn4 (rt 0).snd.fst.length cn4, Value.slice pd4 (rt 0).snd.snd.length cd4]] [((rt 1).fst, (rt 1).snd.fst, (rt 1).snd.snd), ((rt (mkRat 2 3)).fst, (rt (mkRat 2 3)).snd.fst, (rt (mkRat 2 3)).snd.snd), ((rt (mkRat 1 3)).fst, (rt (mkRat 1 3)).snd.fst, (rt (mkRat 1 3)).snd.snd), ((rt 0).fst, (rt 0).snd.fst, (rt 0).snd.snd)] 0 (fun w A hG => (allrd_cons (rd_rt (hG _ (fact_mem (n := 6) rfl)) (hG _ (fact_mem (n := 7) rfl))) (allrd_cons (rd_rt (hG _ (fact_mem (n := 4) rfl)) (hG _ (fact_mem (n := 5) rfl))) (allrd_cons (rd_rt (hG _ (fact_mem (n := 2) rfl)) (hG _ (fact_mem (n := 3) rfl))) (allrd_cons (rd_rt (hG _ (fact_mem (n := 0) rfl)) (hG _ (fact_mem (n := 1) rfl))) allrd_nil))))) rfl rfl rfl rfl (by decide) (by decide) ?_
  refine j_step rfl (x_call [0] rfl (S_delsarte_Accept (by first | omega | exact side _ (by assumption) | assumption | rfl | (simp; done) | (simp; omega)) (by first | omega | exact side _ (by assumption) | assumption | rfl | (simp; done) | (simp; omega)) (by first | omega | exact side _ (by assumption) | assumption | rfl | (simp; done) | (simp; omega))) rfl ?_)
  rintro _ _ _ ⟨pn5, cn5, pd5, cd5, rfl, rfl, rfl⟩
  simp only [List.cons_append, List.nil_append]
  refine j_run it 3 rfl (by simp) ?_
  refine j_step rfl (x_alloc zo35 fun b6 => ?_)
  refine j_step rfl (x_bst_all 0 rfl rfl rfl ld35 rfl rfl (by simp [Value.oneCell']) ?_)
  refine j_run it 1 rfl (by simp) ?_
  refine j_nf [.o [1, 1, 0] 0, .c [1, 1, 1]] rfl ?_
  refine j_step rfl (x_call [] rfl (S_codewrightref02_Int (by first | omega | exact side _ (by assumption) | assumption | rfl | (simp; done) | (simp; omega))) rfl ?_)
  rintro _ _ _ ⟨pn6, cn6, pd6, cd6, rfl, rfl, rfl⟩
  simp only [List.cons_append, List.nil_append]
  refine j_step rfl (x_call [] rfl (S_codewrightref02_Of (by first | omega | exact side _ (by assumption) | assumption | rfl | (simp; done) | (simp; omega)) (by first | omega | exact side _ (by assumption) | assumption | rfl | (simp; done) | (simp; omega)) (by first | omega | exact side _ (by assumption) | assumption | rfl | (simp; done) | (simp; omega))) rfl ?_)
  rintro _ _ _ ⟨pn7, cn7, pd7, cd7, rfl, rfl, rfl⟩
  simp only [List.cons_append, List.nil_append]
  refine j_step rfl (x_call [] rfl (S_codewrightref02_Int (by first | omega | exact side _ (by assumption) | assumption | rfl | (simp; done) | (simp; omega))) rfl ?_)
  rintro _ _ _ ⟨pn8, cn8, pd8, cd8, rfl, rfl, rfl⟩
  simp only [List.cons_append, List.nil_append]
  refine j_step rfl (x_call [] rfl (S_codewrightref02_Int (by first | omega | exact side _ (by assumption) | assumption | rfl | (simp; done) | (simp; omega))) rfl ?_)
  rintro _ _ _ ⟨pn9, cn9, pd9, cd9, rfl, rfl, rfl⟩
  simp only [List.cons_append, List.nil_append]
  refine j_step rfl (x_lit sl23 zo23e rfl rfl rfl rfl (by decide) (by decide) rfl fun b7 => ?_)
  refine j_pub_all (E := RatE) (n := 4) [[Value.bool (rt ↑1).fst, Value.slice pn6 (rt ↑1).snd.fst.length cn6, Value.slice pd6 (rt ↑1).snd.snd.length cd6], [Value.bool (rt (mkRat 2 3)).fst, Value.slice pn7 (rt (mkRat 2 3)).snd.fst.length cn7, Value.slice pd7 (rt (mkRat 2 3)).snd.snd.length cd7], [Value.bool (rt ↑0).fst, Value.slice pn8 (rt ↑0).snd.fst.length cn8, Value.slice pd8 (rt ↑0).snd.snd.length cd8], [Value.bool (rt ↑0).fst, Value.slice pn9 (rt ↑0).snd.fst.length cn9, Value.slice pd9 (rt ↑0).snd.snd.length cd9]] [((rt ↑1).fst, (rt ↑1).snd.fst, (rt ↑1).snd.snd), ((rt (mkRat 2 3)).fst, (rt (mkRat 2 3)).snd.fst, (rt (mkRat 2 3)).snd.snd), ((rt ↑0).fst, (rt ↑0).snd.fst, (rt ↑0).snd.snd), ((rt ↑0).fst, (rt ↑0).snd.fst, (rt ↑0).snd.snd)] 0 (fun w A hG => (allrd_cons (rd_rt (hG _ (fact_mem (n := 6) rfl)) (hG _ (fact_mem (n := 7) rfl))) (allrd_cons (rd_rt (hG _ (fact_mem (n := 4) rfl)) (hG _ (fact_mem (n := 5) rfl))) (allrd_cons (rd_rt (hG _ (fact_mem (n := 2) rfl)) (hG _ (fact_mem (n := 3) rfl))) (allrd_cons (rd_rt (hG _ (fact_mem (n := 0) rfl)) (hG _ (fact_mem (n := 1) rfl))) allrd_nil))))) rfl rfl rfl rfl (by decide) (by decide) ?_
  refine j_step rfl (x_call [0] rfl (S_delsarte_Accept (by first | omega | exact side _ (by assumption) | assumption | rfl | (simp; done) | (simp; omega)) (by first | omega | exact side _ (by assumption) | assumption | rfl | (simp; done) | (simp; omega)) (by first | omega | exact side _ (by assumption) | assumption | rfl | (simp; done) | (simp; omega))) rfl ?_)
  rintro _ _ _ ⟨pn10, cn10, pd10, cd10, rfl, rfl, rfl⟩
  simp only [List.cons_append, List.nil_append]
  refine j_run it 3 rfl (by simp) ?_
  refine j_step rfl (x_alloc zo35 fun b8 => ?_)
  refine j_step rfl (x_bst_all 0 rfl rfl rfl ld35 rfl rfl (by simp [Value.oneCell']) ?_)
  refine j_run it 1 rfl (by simp) ?_
  refine j_nf [.c [1, 1, 1, 0], .c [1, 1, 1, 1]] rfl ?_
  (apply j_drawK it mx 15; (· rfl); (· rfl))
  (apply lxk_run 1; (· rfl); (· simp))
  (apply lxk_eq; (· rfl); (· exact d_x fun _ => x_true it rfl (by trivial) (by omega) dk_eq))
  (apply lxk_run 1; (· rfl); (· simp))
  (apply lxk_eq; (· rfl); (· exact d_bld_all 1 rfl rfl ld35 rfl))
  (apply lxk_rq; (· rfl); (· exact d_x fun _ => x_call [] rfl (S_codewrightref02_Int (by first | omega | exact side _ (by assumption) | assumption | rfl | (simp; done) | (simp; omega))) rfl (by rintro _ _ _ ⟨pn11, cn11, pd11, cd11, rfl, rfl, rfl⟩; exact (dk_rq 0 1 rfl rfl))); intro pn11 cn11 pd11 cd11)
  simp only [vq_rt']
  (apply lxk_eq; (· rfl); (· exact d_x fun _ => x_call [13, 14, 0, 1] rfl (S_codewrightref02_Same) rfl (by rintro _ _ _ ⟨rfl, rfl, rfl⟩; exact dk_eq)))
  simp only [vq_rt']
  (apply lxk_run 2; (· rfl); (· simp)) --ok
  simp only [show ((4 : Int) : Rat) = 4 from rfl, decide_true]
  (apply lxk_run 1; (· rfl); (· simp))
  (apply lxk_eq; (· rfl); (· exact d_x fun _ => x_true it rfl (by trivial) (by omega) dk_eq))
  (apply lxk_run 2; (· rfl); (· simp))
  (apply lxk_eq; (· rfl); (· exact d_bld_all 0 rfl rfl ld35 rfl))
  (apply lxk_eq; (· rfl); (· exact d_x fun _ => x_call [] rfl (S_codewrightref02_Nil) rfl (by rintro _ _ _ ⟨rfl, rfl, rfl⟩; exact dk_eq)))
  simp only [vq_rt']
  (apply lxk_run 1; (· rfl); (· simp))
  refine lxk_end rfl ?_
  simp only [List.map_cons, List.map_nil, List.cons_append, List.nil_append]
  refine j_run it 1 rfl (by simp) ?_
  refine j_nf [.c [1, 1, 1, 1]] rfl ?_
  refine j_giv [] rfl rfl rfl ⟨rfl, rfl, rfl⟩
end Go.Proofs.Ytlhgkefaflpgeaa

namespace Go.Proofs.Ytlhgkefaflpgeaa
open Go Go.Fw
set_option maxRecDepth 100000
set_option linter.unusedVariables false
set_option linter.unusedSimpArgs false
set_option maxHeartbeats 4000000
theorem S_DelsarteBounds {q d : Int} {pw pa : Option Addr} {nw nf cw ca : Nat} {W : List (List Int)} {f : List Rt} : Ctr Try.prog 7 [.int .i64 q, .int .i64 d, .slice pw nw cw, .slice pa nf ca] [] [slF (encSl I64) pw nw cw W, slF RatE pa nf ca f] (Rv (.bool true) []) := by
  refine Ctr_of_j' (F := F_codewrightlaw36_DelsarteBounds) rfl fun C => ?_
  refine j_len 0 rfl fun hn _ _ => ?_
  subst hn
  refine rts_range 1 rfl fun rf => ?_
  cases hfit : fitsF f with
  | false =>
    refine j_nf [.o [0] 0, .c [1]] rfl ?_
    refine j_run it 1 rfl (by simp) ?_
    refine j_nf [.o [1, 0, 0] 0, .c [1, 0, 1], .c [1, 1]] rfl ?_
    refine j_run it 1 rfl (by simp) ?_
    refine j_step rfl (x_call [1] rfl (S_codewrightlaw36_fits (by first | omega | exact side _ (by assumption) | assumption | rfl | (simp; done) | (simp; omega))) rfl ?_)
    rintro _ _ _ ⟨rfl, rfl, rfl⟩
    simp only [List.cons_append, List.nil_append]
    refine j_run it 1 rfl (by simp) ?_
    refine j_nf [.c [1, 0, 1], .c [1, 1]] rfl ?_
    refine j_true rfl rfl ?_
    refine j_nf [.o [1, 0, 1, 0, 0] 0, .c [1, 0, 1, 0, 1], .c [1, 1]] rfl ?_
    refine j_run it 1 rfl (by simp) ?_
    refine j_nf [.c [1, 0, 1, 0, 1], .c [1, 1]] rfl ?_
    refine j_giv [] rfl rfl rfl ⟨rfl, rfl, rfl⟩
  | true =>
    have hf := fits_ok hfit rf
    by_cases h300 : 300 < W.length
    · refine j_nf [.o [0] 0, .c [1]] rfl ?_
      refine j_run it 1 rfl (by simp) ?_
      refine j_nf [.o [1, 0, 0] 0, .c [1, 0, 1], .c [1, 1]] rfl ?_
      refine j_run it 1 rfl (by simp) ?_
      refine j_step rfl (x_call [1] rfl (S_codewrightlaw36_fits (by first | omega | exact side _ (by assumption) | assumption | rfl | (simp; done) | (simp; omega))) rfl ?_)
      rintro _ _ _ ⟨rfl, rfl, rfl⟩
      simp only [List.cons_append, List.nil_append]
      refine j_run it 1 rfl (by simp) ?_
      refine j_nf [.c [1, 0, 1], .c [1, 1]] rfl ?_
      refine j_false rfl rfl ?_
      refine j_nf [.o [1, 1, 0, 0] 0, .c [1, 1, 0, 1], .c [1, 1, 1]] rfl ?_
      refine j_step rfl (x_call [] rfl (S_codewrightlaw36_even) rfl ?_)
      rintro _ _ _ ⟨rfl, rfl, rfl⟩
      simp only [List.cons_append, List.nil_append]
      refine j_run it 1 rfl (by simp) ?_
      refine j_nf [.c [1, 1, 0, 1], .c [1, 1, 1]] rfl ?_
      refine j_false rfl rfl ?_
      refine j_nf [.o [1, 1, 1, 0, 0] 0, .c [1, 1, 1, 0, 1], .c [1, 1, 1, 1]] rfl ?_
      refine j_run it 1 rfl (by simp) ?_
      refine j_step rfl (x_len sl22 rfl ?_)
      refine j_run it 2 rfl (by simp) ?_
      refine j_split_dec (t := 19) rfl (fun h1 => ?_) (fun h1 => by exfalso; omega)
      refine j_run it 22 rfl (by simp) ?_
      refine j_nf [.c [1, 1, 1, 0, 1], .c [1, 1, 1, 1]] rfl ?_
      refine j_true rfl rfl ?_
      refine j_nf [.o [1, 1, 1, 0, 1, 0, 0] 0, .c [1, 1, 1, 0, 1, 0, 1], .c [1, 1, 1, 1]] rfl ?_
      refine j_run it 1 rfl (by simp) ?_
      refine j_nf [.c [1, 1, 1, 0, 1, 0, 1], .c [1, 1, 1, 1]] rfl ?_
      refine j_giv [] rfl rfl rfl ⟨rfl, rfl, rfl⟩
    by_cases he : wordsE q W = 0
    · obtain ⟨p, m, rfl, hp1, hp2, h0, hl, hm1, hm, hall⟩ := words_ok he
      have hz0 : W[0]? = some (W.getD 0 default) := getD_at h0
      have hwl : ∀ w ∈ W, w.length = m := fun w h => (hall w h).1
      by_cases hd : d < 1
      · refine j_nf [.o [0] 0, .c [1]] rfl ?_
        refine j_run it 1 rfl (by simp) ?_
        refine j_nf [.o [1, 0, 0] 0, .c [1, 0, 1], .c [1, 1]] rfl ?_
        refine j_run it 1 rfl (by simp) ?_
        refine j_step rfl (x_call [1] rfl (S_codewrightlaw36_fits (by first | omega | exact side _ (by assumption) | assumption | rfl | (simp; done) | (simp; omega))) rfl ?_)
        rintro _ _ _ ⟨rfl, rfl, rfl⟩
        simp only [List.cons_append, List.nil_append]
        refine j_run it 1 rfl (by simp) ?_
        refine j_nf [.c [1, 0, 1], .c [1, 1]] rfl ?_
        refine j_false rfl rfl ?_
        refine j_nf [.o [1, 1, 0, 0] 0, .c [1, 1, 0, 1], .c [1, 1, 1]] rfl ?_
        refine j_step rfl (x_call [] rfl (S_codewrightlaw36_even) rfl ?_)
        rintro _ _ _ ⟨rfl, rfl, rfl⟩
        simp only [List.cons_append, List.nil_append]
        refine j_run it 1 rfl (by simp) ?_
        refine j_nf [.c [1, 1, 0, 1], .c [1, 1, 1]] rfl ?_
        refine j_false rfl rfl ?_
        refine j_nf [.o [1, 1, 1, 0, 0] 0, .c [1, 1, 1, 0, 1], .c [1, 1, 1, 1]] rfl ?_
        refine j_run it 1 rfl (by simp) ?_
        refine j_step rfl (x_len sl22 rfl ?_)
        refine j_run it 2 rfl (by simp) ?_
        refine j_split_dec (t := 19) rfl (fun h1 => by exfalso; omega) (fun h1 => ?_)
        refine j_run it 2 rfl (by simp) ?_
        refine j_gstep rfl rfl (x_call [0] rfl (S_codewrightref34_Words (by first | omega | exact side _ (by assumption) | assumption | rfl | (simp; done) | (simp; omega))) rfl ?_)
        rintro _ _ _ ⟨rfl, rfl, rfl⟩
        simp only [List.cons_append, List.nil_append]
        refine j_run it 7 rfl (by simp) ?_
        refine j_split_dec (t := 29) rfl (fun h2 => ?_) (fun h2 => by exfalso; omega)
        refine j_run it 12 rfl (by simp) ?_
        refine j_nf [.c [1, 1, 1, 0, 1], .c [1, 1, 1, 1]] rfl ?_
        refine j_true rfl rfl ?_
        refine j_nf [.o [1, 1, 1, 0, 1, 0, 0] 0, .c [1, 1, 1, 0, 1, 0, 1], .c [1, 1, 1, 1]] rfl ?_
        refine j_run it 1 rfl (by simp) ?_
        refine j_nf [.c [1, 1, 1, 0, 1, 0, 1], .c [1, 1, 1, 1]] rfl ?_
        refine j_giv [] rfl rfl rfl ⟨rfl, rfl, rfl⟩
      have hiN : InR .i64 (W.length : Int) := by simp only [InR]; omega
      by_cases ha : apartP W d
      · have hap : (true = true ↔ apartP W d) := ⟨fun _ => ha, fun _ => rfl⟩
        by_cases hr : rangeP p m d
        · obtain ⟨_, _, k, e1, e2, rfl, h1, h2, h3, h4, h5, h6⟩ := range_nat hr
          obtain rfl : p = _ := by exact Int.ofNat.inj e1
          obtain rfl : m = _ := by exact Int.ofNat.inj e2
          obtain ⟨eE, eR⟩ := dac_nat hr f
          refine j_nf [.o [0] 0, .c [1]] rfl ?_
          refine j_run it 1 rfl (by simp) ?_
          refine j_nf [.o [1, 0, 0] 0, .c [1, 0, 1], .c [1, 1]] rfl ?_
          refine j_run it 1 rfl (by simp) ?_
          refine j_step rfl (x_call [1] rfl (S_codewrightlaw36_fits (by first | omega | exact side _ (by assumption) | assumption | rfl | (simp; done) | (simp; omega))) rfl ?_)
          rintro _ _ _ ⟨rfl, rfl, rfl⟩
          simp only [List.cons_append, List.nil_append]
          refine j_run it 1 rfl (by simp) ?_
          refine j_nf [.c [1, 0, 1], .c [1, 1]] rfl ?_
          refine j_false rfl rfl ?_
          refine j_nf [.o [1, 1, 0, 0] 0, .c [1, 1, 0, 1], .c [1, 1, 1]] rfl ?_
          refine j_step rfl (x_call [] rfl (S_codewrightlaw36_even) rfl ?_)
          rintro _ _ _ ⟨rfl, rfl, rfl⟩
          simp only [List.cons_append, List.nil_append]
          refine j_run it 1 rfl (by simp) ?_
          refine j_nf [.c [1, 1, 0, 1], .c [1, 1, 1]] rfl ?_
          refine j_false rfl rfl ?_
          refine j_nf [.o [1, 1, 1, 0, 0] 0, .c [1, 1, 1, 0, 1], .c [1, 1, 1, 1]] rfl ?_
          refine j_run it 1 rfl (by simp) ?_
          refine j_step rfl (x_len sl22 rfl ?_)
          refine j_run it 2 rfl (by simp) ?_
          refine j_split_dec (t := 19) rfl (fun h7 => by exfalso; omega) (fun h7 => ?_)
          refine j_run it 2 rfl (by simp) ?_
          refine j_gstep rfl rfl (x_call [0] rfl (S_codewrightref34_Words (by first | omega | exact side _ (by assumption) | assumption | rfl | (simp; done) | (simp; omega))) rfl ?_)
          rintro _ _ _ ⟨rfl, rfl, rfl⟩
          simp only [List.cons_append, List.nil_append]
          refine j_run it 7 rfl (by simp) ?_
          refine j_split_dec (t := 29) rfl (fun h8 => by exfalso; omega) (fun h8 => ?_)
          refine j_run it 1 rfl (by simp) ?_
          refine j_gstep rfl rfl (x_idx 0 0 rfl rfl rfl sl22 (by omega) (by omega) fun z1 hz1 b1 o1 => ?_)
          refine j_gstep rfl rfl (x_ld_sl 0 rfl rfl ld31 fun pa1 ca1 => ?_)
          refine j_gstep rfl rfl (x_len sl31 rfl ?_)
          refine j_run it 3 rfl (by simp) ?_
          refine j_split_dec (t := 36) rfl (fun h9 => ?_) (fun h9 => ?_)
          · refine j_run it 5 rfl (by simp) ?_
            refine j_nf [.c [1, 1, 1, 0, 1], .c [1, 1, 1, 1]] rfl ?_
            refine j_true rfl rfl ?_
            refine j_nf [.o [1, 1, 1, 0, 1, 0, 0] 0, .c [1, 1, 1, 0, 1, 0, 1], .c [1, 1, 1, 1]] rfl ?_
            refine j_run it 1 rfl (by simp) ?_
            refine j_nf [.c [1, 1, 1, 0, 1, 0, 1], .c [1, 1, 1, 1]] rfl ?_
            refine j_giv [] rfl rfl rfl ⟨rfl, rfl, rfl⟩
          · obtain rfl : z1 = W.getD 0 default := Option.some.inj (hz1.symm.trans hz0)
            refine j_run it 2 rfl (by simp) ?_
            refine j_gstep rfl rfl (x_call [2] rfl (S_codewrightref34_Apart (by first | omega | exact side _ (by assumption) | assumption | rfl | (simp; done) | (simp; omega)) (by first | omega | exact side _ (by assumption) | assumption | rfl | (simp; done) | (simp; omega))) rfl ?_)
            rintro _ _ _ ⟨rfl, rfl, rfl⟩
            simp only [List.cons_append, List.nil_append]
            simp only [decide_true]
            refine j_run it 2 rfl (by simp) ?_
            refine j_nf [.c [1, 1, 1, 0, 1], .c [1, 1, 1, 1]] rfl ?_
            refine j_false rfl rfl ?_
            refine j_nf [.o [1, 1, 1, 1, 0] 0, .c [1, 1, 1, 1, 1]] rfl ?_
            refine j_run it 2 rfl (by simp) ?_
            refine j_step rfl (x_idx 2 0 rfl rfl rfl sl22 (by omega) (by omega) fun z1 hz2 b2 o2 => ?_)
            refine j_step rfl (x_ld_sl 0 rfl rfl ld31 fun pa2 ca2 => ?_)
            refine j_step rfl (x_len sl31 rfl ?_)
            refine j_run it 2 rfl (by simp) ?_
            obtain rfl : z1 = W.getD 0 default := Option.some.inj (hz2.symm.trans hz0)
            rw [hl]
            by_cases hacc : accP p m k f
            · obtain ⟨g1, g2⟩ := accD_yes hacc
              rw [g1] at eE
              rw [g2] at eR
              have hbv := val_part_bd h1 h2 h4 (Nat.zero_le _) hf hacc.1 (m + 1) (Nat.le_refl _)
              obtain ⟨x1, x2⟩ := bd_len hbv
              have x1 : (rt (valF p m (fQ f) 0)).2.1.length ≤ 35 * (m + 1) + 1 := x1
              have x2 : (rt (valF p m (fQ f) 0)).2.2.length ≤ 35 * (m + 1) + 1 := x2
              obtain ⟨x3, x4⟩ := rt_int_len (z := (W.length : Int)) (m := 1) (by omega)
              have hb := acc_bound (q := p) (n := m) (d := k) (W := W) (f := f) (by omega) h0 h5 hall (fun i j hi hj => by have := ha i j hi hj; omega) dist_symm hacc
              have hs : ¬ 0 < (((W.length : Int) : Rat) - valF p m (fQ f) 0).num.sign := fun h => Rat.not_lt.2 hb (cmp_pos.1 h)
              have hs2 : (((W.length : Int) : Rat) - valF p m (fQ f) 0).num.sign ≤ 0 := by omega
              refine j_step rfl (x_call [5] rfl (S_delsarte_Accept (by first | omega | exact side _ (by assumption) | assumption | rfl | (simp; done) | (simp; omega)) (by first | omega | exact side _ (by assumption) | assumption | rfl | (simp; done) | (simp; omega)) (by first | omega | exact side _ (by assumption) | assumption | rfl | (simp; done) | (simp; omega))) rfl ?_)
              rintro _ _ _ ⟨pn1, cn1, pd1, cd1, rfl, rfl, rfl⟩
              simp only [List.cons_append, List.nil_append]
              refine j_run it 3 rfl (by simp) ?_
              refine j_step rfl (x_alloc zo35 fun b3 => ?_)
              refine j_step rfl (x_bst_all 0 rfl rfl rfl ld35 rfl rfl (by simp [Value.oneCell']) ?_)
              refine j_run it 1 rfl (by simp) ?_
              refine j_nf [.c [1, 1, 1, 1, 1, 0], .c [1, 1, 1, 1, 1, 1]] rfl ?_
              (apply j_drawK it mx 10; (· rfl); (· rfl))
              (apply lxk_run 1; (· rfl); (· simp))
              (apply lxk_eq; (· rfl); (· exact d_x fun _ => x_falseN it rfl (by trivial) (by omega) dk_eq))
              (apply lxk_run 2; (· rfl); (· simp))
              (apply lxk_eq; (· rfl); (· exact d_x fun _ => x_len sl22 rfl dk_eq))
              (apply lxk_rq; (· rfl); (· exact d_x fun _ => x_call [] rfl (S_codewrightref02_Int (by first | omega | exact side _ (by assumption) | assumption | rfl | (simp; done) | (simp; omega))) rfl (by rintro _ _ _ ⟨pn2, cn2, pd2, cd2, rfl, rfl, rfl⟩; exact (dk_rq 0 1 rfl rfl))); intro pn2 cn2 pd2 cd2)
              simp only [vq_rt']
              (apply lxk_eq; (· rfl); (· exact d_bld_all 0 rfl rfl ld35 rfl))
              (apply lxk_eq; (· rfl); (· exact d_x fun _ => x_call [0, 1, 2, 3] rfl (S_codewrightref02_Cmp (by first | omega | exact side _ (by assumption) | assumption | rfl | (simp; done) | (simp; omega)) (by first | omega | exact side _ (by assumption) | assumption | rfl | (simp; done) | (simp; omega)) (by first | omega | exact side _ (by assumption) | assumption | rfl | (simp; done) | (simp; omega)) (by first | omega | exact side _ (by assumption) | assumption | rfl | (simp; done) | (simp; omega))) rfl (by rintro _ _ _ ⟨rfl, rfl, rfl⟩; exact dk_eq)))
              simp only [vq_rt']
              (apply lxk_eq; (· rfl); (· exact d_x fun _ => x_true it rfl (by trivial) (by omega) dk_eq))
              (apply lxk_run 1; (· rfl); (· simp))
              refine lxk_end rfl ?_
              simp only [List.map_cons, List.map_nil, List.cons_append, List.nil_append]
              refine j_run it 1 rfl (by simp) ?_
              refine j_nf [.c [1, 1, 1, 1, 1, 1]] rfl ?_
              refine j_giv [] rfl rfl rfl ⟨rfl, rfl, rfl⟩
            · obtain ⟨g1, g2⟩ := accD_no hacc
              rw [g1] at eE
              rw [g2] at eR
              refine j_step rfl (x_call [5] rfl (S_delsarte_Accept (by first | omega | exact side _ (by assumption) | assumption | rfl | (simp; done) | (simp; omega)) (by first | omega | exact side _ (by assumption) | assumption | rfl | (simp; done) | (simp; omega)) (by first | omega | exact side _ (by assumption) | assumption | rfl | (simp; done) | (simp; omega))) rfl ?_)
              rintro _ _ _ ⟨pn1, cn1, pd1, cd1, rfl, rfl, rfl⟩
              simp only [List.cons_append, List.nil_append]
              refine j_run it 3 rfl (by simp) ?_
              refine j_step rfl (x_alloc zo35 fun b3 => ?_)
              refine j_step rfl (x_bst_all 0 rfl rfl rfl ld35 rfl rfl (by simp [Value.oneCell']) ?_)
              refine j_run it 1 rfl (by simp) ?_
              refine j_nf [.c [1, 1, 1, 1, 1, 0], .c [1, 1, 1, 1, 1, 1]] rfl ?_
              (apply j_drawK it mx 10; (· rfl); (· rfl))
              (apply lxk_run 1; (· rfl); (· simp))
              (apply lxk_eq; (· rfl); (· exact d_x fun _ => x_trueN it rfl (by trivial) (by omega) dk_eq))
              (apply lxk_run 6; (· rfl); (· simp))
              (apply lxk_run 2; (· rfl); (· simp))
              refine lxk_end rfl ?_
              simp only [List.map_cons, List.map_nil, List.cons_append, List.nil_append]
              refine j_run it 1 rfl (by simp) ?_
              refine j_nf [.c [1, 1, 1, 1, 1, 1]] rfl ?_
              refine j_giv [] rfl rfl rfl ⟨rfl, rfl, rfl⟩
        · obtain ⟨eE, eR⟩ := dac_bad hr f
          refine j_nf [.o [0] 0, .c [1]] rfl ?_
          refine j_run it 1 rfl (by simp) ?_
          refine j_nf [.o [1, 0, 0] 0, .c [1, 0, 1], .c [1, 1]] rfl ?_
          refine j_run it 1 rfl (by simp) ?_
          refine j_step rfl (x_call [1] rfl (S_codewrightlaw36_fits (by first | omega | exact side _ (by assumption) | assumption | rfl | (simp; done) | (simp; omega))) rfl ?_)
          rintro _ _ _ ⟨rfl, rfl, rfl⟩
          simp only [List.cons_append, List.nil_append]
          refine j_run it 1 rfl (by simp) ?_
          refine j_nf [.c [1, 0, 1], .c [1, 1]] rfl ?_
          refine j_false rfl rfl ?_
          refine j_nf [.o [1, 1, 0, 0] 0, .c [1, 1, 0, 1], .c [1, 1, 1]] rfl ?_
          refine j_step rfl (x_call [] rfl (S_codewrightlaw36_even) rfl ?_)
          rintro _ _ _ ⟨rfl, rfl, rfl⟩
          simp only [List.cons_append, List.nil_append]
          refine j_run it 1 rfl (by simp) ?_
          refine j_nf [.c [1, 1, 0, 1], .c [1, 1, 1]] rfl ?_
          refine j_false rfl rfl ?_
          refine j_nf [.o [1, 1, 1, 0, 0] 0, .c [1, 1, 1, 0, 1], .c [1, 1, 1, 1]] rfl ?_
          refine j_run it 1 rfl (by simp) ?_
          refine j_step rfl (x_len sl22 rfl ?_)
          refine j_run it 2 rfl (by simp) ?_
          refine j_split_dec (t := 19) rfl (fun h1 => by exfalso; omega) (fun h1 => ?_)
          refine j_run it 2 rfl (by simp) ?_
          refine j_gstep rfl rfl (x_call [0] rfl (S_codewrightref34_Words (by first | omega | exact side _ (by assumption) | assumption | rfl | (simp; done) | (simp; omega))) rfl ?_)
          rintro _ _ _ ⟨rfl, rfl, rfl⟩
          simp only [List.cons_append, List.nil_append]
          refine j_run it 7 rfl (by simp) ?_
          refine j_split_dec (t := 29) rfl (fun h2 => by exfalso; omega) (fun h2 => ?_)
          refine j_run it 1 rfl (by simp) ?_
          refine j_gstep rfl rfl (x_idx 0 0 rfl rfl rfl sl22 (by omega) (by omega) fun z1 hz1 b1 o1 => ?_)
          refine j_gstep rfl rfl (x_ld_sl 0 rfl rfl ld31 fun pa1 ca1 => ?_)
          refine j_gstep rfl rfl (x_len sl31 rfl ?_)
          refine j_run it 3 rfl (by simp) ?_
          refine j_split_dec (t := 36) rfl (fun h3 => ?_) (fun h3 => ?_)
          · refine j_run it 5 rfl (by simp) ?_
            refine j_nf [.c [1, 1, 1, 0, 1], .c [1, 1, 1, 1]] rfl ?_
            refine j_true rfl rfl ?_
            refine j_nf [.o [1, 1, 1, 0, 1, 0, 0] 0, .c [1, 1, 1, 0, 1, 0, 1], .c [1, 1, 1, 1]] rfl ?_
            refine j_run it 1 rfl (by simp) ?_
            refine j_nf [.c [1, 1, 1, 0, 1, 0, 1], .c [1, 1, 1, 1]] rfl ?_
            refine j_giv [] rfl rfl rfl ⟨rfl, rfl, rfl⟩
          · obtain rfl : z1 = W.getD 0 default := Option.some.inj (hz1.symm.trans hz0)
            refine j_run it 2 rfl (by simp) ?_
            refine j_gstep rfl rfl (x_call [2] rfl (S_codewrightref34_Apart (by first | omega | exact side _ (by assumption) | assumption | rfl | (simp; done) | (simp; omega)) (by first | omega | exact side _ (by assumption) | assumption | rfl | (simp; done) | (simp; omega))) rfl ?_)
            rintro _ _ _ ⟨rfl, rfl, rfl⟩
            simp only [List.cons_append, List.nil_append]
            simp only [decide_true]
            refine j_run it 2 rfl (by simp) ?_
            refine j_nf [.c [1, 1, 1, 0, 1], .c [1, 1, 1, 1]] rfl ?_
            refine j_false rfl rfl ?_
            refine j_nf [.o [1, 1, 1, 1, 0] 0, .c [1, 1, 1, 1, 1]] rfl ?_
            refine j_run it 2 rfl (by simp) ?_
            refine j_step rfl (x_idx 2 0 rfl rfl rfl sl22 (by omega) (by omega) fun z1 hz2 b2 o2 => ?_)
            refine j_step rfl (x_ld_sl 0 rfl rfl ld31 fun pa2 ca2 => ?_)
            refine j_step rfl (x_len sl31 rfl ?_)
            refine j_run it 2 rfl (by simp) ?_
            obtain rfl : z1 = W.getD 0 default := Option.some.inj (hz2.symm.trans hz0)
            rw [hl]
            refine j_step rfl (x_call [5] rfl (S_delsarte_Accept (by first | omega | exact side _ (by assumption) | assumption | rfl | (simp; done) | (simp; omega)) (by first | omega | exact side _ (by assumption) | assumption | rfl | (simp; done) | (simp; omega)) (by first | omega | exact side _ (by assumption) | assumption | rfl | (simp; done) | (simp; omega))) rfl ?_)
            rintro _ _ _ ⟨pn1, cn1, pd1, cd1, rfl, rfl, rfl⟩
            simp only [List.cons_append, List.nil_append]
            refine j_run it 3 rfl (by simp) ?_
            refine j_step rfl (x_alloc zo35 fun b3 => ?_)
            refine j_step rfl (x_bst_all 0 rfl rfl rfl ld35 rfl rfl (by simp [Value.oneCell']) ?_)
            refine j_run it 1 rfl (by simp) ?_
            refine j_nf [.c [1, 1, 1, 1, 1, 0], .c [1, 1, 1, 1, 1, 1]] rfl ?_
            (apply j_drawK it mx 10; (· rfl); (· rfl))
            (apply lxk_run 1; (· rfl); (· simp))
            (apply lxk_eq; (· rfl); (· exact d_x fun _ => x_trueN it rfl (by trivial) (by omega) dk_eq))
            (apply lxk_run 6; (· rfl); (· simp))
            (apply lxk_run 2; (· rfl); (· simp))
            refine lxk_end rfl ?_
            simp only [List.map_cons, List.map_nil, List.cons_append, List.nil_append]
            refine j_run it 1 rfl (by simp) ?_
            refine j_nf [.c [1, 1, 1, 1, 1, 1]] rfl ?_
            refine j_giv [] rfl rfl rfl ⟨rfl, rfl, rfl⟩
      · have hap : (false = true ↔ apartP W d) := ⟨fun h => (by cases h), fun h => absurd h ha⟩
        refine j_nf [.o [0] 0, .c [1]] rfl ?_
        refine j_run it 1 rfl (by simp) ?_
        refine j_nf [.o [1, 0, 0] 0, .c [1, 0, 1], .c [1, 1]] rfl ?_
        refine j_run it 1 rfl (by simp) ?_
        refine j_step rfl (x_call [1] rfl (S_codewrightlaw36_fits (by first | omega | exact side _ (by assumption) | assumption | rfl | (simp; done) | (simp; omega))) rfl ?_)
        rintro _ _ _ ⟨rfl, rfl, rfl⟩
        simp only [List.cons_append, List.nil_append]
        refine j_run it 1 rfl (by simp) ?_
        refine j_nf [.c [1, 0, 1], .c [1, 1]] rfl ?_
        refine j_false rfl rfl ?_
        refine j_nf [.o [1, 1, 0, 0] 0, .c [1, 1, 0, 1], .c [1, 1, 1]] rfl ?_
        refine j_step rfl (x_call [] rfl (S_codewrightlaw36_even) rfl ?_)
        rintro _ _ _ ⟨rfl, rfl, rfl⟩
        simp only [List.cons_append, List.nil_append]
        refine j_run it 1 rfl (by simp) ?_
        refine j_nf [.c [1, 1, 0, 1], .c [1, 1, 1]] rfl ?_
        refine j_false rfl rfl ?_
        refine j_nf [.o [1, 1, 1, 0, 0] 0, .c [1, 1, 1, 0, 1], .c [1, 1, 1, 1]] rfl ?_
        refine j_run it 1 rfl (by simp) ?_
        refine j_step rfl (x_len sl22 rfl ?_)
        refine j_run it 2 rfl (by simp) ?_
        refine j_split_dec (t := 19) rfl (fun h1 => by exfalso; omega) (fun h1 => ?_)
        refine j_run it 2 rfl (by simp) ?_
        refine j_gstep rfl rfl (x_call [0] rfl (S_codewrightref34_Words (by first | omega | exact side _ (by assumption) | assumption | rfl | (simp; done) | (simp; omega))) rfl ?_)
        rintro _ _ _ ⟨rfl, rfl, rfl⟩
        simp only [List.cons_append, List.nil_append]
        refine j_run it 7 rfl (by simp) ?_
        refine j_split_dec (t := 29) rfl (fun h2 => by exfalso; omega) (fun h2 => ?_)
        refine j_run it 1 rfl (by simp) ?_
        refine j_gstep rfl rfl (x_idx 0 0 rfl rfl rfl sl22 (by omega) (by omega) fun z1 hz1 b1 o1 => ?_)
        refine j_gstep rfl rfl (x_ld_sl 0 rfl rfl ld31 fun pa1 ca1 => ?_)
        refine j_gstep rfl rfl (x_len sl31 rfl ?_)
        refine j_run it 3 rfl (by simp) ?_
        refine j_split_dec (t := 36) rfl (fun h3 => ?_) (fun h3 => ?_)
        · refine j_run it 5 rfl (by simp) ?_
          refine j_nf [.c [1, 1, 1, 0, 1], .c [1, 1, 1, 1]] rfl ?_
          refine j_true rfl rfl ?_
          refine j_nf [.o [1, 1, 1, 0, 1, 0, 0] 0, .c [1, 1, 1, 0, 1, 0, 1], .c [1, 1, 1, 1]] rfl ?_
          refine j_run it 1 rfl (by simp) ?_
          refine j_nf [.c [1, 1, 1, 0, 1, 0, 1], .c [1, 1, 1, 1]] rfl ?_
          refine j_giv [] rfl rfl rfl ⟨rfl, rfl, rfl⟩
        · refine j_run it 2 rfl (by simp) ?_
          refine j_gstep rfl rfl (x_call [2] rfl (S_codewrightref34_Apart (by first | omega | exact side _ (by assumption) | assumption | rfl | (simp; done) | (simp; omega)) (by first | omega | exact side _ (by assumption) | assumption | rfl | (simp; done) | (simp; omega))) rfl ?_)
          rintro _ _ _ ⟨rfl, rfl, rfl⟩
          simp only [List.cons_append, List.nil_append]
          simp only [decide_true]
          refine j_run it 2 rfl (by simp) ?_
          refine j_nf [.c [1, 1, 1, 0, 1], .c [1, 1, 1, 1]] rfl ?_
          refine j_true rfl rfl ?_
          refine j_nf [.o [1, 1, 1, 0, 1, 0, 0] 0, .c [1, 1, 1, 0, 1, 0, 1], .c [1, 1, 1, 1]] rfl ?_
          refine j_run it 1 rfl (by simp) ?_
          refine j_nf [.c [1, 1, 1, 0, 1, 0, 1], .c [1, 1, 1, 1]] rfl ?_
          refine j_giv [] rfl rfl rfl ⟨rfl, rfl, rfl⟩
    · refine j_nf [.o [0] 0, .c [1]] rfl ?_
      refine j_run it 1 rfl (by simp) ?_
      refine j_nf [.o [1, 0, 0] 0, .c [1, 0, 1], .c [1, 1]] rfl ?_
      refine j_run it 1 rfl (by simp) ?_
      refine j_step rfl (x_call [1] rfl (S_codewrightlaw36_fits (by first | omega | exact side _ (by assumption) | assumption | rfl | (simp; done) | (simp; omega))) rfl ?_)
      rintro _ _ _ ⟨rfl, rfl, rfl⟩
      simp only [List.cons_append, List.nil_append]
      refine j_run it 1 rfl (by simp) ?_
      refine j_nf [.c [1, 0, 1], .c [1, 1]] rfl ?_
      refine j_false rfl rfl ?_
      refine j_nf [.o [1, 1, 0, 0] 0, .c [1, 1, 0, 1], .c [1, 1, 1]] rfl ?_
      refine j_step rfl (x_call [] rfl (S_codewrightlaw36_even) rfl ?_)
      rintro _ _ _ ⟨rfl, rfl, rfl⟩
      simp only [List.cons_append, List.nil_append]
      refine j_run it 1 rfl (by simp) ?_
      refine j_nf [.c [1, 1, 0, 1], .c [1, 1, 1]] rfl ?_
      refine j_false rfl rfl ?_
      refine j_nf [.o [1, 1, 1, 0, 0] 0, .c [1, 1, 1, 0, 1], .c [1, 1, 1, 1]] rfl ?_
      refine j_run it 1 rfl (by simp) ?_
      refine j_step rfl (x_len sl22 rfl ?_)
      refine j_run it 2 rfl (by simp) ?_
      refine j_split_dec (t := 19) rfl (fun h1 => by exfalso; omega) (fun h1 => ?_)
      refine j_run it 2 rfl (by simp) ?_
      refine j_gstep rfl rfl (x_call [0] rfl (S_codewrightref34_Words (by first | omega | exact side _ (by assumption) | assumption | rfl | (simp; done) | (simp; omega))) rfl ?_)
      rintro _ _ _ ⟨rfl, rfl, rfl⟩
      simp only [List.cons_append, List.nil_append]
      refine j_run it 3 rfl (by simp) ?_
      refine j_split_ndec (t := 25) rfl (fun h2 => ?_) (fun h2 => by exfalso; omega)
      refine j_run it 16 rfl (by simp) ?_
      refine j_nf [.c [1, 1, 1, 0, 1], .c [1, 1, 1, 1]] rfl ?_
      refine j_true rfl rfl ?_
      refine j_nf [.o [1, 1, 1, 0, 1, 0, 0] 0, .c [1, 1, 1, 0, 1, 0, 1], .c [1, 1, 1, 1]] rfl ?_
      refine j_run it 1 rfl (by simp) ?_
      refine j_nf [.c [1, 1, 1, 0, 1, 0, 1], .c [1, 1, 1, 1]] rfl ?_
      refine j_giv [] rfl rfl rfl ⟨rfl, rfl, rfl⟩
end Go.Proofs.Ytlhgkefaflpgeaa
