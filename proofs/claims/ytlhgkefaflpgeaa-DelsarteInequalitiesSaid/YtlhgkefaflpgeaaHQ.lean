/-
DelsarteInequalities returns true: the transform of the distance distribution of any list of words has no negative entry.
-/
import Derived.Test.YtlhgkefaflpgeaaRows
import Derived.ProofKit
import Derived.JoinedOf
import Derived.Test.YtlhgkefaflpgeaaHQ7
namespace Go.Proofs.Ytlhgkefaflpgeaa
open Go Go.Fw
set_option maxRecDepth 100000
set_option linter.unusedVariables false
set_option linter.unusedSimpArgs false
set_option maxHeartbeats 4000000
theorem S_DelsarteInequalities {q : Int} {pa : Option Addr} {n ca : Nat} {W : List (List Int)} : Ctr Try.prog 5 [.int .i64 q, .slice pa n ca] [] [slF (encSl I64) pa n ca W] (Rv (.bool true) []) := by
  refine Ctr_of_j' (F := F_codewrightlaw36_DelsarteInequalities) rfl fun C => ?_
  refine j_len 0 rfl fun hn hb _ => ?_
  subst hn
  by_cases h200 : 200 < W.length
  · refine j_nf [.o [0] 0, .c [1]] rfl ?_
    refine j_run it 1 rfl (by simp) ?_
    refine j_nf [.o [1, 0, 0] 0, .c [1, 0, 1], .c [1, 1]] rfl ?_
    refine j_run it 1 rfl (by simp) ?_
    refine j_step rfl (x_len sl22 rfl ?_)
    refine j_run it 2 rfl (by simp) ?_
    refine j_split_dec (t := 12) rfl (fun h1 => ?_) (fun h1 => by exfalso; omega)
    refine j_run it 12 rfl (by simp) ?_
    refine j_nf [.c [1, 0, 1], .c [1, 1]] rfl ?_
    refine j_true rfl rfl ?_
    refine j_nf [.o [1, 0, 1, 0, 0] 0, .c [1, 0, 1, 0, 1], .c [1, 1]] rfl ?_
    refine j_run it 1 rfl (by simp) ?_
    refine j_nf [.c [1, 0, 1, 0, 1], .c [1, 1]] rfl ?_
    refine j_giv [] rfl rfl rfl ⟨rfl, rfl, rfl⟩
  have hW : W.length ≤ 1000 := by omega
  by_cases he : wordsE q W = 0
  · obtain ⟨p, m, rfl, hp1, hp2, h0, hl, hm1, hm, hall⟩ := words_ok he
    have hw : ∀ w ∈ W, w.length = m := fun w h => (hall w h).1
    have hwl : ∀ i, i < W.length → (wAt W i).length = m ∧ ∀ x ∈ wAt W i, 0 ≤ x ∧ x < (p : Int) := fun i hi => hall _ (List.mem_of_getElem? (getD_at hi))
    have hL : disL p W = disR W m := by rw [disL, if_pos he, hl]
    have hz0 : W[0]? = some (W.getD 0 default) := getD_at h0
    have e1 : (disR W m).length = m + 1 := by simp [disR]
    have hok : ∀ r ∈ disR W m, okR 1 r := fun r hr => by
      obtain ⟨d, _, rfl⟩ := List.mem_map.1 hr
      exact okR_rt (disQ_bd hW d)
    have hK : (1 : Nat) ≤ 1 := Nat.le_refl 1
    have hat : ∀ {d}, d < m + 1 → (disR W m).getD d default = rt (disQ W d) := fun hd => range_getD _ _ hd
    have hi1 : InR .i64 (1 : Int) := by simp [InR]
    have first := disQ_first (W := W) h0
    have z0 := hok _ (List.mem_of_getElem? (getD_at (l := disR W m) (i := 0) (by omega)))
    obtain ⟨y1, y2⟩ := z0.2.2
    have hs : ¬ (vq (((disR W m).getD 0 default).1, ((disR W m).getD 0 default).2.1, ((disR W m).getD 0 default).2.2) - ((1 : Int) : Rat)).num.sign < 0 := fun h => by
      have := cmp_neg.1 h
      rw [show vq (((disR W m).getD 0 default).1, ((disR W m).getD 0 default).2.1, ((disR W m).getD 0 default).2.2) = vq ((disR W m).getD 0 default) from rfl, hat (by omega), vq_rt] at this
      exact Rat.not_lt.2 first this
    obtain ⟨y3, y4⟩ := bd_len (bd_one (k := 1) (Nat.le_refl 1))
    rw [show (1 : Rat) = ((1 : Int) : Rat) from rfl] at y3 y4
    have htr : ∀ k, k < m + 1 → (trL p m (disR W m))[k]? = some (rt (rs (m + 1) (fun d => disQ W d * ((kr ((p : Int) - 1) m k d : Int) : Rat)))) := fun k hk => by
      rw [trL, List.getElem?_map, List.getElem?_range hk]
      show some (rt (trP (disR W m) (fun i => kr ((p : Int) - 1) m k i) (m + 1))) = _
      rw [trP_rs, rs_congr (g := fun d => disQ W d * ((kr ((p : Int) - 1) m k d : Int) : Rat)) fun d hd => by rw [qAt, hat hd, vq_rt]]
    have htl : (trL p m (disR W m)).length = m + 1 := by simp [trL]
    refine j_nf [.o [0] 0, .c [1]] rfl ?_
    refine j_run it 1 rfl (by simp) ?_
    refine j_nf [.o [1, 0, 0] 0, .c [1, 0, 1], .c [1, 1]] rfl ?_
    refine j_run it 1 rfl (by simp) ?_
    refine j_step rfl (x_len sl22 rfl ?_)
    refine j_run it 2 rfl (by simp) ?_
    refine j_split_dec (t := 12) rfl (fun h1 => by exfalso; omega) (fun h1 => ?_)
    refine j_run it 2 rfl (by simp) ?_
    refine j_gstep rfl rfl (x_call [0] rfl (S_codewrightref34_Words (by first | omega | exact side _ (by assumption) | assumption | rfl | (simp; done) | (simp; omega))) rfl ?_)
    rintro _ _ _ ⟨rfl, rfl, rfl⟩
    simp only [List.cons_append, List.nil_append]
    refine j_run it 4 rfl (by simp) ?_
    refine j_split_ndec (t := 18) rfl (fun h2 => by exfalso; omega) (fun h2 => ?_)
    refine j_gstep rfl rfl (x_idx 0 0 rfl rfl rfl sl22 (by omega) (by omega) fun z1 hz1 b1 o1 => ?_)
    refine j_gstep rfl rfl (x_ld_sl 0 rfl rfl ld31 fun pa1 ca1 => ?_)
    refine j_gstep rfl rfl (x_len sl31 rfl ?_)
    refine j_run it 2 rfl (by simp) ?_
    refine j_nf [.c [1, 0, 1], .c [1, 1]] rfl ?_
    refine j_if rfl rfl (fun h3 => ?_) (fun h3 => ?_)
    · refine j_nf [.o [1, 0, 1, 0, 0] 0, .c [1, 0, 1, 0, 1], .c [1, 1]] rfl ?_
      refine j_run it 1 rfl (by simp) ?_
      refine j_nf [.c [1, 0, 1, 0, 1], .c [1, 1]] rfl ?_
      refine j_giv [] rfl rfl rfl ⟨rfl, rfl, rfl⟩
    · obtain rfl : z1 = W.getD 0 default := Option.some.inj (hz1.symm.trans hz0)
      refine j_nf [.o [1, 1, 0] 0, .c [1, 1, 1]] rfl ?_
      refine j_run it 2 rfl (by simp) ?_
      refine j_step rfl (x_call [2] rfl (S_delsarte_Distances (by first | omega | exact side _ (by assumption) | assumption | rfl | (simp; done) | (simp; omega)) (by first | omega | exact side _ (by assumption) | assumption | rfl | (simp; done) | (simp; omega)) (by first | omega | exact side _ (by assumption) | assumption | rfl | (simp; done) | (simp; omega))) rfl ?_)
      rintro _ _ _ ⟨pa2, ca2, rfl, rfl, rfl⟩
      simp only [List.cons_append, List.nil_append]
      simp only [decide_true]
      refine j_run it 5 rfl (by simp) ?_
      refine j_nf [.c [1, 1, 1, 0, 0], .c [1, 1, 1, 0, 1], .c [1, 1, 1, 1]] rfl ?_
      (apply j_drawK it mx 20; (· rfl); (· rfl))
      (apply lxk_run 1; (· rfl); (· simp))
      (apply lxk_eq; (· rfl); (· exact d_x fun _ => x_falseN it rfl (by trivial) (by omega) dk_eq))
      (apply lxk_run 2; (· rfl); (· simp))
      (apply lxk_eq; (· rfl); (· exact d_x fun _ => x_len sl23 rfl dk_eq))
      (apply lxk_run 1; (· rfl); (· simp))
      (apply lxk_pt; (· rfl); (· exact d_x fun _ => x_idx 3 0 rfl rfl rfl sl22 (by omega) (by omega) fun z1 hz2 b2 o2 => (dk_ptD default hz2 0 rfl)); intro b2 o2)
      (apply lxk_sl; (· rfl); (· exact d_x fun _ => x_ld_sl 0 rfl rfl ld31 fun pa3 ca3 => (dk_sl 0 rfl)); intro pa3 ca3)
      (apply lxk_eq; (· rfl); (· exact d_x fun _ => x_len sl31 rfl dk_eq))
      (apply lxk_run 1; (· rfl); (· exact (by repeat' first | exact trivial | apply And.intro | omega)))
      (apply lxk_eq; (· rfl); (· exact d_x fun _ => x_falseN it rfl (by trivial) (by omega) dk_eq))
      (apply lxk_run 3; (· rfl); (· simp))
      (apply lxk_pt; (· rfl); (· exact d_x fun _ => x_idx 2 0 rfl rfl rfl sl23 (by omega) (by omega) fun z1 hz2 b3 o3 => (dk_ptD default hz2 0 rfl)); intro b3 o3)
      (apply lxk_rq; (· rfl); (· exact d_x fun _ => x_ld_rt 0 rfl rfl ld35 fun pa4 ca4 pa5 ca5 => (dk_rq 0 1 rfl rfl)); intro pn1 cn1 pd1 cd1)
      (apply lxk_rq; (· rfl); (· exact d_x fun _ => x_call [] rfl (S_codewrightref02_Int (by first | omega | exact side _ (by assumption) | assumption | rfl | (simp; done) | (simp; omega))) rfl (by rintro _ _ _ ⟨pn2, cn2, pd2, cd2, rfl, rfl, rfl⟩; exact (dk_rq 0 1 rfl rfl))); intro pn2 cn2 pd2 cd2)
      simp only [vq_rt']
      (apply lxk_eq; (· rfl); (· exact d_x fun _ => x_call [2, 3, 0, 1] rfl (S_codewrightref02_Cmp (by first | omega | exact side _ (by assumption) | assumption | rfl | (simp; done) | (simp; omega)) (by first | omega | exact side _ (by assumption) | assumption | rfl | (simp; done) | (simp; omega)) (by first | omega | exact side _ (by assumption) | assumption | rfl | (simp; done) | (simp; omega)) (by first | omega | exact side _ (by assumption) | assumption | rfl | (simp; done) | (simp; omega))) rfl (by rintro _ _ _ ⟨rfl, rfl, rfl⟩; exact dk_eq)))
      simp only [vq_rt']
      (apply lxk_eq; (· rfl); (· exact d_x fun _ => x_false it rfl (by trivial) (by omega) dk_eq))
      (apply lxk_run 1; (· rfl); (· simp))
      refine lxk_end rfl ?_
      simp only [List.map_cons, List.map_nil, List.cons_append, List.nil_append]
      refine j_nf [.c [1, 1, 1, 0, 1], .c [1, 1, 1, 1]] rfl ?_
      refine j_false rfl rfl ?_
      refine j_nf [.o [1, 1, 1, 1, 0] 0, .c [1, 1, 1, 1, 1]] rfl ?_
      refine j_run it 2 rfl (by simp) ?_
      rw [e1]
      refine j_step rfl (x_call [7] rfl (S_codewrightref24_Transform (by first | omega | exact side _ (by assumption) | assumption | rfl | (simp; done) | (simp; omega)) (by first | omega | exact side _ (by assumption) | assumption | rfl | (simp; done) | (simp; omega)) (by first | omega | exact side _ (by assumption) | assumption | rfl | (simp; done) | (simp; omega)) (by first | omega | exact side _ (by assumption) | assumption | rfl | (simp; done) | (simp; omega)) (by first | omega | exact side _ (by assumption) | assumption | rfl | (simp; done) | (simp; omega)) (by first | omega | exact side _ (by assumption) | assumption | rfl | (simp; done) | (simp; omega)) (by first | omega | exact side _ (by assumption) | assumption | rfl | (simp; done) | (simp; omega))) rfl ?_)
      rintro _ _ _ ⟨pa4, ca4, rfl, rfl, rfl⟩
      simp only [List.cons_append, List.nil_append]
      refine j_run it 1 rfl (by simp) ?_
      refine j_nf [.o [1, 1, 1, 1, 1, 0, 0] 0, .c [1, 1, 1, 1, 1, 0, 1], .c [1, 1, 1, 1, 1, 1]] rfl ?_
      refine j_run it 1 rfl (by simp) ?_
      refine j_nf [.c [1, 1, 1, 1, 1, 0, 1, 0], .blk 0, .c [1, 1, 1, 1, 1, 1]] rfl ?_
      refine j_loopG (X := Nat) [7] [0, 1, 2, 3, 4, 5, 6, 7, 8, 9, 10, 11] (fun k => [(8, .int .i64 k)]) (fun _ => []) (fun _ => []) (fun k => k ≤ m + 1) (fun k => m + 1 - k) 0 [] rfl rfl rfl (Nat.zero_le _) (by repeat (first | exact Fr.sub_nil _ | refine Fr.sub_cons rfl ?_)) rfl rfl ?_
      intro k hk ih
      simp only [List.cons_append, List.nil_append] at ih ⊢
      by_cases hkl : k < m + 1
      · have hz := htr k hkl
        have hns : ¬ (rs (m + 1) (fun d => disQ W d * ((kr ((p : Int) - 1) m k d : Int) : Rat))).num.sign < 0 := fun h => Rat.not_lt.2 (disQ_tr (by omega) h0 hwl k) (sign_neg.1 h)
        have hbd : bd ((1 + 18) * (m + 1) + 1) (rs (m + 1) (fun d => disQ W d * ((kr ((p : Int) - 1) m k d : Int) : Rat))) := by
          have h := trP_bd (L := disR W m) (q := p) (n := m) (j := k) (K := 1) hp1 hp2 hm (fun i hi => by rw [qAt, hat (by omega), vq_rt]; exact disQ_bd hW i) (m + 1) (Nat.le_refl _)
          rwa [trP_rs, rs_congr (g := fun d => disQ W d * ((kr ((p : Int) - 1) m k d : Int) : Rat)) fun d hd => by rw [qAt, hat hd, vq_rt]] at h
        obtain ⟨x1, x2⟩ := bd_len hbd
        refine j_nf [.o [1, 1, 1, 1, 1, 0, 1, 0, 0, 0, 0] 0, .c [1, 1, 1, 1, 1, 0, 1, 0, 0, 0, 1], .c [1, 1, 1, 1, 1, 0, 1, 0, 0, 1], .lp [1, 1, 1, 1, 1, 0, 1, 0, 0], .blk 0, .c [1, 1, 1, 1, 1, 1]] rfl ?_
        refine j_run it 2 rfl (by simp) ?_
        refine j_step rfl (x_len sl23 rfl ?_)
        refine j_run it 1 rfl (by simp) ?_
        refine j_nf [.c [1, 1, 1, 1, 1, 0, 1, 0, 0, 0, 1], .c [1, 1, 1, 1, 1, 0, 1, 0, 0, 1], .lp [1, 1, 1, 1, 1, 0, 1, 0, 0], .blk 0, .c [1, 1, 1, 1, 1, 1]] rfl ?_
        refine j_if rfl rfl (fun h4 => ?_) (fun h4 => by exfalso; omega)
        refine j_nf [.o [1, 1, 1, 1, 1, 0, 1, 0, 0, 1, 0, 0, 0] 0, .c [1, 1, 1, 1, 1, 0, 1, 0, 0, 1, 0, 0, 1], .blk 1, .c [1, 1, 1, 1, 1, 0, 1, 0, 0, 1, 1], .lp [1, 1, 1, 1, 1, 0, 1, 0, 0], .blk 0, .c [1, 1, 1, 1, 1, 1]] rfl ?_
        refine j_run it 2 rfl (by simp) ?_
        refine j_step rfl (x_idx 0 (k) rfl rfl rfl sl23 rfl (by omega) fun z1 hz2 b4 o4 => ?_)
        refine j_step rfl (x_ld_rt 0 rfl rfl ld35 fun pa5 ca5 pa6 ca6 => ?_) --ok
        have ez : z1 = rt (rs (m + 1) (fun d => disQ W d * ((kr ((p : Int) - 1) m k d : Int) : Rat))) := Option.some.inj ((by assumption : (trL p m (disR W m))[k]? = some z1).symm.trans hz)
        subst ez
        refine j_step rfl (x_call [0, 1] rfl (S_codewrightref02_Sign (by first | omega | exact side _ (by assumption) | assumption | rfl | (simp; done) | (simp; omega)) (by first | omega | exact side _ (by assumption) | assumption | rfl | (simp; done) | (simp; omega))) rfl ?_)
        rintro _ _ _ ⟨rfl, rfl, rfl⟩
        simp only [List.cons_append, List.nil_append]
        simp only [vq_rt']
        refine j_run it 1 rfl (by simp) ?_
        refine j_nf [.c [1, 1, 1, 1, 1, 0, 1, 0, 0, 1, 0, 0, 1], .blk 1, .c [1, 1, 1, 1, 1, 0, 1, 0, 0, 1, 1], .lp [1, 1, 1, 1, 1, 0, 1, 0, 0], .blk 0, .c [1, 1, 1, 1, 1, 1]] rfl ?_
        refine j_if rfl rfl (fun h5 => by exfalso; omega) (fun h5 => ?_)
        refine j_nf [.o [1, 1, 1, 1, 1, 0, 1, 0, 0, 1, 1] 0, .lp [1, 1, 1, 1, 1, 0, 1, 0, 0], .blk 0, .c [1, 1, 1, 1, 1, 1]] rfl ?_
        refine j_run it 3 rfl (by repeat' first | exact trivial | apply And.intro | omega) ?_
        refine j_nfn 1 [.lp [1, 1, 1, 1, 1, 0, 1, 0, 0], .blk 0, .c [1, 1, 1, 1, 1, 1]] rfl ?_
        refine j_to [3, 4, 5, 6, 7, 8, 9, 10, 11, 12, 13, 14] (by repeat (first | exact Fr.sub_nil _ | refine Fr.sub_cons rfl ?_ | refine Fr.sub_consI rfl (by first | omega | (dsimp only; omega)) ?_ | refine Fr.sub_consS rfl (by first | omega | (dsimp only; omega)) (by first | omega | (dsimp only; omega)) ?_)) rfl rfl (ih (k + 1) (by omega) (by omega))
      · refine j_nf [.o [1, 1, 1, 1, 1, 0, 1, 0, 0, 0, 0] 0, .c [1, 1, 1, 1, 1, 0, 1, 0, 0, 0, 1], .c [1, 1, 1, 1, 1, 0, 1, 0, 0, 1], .lp [1, 1, 1, 1, 1, 0, 1, 0, 0], .blk 0, .c [1, 1, 1, 1, 1, 1]] rfl ?_
        refine j_run it 2 rfl (by simp) ?_
        refine j_step rfl (x_len sl23 rfl ?_)
        refine j_run it 1 rfl (by simp) ?_
        refine j_nf [.c [1, 1, 1, 1, 1, 0, 1, 0, 0, 0, 1], .c [1, 1, 1, 1, 1, 0, 1, 0, 0, 1], .lp [1, 1, 1, 1, 1, 0, 1, 0, 0], .blk 0, .c [1, 1, 1, 1, 1, 1]] rfl ?_
        refine j_if rfl rfl (fun h4 => by exfalso; omega) (fun h4 => ?_)
        refine j_nf [.o [1, 1, 1, 1, 1, 1, 0] 0, .c [1, 1, 1, 1, 1, 1, 1]] rfl ?_
        refine j_run it 1 rfl (by simp) ?_
        refine j_nf [.c [1, 1, 1, 1, 1, 1, 1]] rfl ?_
        refine j_giv [] rfl rfl rfl ⟨rfl, rfl, rfl⟩
  · refine j_nf [.o [0] 0, .c [1]] rfl ?_
    refine j_run it 1 rfl (by simp) ?_
    refine j_nf [.o [1, 0, 0] 0, .c [1, 0, 1], .c [1, 1]] rfl ?_
    refine j_run it 1 rfl (by simp) ?_
    refine j_step rfl (x_len sl22 rfl ?_)
    refine j_run it 2 rfl (by simp) ?_
    refine j_split_dec (t := 12) rfl (fun h1 => by exfalso; omega) (fun h1 => ?_)
    refine j_run it 2 rfl (by simp) ?_
    refine j_gstep rfl rfl (x_call [0] rfl (S_codewrightref34_Words (by first | omega | exact side _ (by assumption) | assumption | rfl | (simp; done) | (simp; omega))) rfl ?_)
    rintro _ _ _ ⟨rfl, rfl, rfl⟩
    simp only [List.cons_append, List.nil_append]
    refine j_run it 3 rfl (by simp) ?_
    refine j_split_ndec (t := 18) rfl (fun h2 => ?_) (fun h2 => by exfalso; omega)
    refine j_run it 6 rfl (by simp) ?_
    refine j_nf [.c [1, 0, 1], .c [1, 1]] rfl ?_
    refine j_true rfl rfl ?_
    refine j_nf [.o [1, 0, 1, 0, 0] 0, .c [1, 0, 1, 0, 1], .c [1, 1]] rfl ?_
    refine j_run it 1 rfl (by simp) ?_
    refine j_nf [.c [1, 0, 1, 0, 1], .c [1, 1]] rfl ?_
    refine j_giv [] rfl rfl rfl ⟨rfl, rfl, rfl⟩

theorem op3 : Opens Try.prog 3 (encInt .i64 8) := opens_int rfl rfl rfl
theorem op31 : Opens Try.prog 31 (encSl (encInt .i64 8)) := opens_sl rfl op3 rfl rfl (by decide)
theorem op22 : Opens Try.prog 22 (encSl (encSl (encInt .i64 8))) := opens_sl rfl op31 rfl rfl (by decide)

theorem delsarteInequalities_says : LawSays Try.prog 5 Try.f5 := by
  intro W args h
  have h : Args Try.prog W [3, 22] args := h
  match args, h with
  | [v0, v1], ⟨h0, h1, _⟩ =>
    obtain ⟨q0, rfl, _⟩ := h0.int Try.underlying3
    obtain ⟨p1, c1, l1, rfl, k1⟩ := h1.slice Try.underlying22 op22
    refine law_of_gives (S_DelsarteInequalities (W := l1)) (fun v Φ β h => h.1) ?_
    intro g hg
    simp only [List.mem_cons, List.not_mem_nil, or_false] at hg
    subst hg
    exact k1


/-! ### The row -/

theorem delsarteInequalities_lifted (os : Os) (started : os.Started) (H : Type) (enc : TypeId × Value → H) :
    ReturnsInHanded {} Try.checked os 5 .any (Rows.delsarteInequalitiesSpec.pre6 enc Try.prog Try.f5 Rows.delsarteInequalitiesRow.domain false) (Rows.delsarteInequalitiesSpec.post enc Try.prog Try.f5 false true false false) :=
  law_lift (C := Try.checked) (by kernel_rfl) started (by kernel_rfl) Try.func5
    (ChangeSpec.witness6 (enc := enc) (C := Try.checked) false ⟨#[], #[.int .i64 0, .slice none 0 0], []⟩ 8 (by kernel_rfl) (by kernel_rfl) (by kernel_rfl) (by kernel_rfl))
    (by kernel_rfl) rfl (by kernel_rfl) rfl Try.underlying4 (fun ds h => match ds, h with | [d0, d1], _ => rfl) delsarteInequalities_says

theorem delsarteInequalities_holds : Rows.DelsarteInequalitiesSaid :=
  OpenClaim.holds_of_wide 5 Try.f5 rfl rfl rfl rfl rfl rfl rfl ⟨rfl, rfl, rfl, rfl, rfl⟩ rfl rfl rfl rfl rfl (by kernel_rfl) Try.func5 (by kernel_rfl)
    (of_decide_eq_true (by kernel_rfl)) (by unfold Func.isWrapper; first | (rw [if_pos (by decide +kernel)]; kernel_rfl) | (rw [if_neg (by decide +kernel)]; exact ⟨rfl, rfl⟩))
    (fun os started H enc _ => delsarteInequalities_lifted os started H enc)
#print axioms delsarteInequalities_holds
end Go.Proofs.Ytlhgkefaflpgeaa
