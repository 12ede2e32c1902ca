/-
DelsarteSums returns true: a distance distribution adds up to the number of words, has no negative entry, and does not depend on the order of the words.
-/
import Derived.Test.YtlhgkefaflpgeaaRows
import Derived.ProofKit
import Derived.JoinedOf
import Derived.Test.YtlhgkefaflpgeaaHR6
namespace Go.Proofs.Ytlhgkefaflpgeaa
open Go Go.Fw
set_option maxRecDepth 100000
set_option linter.unusedVariables false
set_option linter.unusedSimpArgs false
set_option maxHeartbeats 4000000
theorem S_DelsarteSums {q : Int} {pa : Option Addr} {n ca : Nat} {W : List (List Int)} : Ctr Try.prog 4 [.int .i64 q, .slice pa n ca] [] [slF (encSl I64) pa n ca W] (Rv (.bool true) []) := by
  refine Ctr_of_j' (F := F_codewrightlaw36_DelsarteSums) rfl fun C => ?_
  refine j_len 0 rfl fun hn hb _ => ?_
  subst hn
  by_cases h200 : 200 < W.length
  · refine j_nf [.o [0] 0, .c [1]] rfl ?_
    refine j_run it 1 rfl (by simp) ?_
    refine j_nf [.o [1, 0, 0] 0, .c [1, 0, 1], .c [1, 1]] rfl ?_
    refine j_run it 1 rfl (by simp) ?_
    refine j_step rfl (x_len sl22 rfl ?_)
    refine j_run it 2 rfl (by simp) ?_
    refine j_split_dec (t := 16) rfl (fun h1 => ?_) (fun h1 => by exfalso; omega)
    refine j_run it 5 rfl (by simp) ?_
    refine j_nf [.c [1, 0, 1], .c [1, 1]] rfl ?_
    refine j_true rfl rfl ?_
    refine j_nf [.o [1, 0, 1, 0, 0] 0, .c [1, 0, 1, 0, 1], .c [1, 1]] rfl ?_
    refine j_run it 1 rfl (by simp) ?_
    refine j_nf [.c [1, 0, 1, 0, 1], .c [1, 1]] rfl ?_
    refine j_giv [] rfl rfl rfl ⟨rfl, rfl, rfl⟩
  have hW : W.length ≤ 1000 := by omega
  by_cases he : wordsE q W = 0
  · obtain ⟨p, m, rfl, hp1, hp2, h0, hl, hm1, hm, hall⟩ := words_ok he
    have hw : ∀ w ∈ W, w.length = m := fun w h => (hall w h).1
    have hwl : ∀ i, i < W.length → (wAt W i).length = m := fun i hi => (hall _ (List.mem_of_getElem? (getD_at hi))).1
    have hL : disL p W = disR W m := by rw [disL, if_pos he, hl]
    have e1 : (disR W m).length = m + 1 := by simp [disR]
    obtain ⟨heb, hlb⟩ := back_ok (q := (p : Int)) (W := W) (n := m) (by omega) h0 ⟨hm1, hm⟩ hall
    have hWb : (backL W).length ≤ 1000 := by rw [back_len]; exact hW
    have hLb : disL p (backL W) = disR W m := by
      rw [disL, if_pos heb, hlb, disR, disR]
      exact List.map_congr_left fun d _ => by rw [back_cnt, back_len]
    have hat : ∀ {d}, d < m + 1 → (disR W m).getD d default = rt (disQ W d) := fun hd => range_getD _ _ hd
    have hi0 : InR .i64 (0 : Int) := by simp [InR]
    have hiN : InR .i64 (W.length : Int) := by simp only [InR]; omega
    refine j_nf [.o [0] 0, .c [1]] rfl ?_
    refine j_run it 1 rfl (by simp) ?_
    refine j_nf [.o [1, 0, 0] 0, .c [1, 0, 1], .c [1, 1]] rfl ?_
    refine j_run it 1 rfl (by simp) ?_
    refine j_step rfl (x_len sl22 rfl ?_)
    refine j_run it 2 rfl (by simp) ?_
    refine j_split_dec (t := 16) rfl (fun h1 => by exfalso; omega) (fun h1 => ?_)
    refine j_run it 2 rfl (by simp) ?_
    refine j_gstep rfl rfl (x_call [0] rfl (S_codewrightref34_Words (by first | omega | exact side _ (by assumption) | assumption | rfl | (simp; done) | (simp; omega))) rfl ?_)
    rintro _ _ _ ⟨rfl, rfl, rfl⟩
    simp only [List.cons_append, List.nil_append]
    refine j_run it 2 rfl (by simp) ?_
    refine j_nf [.c [1, 0, 1], .c [1, 1]] rfl ?_
    refine j_ifn rfl rfl (fun h2 => by exfalso; omega) (fun h2 => ?_)
    refine j_nf [.o [1, 1, 0] 0, .c [1, 1, 1]] rfl ?_
    refine j_run it 1 rfl (by simp) ?_
    refine j_nf [.o [1, 1, 1, 0, 0] 0, .c [1, 1, 1, 0, 1], .c [1, 1, 1, 1]] rfl ?_
    refine j_run it 1 rfl (by simp) ?_
    refine j_step rfl (x_len sl22 rfl ?_)
    refine j_run it 2 rfl (by repeat' first | exact trivial | apply And.intro | omega) ?_
    refine j_nf [.c [1, 1, 1, 0, 1, 0], .blk 0, .c [1, 1, 1, 1]] rfl ?_
    rw [show (W.length : Int) - 1 = (W.length : Int) - 1 - ((0 : Nat) : Int) by omega]
    refine j_row0 (encSl I64) 31 ?_
    refine j_loopG (X := Nat × Row) [0, 1, 4] [1] (fun x => [(6, .int .i64 ((W.length : Int) - 1 - x.1)), (5, .slice (ad x.2.bo) x.1 x.2.cap)]) (fun x => [(x.2.bo, 31, x.2.cs)]) (fun x => [rowF (encSl I64) x.2 x.1 ((List.range x.1).map fun i => W.getD (W.length - 1 - i) default)])
      (fun x => x.1 ≤ W.length) (fun x => W.length - x.1) (0, ⟨none, 0, []⟩) [0] rfl rfl rfl (Nat.zero_le _) (by repeat (first | exact Fr.sub_nil _ | refine Fr.sub_cons rfl ?_)) rfl rfl ?_
    rintro ⟨k, r⟩ hk ih
    simp only [List.cons_append, List.nil_append] at hk ih ⊢
    by_cases hkl : k < W.length
    · have ek : (W.length : Int) - 1 - (k : Int) = ((W.length - 1 - k : Nat) : Int) := by omega
      rw [ek]
      refine j_nf [.o [1, 1, 1, 0, 1, 0, 0, 0, 0] 0, .c [1, 1, 1, 0, 1, 0, 0, 0, 1], .c [1, 1, 1, 0, 1, 0, 0, 1], .lp [1, 1, 1, 0, 1, 0, 0], .blk 0, .c [1, 1, 1, 1]] rfl ?_
      refine j_run it 2 rfl (by simp) ?_
      refine j_nf [.c [1, 1, 1, 0, 1, 0, 0, 0, 1], .c [1, 1, 1, 0, 1, 0, 0, 1], .lp [1, 1, 1, 0, 1, 0, 0], .blk 0, .c [1, 1, 1, 1]] rfl ?_
      refine j_if rfl rfl (fun h3 => ?_) (fun h3 => by exfalso; omega)
      refine j_nf [.o [1, 1, 1, 0, 1, 0, 0, 1, 0, 0] 0, .blk 1, .c [1, 1, 1, 0, 1, 0, 0, 1, 1], .lp [1, 1, 1, 0, 1, 0, 0], .blk 0, .c [1, 1, 1, 1]] rfl ?_
      refine j_run it 3 rfl (by simp) ?_
      refine j_step rfl (x_idx 1 (W.length - 1 - k) rfl rfl rfl sl22 rfl (by omega) fun z1 hz1 b1 o1 => ?_)
      refine j_step rfl (x_ld_sl 0 rfl rfl ld31 fun pa1 ca1 => ?_)
      refine j_step rfl (x_lit sl22 zo22e rfl rfl rfl rfl (by decide) (by decide) rfl fun b2 => ?_)
      refine j_step rfl (x_appR (z := z1) 1 0 2 rfl rfl rfl rfl rfl sl22 zo22e rfl (fun w A hG => (rd_of_slF (hG _ (fact_mem (n := 0) rfl)))) (by omega) _ by22e (by omega) fun r1 => ?_)
      refine j_run it 1 rfl (by simp) ?_
      refine j_nf [.o [1, 1, 1, 0, 1, 0, 0, 1, 1] 0, .lp [1, 1, 1, 0, 1, 0, 0], .blk 0, .c [1, 1, 1, 1]] rfl ?_
      refine j_run it 3 rfl (by repeat' first | exact trivial | apply And.intro | omega) ?_
      refine j_nfn 1 [.lp [1, 1, 1, 0, 1, 0, 0], .blk 0, .c [1, 1, 1, 1]] rfl ?_
      have ez : z1 = W.getD (W.length - 1 - k) default := (getD_some (by assumption : W[W.length - 1 - k]? = some z1)).symm
      rw [ez, ← range_snoc (fun i => W.getD (W.length - 1 - i) default), show (((W.length - 1 - k : Nat) : Int) - 1) = (W.length : Int) - 1 - ((k + 1 : Nat) : Int) by omega]
      refine j_toM [true, false] [0, 4] (by repeat (first | exact Fr.sub_nil _ | refine Fr.sub_cons rfl ?_ | refine Fr.sub_consI rfl (by first | omega | (dsimp only; omega)) ?_ | refine Fr.sub_consS rfl (by first | omega | (dsimp only; omega)) (by first | omega | (dsimp only; omega)) ?_)) rfl rfl (ih (k + 1, r1) (by dsimp only; omega) (by dsimp only; omega))
    · obtain rfl : W.length = k := by omega
      refine j_nf [.o [1, 1, 1, 0, 1, 0, 0, 0, 0] 0, .c [1, 1, 1, 0, 1, 0, 0, 0, 1], .c [1, 1, 1, 0, 1, 0, 0, 1], .lp [1, 1, 1, 0, 1, 0, 0], .blk 0, .c [1, 1, 1, 1]] rfl ?_
      refine j_run it 2 rfl (by simp) ?_
      refine j_nf [.c [1, 1, 1, 0, 1, 0, 0, 0, 1], .c [1, 1, 1, 0, 1, 0, 0, 1], .lp [1, 1, 1, 0, 1, 0, 0], .blk 0, .c [1, 1, 1, 1]] rfl ?_
      refine j_if rfl rfl (fun h3 => by exfalso; omega) (fun h3 => ?_)
      refine j_nf [.o [1, 1, 1, 1, 0] 0, .c [1, 1, 1, 1, 1]] rfl ?_
      refine j_run it 2 rfl (by simp) ?_
      refine j_step rfl (x_call [1] rfl (S_delsarte_Distances (by first | omega | exact side _ (by assumption) | assumption | rfl | (simp; done) | (simp; omega)) (by first | omega | exact side _ (by assumption) | assumption | rfl | (simp; done) | (simp; omega)) (by first | omega | exact side _ (by assumption) | assumption | rfl | (simp; done) | (simp; omega))) rfl ?_)
      rintro _ _ _ ⟨pa1, ca1, rfl, rfl, rfl⟩
      simp only [List.cons_append, List.nil_append]
      refine j_run it 5 rfl (by simp) ?_
      refine j_nf [.o [1, 1, 1, 1, 1, 0] 0, .c [1, 1, 1, 1, 1, 1]] rfl ?_
      refine j_run it 2 rfl (by simp) ?_
      refine j_pubR 0 1 rfl rfl (by show (W.length) * 24 ≤ 140737488355328; omega) ?_
      refine j_step rfl (x_call [0] rfl (S_delsarte_Distances (by first | omega | exact side _ (by assumption) | assumption | rfl | (simp; done) | (simp; omega)) (by first | omega | exact side _ (by assumption) | assumption | rfl | (simp; done) | (simp; omega)) (by first | omega | exact side _ (by assumption) | assumption | rfl | (simp; done) | (simp; omega))) rfl ?_)
      rintro _ _ _ ⟨pa2, ca2, rfl, rfl, rfl⟩
      simp only [List.cons_append, List.nil_append]
      refine j_run it 5 rfl (by simp) ?_
      refine j_nf [.o [1, 1, 1, 1, 1, 1, 0] 0, .c [1, 1, 1, 1, 1, 1, 1]] rfl ?_
      refine j_step rfl (x_call [] rfl (S_codewrightref02_Int (by first | omega | exact side _ (by assumption) | assumption | rfl | (simp; done) | (simp; omega))) rfl ?_)
      rintro _ _ _ ⟨pn1, cn1, pd1, cd1, rfl, rfl, rfl⟩
      simp only [List.cons_append, List.nil_append]
      refine j_step rfl (x_alloc zo35 fun b1 => ?_)
      refine j_step rfl (x_bst_all 0 rfl rfl rfl ld35 rfl rfl (by simp [Value.oneCell']) ?_)
      refine j_nf [.o [1, 1, 1, 1, 1, 1, 1, 0, 0] 0, .c [1, 1, 1, 1, 1, 1, 1, 0, 1], .c [1, 1, 1, 1, 1, 1, 1, 1]] rfl ?_
      refine j_run it 1 rfl (by simp) ?_
      refine j_nf [.c [1, 1, 1, 1, 1, 1, 1, 0, 1, 0], .blk 2, .c [1, 1, 1, 1, 1, 1, 1, 1]] rfl ?_
      rw [show ((0 : Int) : Rat) = 0 from rfl]
      refine j_loopG (X := Nat × Rat × (Option Addr × Nat) × (Option Addr × Nat)) [1, 7, 8, 9, 10, 11] [2, 4, 6] (fun x => [(12, .int .i64 x.1)])
        (fun x => [(some b1, 35, [.bool (rt x.2.1).1, .slice x.2.2.1.1 (rt x.2.1).2.1.length x.2.2.1.2, .slice x.2.2.2.1 (rt x.2.1).2.2.length x.2.2.2.2])])
        (fun x => [slF U32 x.2.2.1.1 (rt x.2.1).2.1.length x.2.2.1.2 (rt x.2.1).2.1, slF U32 x.2.2.2.1 (rt x.2.1).2.2.length x.2.2.2.2 (rt x.2.1).2.2])
        (fun x => x.1 ≤ m + 1 ∧ x.2.1 = rs x.1 (disQ W)) (fun x => m + 1 - x.1) (0, 0, (pn1, cn1), (pd1, cd1)) [0, 1] rfl rfl rfl ⟨Nat.zero_le _, rfl⟩ (by repeat (first | exact Fr.sub_nil _ | refine Fr.sub_cons rfl ?_)) rfl rfl ?_
      rintro ⟨k, s, ⟨pn, cn⟩, ⟨pd, cd⟩⟩ ⟨hk, hs⟩ ihs
      simp only [List.cons_append, List.nil_append] at hk hs ihs ⊢
      have b1 : bd (2 * k + 1) s := by rw [hs]; exact disQ_part hW k
      obtain ⟨w1, w2⟩ := bd_len b1
      by_cases hkl : k < m + 1
      · have hzk : (disR W m)[k]? = some (rt (disQ W k)) := by rw [disR, List.getElem?_map, List.getElem?_range hkl]; rfl
        have eg : (disR W m).getD k default = rt (disQ W k) := hat hkl
        obtain ⟨w3, w4⟩ := bd_len (disQ_bd hW k)
        rw [← eg] at w3 w4
        have hns : ¬ (disQ W k).num.sign < 0 := fun h => Rat.not_lt.2 (disQ_nonneg h0 k) (sign_neg.1 h)
        have ev' : vq (((disR W m).getD k default).1, ((disR W m).getD k default).2.1, ((disR W m).getD k default).2.2) = disQ W k := by
          rw [show vq (((disR W m).getD k default).1, ((disR W m).getD k default).2.1, ((disR W m).getD k default).2.2) = vq ((disR W m).getD k default) from rfl, eg, vq_rt]
        obtain ⟨w5, w6⟩ := bd_len (disQ_bd hW k)
        refine j_nf [.o [1, 1, 1, 1, 1, 1, 1, 0, 1, 0, 0, 0, 0] 0, .c [1, 1, 1, 1, 1, 1, 1, 0, 1, 0, 0, 0, 1], .c [1, 1, 1, 1, 1, 1, 1, 0, 1, 0, 0, 1], .lp [1, 1, 1, 1, 1, 1, 1, 0, 1, 0, 0], .blk 2, .c [1, 1, 1, 1, 1, 1, 1, 1]] rfl ?_
        refine j_run it 2 rfl (by simp) ?_
        refine j_step rfl (x_len sl23 rfl ?_)
        refine j_run it 1 rfl (by simp) ?_
        refine j_nf [.c [1, 1, 1, 1, 1, 1, 1, 0, 1, 0, 0, 0, 1], .c [1, 1, 1, 1, 1, 1, 1, 0, 1, 0, 0, 1], .lp [1, 1, 1, 1, 1, 1, 1, 0, 1, 0, 0], .blk 2, .c [1, 1, 1, 1, 1, 1, 1, 1]] rfl ?_
        refine j_if rfl rfl (fun h4 => ?_) (fun h4 => by exfalso; omega)
        refine j_nf [.c [1, 1, 1, 1, 1, 1, 1, 0, 1, 0, 0, 1, 0, 0, 0], .c [1, 1, 1, 1, 1, 1, 1, 0, 1, 0, 0, 1, 0, 0, 1], .blk 3, .c [1, 1, 1, 1, 1, 1, 1, 0, 1, 0, 0, 1, 1], .lp [1, 1, 1, 1, 1, 1, 1, 0, 1, 0, 0], .blk 2, .c [1, 1, 1, 1, 1, 1, 1, 1]] rfl ?_
        (apply j_drawK it mx 6; (· rfl); (· rfl))
        (apply lxk_eq; (· rfl); (· exact d_bld_all 0 rfl rfl ld35 rfl))
        (apply lxk_run 2; (· rfl); (· simp))
        (apply lxk_pt; (· rfl); (· exact d_x fun _ => x_idx 3 (k) rfl rfl rfl sl23 rfl (by omega) fun z1 hz1 b2 o1 => (dk_ptD default hz1 0 rfl)); intro b2 o1)
        (apply lxk_rq; (· rfl); (· exact d_x fun _ => x_ld_rt 0 rfl rfl ld35 fun pa3 ca3 pa4 ca4 => (dk_rq 0 1 rfl rfl)); intro pn2 cn2 pd2 cd2)
        (apply lxk_rq; (· rfl); (· exact d_x fun _ => x_call [3, 4, 0, 1] rfl (S_codewrightref02_Add (by first | omega | exact side _ (by assumption) | assumption | rfl | (simp; done) | (simp; omega)) (by first | omega | exact side _ (by assumption) | assumption | rfl | (simp; done) | (simp; omega)) (by first | omega | exact side _ (by assumption) | assumption | rfl | (simp; done) | (simp; omega)) (by first | omega | exact side _ (by assumption) | assumption | rfl | (simp; done) | (simp; omega))) rfl (by rintro _ _ _ ⟨pn3, cn3, pd3, cd3, rfl, rfl, rfl⟩; exact (dk_rq 0 1 rfl rfl))); intro pn3 cn3 pd3 cd3)
        simp only [vq_rt']
        refine lxk_end rfl ?_
        simp only [List.map_cons, List.map_nil, List.cons_append, List.nil_append]
        refine j_step rfl (x_bst_all 0 rfl rfl rfl ld35 rfl rfl (by simp [Value.oneCell']) ?_)
        refine j_nf [.o [1, 1, 1, 1, 1, 1, 1, 0, 1, 0, 0, 1, 0, 0, 1, 0] 0, .c [1, 1, 1, 1, 1, 1, 1, 0, 1, 0, 0, 1, 0, 0, 1, 1], .blk 3, .c [1, 1, 1, 1, 1, 1, 1, 0, 1, 0, 0, 1, 1], .lp [1, 1, 1, 1, 1, 1, 1, 0, 1, 0, 0], .blk 2, .c [1, 1, 1, 1, 1, 1, 1, 1]] rfl ?_
        refine j_run it 2 rfl (by simp) ?_
        refine j_step rfl (x_idx 8 (k) rfl rfl rfl sl23 rfl (by omega) fun z1 hz1 b3 o2 => ?_)
        refine j_step rfl (x_ld_rt 0 rfl rfl ld35 fun pa3 ca3 pa4 ca4 => ?_) --ok
        have ez : z1 = rt (disQ W k) := Option.some.inj ((by assumption : (disR W m)[k]? = some z1).symm.trans hzk)
        subst ez
        simp only [ev']
        refine j_step rfl (x_call [0, 1] rfl (S_codewrightref02_Sign (by first | omega | exact side _ (by assumption) | assumption | rfl | (simp; done) | (simp; omega)) (by first | omega | exact side _ (by assumption) | assumption | rfl | (simp; done) | (simp; omega))) rfl ?_)
        rintro _ _ _ ⟨rfl, rfl, rfl⟩
        simp only [List.cons_append, List.nil_append]
        simp only [vq_rt']
        refine j_run it 1 rfl (by simp) ?_
        refine j_nf [.c [1, 1, 1, 1, 1, 1, 1, 0, 1, 0, 0, 1, 0, 0, 1, 1], .blk 3, .c [1, 1, 1, 1, 1, 1, 1, 0, 1, 0, 0, 1, 1], .lp [1, 1, 1, 1, 1, 1, 1, 0, 1, 0, 0], .blk 2, .c [1, 1, 1, 1, 1, 1, 1, 1]] rfl ?_
        refine j_if rfl rfl (fun h5 => by exfalso; omega) (fun h5 => ?_)
        refine j_nf [.o [1, 1, 1, 1, 1, 1, 1, 0, 1, 0, 0, 1, 1] 0, .lp [1, 1, 1, 1, 1, 1, 1, 0, 1, 0, 0], .blk 2, .c [1, 1, 1, 1, 1, 1, 1, 1]] rfl ?_
        refine j_run it 3 rfl (by repeat' first | exact trivial | apply And.intro | omega) ?_
        refine j_nfn 1 [.lp [1, 1, 1, 1, 1, 1, 1, 0, 1, 0, 0], .blk 2, .c [1, 1, 1, 1, 1, 1, 1, 1]] rfl ?_
        refine j_to [3, 4, 10, 11, 12] (by repeat (first | exact Fr.sub_nil _ | refine Fr.sub_cons rfl ?_ | refine Fr.sub_consI rfl (by first | omega | (dsimp only; omega)) ?_ | refine Fr.sub_consS rfl (by first | omega | (dsimp only; omega)) (by first | omega | (dsimp only; omega)) ?_)) rfl rfl (ihs (k + 1, s + disQ W k, (pn3, cn3), (pd3, cd3)) (by dsimp only; omega) ⟨by dsimp only; omega, by dsimp only; rw [hs]; rfl⟩)
      · obtain rfl : k = m + 1 := by omega
        rw [disQ_sum h0 hwl] at hs
        subst hs
        refine j_nf [.o [1, 1, 1, 1, 1, 1, 1, 0, 1, 0, 0, 0, 0] 0, .c [1, 1, 1, 1, 1, 1, 1, 0, 1, 0, 0, 0, 1], .c [1, 1, 1, 1, 1, 1, 1, 0, 1, 0, 0, 1], .lp [1, 1, 1, 1, 1, 1, 1, 0, 1, 0, 0], .blk 2, .c [1, 1, 1, 1, 1, 1, 1, 1]] rfl ?_
        refine j_run it 2 rfl (by simp) ?_
        refine j_step rfl (x_len sl23 rfl ?_)
        refine j_run it 1 rfl (by simp) ?_
        refine j_nf [.c [1, 1, 1, 1, 1, 1, 1, 0, 1, 0, 0, 0, 1], .c [1, 1, 1, 1, 1, 1, 1, 0, 1, 0, 0, 1], .lp [1, 1, 1, 1, 1, 1, 1, 0, 1, 0, 0], .blk 2, .c [1, 1, 1, 1, 1, 1, 1, 1]] rfl ?_
        refine j_if rfl rfl (fun h4 => by exfalso; omega) (fun h4 => ?_)
        refine j_nf [.c [1, 1, 1, 1, 1, 1, 1, 1, 0], .c [1, 1, 1, 1, 1, 1, 1, 1, 1]] rfl ?_
        (apply j_drawK it mx 18; (· rfl); (· rfl))
        (apply lxk_run 1; (· rfl); (· simp))
        (apply lxk_eq; (· rfl); (· exact d_x fun _ => x_true it rfl (by trivial) (by omega) dk_eq))
        (apply lxk_run 2; (· rfl); (· simp))
        (apply lxk_eq; (· rfl); (· exact d_x fun _ => x_true it rfl (by trivial) (by omega) dk_eq))
        (apply lxk_run 4; (· rfl); (· simp))
        (apply lxk_eq; (· rfl); (· exact d_x fun _ => x_call [3, 2] rfl (S_codewrightref02_SameList) rfl (by rintro _ _ _ ⟨rfl, rfl, rfl⟩; exact dk_eq)))
        simp only [vq_rt']
        (apply lxk_run 2; (· rfl); (· simp))
        (apply lxk_eq; (· rfl); (· exact d_bld_all 0 rfl rfl ld35 rfl))
        (apply lxk_run 1; (· rfl); (· simp))
        (apply lxk_eq; (· rfl); (· exact d_x fun _ => x_len sl22 rfl dk_eq))
        (apply lxk_rq; (· rfl); (· exact d_x fun _ => x_call [] rfl (S_codewrightref02_Int (by first | omega | exact side _ (by assumption) | assumption | rfl | (simp; done) | (simp; omega))) rfl (by rintro _ _ _ ⟨pn2, cn2, pd2, cd2, rfl, rfl, rfl⟩; exact (dk_rq 0 1 rfl rfl))); intro pn2 cn2 pd2 cd2)
        simp only [vq_rt']
        (apply lxk_eq; (· rfl); (· exact d_x fun _ => x_call [2, 3, 0, 1] rfl (S_codewrightref02_Same) rfl (by rintro _ _ _ ⟨rfl, rfl, rfl⟩; exact dk_eq)))
        simp only [vq_rt']
        (apply lxk_run 1; (· rfl); (· simp))
        refine lxk_end rfl ?_
        simp only [List.map_cons, List.map_nil, List.cons_append, List.nil_append]
        refine j_run it 1 rfl (by simp) ?_
        refine j_nf [.c [1, 1, 1, 1, 1, 1, 1, 1, 1]] rfl ?_
        refine j_giv [] rfl rfl rfl ⟨rfl, rfl, rfl⟩
  · refine j_nf [.o [0] 0, .c [1]] rfl ?_
    refine j_run it 1 rfl (by simp) ?_
    refine j_nf [.o [1, 0, 0] 0, .c [1, 0, 1], .c [1, 1]] rfl ?_
    refine j_run it 1 rfl (by simp) ?_
    refine j_step rfl (x_len sl22 rfl ?_)
    refine j_run it 2 rfl (by simp) ?_
    refine j_split_dec (t := 16) rfl (fun h1 => by exfalso; omega) (fun h1 => ?_)
    refine j_run it 2 rfl (by simp) ?_
    refine j_gstep rfl rfl (x_call [0] rfl (S_codewrightref34_Words (by first | omega | exact side _ (by assumption) | assumption | rfl | (simp; done) | (simp; omega))) rfl ?_)
    rintro _ _ _ ⟨rfl, rfl, rfl⟩
    simp only [List.cons_append, List.nil_append]
    refine j_run it 2 rfl (by simp) ?_
    refine j_nf [.c [1, 0, 1], .c [1, 1]] rfl ?_
    refine j_ifn rfl rfl (fun h2 => ?_) (fun h2 => by exfalso; omega)
    refine j_nf [.o [1, 0, 1, 0, 0] 0, .c [1, 0, 1, 0, 1], .c [1, 1]] rfl ?_
    refine j_run it 1 rfl (by simp) ?_
    refine j_nf [.c [1, 0, 1, 0, 1], .c [1, 1]] rfl ?_
    refine j_giv [] rfl rfl rfl ⟨rfl, rfl, rfl⟩

theorem op3 : Opens Try.prog 3 (encInt .i64 8) := opens_int rfl rfl rfl
theorem op31 : Opens Try.prog 31 (encSl (encInt .i64 8)) := opens_sl rfl op3 rfl rfl (by decide)
theorem op22 : Opens Try.prog 22 (encSl (encSl (encInt .i64 8))) := opens_sl rfl op31 rfl rfl (by decide)

theorem delsarteSums_says : LawSays Try.prog 4 Try.f4 := by
  intro W args h
  have h : Args Try.prog W [3, 22] args := h
  match args, h with
  | [v0, v1], ⟨h0, h1, _⟩ =>
    obtain ⟨q0, rfl, _⟩ := h0.int Try.underlying3
    obtain ⟨p1, c1, l1, rfl, k1⟩ := h1.slice Try.underlying22 op22
    refine law_of_gives (S_DelsarteSums (W := l1)) (fun v Φ β h => h.1) ?_
    intro g hg
    simp only [List.mem_cons, List.not_mem_nil, or_false] at hg
    subst hg
    exact k1


/-! ### The row -/

theorem delsarteSums_lifted (os : Os) (started : os.Started) (H : Type) (enc : TypeId × Value → H) :
    ReturnsInHanded {} Try.checked os 4 .any (Rows.delsarteSumsSpec.pre6 enc Try.prog Try.f4 Rows.delsarteSumsRow.domain false) (Rows.delsarteSumsSpec.post enc Try.prog Try.f4 false true false false) :=
  law_lift (C := Try.checked) (by kernel_rfl) started (by kernel_rfl) Try.func4
    (ChangeSpec.witness6 (enc := enc) (C := Try.checked) false ⟨#[], #[.int .i64 0, .slice none 0 0], []⟩ 8 (by kernel_rfl) (by kernel_rfl) (by kernel_rfl) (by kernel_rfl))
    (by kernel_rfl) rfl (by kernel_rfl) rfl Try.underlying4 (fun ds h => match ds, h with | [d0, d1], _ => rfl) delsarteSums_says

theorem delsarteSums_holds : Rows.DelsarteSumsSaid :=
  OpenClaim.holds_of_wide 4 Try.f4 rfl rfl rfl rfl rfl rfl rfl ⟨rfl, rfl, rfl, rfl, rfl⟩ rfl rfl rfl rfl rfl (by kernel_rfl) Try.func4 (by kernel_rfl)
    (of_decide_eq_true (by kernel_rfl)) (by unfold Func.isWrapper; first | (rw [if_pos (by decide +kernel)]; kernel_rfl) | (rw [if_neg (by decide +kernel)]; exact ⟨rfl, rfl⟩))
    (fun os started H enc _ => delsarteSums_lifted os started H enc)
#print axioms delsarteSums_holds
end Go.Proofs.Ytlhgkefaflpgeaa
