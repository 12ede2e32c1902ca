/-
The document's Distances.
-/
import Derived.Test.YtlhgkefaflpgeaaHP6
set_option linter.unusedVariables false
set_option linter.unusedSimpArgs false

namespace Go.Proofs.Ytlhgkefaflpgeaa
open Go Go.Fw
set_option maxRecDepth 100000
set_option linter.unusedVariables false
set_option linter.unusedSimpArgs false
set_option maxHeartbeats 4000000
theorem S_codewrightref36_Distances {pa : Option Addr} {n ca m : Nat} {W : List (List Int)} (hW : W.length ≤ 1000) (h0 : 0 < W.length) (hm : m ≤ 64) (hw : ∀ w ∈ W, w.length = m) : Ctr Try.prog 13 [.slice pa n ca] [] [slF (encSl I64) pa n ca W] (Sv RatE (disR W m)) := by
  refine Ctr_of_j' (F := F_codewrightref36_Distances) rfl fun C => ?_
  refine j_len 0 rfl fun hn hb _ => ?_
  subst hn
  have hz0 : W[0]? = some (W.getD 0 default) := getD_at h0
  have hl0 := hw _ (List.mem_of_getElem? hz0)
  have hwl : ∀ i, i < W.length → (W.getD i default).length = m := fun i hi => hw _ (List.mem_of_getElem? (getD_at hi))
  refine j_nf [.o [0] 0, .c [1]] rfl ?_
  refine j_run it 1 rfl (by simp) ?_
  refine j_nf [.o [1, 0] 0, .c [1, 1]] rfl ?_
  refine j_run it 1 rfl (by simp) ?_
  refine j_step rfl (x_idx 0 0 rfl rfl rfl sl22 (by omega) (by omega) fun z1 hz1 b1 o1 => ?_)
  refine j_step rfl (x_ld_sl 0 rfl rfl ld31 fun pa1 ca1 => ?_)
  refine j_step rfl (x_len sl31 rfl ?_) --ok
  obtain rfl : z1 = W.getD 0 default := Option.some.inj (hz1.symm.trans hz0)
  rw [hl0]
  refine j_run it 1 rfl (by repeat' first | exact trivial | apply And.intro | omega) ?_
  refine j_step rfl (x_make_nat ((m) + 1) _ rfl rfl sl31 zo31e by31e (by omega) (by omega) (by omega) fun b2 => ?_)
  refine j_run it 1 rfl (by simp) ?_
  refine j_nf [.o [1, 1, 0, 0] 0, .c [1, 1, 0, 1], .c [1, 1, 1]] rfl ?_
  refine j_run it 1 rfl (by simp) ?_
  refine j_nf [.c [1, 1, 0, 1, 0], .blk 0, .c [1, 1, 1]] rfl ?_
  have hw2 : ∀ i, i < W.length → (wAt W i).length = m := hwl
  have hrep : List.replicate (m + 1) 0 = (List.range (m + 1)).map (cntN W 0 0) := by
    refine List.ext_getElem? fun d => ?_
    by_cases hd : d < m + 1
    · rw [List.getElem?_replicate, if_pos hd, List.getElem?_map, List.getElem?_range hd]
      show some 0 = some _
      rw [cntN_zero]
    · rw [List.getElem?_eq_none (by simp; omega), List.getElem?_eq_none (by simp; omega)]
  rw [hrep]
  refine j_loopG (X := Nat) [0, 2, 3] [0, 1, 2] (fun i => [(4, .int .i64 i)]) (fun i => [(some b2, 3, natCells .i64 ((List.range (m + 1)).map (cntN W i 0)))]) (fun _ => []) (fun i => i ≤ W.length) (fun i => W.length - i) 0 [] rfl rfl rfl (Nat.zero_le _) (by repeat (first | exact Fr.sub_nil _ | refine Fr.sub_cons rfl ?_)) rfl rfl ?_
  intro i hi ih
  simp only [List.cons_append, List.nil_append] at ih ⊢
  by_cases hil : i < W.length
  · refine j_nf [.o [1, 1, 0, 1, 0, 0, 0, 0] 0, .c [1, 1, 0, 1, 0, 0, 0, 1], .c [1, 1, 0, 1, 0, 0, 1], .lp [1, 1, 0, 1, 0, 0], .blk 0, .c [1, 1, 1]] rfl ?_
    refine j_run it 2 rfl (by simp) ?_
    refine j_step rfl (x_len sl22 rfl ?_)
    refine j_run it 1 rfl (by simp) ?_
    refine j_nf [.c [1, 1, 0, 1, 0, 0, 0, 1], .c [1, 1, 0, 1, 0, 0, 1], .lp [1, 1, 0, 1, 0, 0], .blk 0, .c [1, 1, 1]] rfl ?_
    refine j_if rfl rfl (fun h1 => ?_) (fun h1 => by exfalso; omega)
    refine j_nf [.o [1, 1, 0, 1, 0, 0, 1, 0, 0, 0] 0, .c [1, 1, 0, 1, 0, 0, 1, 0, 0, 1], .blk 1, .c [1, 1, 0, 1, 0, 0, 1, 1], .lp [1, 1, 0, 1, 0, 0], .blk 0, .c [1, 1, 1]] rfl ?_
    refine j_run it 1 rfl (by simp) ?_
    refine j_nf [.c [1, 1, 0, 1, 0, 0, 1, 0, 0, 1, 0], .blk 2, .blk 1, .c [1, 1, 0, 1, 0, 0, 1, 1], .lp [1, 1, 0, 1, 0, 0], .blk 0, .c [1, 1, 1]] rfl ?_
    refine j_loopG (X := Nat) [0, 2, 3, 4, 14, 15, 16, 17] [0, 1, 2] (fun j => [(5, .int .i64 j)]) (fun j => [(some b2, 3, natCells .i64 ((List.range (m + 1)).map (cntN W i j)))]) (fun _ => []) (fun j => j ≤ W.length) (fun j => W.length - j) 0 [] rfl rfl rfl (Nat.zero_le _) (by repeat (first | exact Fr.sub_nil _ | refine Fr.sub_cons rfl ?_)) rfl rfl ?_
    intro j hj ihj
    simp only [List.cons_append, List.nil_append] at ihj ⊢
    by_cases hjl : j < W.length
    · have l1 := hwl i hil
      have l2 := hwl j hjl
      have hd := dist_le (wAt W i) (wAt W j)
      rw [hw2 i hil] at hd
      have hd' : dist (W.getD i default) (W.getD j default) ≤ m := hd
      have hz : ((List.range (m + 1)).map (cntN W i j))[dist (W.getD i default) (W.getD j default)]? = some (cntN W i j (dist (wAt W i) (wAt W j))) := by
        rw [List.getElem?_map, List.getElem?_range (by omega)]; rfl
      have hle := cntN_le W (dist (wAt W i) (wAt W j)) i j
      have hle2 : i * W.length ≤ 1000 * 1000 := Nat.mul_le_mul (by omega) hW
      have es : ((List.range (m + 1)).map (cntN W i j)).set (dist (W.getD i default) (W.getD j default)) (cntN W i j (dist (wAt W i) (wAt W j)) + 1) = (List.range (m + 1)).map (cntN W i (j + 1)) := cntN_set W (m := m + 1) (i := i) (j := j) (by omega)
      refine j_nf [.o [1, 1, 0, 1, 0, 0, 1, 0, 0, 1, 0, 0, 0, 0] 0, .c [1, 1, 0, 1, 0, 0, 1, 0, 0, 1, 0, 0, 0, 1], .c [1, 1, 0, 1, 0, 0, 1, 0, 0, 1, 0, 0, 1], .lp [1, 1, 0, 1, 0, 0, 1, 0, 0, 1, 0, 0], .blk 2, .blk 1, .c [1, 1, 0, 1, 0, 0, 1, 1], .lp [1, 1, 0, 1, 0, 0], .blk 0, .c [1, 1, 1]] rfl ?_
      refine j_run it 2 rfl (by simp) ?_
      refine j_step rfl (x_len sl22 rfl ?_)
      refine j_run it 1 rfl (by simp) ?_
      refine j_nf [.c [1, 1, 0, 1, 0, 0, 1, 0, 0, 1, 0, 0, 0, 1], .c [1, 1, 0, 1, 0, 0, 1, 0, 0, 1, 0, 0, 1], .lp [1, 1, 0, 1, 0, 0, 1, 0, 0, 1, 0, 0], .blk 2, .blk 1, .c [1, 1, 0, 1, 0, 0, 1, 1], .lp [1, 1, 0, 1, 0, 0], .blk 0, .c [1, 1, 1]] rfl ?_
      refine j_if rfl rfl (fun h2 => ?_) (fun h2 => by exfalso; omega)
      refine j_nf [.c [1, 1, 0, 1, 0, 0, 1, 0, 0, 1, 0, 0, 1, 0, 0], .blk 3, .c [1, 1, 0, 1, 0, 0, 1, 0, 0, 1, 0, 0, 1, 1], .lp [1, 1, 0, 1, 0, 0, 1, 0, 0, 1, 0, 0], .blk 2, .blk 1, .c [1, 1, 0, 1, 0, 0, 1, 1], .lp [1, 1, 0, 1, 0, 0], .blk 0, .c [1, 1, 1]] rfl ?_
      (apply j_drawK it mx 14; (· rfl); (· rfl))
      (apply lxk_run 3; (· rfl); (· simp))
      (apply lxk_pt; (· rfl); (· exact d_x fun _ => x_idx 2 (i) rfl rfl rfl sl22 rfl (by omega) fun z1 hz2 b3 o2 => (dk_ptD default hz2 0 rfl)); intro b3 o2)
      (apply lxk_sl; (· rfl); (· exact d_x fun _ => x_ld_sl 0 rfl rfl ld31 fun pa2 ca2 => (dk_sl 0 rfl)); intro pa2 ca2)
      (apply lxk_run 2; (· rfl); (· simp))
      (apply lxk_pt; (· rfl); (· exact d_x fun _ => x_idx 2 (j) rfl rfl rfl sl22 rfl (by omega) fun z1 hz2 b4 o3 => (dk_ptD default hz2 0 rfl)); intro b4 o3)
      (apply lxk_sl; (· rfl); (· exact d_x fun _ => x_ld_sl 0 rfl rfl ld31 fun pa3 ca3 => (dk_sl 0 rfl)); intro pa3 ca3)
      (apply lxk_eq; (· rfl); (· exact d_x fun _ => x_call [2, 0] rfl (S_codewrightref24_Distance (by first | omega | exact side _ (by assumption) | assumption | rfl | (simp; done) | (simp; omega))) rfl (by rintro _ _ _ ⟨rfl, rfl, rfl⟩; exact dk_eq)))
      (apply lxk_eq; (· rfl); (· exact d_x fun _ => x_idx_own (dist (W.getD i default) (W.getD j default)) (dist (W.getD i default) (W.getD j default)) rfl rfl sl31 rfl (by omega) (Nat.mul_one _) dk_eq))
      (apply lxk_eq; (· rfl); (· exact d_bld_nat 0 rfl rfl ld3 (by assumption)))
      (apply lxk_run 1; (· rfl); (· exact (by repeat' first | exact trivial | apply And.intro | omega)))
      (apply lxk_eq; (· rfl); (· exact d_x fun _ => x_idx_own (dist (W.getD i default) (W.getD j default)) (dist (W.getD i default) (W.getD j default)) rfl rfl sl31 rfl (by omega) (Nat.mul_one _) dk_eq))
      refine lxk_end rfl ?_
      simp only [List.map_cons, List.map_nil, List.cons_append, List.nil_append]
      refine j_step rfl (x_bst_nat 0 ((cntN W i j (dist (wAt W i) (wAt W j))) + 1) rfl rfl rfl ld3 ?_ ?_ ?_)
      · rfl
      · simp only [List.length_map, List.length_range]; omega
      rw [es]
      refine j_nf [.o [1, 1, 0, 1, 0, 0, 1, 0, 0, 1, 0, 0, 1, 1] 0, .lp [1, 1, 0, 1, 0, 0, 1, 0, 0, 1, 0, 0], .blk 2, .blk 1, .c [1, 1, 0, 1, 0, 0, 1, 1], .lp [1, 1, 0, 1, 0, 0], .blk 0, .c [1, 1, 1]] rfl ?_
      refine j_run it 3 rfl (by repeat' first | exact trivial | apply And.intro | omega) ?_
      refine j_nfn 1 [.lp [1, 1, 0, 1, 0, 0, 1, 0, 0, 1, 0, 0], .blk 2, .blk 1, .c [1, 1, 0, 1, 0, 0, 1, 1], .lp [1, 1, 0, 1, 0, 0], .blk 0, .c [1, 1, 1]] rfl ?_
      refine j_to [4, 5, 6] (by repeat (first | exact Fr.sub_nil _ | refine Fr.sub_cons rfl ?_ | refine Fr.sub_consI rfl (by first | omega | (dsimp only; omega)) ?_ | refine Fr.sub_consS rfl (by first | omega | (dsimp only; omega)) (by first | omega | (dsimp only; omega)) ?_)) rfl rfl (ihj (j + 1) (by omega) (by omega))
    · obtain rfl : W.length = j := by omega
      rw [show cntN W i W.length = cntN W (i + 1) 0 from funext fun d => (cntN_next W i d).symm]
      refine j_nf [.o [1, 1, 0, 1, 0, 0, 1, 0, 0, 1, 0, 0, 0, 0] 0, .c [1, 1, 0, 1, 0, 0, 1, 0, 0, 1, 0, 0, 0, 1], .c [1, 1, 0, 1, 0, 0, 1, 0, 0, 1, 0, 0, 1], .lp [1, 1, 0, 1, 0, 0, 1, 0, 0, 1, 0, 0], .blk 2, .blk 1, .c [1, 1, 0, 1, 0, 0, 1, 1], .lp [1, 1, 0, 1, 0, 0], .blk 0, .c [1, 1, 1]] rfl ?_
      refine j_run it 2 rfl (by simp) ?_
      refine j_step rfl (x_len sl22 rfl ?_)
      refine j_run it 1 rfl (by simp) ?_
      refine j_nf [.c [1, 1, 0, 1, 0, 0, 1, 0, 0, 1, 0, 0, 0, 1], .c [1, 1, 0, 1, 0, 0, 1, 0, 0, 1, 0, 0, 1], .lp [1, 1, 0, 1, 0, 0, 1, 0, 0, 1, 0, 0], .blk 2, .blk 1, .c [1, 1, 0, 1, 0, 0, 1, 1], .lp [1, 1, 0, 1, 0, 0], .blk 0, .c [1, 1, 1]] rfl ?_
      refine j_if rfl rfl (fun h2 => by exfalso; omega) (fun h2 => ?_)
      refine j_nf [.o [1, 1, 0, 1, 0, 0, 1, 1] 0, .lp [1, 1, 0, 1, 0, 0], .blk 0, .c [1, 1, 1]] rfl ?_
      refine j_run it 3 rfl (by repeat' first | exact trivial | apply And.intro | omega) ?_
      refine j_nfn 1 [.lp [1, 1, 0, 1, 0, 0], .blk 0, .c [1, 1, 1]] rfl ?_
      refine j_to [0, 1, 2] (by repeat (first | exact Fr.sub_nil _ | refine Fr.sub_cons rfl ?_ | refine Fr.sub_consI rfl (by first | omega | (dsimp only; omega)) ?_ | refine Fr.sub_consS rfl (by first | omega | (dsimp only; omega)) (by first | omega | (dsimp only; omega)) ?_)) rfl rfl (ih (i + 1) (by omega) (by omega))
  · obtain rfl : W.length = i := by omega
    refine j_nf [.o [1, 1, 0, 1, 0, 0, 0, 0] 0, .c [1, 1, 0, 1, 0, 0, 0, 1], .c [1, 1, 0, 1, 0, 0, 1], .lp [1, 1, 0, 1, 0, 0], .blk 0, .c [1, 1, 1]] rfl ?_
    refine j_run it 2 rfl (by simp) ?_
    refine j_step rfl (x_len sl22 rfl ?_)
    refine j_run it 1 rfl (by simp) ?_
    refine j_nf [.c [1, 1, 0, 1, 0, 0, 0, 1], .c [1, 1, 0, 1, 0, 0, 1], .lp [1, 1, 0, 1, 0, 0], .blk 0, .c [1, 1, 1]] rfl ?_
    refine j_if rfl rfl (fun h1 => by exfalso; omega) (fun h1 => ?_)
    refine j_nf [.o [1, 1, 1, 0] 0, .c [1, 1, 1, 1]] rfl ?_
    refine j_run it 1 rfl (by simp) ?_
    refine j_nf [.o [1, 1, 1, 1, 0, 0] 0, .c [1, 1, 1, 1, 0, 1], .c [1, 1, 1, 1, 1]] rfl ?_
    refine j_run it 1 rfl (by simp) ?_
    refine j_nf [.c [1, 1, 1, 1, 0, 1, 0], .blk 4, .c [1, 1, 1, 1, 1]] rfl ?_
    refine j_row0 RatE 35 ?_
    refine j_loopG (X := Nat × Row) [0, 2, 3] [1, 2, 3] (fun x => [(7, .int .i64 x.1), (6, .slice (ad x.2.bo) x.1 x.2.cap)]) (fun x => [(x.2.bo, 35, x.2.cs), (some b2, 3, natCells .i64 ((List.range (m + 1)).map (cntN W W.length 0)))]) (fun x => [rowF RatE x.2 x.1 ((List.range x.1).map fun d => rt (mkRat ((cntN W W.length 0 d : Nat) : Int) W.length))])
      (fun x => x.1 ≤ m + 1) (fun x => m + 1 - x.1) (0, ⟨none, 0, []⟩) [0] rfl rfl rfl (Nat.zero_le _) (by repeat (first | exact Fr.sub_nil _ | refine Fr.sub_cons rfl ?_)) rfl rfl ?_
    rintro ⟨d, r⟩ hd ihd
    simp only [List.cons_append, List.nil_append] at hd ihd ⊢
    by_cases hdl : d < m + 1
    · have hz : ((List.range (m + 1)).map (cntN W W.length 0))[d]? = some (cntN W W.length 0 d) := by
        rw [List.getElem?_map, List.getElem?_range (by omega)]; rfl
      have hle := cntN_le W d W.length 0
      have hle2 : W.length * W.length ≤ 1000 * 1000 := Nat.mul_le_mul hW hW
      refine j_nf [.o [1, 1, 1, 1, 0, 1, 0, 0, 0, 0] 0, .c [1, 1, 1, 1, 0, 1, 0, 0, 0, 1], .c [1, 1, 1, 1, 0, 1, 0, 0, 1], .lp [1, 1, 1, 1, 0, 1, 0, 0], .blk 4, .c [1, 1, 1, 1, 1]] rfl ?_
      refine j_run it 2 rfl (by simp) ?_
      refine j_step rfl (x_len sl31 rfl ?_)
      refine j_run it 1 rfl (by simp) ?_
      refine j_nf [.c [1, 1, 1, 1, 0, 1, 0, 0, 0, 1], .c [1, 1, 1, 1, 0, 1, 0, 0, 1], .lp [1, 1, 1, 1, 0, 1, 0, 0], .blk 4, .c [1, 1, 1, 1, 1]] rfl ?_
      refine j_if rfl rfl (fun h2 => ?_) (fun h2 => by exfalso; omega)
      refine j_nf [.o [1, 1, 1, 1, 0, 1, 0, 0, 1, 0, 0] 0, .blk 5, .c [1, 1, 1, 1, 0, 1, 0, 0, 1, 1], .lp [1, 1, 1, 1, 0, 1, 0, 0], .blk 4, .c [1, 1, 1, 1, 1]] rfl ?_
      refine j_run it 3 rfl (by simp) ?_
      refine j_step rfl (x_idx_own (d) (d) rfl rfl sl31 rfl (by omega) (Nat.mul_one _) ?_)
      refine j_step rfl (x_bld_nat 1 rfl rfl ld3 (by first | omega | (simp; omega)) fun z1 hz2 => ?_)
      refine j_run it 1 rfl (by simp) ?_
      refine j_step rfl (x_len sl22 rfl ?_) --ok
      have ez : z1 = cntN W W.length 0 d := Option.some.inj ((by assumption : ((List.range (m + 1)).map (cntN W W.length 0))[d]? = some z1).symm.trans hz)
      subst ez
      have hi : InR .i64 ((cntN W W.length 0 d : Nat) : Int) := by simp only [InR]; omega
      refine j_step rfl (x_call [] rfl (S_codewrightref02_Of (by first | omega | exact side _ (by assumption) | assumption | rfl | (simp; done) | (simp; omega)) (by first | omega | exact side _ (by assumption) | assumption | rfl | (simp; done) | (simp; omega)) (by first | omega | exact side _ (by assumption) | assumption | rfl | (simp; done) | (simp; omega))) rfl ?_)
      rintro _ _ _ ⟨pn1, cn1, pd1, cd1, rfl, rfl, rfl⟩
      simp only [List.cons_append, List.nil_append]
      refine j_step rfl (x_lit sl23 zo23e rfl rfl rfl rfl (by decide) (by decide) rfl fun b3 => ?_)
      refine j_step rfl (x_appR (z := ((rt (mkRat (↑(cntN W W.length 0 d)) W.length)).fst, ((rt (mkRat (↑(cntN W W.length 0 d)) W.length)).snd.fst, (rt (mkRat (↑(cntN W W.length 0 d)) W.length)).snd.snd))) 1 0 2 rfl rfl rfl rfl rfl sl23 zo23e rfl (fun w A hG => (rd_pair (v1 := [Value.bool (rt (mkRat (↑(cntN W W.length 0 d)) W.length)).fst]) (rd_bool _) (rd_pair (v1 := [Value.slice pn1 (rt (mkRat (↑(cntN W W.length 0 d)) W.length)).snd.fst.length cn1]) (rd_of_slF (hG _ (fact_mem (n := 0) rfl))) (rd_of_slF (hG _ (fact_mem (n := 1) rfl)))))) (by omega) _ by23e (by omega) fun r1 => ?_)
      refine j_run it 1 rfl (by simp) ?_
      refine j_nf [.o [1, 1, 1, 1, 0, 1, 0, 0, 1, 1] 0, .lp [1, 1, 1, 1, 0, 1, 0, 0], .blk 4, .c [1, 1, 1, 1, 1]] rfl ?_
      refine j_run it 3 rfl (by repeat' first | exact trivial | apply And.intro | omega) ?_
      refine j_nfn 1 [.lp [1, 1, 1, 1, 0, 1, 0, 0], .blk 4, .c [1, 1, 1, 1, 1]] rfl ?_
      rw [← range_snoc fun d => rt (mkRat ((cntN W W.length 0 d : Nat) : Int) W.length)]
      refine j_toM [true, false, true] [0, 4, 5, 6] (by repeat (first | exact Fr.sub_nil _ | refine Fr.sub_cons rfl ?_ | refine Fr.sub_consI rfl (by first | omega | (dsimp only; omega)) ?_ | refine Fr.sub_consS rfl (by first | omega | (dsimp only; omega)) (by first | omega | (dsimp only; omega)) ?_)) rfl rfl (ihd (d + 1, r1) (by dsimp only; omega) (by dsimp only; omega))
    · obtain rfl : d = m + 1 := by omega
      refine j_nf [.o [1, 1, 1, 1, 0, 1, 0, 0, 0, 0] 0, .c [1, 1, 1, 1, 0, 1, 0, 0, 0, 1], .c [1, 1, 1, 1, 0, 1, 0, 0, 1], .lp [1, 1, 1, 1, 0, 1, 0, 0], .blk 4, .c [1, 1, 1, 1, 1]] rfl ?_
      refine j_run it 2 rfl (by simp) ?_
      refine j_step rfl (x_len sl31 rfl ?_)
      refine j_run it 1 rfl (by simp) ?_
      refine j_nf [.c [1, 1, 1, 1, 0, 1, 0, 0, 0, 1], .c [1, 1, 1, 1, 0, 1, 0, 0, 1], .lp [1, 1, 1, 1, 0, 1, 0, 0], .blk 4, .c [1, 1, 1, 1, 1]] rfl ?_
      refine j_if rfl rfl (fun h2 => by exfalso; omega) (fun h2 => ?_)
      refine j_nf [.o [1, 1, 1, 1, 1, 0] 0, .c [1, 1, 1, 1, 1, 1]] rfl ?_
      refine j_run it 2 rfl (by simp) ?_
      refine j_nf [.c [1, 1, 1, 1, 1, 1]] rfl ?_
      refine j_pubR 0 0 rfl rfl (by show (m + 1) * 56 ≤ 140737488355328; omega) ?_
      have e : (disR W m).length = m + 1 := by simp [disR]
      refine j_giv [0] rfl rfl rfl ⟨_, _, by rw [e]; rfl, by rw [e]; rfl, rfl⟩
end Go.Proofs.Ytlhgkefaflpgeaa
