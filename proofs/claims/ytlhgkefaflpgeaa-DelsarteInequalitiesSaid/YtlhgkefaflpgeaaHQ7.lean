/-
The program's Distances.
-/
import Derived.Test.YtlhgkefaflpgeaaHQ6
set_option linter.unusedVariables false
set_option linter.unusedSimpArgs false

namespace Go.Proofs.Ytlhgkefaflpgeaa
open Go Go.Fw
set_option maxRecDepth 100000
set_option linter.unusedVariables false
set_option linter.unusedSimpArgs false
set_option maxHeartbeats 4000000
/-- The distance distribution. -/
def disR (W : List (List Int)) (n : Nat) : List Rt := (List.range (n + 1)).map fun d => rt (mkRat ((cntN W W.length 0 d : Nat) : Int) W.length)
def disL (q : Int) (W : List (List Int)) : List Rt := if wordsE q W = 0 then disR W (W.getD 0 default).length else []
theorem S_delsarte_Distances {q : Int} {pa : Option Addr} {n ca : Nat} {W : List (List Int)} (hW : W.length ≤ 1000) {L : List Rt} {e : Int} (hL : disL q W = L) (he : wordsE q W = e) : Ctr Try.prog 10 [.int .i64 q, .slice pa n ca] [] [slF (encSl I64) pa n ca W] (SvE RatE L.length L e) := by
  subst hL; subst he
  refine Ctr_of_j' (F := F_delsarte_Distances) rfl fun C => ?_
  refine j_len 0 rfl fun hn hb _ => ?_
  subst hn
  have bad : ∀ {e : Int}, wordsE q W = e → e ≠ 0 → disL q W = [] := fun h h2 => if_neg (by rw [h]; exact h2)
  by_cases h1 : q < 2 ∨ 256 < q
  · have e : wordsE q W = 6 := if_pos h1
    rw [bad e (by decide), e]
    by_cases h2 : q < 2
    · refine j_nf [.o [0] 0, .c [1]] rfl ?_
      refine j_run it 2 rfl (by simp) ?_
      refine j_nf [.o [1, 0, 0, 0] 0, .c [1, 0, 0, 1], .blk 0, .c [1, 1]] rfl ?_
      refine j_run it 3 rfl (by simp) ?_
      refine j_split_dec (t := 26) rfl (fun h3 => ?_) (fun h3 => by exfalso; omega)
      refine j_run it 4 rfl (by simp) ?_
      refine j_nf [.c [1, 0, 0, 1], .blk 0, .c [1, 1]] rfl ?_
      refine j_true rfl rfl ?_
      refine j_nf [.o [1, 0, 0, 1, 0, 0] 0, .c [1, 0, 0, 1, 0, 1], .blk 0, .c [1, 1]] rfl ?_
      refine j_run it 2 rfl (by simp) ?_
      refine j_nf [.c [1, 0, 0, 1, 0, 1], .blk 0, .c [1, 1]] rfl ?_
      refine j_add (slF RatE none 0 0 []) (fun w A _ => slF_nil _ _ _ _ _) ?_
      refine j_giv [0] rfl rfl rfl ⟨_, _, rfl, rfl, rfl⟩
    · refine j_nf [.o [0] 0, .c [1]] rfl ?_
      refine j_run it 2 rfl (by simp) ?_
      refine j_nf [.o [1, 0, 0, 0] 0, .c [1, 0, 0, 1], .blk 0, .c [1, 1]] rfl ?_
      refine j_run it 3 rfl (by simp) ?_
      refine j_split_dec (t := 26) rfl (fun h3 => by exfalso; omega) (fun h3 => ?_)
      refine j_run it 4 rfl (by simp) ?_
      refine j_nf [.c [1, 0, 0, 1], .blk 0, .c [1, 1]] rfl ?_
      refine j_if rfl rfl (fun h4 => ?_) (fun h4 => by exfalso; omega)
      refine j_nf [.o [1, 0, 0, 1, 0, 0] 0, .c [1, 0, 0, 1, 0, 1], .blk 0, .c [1, 1]] rfl ?_
      refine j_run it 2 rfl (by simp) ?_
      refine j_nf [.c [1, 0, 0, 1, 0, 1], .blk 0, .c [1, 1]] rfl ?_
      refine j_add (slF RatE none 0 0 []) (fun w A _ => slF_nil _ _ _ _ _) ?_
      refine j_giv [0] rfl rfl rfl ⟨_, _, rfl, rfl, rfl⟩
  by_cases h2 : W.length = 0
  · have e : wordsE q W = 11 := by rw [wordsE, if_neg h1, if_pos h2]
    rw [bad e (by decide), e]
    refine j_nf [.o [0] 0, .c [1]] rfl ?_
    refine j_run it 2 rfl (by simp) ?_
    refine j_nf [.o [1, 0, 0, 0] 0, .c [1, 0, 0, 1], .blk 0, .c [1, 1]] rfl ?_
    refine j_run it 3 rfl (by simp) ?_
    refine j_split_dec (t := 26) rfl (fun h3 => by exfalso; omega) (fun h3 => ?_)
    refine j_run it 4 rfl (by simp) ?_
    refine j_nf [.c [1, 0, 0, 1], .blk 0, .c [1, 1]] rfl ?_
    refine j_if rfl rfl (fun h4 => by exfalso; omega) (fun h4 => ?_)
    refine j_nf [.o [1, 0, 0, 1, 1, 0] 0, .c [1, 0, 0, 1, 1, 1], .blk 0, .c [1, 1]] rfl ?_
    refine j_run it 1 rfl (by simp) ?_
    refine j_step rfl (x_len sl22 rfl ?_)
    refine j_run it 2 rfl (by simp) ?_
    refine j_nf [.c [1, 0, 0, 1, 1, 1], .blk 0, .c [1, 1]] rfl ?_
    refine j_if rfl rfl (fun h5 => ?_) (fun h5 => by exfalso; omega)
    refine j_nf [.o [1, 0, 0, 1, 1, 1, 0, 0] 0, .c [1, 0, 0, 1, 1, 1, 0, 1], .blk 0, .c [1, 1]] rfl ?_
    refine j_run it 2 rfl (by simp) ?_
    refine j_nf [.c [1, 0, 0, 1, 1, 1, 0, 1], .blk 0, .c [1, 1]] rfl ?_
    refine j_add (slF RatE none 0 0 []) (fun w A _ => slF_nil _ _ _ _ _) ?_
    refine j_giv [0] rfl rfl rfl ⟨_, _, rfl, rfl, rfl⟩
  have h0 : 0 < W.length := by omega
  have hz0 : W[0]? = some (W.getD 0 default) := getD_at h0
  refine j_nf [.o [0] 0, .c [1]] rfl ?_
  refine j_run it 2 rfl (by simp) ?_
  refine j_nf [.o [1, 0, 0, 0] 0, .c [1, 0, 0, 1], .blk 0, .c [1, 1]] rfl ?_
  refine j_run it 3 rfl (by simp) ?_
  refine j_split_dec (t := 26) rfl (fun h3 => by exfalso; omega) (fun h3 => ?_)
  refine j_run it 4 rfl (by simp) ?_
  refine j_nf [.c [1, 0, 0, 1], .blk 0, .c [1, 1]] rfl ?_
  refine j_if rfl rfl (fun h4 => by exfalso; omega) (fun h4 => ?_)
  refine j_nf [.o [1, 0, 0, 1, 1, 0] 0, .c [1, 0, 0, 1, 1, 1], .blk 0, .c [1, 1]] rfl ?_
  refine j_run it 1 rfl (by simp) ?_
  refine j_step rfl (x_len sl22 rfl ?_)
  refine j_run it 2 rfl (by simp) ?_
  refine j_nf [.c [1, 0, 0, 1, 1, 1], .blk 0, .c [1, 1]] rfl ?_
  refine j_if rfl rfl (fun h5 => by exfalso; omega) (fun h5 => ?_)
  refine j_nf [.o [1, 0, 0, 1, 1, 1, 1, 0] 0, .c [1, 0, 0, 1, 1, 1, 1, 1], .blk 0, .c [1, 1]] rfl ?_
  refine j_run it 1 rfl (by simp) ?_
  refine j_step rfl (x_idx 0 0 rfl rfl rfl sl22 (by omega) (by omega) fun z1 hz1 b1 o1 => ?_)
  refine j_step rfl (x_ld_sl 0 rfl rfl ld31 fun pa1 ca1 => ?_)
  refine j_step rfl (x_len sl31 rfl ?_)
  refine j_run it 2 rfl (by simp) ?_
  refine j_split_dec (t := 40) rfl (fun h6 => ?_) (fun h6 => ?_)
  · obtain rfl : z1 = W.getD 0 default := Option.some.inj (hz1.symm.trans hz0)
    have e : wordsE q W = 4 := by rw [wordsE, if_neg h1, if_neg h2, if_pos (.inl (by omega))]
    rw [bad e (by decide), e]
    refine j_run it 7 rfl (by simp) ?_
    refine j_nf [.c [1, 0, 0, 1, 1, 1, 1, 1], .blk 0, .c [1, 1]] rfl ?_
    refine j_true rfl rfl ?_
    refine j_nf [.o [1, 0, 0, 1, 1, 1, 1, 1, 0, 0] 0, .c [1, 0, 0, 1, 1, 1, 1, 1, 0, 1], .blk 0, .c [1, 1]] rfl ?_
    refine j_run it 2 rfl (by simp) ?_
    refine j_nf [.c [1, 0, 0, 1, 1, 1, 1, 1, 0, 1], .blk 0, .c [1, 1]] rfl ?_
    refine j_add (slF RatE none 0 0 []) (fun w A _ => slF_nil _ _ _ _ _) ?_
    refine j_giv [0] rfl rfl rfl ⟨_, _, rfl, rfl, rfl⟩
  · obtain rfl : z1 = W.getD 0 default := Option.some.inj (hz1.symm.trans hz0)
    refine j_run it 1 rfl (by simp) ?_
    refine j_gstep rfl rfl (x_idx 2 0 rfl rfl rfl sl22 (by omega) (by omega) fun z1 hz2 b2 o2 => ?_)
    refine j_gstep rfl rfl (x_ld_sl 0 rfl rfl ld31 fun pa2 ca2 => ?_)
    refine j_gstep rfl rfl (x_len sl31 rfl ?_)
    refine j_run it 3 rfl (by simp) ?_
    refine j_nf [.c [1, 0, 0, 1, 1, 1, 1, 1], .blk 0, .c [1, 1]] rfl ?_
    refine j_if rfl rfl (fun h7 => ?_) (fun h7 => ?_)
    · obtain rfl : z1 = W.getD 0 default := Option.some.inj (hz2.symm.trans hz0)
      have e : wordsE q W = 4 := by rw [wordsE, if_neg h1, if_neg h2, if_pos (.inr (by omega))]
      rw [bad e (by decide), e]
      refine j_nf [.o [1, 0, 0, 1, 1, 1, 1, 1, 0, 0] 0, .c [1, 0, 0, 1, 1, 1, 1, 1, 0, 1], .blk 0, .c [1, 1]] rfl ?_
      refine j_run it 2 rfl (by simp) ?_
      refine j_nf [.c [1, 0, 0, 1, 1, 1, 1, 1, 0, 1], .blk 0, .c [1, 1]] rfl ?_
      refine j_add (slF RatE none 0 0 []) (fun w A _ => slF_nil _ _ _ _ _) ?_
      refine j_giv [0] rfl rfl rfl ⟨_, _, rfl, rfl, rfl⟩
    · obtain rfl : z1 = W.getD 0 default := Option.some.inj (hz2.symm.trans hz0)
      have eS : wordsE q W = scanW q (W.getD 0 default).length W := by rw [wordsE, if_neg h1, if_neg h2, if_neg (by omega)]
      have hl1 : ¬ (W.getD 0 default).length < 1 := by omega
      have hl2 : (W.getD 0 default).length ≤ 64 := by omega
      refine j_nf [.o [1, 1, 0] 0, .c [1, 1, 1]] rfl ?_
      refine j_run it 1 rfl (by simp) ?_
      refine j_step rfl (x_idx 4 0 rfl rfl rfl sl22 (by omega) (by omega) fun z1 hz3 b3 o3 => ?_)
      refine j_step rfl (x_ld_sl 0 rfl rfl ld31 fun pa3 ca3 => ?_)
      refine j_step rfl (x_len sl31 rfl ?_)
      refine j_run it 1 rfl (by simp) ?_
      refine j_nf [.o [1, 1, 1, 0, 0] 0, .c [1, 1, 1, 0, 1], .c [1, 1, 1, 1]] rfl ?_
      refine j_run it 1 rfl (by simp) ?_
      refine j_step rfl (x_len sl22 rfl ?_)
      refine j_run it 1 rfl (by simp) ?_
      refine j_nf [.c [1, 1, 1, 0, 1, 0], .blk 1, .c [1, 1, 1, 1]] rfl ?_
      obtain rfl : z1 = W.getD 0 default := Option.some.inj (hz3.symm.trans hz0)
      refine j_loopG (X := Nat) [0, 1, 6, 51, 52] [0, 1, 2, 3, 4, 5, 6] (fun k => [(53, .int .i64 k)]) (fun _ => []) (fun _ => []) (fun k => k ≤ W.length ∧ scanW q (W.getD 0 default).length (W.take k) = 0) (fun k => W.length - k) 0 [] rfl rfl rfl ⟨Nat.zero_le _, rfl⟩ (by repeat (first | exact Fr.sub_nil _ | refine Fr.sub_cons rfl ?_)) rfl rfl ?_
      rintro k ⟨hk, hp⟩ ih
      simp only [List.cons_append, List.nil_append] at hk hp ih ⊢
      by_cases hkl : k < W.length
      · have hzk := getD_at hkl
        refine j_nf [.o [1, 1, 1, 0, 1, 0, 0, 0] 0, .c [1, 1, 1, 0, 1, 0, 0, 1], .lp [1, 1, 1, 0, 1, 0, 0], .blk 1, .c [1, 1, 1, 1]] rfl ?_
        refine j_run it 1 rfl (by simp) ?_
        refine j_nf [.c [1, 1, 1, 0, 1, 0, 0, 1, 0], .c [1, 1, 1, 0, 1, 0, 0, 1, 1], .lp [1, 1, 1, 0, 1, 0, 0], .blk 1, .c [1, 1, 1, 1]] rfl ?_
        refine j_if rfl rfl (fun h8 => ?_) (fun h8 => by exfalso; omega)
        refine j_nf [.o [1, 1, 1, 0, 1, 0, 0, 1, 1, 0, 0, 0] 0, .c [1, 1, 1, 0, 1, 0, 0, 1, 1, 0, 0, 1], .blk 2, .c [1, 1, 1, 0, 1, 0, 0, 1, 1, 1], .lp [1, 1, 1, 0, 1, 0, 0], .blk 1, .c [1, 1, 1, 1]] rfl ?_
        refine j_step rfl (x_idx 6 (k) rfl rfl rfl sl22 rfl (by omega) fun z1 hz4 b4 o4 => ?_)
        refine j_step rfl (x_ld_sl 0 rfl rfl ld31 fun pa4 ca4 => ?_)
        refine j_run it 1 rfl (by simp) ?_
        refine j_nf [.o [1, 1, 1, 0, 1, 0, 0, 1, 1, 0, 0, 1, 0, 0] 0, .c [1, 1, 1, 0, 1, 0, 0, 1, 1, 0, 0, 1, 0, 1], .c [1, 1, 1, 0, 1, 0, 0, 1, 1, 0, 0, 1, 1], .blk 2, .c [1, 1, 1, 0, 1, 0, 0, 1, 1, 1], .lp [1, 1, 1, 0, 1, 0, 0], .blk 1, .c [1, 1, 1, 1]] rfl ?_
        refine j_run it 1 rfl (by simp) ?_
        refine j_step rfl (x_len sl31 rfl ?_)
        refine j_run it 2 rfl (by simp) ?_
        refine j_nf [.c [1, 1, 1, 0, 1, 0, 0, 1, 1, 0, 0, 1, 0, 1], .c [1, 1, 1, 0, 1, 0, 0, 1, 1, 0, 0, 1, 1], .blk 2, .c [1, 1, 1, 0, 1, 0, 0, 1, 1, 1], .lp [1, 1, 1, 0, 1, 0, 0], .blk 1, .c [1, 1, 1, 1]] rfl ?_
        refine j_ifn rfl rfl (fun h9 => ?_) (fun h9 => ?_)
        · obtain rfl : z1 = W.getD k default := Option.some.inj (hz4.symm.trans hzk)
          have hl : (W.getD k default).length ≠ (W.getD 0 default).length := by omega
          have e : wordsE q W = 3 := by rw [eS]; exact scan_shape hzk hp hl
          rw [bad e (by decide), e]
          refine j_nf [.o [1, 1, 1, 0, 1, 0, 0, 1, 1, 0, 0, 1, 0, 1, 0, 0] 0, .c [1, 1, 1, 0, 1, 0, 0, 1, 1, 0, 0, 1, 0, 1, 0, 1], .c [1, 1, 1, 0, 1, 0, 0, 1, 1, 0, 0, 1, 1], .blk 2, .c [1, 1, 1, 0, 1, 0, 0, 1, 1, 1], .lp [1, 1, 1, 0, 1, 0, 0], .blk 1, .c [1, 1, 1, 1]] rfl ?_
          refine j_run it 2 rfl (by simp) ?_
          refine j_nf [.c [1, 1, 1, 0, 1, 0, 0, 1, 1, 0, 0, 1, 0, 1, 0, 1], .c [1, 1, 1, 0, 1, 0, 0, 1, 1, 0, 0, 1, 1], .blk 2, .c [1, 1, 1, 0, 1, 0, 0, 1, 1, 1], .lp [1, 1, 1, 0, 1, 0, 0], .blk 1, .c [1, 1, 1, 1]] rfl ?_
          refine j_add (slF RatE none 0 0 []) (fun w A _ => slF_nil _ _ _ _ _) ?_
          refine j_giv [0] rfl rfl rfl ⟨_, _, rfl, rfl, rfl⟩
        · obtain rfl : z1 = W.getD k default := Option.some.inj (hz4.symm.trans hzk)
          have hl : (W.getD k default).length = (W.getD 0 default).length := by omega
          refine j_nf [.o [1, 1, 1, 0, 1, 0, 0, 1, 1, 0, 0, 1, 1, 0] 0, .c [1, 1, 1, 0, 1, 0, 0, 1, 1, 0, 0, 1, 1, 1], .blk 2, .c [1, 1, 1, 0, 1, 0, 0, 1, 1, 1], .lp [1, 1, 1, 0, 1, 0, 0], .blk 1, .c [1, 1, 1, 1]] rfl ?_
          refine j_run it 1 rfl (by simp) ?_
          refine j_step rfl (x_len sl31 rfl ?_)
          refine j_run it 1 rfl (by simp) ?_
          refine j_nf [.c [1, 1, 1, 0, 1, 0, 0, 1, 1, 0, 0, 1, 1, 1, 0], .blk 3, .blk 2, .c [1, 1, 1, 0, 1, 0, 0, 1, 1, 1], .lp [1, 1, 1, 0, 1, 0, 0], .blk 1, .c [1, 1, 1, 1]] rfl ?_
          refine j_loopG (X := Nat) [0, 1, 6, 8, 51, 52, 53, 54, 55, 56, 57, 58, 59, 60, 61, 62] [0, 1, 2, 3, 4, 5, 6, 7, 8] (fun j => [(63, .int .i64 j)]) (fun _ => []) (fun _ => []) (fun j => j ≤ (W.getD k default).length ∧ okW q ((W.getD k default).take j) = true) (fun j => (W.getD k default).length - j) 0 [] rfl rfl rfl ⟨Nat.zero_le _, rfl⟩ (by repeat (first | exact Fr.sub_nil _ | refine Fr.sub_cons rfl ?_)) rfl rfl ?_
          rintro j ⟨hj, hq⟩ ihj
          simp only [List.cons_append, List.nil_append] at hj hq ihj ⊢
          by_cases hjl : j < (W.getD k default).length
          · refine j_nf [.o [1, 1, 1, 0, 1, 0, 0, 1, 1, 0, 0, 1, 1, 1, 0, 0, 0] 0, .c [1, 1, 1, 0, 1, 0, 0, 1, 1, 0, 0, 1, 1, 1, 0, 0, 1], .lp [1, 1, 1, 0, 1, 0, 0, 1, 1, 0, 0, 1, 1, 1, 0, 0], .blk 3, .blk 2, .c [1, 1, 1, 0, 1, 0, 0, 1, 1, 1], .lp [1, 1, 1, 0, 1, 0, 0], .blk 1, .c [1, 1, 1, 1]] rfl ?_
            refine j_run it 1 rfl (by simp) ?_
            refine j_nf [.c [1, 1, 1, 0, 1, 0, 0, 1, 1, 0, 0, 1, 1, 1, 0, 0, 1, 0], .c [1, 1, 1, 0, 1, 0, 0, 1, 1, 0, 0, 1, 1, 1, 0, 0, 1, 1], .lp [1, 1, 1, 0, 1, 0, 0, 1, 1, 0, 0, 1, 1, 1, 0, 0], .blk 3, .blk 2, .c [1, 1, 1, 0, 1, 0, 0, 1, 1, 1], .lp [1, 1, 1, 0, 1, 0, 0], .blk 1, .c [1, 1, 1, 1]] rfl ?_
            refine j_if rfl rfl (fun h10 => ?_) (fun h10 => by exfalso; omega)
            refine j_nf [.o [1, 1, 1, 0, 1, 0, 0, 1, 1, 0, 0, 1, 1, 1, 0, 0, 1, 1, 0, 0, 0] 0, .c [1, 1, 1, 0, 1, 0, 0, 1, 1, 0, 0, 1, 1, 1, 0, 0, 1, 1, 0, 0, 1], .blk 4, .c [1, 1, 1, 0, 1, 0, 0, 1, 1, 0, 0, 1, 1, 1, 0, 0, 1, 1, 1], .lp [1, 1, 1, 0, 1, 0, 0, 1, 1, 0, 0, 1, 1, 1, 0, 0], .blk 3, .blk 2, .c [1, 1, 1, 0, 1, 0, 0, 1, 1, 1], .lp [1, 1, 1, 0, 1, 0, 0], .blk 1, .c [1, 1, 1, 1]] rfl ?_
            refine j_step rfl (x_idx 0 (j) rfl rfl rfl sl31 rfl (by omega) fun z1 hz5 b5 o5 => ?_)
            refine j_step rfl (x_ld_int 0 rfl rfl ld3 fun ⟨r1, r2⟩ => ?_)
            refine j_run it 1 rfl (by simp) ?_
            refine j_nf [.o [1, 1, 1, 0, 1, 0, 0, 1, 1, 0, 0, 1, 1, 1, 0, 0, 1, 1, 0, 0, 1, 0] 0, .c [1, 1, 1, 0, 1, 0, 0, 1, 1, 0, 0, 1, 1, 1, 0, 0, 1, 1, 0, 0, 1, 1], .blk 4, .c [1, 1, 1, 0, 1, 0, 0, 1, 1, 0, 0, 1, 1, 1, 0, 0, 1, 1, 1], .lp [1, 1, 1, 0, 1, 0, 0, 1, 1, 0, 0, 1, 1, 1, 0, 0], .blk 3, .blk 2, .c [1, 1, 1, 0, 1, 0, 0, 1, 1, 1], .lp [1, 1, 1, 0, 1, 0, 0], .blk 1, .c [1, 1, 1, 1]] rfl ?_
            refine j_run it 3 rfl (by simp) ?_
            refine j_split_dec (t := 69) rfl (fun h11 => ?_) (fun h11 => ?_)
            · have e : wordsE q W = 2 := by rw [eS]; exact scan_elem hzk hp hl (okW_stop hz5 (by omega))
              rw [bad e (by decide), e]
              refine j_run it 4 rfl (by simp) ?_
              refine j_nf [.c [1, 1, 1, 0, 1, 0, 0, 1, 1, 0, 0, 1, 1, 1, 0, 0, 1, 1, 0, 0, 1, 1], .blk 4, .c [1, 1, 1, 0, 1, 0, 0, 1, 1, 0, 0, 1, 1, 1, 0, 0, 1, 1, 1], .lp [1, 1, 1, 0, 1, 0, 0, 1, 1, 0, 0, 1, 1, 1, 0, 0], .blk 3, .blk 2, .c [1, 1, 1, 0, 1, 0, 0, 1, 1, 1], .lp [1, 1, 1, 0, 1, 0, 0], .blk 1, .c [1, 1, 1, 1]] rfl ?_
              refine j_true rfl rfl ?_
              refine j_nf [.o [1, 1, 1, 0, 1, 0, 0, 1, 1, 0, 0, 1, 1, 1, 0, 0, 1, 1, 0, 0, 1, 1, 0, 0] 0, .c [1, 1, 1, 0, 1, 0, 0, 1, 1, 0, 0, 1, 1, 1, 0, 0, 1, 1, 0, 0, 1, 1, 0, 1], .blk 4, .c [1, 1, 1, 0, 1, 0, 0, 1, 1, 0, 0, 1, 1, 1, 0, 0, 1, 1, 1], .lp [1, 1, 1, 0, 1, 0, 0, 1, 1, 0, 0, 1, 1, 1, 0, 0], .blk 3, .blk 2, .c [1, 1, 1, 0, 1, 0, 0, 1, 1, 1], .lp [1, 1, 1, 0, 1, 0, 0], .blk 1, .c [1, 1, 1, 1]] rfl ?_
              refine j_run it 2 rfl (by simp) ?_
              refine j_nf [.c [1, 1, 1, 0, 1, 0, 0, 1, 1, 0, 0, 1, 1, 1, 0, 0, 1, 1, 0, 0, 1, 1, 0, 1], .blk 4, .c [1, 1, 1, 0, 1, 0, 0, 1, 1, 0, 0, 1, 1, 1, 0, 0, 1, 1, 1], .lp [1, 1, 1, 0, 1, 0, 0, 1, 1, 0, 0, 1, 1, 1, 0, 0], .blk 3, .blk 2, .c [1, 1, 1, 0, 1, 0, 0, 1, 1, 1], .lp [1, 1, 1, 0, 1, 0, 0], .blk 1, .c [1, 1, 1, 1]] rfl ?_
              refine j_add (slF RatE none 0 0 []) (fun w A _ => slF_nil _ _ _ _ _) ?_
              refine j_giv [0] rfl rfl rfl ⟨_, _, rfl, rfl, rfl⟩
            · refine j_run it 4 rfl (by simp) ?_
              refine j_nf [.c [1, 1, 1, 0, 1, 0, 0, 1, 1, 0, 0, 1, 1, 1, 0, 0, 1, 1, 0, 0, 1, 1], .blk 4, .c [1, 1, 1, 0, 1, 0, 0, 1, 1, 0, 0, 1, 1, 1, 0, 0, 1, 1, 1], .lp [1, 1, 1, 0, 1, 0, 0, 1, 1, 0, 0, 1, 1, 1, 0, 0], .blk 3, .blk 2, .c [1, 1, 1, 0, 1, 0, 0, 1, 1, 1], .lp [1, 1, 1, 0, 1, 0, 0], .blk 1, .c [1, 1, 1, 1]] rfl ?_
              refine j_if rfl rfl (fun h12 => ?_) (fun h12 => ?_)
              · have e : wordsE q W = 2 := by rw [eS]; exact scan_elem hzk hp hl (okW_stop hz5 (by omega))
                rw [bad e (by decide), e]
                refine j_nf [.o [1, 1, 1, 0, 1, 0, 0, 1, 1, 0, 0, 1, 1, 1, 0, 0, 1, 1, 0, 0, 1, 1, 0, 0] 0, .c [1, 1, 1, 0, 1, 0, 0, 1, 1, 0, 0, 1, 1, 1, 0, 0, 1, 1, 0, 0, 1, 1, 0, 1], .blk 4, .c [1, 1, 1, 0, 1, 0, 0, 1, 1, 0, 0, 1, 1, 1, 0, 0, 1, 1, 1], .lp [1, 1, 1, 0, 1, 0, 0, 1, 1, 0, 0, 1, 1, 1, 0, 0], .blk 3, .blk 2, .c [1, 1, 1, 0, 1, 0, 0, 1, 1, 1], .lp [1, 1, 1, 0, 1, 0, 0], .blk 1, .c [1, 1, 1, 1]] rfl ?_
                refine j_run it 2 rfl (by simp) ?_
                refine j_nf [.c [1, 1, 1, 0, 1, 0, 0, 1, 1, 0, 0, 1, 1, 1, 0, 0, 1, 1, 0, 0, 1, 1, 0, 1], .blk 4, .c [1, 1, 1, 0, 1, 0, 0, 1, 1, 0, 0, 1, 1, 1, 0, 0, 1, 1, 1], .lp [1, 1, 1, 0, 1, 0, 0, 1, 1, 0, 0, 1, 1, 1, 0, 0], .blk 3, .blk 2, .c [1, 1, 1, 0, 1, 0, 0, 1, 1, 1], .lp [1, 1, 1, 0, 1, 0, 0], .blk 1, .c [1, 1, 1, 1]] rfl ?_
                refine j_add (slF RatE none 0 0 []) (fun w A _ => slF_nil _ _ _ _ _) ?_
                refine j_giv [0] rfl rfl rfl ⟨_, _, rfl, rfl, rfl⟩
              · refine j_nf [.o [1, 1, 1, 0, 1, 0, 0, 1, 1, 0, 0, 1, 1, 1, 0, 0, 1, 1, 1] 0, .lp [1, 1, 1, 0, 1, 0, 0, 1, 1, 0, 0, 1, 1, 1, 0, 0], .blk 3, .blk 2, .c [1, 1, 1, 0, 1, 0, 0, 1, 1, 1], .lp [1, 1, 1, 0, 1, 0, 0], .blk 1, .c [1, 1, 1, 1]] rfl ?_
                refine j_run it 2 rfl (by repeat' first | exact trivial | apply And.intro | omega) ?_
                refine j_nfn 1 [.lp [1, 1, 1, 0, 1, 0, 0, 1, 1, 0, 0, 1, 1, 1, 0, 0], .blk 3, .blk 2, .c [1, 1, 1, 0, 1, 0, 0, 1, 1, 1], .lp [1, 1, 1, 0, 1, 0, 0], .blk 1, .c [1, 1, 1, 1]] rfl ?_
                refine j_to [1, 2, 3, 4, 5, 6, 7, 8, 9] (by repeat (first | exact Fr.sub_nil _ | refine Fr.sub_cons rfl ?_ | refine Fr.sub_consI rfl (by first | omega | (dsimp only; omega)) ?_ | refine Fr.sub_consS rfl (by first | omega | (dsimp only; omega)) (by first | omega | (dsimp only; omega)) ?_)) rfl rfl (ihj (j + 1) (by omega) ⟨by omega, okW_step hz5 hq (by omega)⟩)
          · have ej : j = (W.getD k default).length := by omega
            subst ej
            rw [List.take_length] at hq
            refine j_nf [.o [1, 1, 1, 0, 1, 0, 0, 1, 1, 0, 0, 1, 1, 1, 0, 0, 0] 0, .c [1, 1, 1, 0, 1, 0, 0, 1, 1, 0, 0, 1, 1, 1, 0, 0, 1], .lp [1, 1, 1, 0, 1, 0, 0, 1, 1, 0, 0, 1, 1, 1, 0, 0], .blk 3, .blk 2, .c [1, 1, 1, 0, 1, 0, 0, 1, 1, 1], .lp [1, 1, 1, 0, 1, 0, 0], .blk 1, .c [1, 1, 1, 1]] rfl ?_
            refine j_run it 1 rfl (by simp) ?_
            refine j_nf [.c [1, 1, 1, 0, 1, 0, 0, 1, 1, 0, 0, 1, 1, 1, 0, 0, 1, 0], .c [1, 1, 1, 0, 1, 0, 0, 1, 1, 0, 0, 1, 1, 1, 0, 0, 1, 1], .lp [1, 1, 1, 0, 1, 0, 0, 1, 1, 0, 0, 1, 1, 1, 0, 0], .blk 3, .blk 2, .c [1, 1, 1, 0, 1, 0, 0, 1, 1, 1], .lp [1, 1, 1, 0, 1, 0, 0], .blk 1, .c [1, 1, 1, 1]] rfl ?_
            refine j_if rfl rfl (fun h10 => by exfalso; omega) (fun h10 => ?_)
            refine j_nf [.o [1, 1, 1, 0, 1, 0, 0, 1, 1, 1] 0, .lp [1, 1, 1, 0, 1, 0, 0], .blk 1, .c [1, 1, 1, 1]] rfl ?_
            refine j_run it 2 rfl (by repeat' first | exact trivial | apply And.intro | omega) ?_
            refine j_nfn 1 [.lp [1, 1, 1, 0, 1, 0, 0], .blk 1, .c [1, 1, 1, 1]] rfl ?_
            refine j_to [2, 3, 4, 5, 6, 7, 8] (by repeat (first | exact Fr.sub_nil _ | refine Fr.sub_cons rfl ?_ | refine Fr.sub_consI rfl (by first | omega | (dsimp only; omega)) ?_ | refine Fr.sub_consS rfl (by first | omega | (dsimp only; omega)) (by first | omega | (dsimp only; omega)) ?_)) rfl rfl (ih (k + 1) (by omega) ⟨by omega, scan_step hzk hp hl hq⟩)
      · obtain rfl : W.length = k := by omega
        rw [List.take_length] at hp
        have hok := scan_all hp
        have e : wordsE q W = 0 := eS.trans hp
        rw [disL, if_pos e, e]
        refine j_nf [.o [1, 1, 1, 0, 1, 0, 0, 0] 0, .c [1, 1, 1, 0, 1, 0, 0, 1], .lp [1, 1, 1, 0, 1, 0, 0], .blk 1, .c [1, 1, 1, 1]] rfl ?_
        refine j_run it 1 rfl (by simp) ?_
        refine j_nf [.c [1, 1, 1, 0, 1, 0, 0, 1, 0], .c [1, 1, 1, 0, 1, 0, 0, 1, 1], .lp [1, 1, 1, 0, 1, 0, 0], .blk 1, .c [1, 1, 1, 1]] rfl ?_
        refine j_if rfl rfl (fun h8 => by exfalso; omega) (fun h8 => ?_)
        refine j_nf [.o [1, 1, 1, 1, 0] 0, .c [1, 1, 1, 1, 1]] rfl ?_
        refine j_run it 2 rfl (by repeat' first | exact trivial | apply And.intro | omega) ?_
        refine j_step rfl (x_make_nat (((W.getD 0 default).length) + 1) _ rfl rfl sl31 zo31e by31e (by omega) (by omega) (by omega) fun b4 => ?_)
        refine j_run it 1 rfl (by simp) ?_
        refine j_nf [.o [1, 1, 1, 1, 1, 0, 0] 0, .c [1, 1, 1, 1, 1, 0, 1], .c [1, 1, 1, 1, 1, 1]] rfl ?_
        refine j_run it 1 rfl (by simp) ?_
        refine j_step rfl (x_len sl22 rfl ?_)
        refine j_run it 1 rfl (by simp) ?_
        refine j_nf [.c [1, 1, 1, 1, 1, 0, 1, 0], .blk 5, .c [1, 1, 1, 1, 1, 1]] rfl ?_
        have hw : ∀ i, i < W.length → (wAt W i).length = (W.getD 0 default).length := fun i hi => (hok _ (List.mem_of_getElem? (getD_at hi))).1
        generalize hm : (W.getD 0 default).length = m at *
        have hrep : List.replicate (m + 1) 0 = (List.range (m + 1)).map (cntN W 0 0) := by
          refine List.ext_getElem? fun d => ?_
          by_cases hd : d < m + 1
          · rw [List.getElem?_replicate, if_pos hd, List.getElem?_map, List.getElem?_range hd]
            show some 0 = some _
            rw [cntN_zero]
          · rw [List.getElem?_eq_none (by simp; omega), List.getElem?_eq_none (by simp; omega)]
        rw [hrep]
        clear ih
        refine j_loopG (X := Nat) [1, 11, 79, 80] [0, 1, 2, 3, 4, 5, 6] (fun i => [(81, .int .i64 i)]) (fun i => [(some b4, 3, natCells .i64 ((List.range (m + 1)).map (cntN W i 0)))]) (fun _ => []) (fun i => i ≤ W.length) (fun i => W.length - i) 0 [] rfl rfl rfl (Nat.zero_le _) (by repeat (first | exact Fr.sub_nil _ | refine Fr.sub_cons rfl ?_)) rfl rfl ?_
        intro i hi ih
        simp only [List.cons_append, List.nil_append] at ih ⊢
        by_cases hil : i < W.length
        · refine j_nf [.o [1, 1, 1, 1, 1, 0, 1, 0, 0, 0] 0, .c [1, 1, 1, 1, 1, 0, 1, 0, 0, 1], .lp [1, 1, 1, 1, 1, 0, 1, 0, 0], .blk 5, .c [1, 1, 1, 1, 1, 1]] rfl ?_
          refine j_run it 1 rfl (by simp) ?_
          refine j_nf [.c [1, 1, 1, 1, 1, 0, 1, 0, 0, 1, 0], .c [1, 1, 1, 1, 1, 0, 1, 0, 0, 1, 1], .lp [1, 1, 1, 1, 1, 0, 1, 0, 0], .blk 5, .c [1, 1, 1, 1, 1, 1]] rfl ?_
          refine j_if rfl rfl (fun h9 => ?_) (fun h9 => by exfalso; omega)
          refine j_nf [.o [1, 1, 1, 1, 1, 0, 1, 0, 0, 1, 1, 0, 0, 0] 0, .c [1, 1, 1, 1, 1, 0, 1, 0, 0, 1, 1, 0, 0, 1], .blk 6, .c [1, 1, 1, 1, 1, 0, 1, 0, 0, 1, 1, 1], .lp [1, 1, 1, 1, 1, 0, 1, 0, 0], .blk 5, .c [1, 1, 1, 1, 1, 1]] rfl ?_
          refine j_step rfl (x_idx 6 (i) rfl rfl rfl sl22 rfl (by omega) fun z1 hz4 b5 o4 => ?_)
          refine j_step rfl (x_ld_sl 0 rfl rfl ld31 fun pa4 ca4 => ?_)
          refine j_run it 1 rfl (by simp) ?_
          refine j_nf [.o [1, 1, 1, 1, 1, 0, 1, 0, 0, 1, 1, 0, 0, 1, 0] 0, .c [1, 1, 1, 1, 1, 0, 1, 0, 0, 1, 1, 0, 0, 1, 1], .blk 6, .c [1, 1, 1, 1, 1, 0, 1, 0, 0, 1, 1, 1], .lp [1, 1, 1, 1, 1, 0, 1, 0, 0], .blk 5, .c [1, 1, 1, 1, 1, 1]] rfl ?_
          refine j_run it 1 rfl (by simp) ?_
          refine j_step rfl (x_len sl22 rfl ?_)
          refine j_run it 1 rfl (by simp) ?_
          refine j_nf [.c [1, 1, 1, 1, 1, 0, 1, 0, 0, 1, 1, 0, 0, 1, 1, 0], .blk 7, .blk 6, .c [1, 1, 1, 1, 1, 0, 1, 0, 0, 1, 1, 1], .lp [1, 1, 1, 1, 1, 0, 1, 0, 0], .blk 5, .c [1, 1, 1, 1, 1, 1]] rfl ?_
          have ez : z1 = wAt W i := (getD_some (by assumption : W[i]? = some z1)).symm
          subst ez
          refine j_loopG (X := Nat) [1, 11, 13, 79, 80, 81, 82, 83, 84, 85, 86] [0, 1, 2, 3, 4, 5, 6, 7, 8] (fun j => [(87, .int .i64 j)]) (fun j => [(some b4, 3, natCells .i64 ((List.range (m + 1)).map (cntN W i j)))]) (fun _ => []) (fun j => j ≤ W.length) (fun j => W.length - j) 0 [] rfl rfl rfl (Nat.zero_le _) (by repeat (first | exact Fr.sub_nil _ | refine Fr.sub_cons rfl ?_)) rfl rfl ?_
          intro j hj ihj
          simp only [List.cons_append, List.nil_append] at ihj ⊢
          by_cases hjl : j < W.length
          · refine j_nf [.o [1, 1, 1, 1, 1, 0, 1, 0, 0, 1, 1, 0, 0, 1, 1, 0, 0, 0] 0, .c [1, 1, 1, 1, 1, 0, 1, 0, 0, 1, 1, 0, 0, 1, 1, 0, 0, 1], .lp [1, 1, 1, 1, 1, 0, 1, 0, 0, 1, 1, 0, 0, 1, 1, 0, 0], .blk 7, .blk 6, .c [1, 1, 1, 1, 1, 0, 1, 0, 0, 1, 1, 1], .lp [1, 1, 1, 1, 1, 0, 1, 0, 0], .blk 5, .c [1, 1, 1, 1, 1, 1]] rfl ?_
            refine j_run it 1 rfl (by simp) ?_
            refine j_nf [.c [1, 1, 1, 1, 1, 0, 1, 0, 0, 1, 1, 0, 0, 1, 1, 0, 0, 1, 0], .c [1, 1, 1, 1, 1, 0, 1, 0, 0, 1, 1, 0, 0, 1, 1, 0, 0, 1, 1], .lp [1, 1, 1, 1, 1, 0, 1, 0, 0, 1, 1, 0, 0, 1, 1, 0, 0], .blk 7, .blk 6, .c [1, 1, 1, 1, 1, 0, 1, 0, 0, 1, 1, 1], .lp [1, 1, 1, 1, 1, 0, 1, 0, 0], .blk 5, .c [1, 1, 1, 1, 1, 1]] rfl ?_
            refine j_if rfl rfl (fun h10 => ?_) (fun h10 => by exfalso; omega)
            refine j_nf [.o [1, 1, 1, 1, 1, 0, 1, 0, 0, 1, 1, 0, 0, 1, 1, 0, 0, 1, 1, 0, 0, 0] 0, .c [1, 1, 1, 1, 1, 0, 1, 0, 0, 1, 1, 0, 0, 1, 1, 0, 0, 1, 1, 0, 0, 1], .blk 8, .c [1, 1, 1, 1, 1, 0, 1, 0, 0, 1, 1, 0, 0, 1, 1, 0, 0, 1, 1, 1], .lp [1, 1, 1, 1, 1, 0, 1, 0, 0, 1, 1, 0, 0, 1, 1, 0, 0], .blk 7, .blk 6, .c [1, 1, 1, 1, 1, 0, 1, 0, 0, 1, 1, 1], .lp [1, 1, 1, 1, 1, 0, 1, 0, 0], .blk 5, .c [1, 1, 1, 1, 1, 1]] rfl ?_
            refine j_step rfl (x_idx 8 (j) rfl rfl rfl sl22 rfl (by omega) fun z1 hz5 b6 o5 => ?_)
            refine j_step rfl (x_ld_sl 0 rfl rfl ld31 fun pa5 ca5 => ?_)
            refine j_run it 1 rfl (by simp) ?_
            refine j_nf [.o [1, 1, 1, 1, 1, 0, 1, 0, 0, 1, 1, 0, 0, 1, 1, 0, 0, 1, 1, 0, 0, 1, 0] 0, .c [1, 1, 1, 1, 1, 0, 1, 0, 0, 1, 1, 0, 0, 1, 1, 0, 0, 1, 1, 0, 0, 1, 1], .blk 8, .c [1, 1, 1, 1, 1, 0, 1, 0, 0, 1, 1, 0, 0, 1, 1, 0, 0, 1, 1, 1], .lp [1, 1, 1, 1, 1, 0, 1, 0, 0, 1, 1, 0, 0, 1, 1, 0, 0], .blk 7, .blk 6, .c [1, 1, 1, 1, 1, 0, 1, 0, 0, 1, 1, 1], .lp [1, 1, 1, 1, 1, 0, 1, 0, 0], .blk 5, .c [1, 1, 1, 1, 1, 1]] rfl ?_
            refine j_run it 1 rfl (by simp) ?_
            refine j_nf [.o [1, 1, 1, 1, 1, 0, 1, 0, 0, 1, 1, 0, 0, 1, 1, 0, 0, 1, 1, 0, 0, 1, 1, 0, 0] 0, .c [1, 1, 1, 1, 1, 0, 1, 0, 0, 1, 1, 0, 0, 1, 1, 0, 0, 1, 1, 0, 0, 1, 1, 0, 1], .c [1, 1, 1, 1, 1, 0, 1, 0, 0, 1, 1, 0, 0, 1, 1, 0, 0, 1, 1, 0, 0, 1, 1, 1], .blk 8, .c [1, 1, 1, 1, 1, 0, 1, 0, 0, 1, 1, 0, 0, 1, 1, 0, 0, 1, 1, 1], .lp [1, 1, 1, 1, 1, 0, 1, 0, 0, 1, 1, 0, 0, 1, 1, 0, 0], .blk 7, .blk 6, .c [1, 1, 1, 1, 1, 0, 1, 0, 0, 1, 1, 1], .lp [1, 1, 1, 1, 1, 0, 1, 0, 0], .blk 5, .c [1, 1, 1, 1, 1, 1]] rfl ?_
            refine j_run it 1 rfl (by simp) ?_
            refine j_step rfl (x_len sl31 rfl ?_)
            refine j_run it 1 rfl (by simp) ?_
            refine j_nf [.c [1, 1, 1, 1, 1, 0, 1, 0, 0, 1, 1, 0, 0, 1, 1, 0, 0, 1, 1, 0, 0, 1, 1, 0, 1, 0], .blk 9, .c [1, 1, 1, 1, 1, 0, 1, 0, 0, 1, 1, 0, 0, 1, 1, 0, 0, 1, 1, 0, 0, 1, 1, 1], .blk 8, .c [1, 1, 1, 1, 1, 0, 1, 0, 0, 1, 1, 0, 0, 1, 1, 0, 0, 1, 1, 1], .lp [1, 1, 1, 1, 1, 0, 1, 0, 0, 1, 1, 0, 0, 1, 1, 0, 0], .blk 7, .blk 6, .c [1, 1, 1, 1, 1, 0, 1, 0, 0, 1, 1, 1], .lp [1, 1, 1, 1, 1, 0, 1, 0, 0], .blk 5, .c [1, 1, 1, 1, 1, 1]] rfl ?_
            have ez : z1 = wAt W j := (getD_some (by assumption : W[j]? = some z1)).symm
            subst ez
            have l1 := hw i hil
            have l2 := hw j hjl
            refine j_loopG (X := Nat) [1, 11, 13, 15, 79, 80, 81, 82, 83, 84, 85, 86, 87, 88, 89, 90, 91, 92] [0, 1, 2, 3, 4, 5, 6, 7, 8, 9, 10] (fun k => [(93, .int .i64 k), (16, .int .i64 ((distP (wAt W i) (wAt W j) k : Nat) : Int))]) (fun _ => [(some b4, 3, natCells .i64 ((List.range (m + 1)).map (cntN W i j)))]) (fun _ => []) (fun k => k ≤ m) (fun k => m - k) 0 [] rfl rfl rfl (Nat.zero_le _) (by repeat (first | exact Fr.sub_nil _ | refine Fr.sub_cons rfl ?_)) rfl rfl ?_
            intro k hk ihk
            simp only [List.cons_append, List.nil_append] at ihk ⊢
            have hd := distP_le (wAt W i) (wAt W j) k
            by_cases hkl : k < m
            · by_cases he : (wAt W i).getD k default = (wAt W j).getD k default
              · have e : distP (wAt W i) (wAt W j) (k + 1) = distP (wAt W i) (wAt W j) k := by rw [distP, if_pos he]; rfl
                refine j_nf [.o [1, 1, 1, 1, 1, 0, 1, 0, 0, 1, 1, 0, 0, 1, 1, 0, 0, 1, 1, 0, 0, 1, 1, 0, 1, 0, 0, 0] 0, .c [1, 1, 1, 1, 1, 0, 1, 0, 0, 1, 1, 0, 0, 1, 1, 0, 0, 1, 1, 0, 0, 1, 1, 0, 1, 0, 0, 1], .lp [1, 1, 1, 1, 1, 0, 1, 0, 0, 1, 1, 0, 0, 1, 1, 0, 0, 1, 1, 0, 0, 1, 1, 0, 1, 0, 0], .blk 9, .c [1, 1, 1, 1, 1, 0, 1, 0, 0, 1, 1, 0, 0, 1, 1, 0, 0, 1, 1, 0, 0, 1, 1, 1], .blk 8, .c [1, 1, 1, 1, 1, 0, 1, 0, 0, 1, 1, 0, 0, 1, 1, 0, 0, 1, 1, 1], .lp [1, 1, 1, 1, 1, 0, 1, 0, 0, 1, 1, 0, 0, 1, 1, 0, 0], .blk 7, .blk 6, .c [1, 1, 1, 1, 1, 0, 1, 0, 0, 1, 1, 1], .lp [1, 1, 1, 1, 1, 0, 1, 0, 0], .blk 5, .c [1, 1, 1, 1, 1, 1]] rfl ?_
                refine j_run it 1 rfl (by simp) ?_
                refine j_nf [.c [1, 1, 1, 1, 1, 0, 1, 0, 0, 1, 1, 0, 0, 1, 1, 0, 0, 1, 1, 0, 0, 1, 1, 0, 1, 0, 0, 1, 0], .c [1, 1, 1, 1, 1, 0, 1, 0, 0, 1, 1, 0, 0, 1, 1, 0, 0, 1, 1, 0, 0, 1, 1, 0, 1, 0, 0, 1, 1], .lp [1, 1, 1, 1, 1, 0, 1, 0, 0, 1, 1, 0, 0, 1, 1, 0, 0, 1, 1, 0, 0, 1, 1, 0, 1, 0, 0], .blk 9, .c [1, 1, 1, 1, 1, 0, 1, 0, 0, 1, 1, 0, 0, 1, 1, 0, 0, 1, 1, 0, 0, 1, 1, 1], .blk 8, .c [1, 1, 1, 1, 1, 0, 1, 0, 0, 1, 1, 0, 0, 1, 1, 0, 0, 1, 1, 1], .lp [1, 1, 1, 1, 1, 0, 1, 0, 0, 1, 1, 0, 0, 1, 1, 0, 0], .blk 7, .blk 6, .c [1, 1, 1, 1, 1, 0, 1, 0, 0, 1, 1, 1], .lp [1, 1, 1, 1, 1, 0, 1, 0, 0], .blk 5, .c [1, 1, 1, 1, 1, 1]] rfl ?_
                refine j_if rfl rfl (fun h11 => ?_) (fun h11 => by exfalso; omega)
                refine j_nf [.o [1, 1, 1, 1, 1, 0, 1, 0, 0, 1, 1, 0, 0, 1, 1, 0, 0, 1, 1, 0, 0, 1, 1, 0, 1, 0, 0, 1, 1, 0, 0, 0] 0, .c [1, 1, 1, 1, 1, 0, 1, 0, 0, 1, 1, 0, 0, 1, 1, 0, 0, 1, 1, 0, 0, 1, 1, 0, 1, 0, 0, 1, 1, 0, 0, 1], .blk 10, .c [1, 1, 1, 1, 1, 0, 1, 0, 0, 1, 1, 0, 0, 1, 1, 0, 0, 1, 1, 0, 0, 1, 1, 0, 1, 0, 0, 1, 1, 1], .lp [1, 1, 1, 1, 1, 0, 1, 0, 0, 1, 1, 0, 0, 1, 1, 0, 0, 1, 1, 0, 0, 1, 1, 0, 1, 0, 0], .blk 9, .c [1, 1, 1, 1, 1, 0, 1, 0, 0, 1, 1, 0, 0, 1, 1, 0, 0, 1, 1, 0, 0, 1, 1, 1], .blk 8, .c [1, 1, 1, 1, 1, 0, 1, 0, 0, 1, 1, 0, 0, 1, 1, 0, 0, 1, 1, 1], .lp [1, 1, 1, 1, 1, 0, 1, 0, 0, 1, 1, 0, 0, 1, 1, 0, 0], .blk 7, .blk 6, .c [1, 1, 1, 1, 1, 0, 1, 0, 0, 1, 1, 1], .lp [1, 1, 1, 1, 1, 0, 1, 0, 0], .blk 5, .c [1, 1, 1, 1, 1, 1]] rfl ?_
                refine j_run it 2 rfl (by simp) ?_
                refine j_nf [.c [1, 1, 1, 1, 1, 0, 1, 0, 0, 1, 1, 0, 0, 1, 1, 0, 0, 1, 1, 0, 0, 1, 1, 0, 1, 0, 0, 1, 1, 0, 0, 1, 0], .c [1, 1, 1, 1, 1, 0, 1, 0, 0, 1, 1, 0, 0, 1, 1, 0, 0, 1, 1, 0, 0, 1, 1, 0, 1, 0, 0, 1, 1, 0, 0, 1, 1], .blk 10, .c [1, 1, 1, 1, 1, 0, 1, 0, 0, 1, 1, 0, 0, 1, 1, 0, 0, 1, 1, 0, 0, 1, 1, 0, 1, 0, 0, 1, 1, 1], .lp [1, 1, 1, 1, 1, 0, 1, 0, 0, 1, 1, 0, 0, 1, 1, 0, 0, 1, 1, 0, 0, 1, 1, 0, 1, 0, 0], .blk 9, .c [1, 1, 1, 1, 1, 0, 1, 0, 0, 1, 1, 0, 0, 1, 1, 0, 0, 1, 1, 0, 0, 1, 1, 1], .blk 8, .c [1, 1, 1, 1, 1, 0, 1, 0, 0, 1, 1, 0, 0, 1, 1, 0, 0, 1, 1, 1], .lp [1, 1, 1, 1, 1, 0, 1, 0, 0, 1, 1, 0, 0, 1, 1, 0, 0], .blk 7, .blk 6, .c [1, 1, 1, 1, 1, 0, 1, 0, 0, 1, 1, 1], .lp [1, 1, 1, 1, 1, 0, 1, 0, 0], .blk 5, .c [1, 1, 1, 1, 1, 1]] rfl ?_
                (apply j_drawK it mx 9; (· rfl); (· rfl))
                (apply lxk_run 2; (· rfl); (· simp))
                (apply lxk_pt; (· rfl); (· exact d_x fun _ => x_idx 2 (k) rfl rfl rfl sl31 rfl (by omega) fun z1 hz6 b7 o6 => (dk_ptD default hz6 0 rfl)); intro b7 o6)
                (apply lxk_eq; (· rfl); (· exact d_x fun _ => x_ld_int 0 rfl rfl ld3 fun ⟨r1, r2⟩ => dk_eq))
                (apply lxk_run 2; (· rfl); (· simp))
                (apply lxk_pt; (· rfl); (· exact d_x fun _ => x_idx 0 (k) rfl rfl rfl sl31 rfl (by omega) fun z1 hz6 b8 o7 => (dk_ptD default hz6 0 rfl)); intro b8 o7)
                (apply lxk_eq; (· rfl); (· exact d_x fun _ => x_ld_int 0 rfl rfl ld3 fun ⟨r1, r2⟩ => dk_eq))
                (apply lxk_run 1; (· rfl); (· simp))
                refine lxk_end rfl ?_
                simp only [List.map_cons, List.map_nil, List.cons_append, List.nil_append]
                refine j_nf [.c [1, 1, 1, 1, 1, 0, 1, 0, 0, 1, 1, 0, 0, 1, 1, 0, 0, 1, 1, 0, 0, 1, 1, 0, 1, 0, 0, 1, 1, 0, 0, 1, 1], .blk 10, .c [1, 1, 1, 1, 1, 0, 1, 0, 0, 1, 1, 0, 0, 1, 1, 0, 0, 1, 1, 0, 0, 1, 1, 0, 1, 0, 0, 1, 1, 1], .lp [1, 1, 1, 1, 1, 0, 1, 0, 0, 1, 1, 0, 0, 1, 1, 0, 0, 1, 1, 0, 0, 1, 1, 0, 1, 0, 0], .blk 9, .c [1, 1, 1, 1, 1, 0, 1, 0, 0, 1, 1, 0, 0, 1, 1, 0, 0, 1, 1, 0, 0, 1, 1, 1], .blk 8, .c [1, 1, 1, 1, 1, 0, 1, 0, 0, 1, 1, 0, 0, 1, 1, 0, 0, 1, 1, 1], .lp [1, 1, 1, 1, 1, 0, 1, 0, 0, 1, 1, 0, 0, 1, 1, 0, 0], .blk 7, .blk 6, .c [1, 1, 1, 1, 1, 0, 1, 0, 0, 1, 1, 1], .lp [1, 1, 1, 1, 1, 0, 1, 0, 0], .blk 5, .c [1, 1, 1, 1, 1, 1]] rfl ?_
                refine j_ifn rfl rfl (fun h12 => by exfalso; omega) (fun h12 => ?_)
                refine j_nf [.o [1, 1, 1, 1, 1, 0, 1, 0, 0, 1, 1, 0, 0, 1, 1, 0, 0, 1, 1, 0, 0, 1, 1, 0, 1, 0, 0, 1, 1, 1] 0, .lp [1, 1, 1, 1, 1, 0, 1, 0, 0, 1, 1, 0, 0, 1, 1, 0, 0, 1, 1, 0, 0, 1, 1, 0, 1, 0, 0], .blk 9, .c [1, 1, 1, 1, 1, 0, 1, 0, 0, 1, 1, 0, 0, 1, 1, 0, 0, 1, 1, 0, 0, 1, 1, 1], .blk 8, .c [1, 1, 1, 1, 1, 0, 1, 0, 0, 1, 1, 0, 0, 1, 1, 0, 0, 1, 1, 1], .lp [1, 1, 1, 1, 1, 0, 1, 0, 0, 1, 1, 0, 0, 1, 1, 0, 0], .blk 7, .blk 6, .c [1, 1, 1, 1, 1, 0, 1, 0, 0, 1, 1, 1], .lp [1, 1, 1, 1, 1, 0, 1, 0, 0], .blk 5, .c [1, 1, 1, 1, 1, 1]] rfl ?_
                refine j_run it 2 rfl (by repeat' first | exact trivial | apply And.intro | omega) ?_
                refine j_nfn 1 [.lp [1, 1, 1, 1, 1, 0, 1, 0, 0, 1, 1, 0, 0, 1, 1, 0, 0, 1, 1, 0, 0, 1, 1, 0, 1, 0, 0], .blk 9, .c [1, 1, 1, 1, 1, 0, 1, 0, 0, 1, 1, 0, 0, 1, 1, 0, 0, 1, 1, 0, 0, 1, 1, 1], .blk 8, .c [1, 1, 1, 1, 1, 0, 1, 0, 0, 1, 1, 0, 0, 1, 1, 0, 0, 1, 1, 1], .lp [1, 1, 1, 1, 1, 0, 1, 0, 0, 1, 1, 0, 0, 1, 1, 0, 0], .blk 7, .blk 6, .c [1, 1, 1, 1, 1, 0, 1, 0, 0, 1, 1, 1], .lp [1, 1, 1, 1, 1, 0, 1, 0, 0], .blk 5, .c [1, 1, 1, 1, 1, 1]] rfl ?_
                have ih' := ihk (k + 1) (by omega) (by omega)
                rw [e] at ih'
                refine j_to [2, 3, 4, 5, 6, 7, 8, 9, 10, 11, 12] (by repeat (first | exact Fr.sub_nil _ | refine Fr.sub_cons rfl ?_ | refine Fr.sub_consI rfl (by first | omega | (dsimp only; omega)) ?_ | refine Fr.sub_consS rfl (by first | omega | (dsimp only; omega)) (by first | omega | (dsimp only; omega)) ?_)) rfl rfl (ih')
              · have e : distP (wAt W i) (wAt W j) (k + 1) = distP (wAt W i) (wAt W j) k + 1 := by rw [distP, if_neg he]
                refine j_nf [.o [1, 1, 1, 1, 1, 0, 1, 0, 0, 1, 1, 0, 0, 1, 1, 0, 0, 1, 1, 0, 0, 1, 1, 0, 1, 0, 0, 0] 0, .c [1, 1, 1, 1, 1, 0, 1, 0, 0, 1, 1, 0, 0, 1, 1, 0, 0, 1, 1, 0, 0, 1, 1, 0, 1, 0, 0, 1], .lp [1, 1, 1, 1, 1, 0, 1, 0, 0, 1, 1, 0, 0, 1, 1, 0, 0, 1, 1, 0, 0, 1, 1, 0, 1, 0, 0], .blk 9, .c [1, 1, 1, 1, 1, 0, 1, 0, 0, 1, 1, 0, 0, 1, 1, 0, 0, 1, 1, 0, 0, 1, 1, 1], .blk 8, .c [1, 1, 1, 1, 1, 0, 1, 0, 0, 1, 1, 0, 0, 1, 1, 0, 0, 1, 1, 1], .lp [1, 1, 1, 1, 1, 0, 1, 0, 0, 1, 1, 0, 0, 1, 1, 0, 0], .blk 7, .blk 6, .c [1, 1, 1, 1, 1, 0, 1, 0, 0, 1, 1, 1], .lp [1, 1, 1, 1, 1, 0, 1, 0, 0], .blk 5, .c [1, 1, 1, 1, 1, 1]] rfl ?_
                refine j_run it 1 rfl (by simp) ?_
                refine j_nf [.c [1, 1, 1, 1, 1, 0, 1, 0, 0, 1, 1, 0, 0, 1, 1, 0, 0, 1, 1, 0, 0, 1, 1, 0, 1, 0, 0, 1, 0], .c [1, 1, 1, 1, 1, 0, 1, 0, 0, 1, 1, 0, 0, 1, 1, 0, 0, 1, 1, 0, 0, 1, 1, 0, 1, 0, 0, 1, 1], .lp [1, 1, 1, 1, 1, 0, 1, 0, 0, 1, 1, 0, 0, 1, 1, 0, 0, 1, 1, 0, 0, 1, 1, 0, 1, 0, 0], .blk 9, .c [1, 1, 1, 1, 1, 0, 1, 0, 0, 1, 1, 0, 0, 1, 1, 0, 0, 1, 1, 0, 0, 1, 1, 1], .blk 8, .c [1, 1, 1, 1, 1, 0, 1, 0, 0, 1, 1, 0, 0, 1, 1, 0, 0, 1, 1, 1], .lp [1, 1, 1, 1, 1, 0, 1, 0, 0, 1, 1, 0, 0, 1, 1, 0, 0], .blk 7, .blk 6, .c [1, 1, 1, 1, 1, 0, 1, 0, 0, 1, 1, 1], .lp [1, 1, 1, 1, 1, 0, 1, 0, 0], .blk 5, .c [1, 1, 1, 1, 1, 1]] rfl ?_
                refine j_if rfl rfl (fun h11 => ?_) (fun h11 => by exfalso; omega)
                refine j_nf [.o [1, 1, 1, 1, 1, 0, 1, 0, 0, 1, 1, 0, 0, 1, 1, 0, 0, 1, 1, 0, 0, 1, 1, 0, 1, 0, 0, 1, 1, 0, 0, 0] 0, .c [1, 1, 1, 1, 1, 0, 1, 0, 0, 1, 1, 0, 0, 1, 1, 0, 0, 1, 1, 0, 0, 1, 1, 0, 1, 0, 0, 1, 1, 0, 0, 1], .blk 10, .c [1, 1, 1, 1, 1, 0, 1, 0, 0, 1, 1, 0, 0, 1, 1, 0, 0, 1, 1, 0, 0, 1, 1, 0, 1, 0, 0, 1, 1, 1], .lp [1, 1, 1, 1, 1, 0, 1, 0, 0, 1, 1, 0, 0, 1, 1, 0, 0, 1, 1, 0, 0, 1, 1, 0, 1, 0, 0], .blk 9, .c [1, 1, 1, 1, 1, 0, 1, 0, 0, 1, 1, 0, 0, 1, 1, 0, 0, 1, 1, 0, 0, 1, 1, 1], .blk 8, .c [1, 1, 1, 1, 1, 0, 1, 0, 0, 1, 1, 0, 0, 1, 1, 0, 0, 1, 1, 1], .lp [1, 1, 1, 1, 1, 0, 1, 0, 0, 1, 1, 0, 0, 1, 1, 0, 0], .blk 7, .blk 6, .c [1, 1, 1, 1, 1, 0, 1, 0, 0, 1, 1, 1], .lp [1, 1, 1, 1, 1, 0, 1, 0, 0], .blk 5, .c [1, 1, 1, 1, 1, 1]] rfl ?_
                refine j_run it 2 rfl (by simp) ?_
                refine j_nf [.c [1, 1, 1, 1, 1, 0, 1, 0, 0, 1, 1, 0, 0, 1, 1, 0, 0, 1, 1, 0, 0, 1, 1, 0, 1, 0, 0, 1, 1, 0, 0, 1, 0], .c [1, 1, 1, 1, 1, 0, 1, 0, 0, 1, 1, 0, 0, 1, 1, 0, 0, 1, 1, 0, 0, 1, 1, 0, 1, 0, 0, 1, 1, 0, 0, 1, 1], .blk 10, .c [1, 1, 1, 1, 1, 0, 1, 0, 0, 1, 1, 0, 0, 1, 1, 0, 0, 1, 1, 0, 0, 1, 1, 0, 1, 0, 0, 1, 1, 1], .lp [1, 1, 1, 1, 1, 0, 1, 0, 0, 1, 1, 0, 0, 1, 1, 0, 0, 1, 1, 0, 0, 1, 1, 0, 1, 0, 0], .blk 9, .c [1, 1, 1, 1, 1, 0, 1, 0, 0, 1, 1, 0, 0, 1, 1, 0, 0, 1, 1, 0, 0, 1, 1, 1], .blk 8, .c [1, 1, 1, 1, 1, 0, 1, 0, 0, 1, 1, 0, 0, 1, 1, 0, 0, 1, 1, 1], .lp [1, 1, 1, 1, 1, 0, 1, 0, 0, 1, 1, 0, 0, 1, 1, 0, 0], .blk 7, .blk 6, .c [1, 1, 1, 1, 1, 0, 1, 0, 0, 1, 1, 1], .lp [1, 1, 1, 1, 1, 0, 1, 0, 0], .blk 5, .c [1, 1, 1, 1, 1, 1]] rfl ?_
                (apply j_drawK it mx 9; (· rfl); (· rfl))
                (apply lxk_run 2; (· rfl); (· simp))
                (apply lxk_pt; (· rfl); (· exact d_x fun _ => x_idx 2 (k) rfl rfl rfl sl31 rfl (by omega) fun z1 hz6 b7 o6 => (dk_ptD default hz6 0 rfl)); intro b7 o6)
                (apply lxk_eq; (· rfl); (· exact d_x fun _ => x_ld_int 0 rfl rfl ld3 fun ⟨r1, r2⟩ => dk_eq))
                (apply lxk_run 2; (· rfl); (· simp))
                (apply lxk_pt; (· rfl); (· exact d_x fun _ => x_idx 0 (k) rfl rfl rfl sl31 rfl (by omega) fun z1 hz6 b8 o7 => (dk_ptD default hz6 0 rfl)); intro b8 o7)
                (apply lxk_eq; (· rfl); (· exact d_x fun _ => x_ld_int 0 rfl rfl ld3 fun ⟨r1, r2⟩ => dk_eq))
                (apply lxk_run 1; (· rfl); (· simp))
                refine lxk_end rfl ?_
                simp only [List.map_cons, List.map_nil, List.cons_append, List.nil_append]
                refine j_nf [.c [1, 1, 1, 1, 1, 0, 1, 0, 0, 1, 1, 0, 0, 1, 1, 0, 0, 1, 1, 0, 0, 1, 1, 0, 1, 0, 0, 1, 1, 0, 0, 1, 1], .blk 10, .c [1, 1, 1, 1, 1, 0, 1, 0, 0, 1, 1, 0, 0, 1, 1, 0, 0, 1, 1, 0, 0, 1, 1, 0, 1, 0, 0, 1, 1, 1], .lp [1, 1, 1, 1, 1, 0, 1, 0, 0, 1, 1, 0, 0, 1, 1, 0, 0, 1, 1, 0, 0, 1, 1, 0, 1, 0, 0], .blk 9, .c [1, 1, 1, 1, 1, 0, 1, 0, 0, 1, 1, 0, 0, 1, 1, 0, 0, 1, 1, 0, 0, 1, 1, 1], .blk 8, .c [1, 1, 1, 1, 1, 0, 1, 0, 0, 1, 1, 0, 0, 1, 1, 0, 0, 1, 1, 1], .lp [1, 1, 1, 1, 1, 0, 1, 0, 0, 1, 1, 0, 0, 1, 1, 0, 0], .blk 7, .blk 6, .c [1, 1, 1, 1, 1, 0, 1, 0, 0, 1, 1, 1], .lp [1, 1, 1, 1, 1, 0, 1, 0, 0], .blk 5, .c [1, 1, 1, 1, 1, 1]] rfl ?_
                refine j_ifn rfl rfl (fun h12 => ?_) (fun h12 => by exfalso; omega)
                refine j_nf [.o [1, 1, 1, 1, 1, 0, 1, 0, 0, 1, 1, 0, 0, 1, 1, 0, 0, 1, 1, 0, 0, 1, 1, 0, 1, 0, 0, 1, 1, 0, 0, 1, 1, 0] 0, .blk 10, .c [1, 1, 1, 1, 1, 0, 1, 0, 0, 1, 1, 0, 0, 1, 1, 0, 0, 1, 1, 0, 0, 1, 1, 0, 1, 0, 0, 1, 1, 1], .lp [1, 1, 1, 1, 1, 0, 1, 0, 0, 1, 1, 0, 0, 1, 1, 0, 0, 1, 1, 0, 0, 1, 1, 0, 1, 0, 0], .blk 9, .c [1, 1, 1, 1, 1, 0, 1, 0, 0, 1, 1, 0, 0, 1, 1, 0, 0, 1, 1, 0, 0, 1, 1, 1], .blk 8, .c [1, 1, 1, 1, 1, 0, 1, 0, 0, 1, 1, 0, 0, 1, 1, 0, 0, 1, 1, 1], .lp [1, 1, 1, 1, 1, 0, 1, 0, 0, 1, 1, 0, 0, 1, 1, 0, 0], .blk 7, .blk 6, .c [1, 1, 1, 1, 1, 0, 1, 0, 0, 1, 1, 1], .lp [1, 1, 1, 1, 1, 0, 1, 0, 0], .blk 5, .c [1, 1, 1, 1, 1, 1]] rfl ?_
                refine j_run it 3 rfl (by repeat' first | exact trivial | apply And.intro | omega) ?_
                refine j_nf [.o [1, 1, 1, 1, 1, 0, 1, 0, 0, 1, 1, 0, 0, 1, 1, 0, 0, 1, 1, 0, 0, 1, 1, 0, 1, 0, 0, 1, 1, 1] 0, .lp [1, 1, 1, 1, 1, 0, 1, 0, 0, 1, 1, 0, 0, 1, 1, 0, 0, 1, 1, 0, 0, 1, 1, 0, 1, 0, 0], .blk 9, .c [1, 1, 1, 1, 1, 0, 1, 0, 0, 1, 1, 0, 0, 1, 1, 0, 0, 1, 1, 0, 0, 1, 1, 1], .blk 8, .c [1, 1, 1, 1, 1, 0, 1, 0, 0, 1, 1, 0, 0, 1, 1, 0, 0, 1, 1, 1], .lp [1, 1, 1, 1, 1, 0, 1, 0, 0, 1, 1, 0, 0, 1, 1, 0, 0], .blk 7, .blk 6, .c [1, 1, 1, 1, 1, 0, 1, 0, 0, 1, 1, 1], .lp [1, 1, 1, 1, 1, 0, 1, 0, 0], .blk 5, .c [1, 1, 1, 1, 1, 1]] rfl ?_
                refine j_run it 2 rfl (by repeat' first | exact trivial | apply And.intro | omega) ?_
                refine j_nfn 1 [.lp [1, 1, 1, 1, 1, 0, 1, 0, 0, 1, 1, 0, 0, 1, 1, 0, 0, 1, 1, 0, 0, 1, 1, 0, 1, 0, 0], .blk 9, .c [1, 1, 1, 1, 1, 0, 1, 0, 0, 1, 1, 0, 0, 1, 1, 0, 0, 1, 1, 0, 0, 1, 1, 1], .blk 8, .c [1, 1, 1, 1, 1, 0, 1, 0, 0, 1, 1, 0, 0, 1, 1, 0, 0, 1, 1, 1], .lp [1, 1, 1, 1, 1, 0, 1, 0, 0, 1, 1, 0, 0, 1, 1, 0, 0], .blk 7, .blk 6, .c [1, 1, 1, 1, 1, 0, 1, 0, 0, 1, 1, 1], .lp [1, 1, 1, 1, 1, 0, 1, 0, 0], .blk 5, .c [1, 1, 1, 1, 1, 1]] rfl ?_
                have ih' := ihk (k + 1) (by omega) (by omega)
                rw [e] at ih'
                refine j_to [2, 3, 4, 5, 6, 7, 8, 9, 10, 11, 12] (by repeat (first | exact Fr.sub_nil _ | refine Fr.sub_cons rfl ?_ | refine Fr.sub_consI rfl (by first | omega | (dsimp only; omega)) ?_ | refine Fr.sub_consS rfl (by first | omega | (dsimp only; omega)) (by first | omega | (dsimp only; omega)) ?_)) rfl rfl (ih')
            · obtain rfl : m = k := by omega
              have ed : distP (wAt W i) (wAt W j) m = dist (wAt W i) (wAt W j) := by rw [← distP_all _ _ (by omega), l1]
              rw [ed] at hd ⊢
              have hz : ((List.range (m + 1)).map (cntN W i j))[dist (wAt W i) (wAt W j)]? = some (cntN W i j (dist (wAt W i) (wAt W j))) := by
                rw [List.getElem?_map, List.getElem?_range (by omega)]; rfl
              have hle := cntN_le W (dist (wAt W i) (wAt W j)) i j
              have hle2 : i * W.length ≤ 1000 * 1000 := Nat.mul_le_mul (by omega) hW
              refine j_nf [.o [1, 1, 1, 1, 1, 0, 1, 0, 0, 1, 1, 0, 0, 1, 1, 0, 0, 1, 1, 0, 0, 1, 1, 0, 1, 0, 0, 0] 0, .c [1, 1, 1, 1, 1, 0, 1, 0, 0, 1, 1, 0, 0, 1, 1, 0, 0, 1, 1, 0, 0, 1, 1, 0, 1, 0, 0, 1], .lp [1, 1, 1, 1, 1, 0, 1, 0, 0, 1, 1, 0, 0, 1, 1, 0, 0, 1, 1, 0, 0, 1, 1, 0, 1, 0, 0], .blk 9, .c [1, 1, 1, 1, 1, 0, 1, 0, 0, 1, 1, 0, 0, 1, 1, 0, 0, 1, 1, 0, 0, 1, 1, 1], .blk 8, .c [1, 1, 1, 1, 1, 0, 1, 0, 0, 1, 1, 0, 0, 1, 1, 0, 0, 1, 1, 1], .lp [1, 1, 1, 1, 1, 0, 1, 0, 0, 1, 1, 0, 0, 1, 1, 0, 0], .blk 7, .blk 6, .c [1, 1, 1, 1, 1, 0, 1, 0, 0, 1, 1, 1], .lp [1, 1, 1, 1, 1, 0, 1, 0, 0], .blk 5, .c [1, 1, 1, 1, 1, 1]] rfl ?_
              refine j_run it 1 rfl (by simp) ?_
              refine j_nf [.c [1, 1, 1, 1, 1, 0, 1, 0, 0, 1, 1, 0, 0, 1, 1, 0, 0, 1, 1, 0, 0, 1, 1, 0, 1, 0, 0, 1, 0], .c [1, 1, 1, 1, 1, 0, 1, 0, 0, 1, 1, 0, 0, 1, 1, 0, 0, 1, 1, 0, 0, 1, 1, 0, 1, 0, 0, 1, 1], .lp [1, 1, 1, 1, 1, 0, 1, 0, 0, 1, 1, 0, 0, 1, 1, 0, 0, 1, 1, 0, 0, 1, 1, 0, 1, 0, 0], .blk 9, .c [1, 1, 1, 1, 1, 0, 1, 0, 0, 1, 1, 0, 0, 1, 1, 0, 0, 1, 1, 0, 0, 1, 1, 1], .blk 8, .c [1, 1, 1, 1, 1, 0, 1, 0, 0, 1, 1, 0, 0, 1, 1, 0, 0, 1, 1, 1], .lp [1, 1, 1, 1, 1, 0, 1, 0, 0, 1, 1, 0, 0, 1, 1, 0, 0], .blk 7, .blk 6, .c [1, 1, 1, 1, 1, 0, 1, 0, 0, 1, 1, 1], .lp [1, 1, 1, 1, 1, 0, 1, 0, 0], .blk 5, .c [1, 1, 1, 1, 1, 1]] rfl ?_
              refine j_if rfl rfl (fun h11 => by exfalso; omega) (fun h11 => ?_)
              refine j_nf [.o [1, 1, 1, 1, 1, 0, 1, 0, 0, 1, 1, 0, 0, 1, 1, 0, 0, 1, 1, 0, 0, 1, 1, 1] 0, .blk 8, .c [1, 1, 1, 1, 1, 0, 1, 0, 0, 1, 1, 0, 0, 1, 1, 0, 0, 1, 1, 1], .lp [1, 1, 1, 1, 1, 0, 1, 0, 0, 1, 1, 0, 0, 1, 1, 0, 0], .blk 7, .blk 6, .c [1, 1, 1, 1, 1, 0, 1, 0, 0, 1, 1, 1], .lp [1, 1, 1, 1, 1, 0, 1, 0, 0], .blk 5, .c [1, 1, 1, 1, 1, 1]] rfl ?_
              refine j_run it 2 rfl (by simp) ?_
              refine j_step rfl (x_idx_own (dist (wAt W i) (wAt W j)) (dist (wAt W i) (wAt W j)) rfl rfl sl31 rfl (by omega) (Nat.mul_one _) ?_)
              refine j_step rfl (x_bld_nat 0 rfl rfl ld3 (by first | omega | (simp; omega)) fun z1 hz6 => ?_) --ok
              have ez : z1 = cntN W i j (dist (wAt W i) (wAt W j)) := Option.some.inj ((by assumption : ((List.range (m + 1)).map (cntN W i j))[dist (wAt W i) (wAt W j)]? = some z1).symm.trans hz)
              subst ez
              refine j_run it 1 rfl (by repeat' first | exact trivial | apply And.intro | omega) ?_
              refine j_step rfl (x_idx_own (dist (wAt W i) (wAt W j)) (dist (wAt W i) (wAt W j)) rfl rfl sl31 rfl (by omega) (Nat.mul_one _) ?_)
              refine j_step rfl (x_bst_nat 0 ((cntN W i j (dist (wAt W i) (wAt W j))) + 1) rfl rfl rfl ld3 (by first | rfl | omega) (by first | omega | (simp; omega)) ?_)
              refine j_nf [.o [1, 1, 1, 1, 1, 0, 1, 0, 0, 1, 1, 0, 0, 1, 1, 0, 0, 1, 1, 1] 0, .lp [1, 1, 1, 1, 1, 0, 1, 0, 0, 1, 1, 0, 0, 1, 1, 0, 0], .blk 7, .blk 6, .c [1, 1, 1, 1, 1, 0, 1, 0, 0, 1, 1, 1], .lp [1, 1, 1, 1, 1, 0, 1, 0, 0], .blk 5, .c [1, 1, 1, 1, 1, 1]] rfl ?_
              refine j_run it 2 rfl (by repeat' first | exact trivial | apply And.intro | omega) ?_
              refine j_nfn 1 [.lp [1, 1, 1, 1, 1, 0, 1, 0, 0, 1, 1, 0, 0, 1, 1, 0, 0], .blk 7, .blk 6, .c [1, 1, 1, 1, 1, 0, 1, 0, 0, 1, 1, 1], .lp [1, 1, 1, 1, 1, 0, 1, 0, 0], .blk 5, .c [1, 1, 1, 1, 1, 1]] rfl ?_
              rw [cntN_set W (m := m + 1) (i := i) (j := j) (by omega)]
              refine j_to [2, 3, 4, 5, 6, 7, 8, 9, 10] (by repeat (first | exact Fr.sub_nil _ | refine Fr.sub_cons rfl ?_ | refine Fr.sub_consI rfl (by first | omega | (dsimp only; omega)) ?_ | refine Fr.sub_consS rfl (by first | omega | (dsimp only; omega)) (by first | omega | (dsimp only; omega)) ?_)) rfl rfl (ihj (j + 1) (by omega) (by omega))
          · obtain rfl : W.length = j := by omega
            rw [show cntN W i W.length = cntN W (i + 1) 0 from funext fun d => (cntN_next W i d).symm]
            refine j_nf [.o [1, 1, 1, 1, 1, 0, 1, 0, 0, 1, 1, 0, 0, 1, 1, 0, 0, 0] 0, .c [1, 1, 1, 1, 1, 0, 1, 0, 0, 1, 1, 0, 0, 1, 1, 0, 0, 1], .lp [1, 1, 1, 1, 1, 0, 1, 0, 0, 1, 1, 0, 0, 1, 1, 0, 0], .blk 7, .blk 6, .c [1, 1, 1, 1, 1, 0, 1, 0, 0, 1, 1, 1], .lp [1, 1, 1, 1, 1, 0, 1, 0, 0], .blk 5, .c [1, 1, 1, 1, 1, 1]] rfl ?_
            refine j_run it 1 rfl (by simp) ?_
            refine j_nf [.c [1, 1, 1, 1, 1, 0, 1, 0, 0, 1, 1, 0, 0, 1, 1, 0, 0, 1, 0], .c [1, 1, 1, 1, 1, 0, 1, 0, 0, 1, 1, 0, 0, 1, 1, 0, 0, 1, 1], .lp [1, 1, 1, 1, 1, 0, 1, 0, 0, 1, 1, 0, 0, 1, 1, 0, 0], .blk 7, .blk 6, .c [1, 1, 1, 1, 1, 0, 1, 0, 0, 1, 1, 1], .lp [1, 1, 1, 1, 1, 0, 1, 0, 0], .blk 5, .c [1, 1, 1, 1, 1, 1]] rfl ?_
            refine j_if rfl rfl (fun h10 => by exfalso; omega) (fun h10 => ?_)
            refine j_nf [.o [1, 1, 1, 1, 1, 0, 1, 0, 0, 1, 1, 1] 0, .lp [1, 1, 1, 1, 1, 0, 1, 0, 0], .blk 5, .c [1, 1, 1, 1, 1, 1]] rfl ?_
            refine j_run it 2 rfl (by repeat' first | exact trivial | apply And.intro | omega) ?_
            refine j_nfn 1 [.lp [1, 1, 1, 1, 1, 0, 1, 0, 0], .blk 5, .c [1, 1, 1, 1, 1, 1]] rfl ?_
            refine j_to [2, 3, 4, 5, 6, 7, 8] (by repeat (first | exact Fr.sub_nil _ | refine Fr.sub_cons rfl ?_ | refine Fr.sub_consI rfl (by first | omega | (dsimp only; omega)) ?_ | refine Fr.sub_consS rfl (by first | omega | (dsimp only; omega)) (by first | omega | (dsimp only; omega)) ?_)) rfl rfl (ih (i + 1) (by omega) (by omega))
        · obtain rfl : W.length = i := by omega
          refine j_nf [.o [1, 1, 1, 1, 1, 0, 1, 0, 0, 0] 0, .c [1, 1, 1, 1, 1, 0, 1, 0, 0, 1], .lp [1, 1, 1, 1, 1, 0, 1, 0, 0], .blk 5, .c [1, 1, 1, 1, 1, 1]] rfl ?_
          refine j_run it 1 rfl (by simp) ?_
          refine j_nf [.c [1, 1, 1, 1, 1, 0, 1, 0, 0, 1, 0], .c [1, 1, 1, 1, 1, 0, 1, 0, 0, 1, 1], .lp [1, 1, 1, 1, 1, 0, 1, 0, 0], .blk 5, .c [1, 1, 1, 1, 1, 1]] rfl ?_
          refine j_if rfl rfl (fun h9 => by exfalso; omega) (fun h9 => ?_)
          refine j_nf [.o [1, 1, 1, 1, 1, 1, 0] 0, .c [1, 1, 1, 1, 1, 1, 1]] rfl ?_
          refine j_run it 1 rfl (by simp) ?_
          refine j_nf [.o [1, 1, 1, 1, 1, 1, 1, 0, 0] 0, .c [1, 1, 1, 1, 1, 1, 1, 0, 1], .c [1, 1, 1, 1, 1, 1, 1, 1]] rfl ?_
          refine j_run it 1 rfl (by simp) ?_
          refine j_step rfl (x_len sl31 rfl ?_)
          refine j_run it 1 rfl (by simp) ?_
          refine j_nf [.c [1, 1, 1, 1, 1, 1, 1, 0, 1, 0], .blk 11, .c [1, 1, 1, 1, 1, 1, 1, 1]] rfl ?_
          refine j_row0 RatE 35 ?_
          refine j_loopG (X := Nat × Row) [1, 116, 117] [1, 2, 3, 4, 5, 6, 7] (fun x => [(118, .int .i64 x.1), (18, .slice (ad x.2.bo) x.1 x.2.cap)]) (fun x => [(x.2.bo, 35, x.2.cs), (some b4, 3, natCells .i64 ((List.range (m + 1)).map (cntN W W.length 0)))]) (fun x => [rowF RatE x.2 x.1 ((List.range x.1).map fun d => rt (mkRat ((cntN W W.length 0 d : Nat) : Int) W.length))])
            (fun x => x.1 ≤ m + 1) (fun x => m + 1 - x.1) (0, ⟨none, 0, []⟩) [0] rfl rfl rfl (Nat.zero_le _) (by repeat (first | exact Fr.sub_nil _ | refine Fr.sub_cons rfl ?_)) rfl rfl ?_
          rintro ⟨d, r⟩ hd ihd
          simp only [List.cons_append, List.nil_append] at hd ihd ⊢
          by_cases hdl : d < m + 1
          · have hz : ((List.range (m + 1)).map (cntN W W.length 0))[d]? = some (cntN W W.length 0 d) := by
              rw [List.getElem?_map, List.getElem?_range (by omega)]; rfl
            have hle := cntN_le W d W.length 0
            have hle2 : W.length * W.length ≤ 1000 * 1000 := Nat.mul_le_mul hW hW
            refine j_nf [.o [1, 1, 1, 1, 1, 1, 1, 0, 1, 0, 0, 0] 0, .c [1, 1, 1, 1, 1, 1, 1, 0, 1, 0, 0, 1], .lp [1, 1, 1, 1, 1, 1, 1, 0, 1, 0, 0], .blk 11, .c [1, 1, 1, 1, 1, 1, 1, 1]] rfl ?_
            refine j_run it 1 rfl (by simp) ?_
            refine j_nf [.c [1, 1, 1, 1, 1, 1, 1, 0, 1, 0, 0, 1, 0], .c [1, 1, 1, 1, 1, 1, 1, 0, 1, 0, 0, 1, 1], .lp [1, 1, 1, 1, 1, 1, 1, 0, 1, 0, 0], .blk 11, .c [1, 1, 1, 1, 1, 1, 1, 1]] rfl ?_
            refine j_if rfl rfl (fun h10 => ?_) (fun h10 => by exfalso; omega)
            refine j_nf [.o [1, 1, 1, 1, 1, 1, 1, 0, 1, 0, 0, 1, 1, 0, 0, 0] 0, .c [1, 1, 1, 1, 1, 1, 1, 0, 1, 0, 0, 1, 1, 0, 0, 1], .blk 12, .c [1, 1, 1, 1, 1, 1, 1, 0, 1, 0, 0, 1, 1, 1], .lp [1, 1, 1, 1, 1, 1, 1, 0, 1, 0, 0], .blk 11, .c [1, 1, 1, 1, 1, 1, 1, 1]] rfl ?_
            refine j_step rfl (x_idx_own (d) (d) rfl rfl sl31 rfl (by omega) (Nat.mul_one _) ?_)
            refine j_step rfl (x_bld_nat 1 rfl rfl ld3 (by first | omega | (simp; omega)) fun z1 hz4 => ?_)
            refine j_run it 1 rfl (by simp) ?_
            refine j_nf [.o [1, 1, 1, 1, 1, 1, 1, 0, 1, 0, 0, 1, 1, 0, 0, 1, 0] 0, .c [1, 1, 1, 1, 1, 1, 1, 0, 1, 0, 0, 1, 1, 0, 0, 1, 1], .blk 12, .c [1, 1, 1, 1, 1, 1, 1, 0, 1, 0, 0, 1, 1, 1], .lp [1, 1, 1, 1, 1, 1, 1, 0, 1, 0, 0], .blk 11, .c [1, 1, 1, 1, 1, 1, 1, 1]] rfl ?_
            refine j_run it 2 rfl (by simp) ?_
            refine j_step rfl (x_len sl22 rfl ?_) --ok
            have ez : z1 = cntN W W.length 0 d := Option.some.inj ((by assumption : ((List.range (m + 1)).map (cntN W W.length 0))[d]? = some z1).symm.trans hz)
            subst ez
            refine j_step rfl (x_call [] rfl (S_rational_Of (by first | omega | exact side _ (by assumption) | assumption | rfl | (simp; done) | (simp; omega)) (by first | omega | exact side _ (by assumption) | assumption | rfl | (simp; done) | (simp; omega)) (by first | omega | exact side _ (by assumption) | assumption | rfl | (simp; done) | (simp; omega))) rfl ?_)
            rintro _ _ _ ⟨pn1, cn1, pd1, cd1, rfl, rfl, rfl⟩
            simp only [List.cons_append, List.nil_append]
            refine j_run it 3 rfl (by simp) ?_
            refine j_step rfl (x_alloc zo35 fun b5 => ?_)
            refine j_step rfl (x_bst_all 0 rfl rfl rfl ld35 rfl rfl (by simp [Value.oneCell']) ?_)
            refine j_run it 1 rfl (by simp) ?_
            refine j_nf [.o [1, 1, 1, 1, 1, 1, 1, 0, 1, 0, 0, 1, 1, 0, 0, 1, 1] 0, .blk 12, .c [1, 1, 1, 1, 1, 1, 1, 0, 1, 0, 0, 1, 1, 1], .lp [1, 1, 1, 1, 1, 1, 1, 0, 1, 0, 0], .blk 11, .c [1, 1, 1, 1, 1, 1, 1, 1]] rfl ?_
            refine j_run it 1 rfl (by simp) ?_
            refine j_step rfl (x_bld_all 0 rfl rfl ld35 rfl ?_)
            refine j_step rfl (x_lit sl23 zo23e rfl rfl rfl rfl (by decide) (by decide) rfl fun b6 => ?_)
            refine j_step rfl (x_appR (z := ((rt (mkRat (↑(cntN W W.length 0 d)) W.length)).fst, ((rt (mkRat (↑(cntN W W.length 0 d)) W.length)).snd.fst, (rt (mkRat (↑(cntN W W.length 0 d)) W.length)).snd.snd))) 2 0 2 rfl rfl rfl rfl rfl sl23 zo23e rfl (fun w A hG => (rd_pair (v1 := [Value.bool (rt (mkRat (↑(cntN W W.length 0 d)) W.length)).fst]) (rd_bool _) (rd_pair (v1 := [Value.slice pn1 (rt (mkRat (↑(cntN W W.length 0 d)) W.length)).snd.fst.length cn1]) (rd_of_slF (hG _ (fact_mem (n := 0) rfl))) (rd_of_slF (hG _ (fact_mem (n := 1) rfl)))))) (by omega) _ by23e (by omega) fun r1 => ?_)
            refine j_run it 1 rfl (by simp) ?_
            refine j_nf [.o [1, 1, 1, 1, 1, 1, 1, 0, 1, 0, 0, 1, 1, 1] 0, .lp [1, 1, 1, 1, 1, 1, 1, 0, 1, 0, 0], .blk 11, .c [1, 1, 1, 1, 1, 1, 1, 1]] rfl ?_
            refine j_run it 2 rfl (by repeat' first | exact trivial | apply And.intro | omega) ?_
            refine j_nfn 1 [.lp [1, 1, 1, 1, 1, 1, 1, 0, 1, 0, 0], .blk 11, .c [1, 1, 1, 1, 1, 1, 1, 1]] rfl ?_
            rw [← range_snoc fun d => rt (mkRat ((cntN W W.length 0 d : Nat) : Int) W.length)]
            refine j_toM [true, false, false, true] [0, 4, 5, 6, 7, 8, 9, 10] (by repeat (first | exact Fr.sub_nil _ | refine Fr.sub_cons rfl ?_ | refine Fr.sub_consI rfl (by first | omega | (dsimp only; omega)) ?_ | refine Fr.sub_consS rfl (by first | omega | (dsimp only; omega)) (by first | omega | (dsimp only; omega)) ?_)) rfl rfl (ihd (d + 1, r1) (by dsimp only; omega) (by dsimp only; omega))
          · obtain rfl : d = m + 1 := by omega
            refine j_nf [.o [1, 1, 1, 1, 1, 1, 1, 0, 1, 0, 0, 0] 0, .c [1, 1, 1, 1, 1, 1, 1, 0, 1, 0, 0, 1], .lp [1, 1, 1, 1, 1, 1, 1, 0, 1, 0, 0], .blk 11, .c [1, 1, 1, 1, 1, 1, 1, 1]] rfl ?_
            refine j_run it 1 rfl (by simp) ?_
            refine j_nf [.c [1, 1, 1, 1, 1, 1, 1, 0, 1, 0, 0, 1, 0], .c [1, 1, 1, 1, 1, 1, 1, 0, 1, 0, 0, 1, 1], .lp [1, 1, 1, 1, 1, 1, 1, 0, 1, 0, 0], .blk 11, .c [1, 1, 1, 1, 1, 1, 1, 1]] rfl ?_
            refine j_if rfl rfl (fun h10 => by exfalso; omega) (fun h10 => ?_)
            refine j_nf [.o [1, 1, 1, 1, 1, 1, 1, 1, 0] 0, .c [1, 1, 1, 1, 1, 1, 1, 1, 1]] rfl ?_
            refine j_run it 3 rfl (by simp) ?_
            refine j_nf [.c [1, 1, 1, 1, 1, 1, 1, 1, 1]] rfl ?_
            refine j_pubR 0 0 rfl rfl (by show (m + 1) * 56 ≤ 140737488355328; omega) ?_
            rw [show (disR W m).length = m + 1 by simp [disR]]
            refine j_giv [0] rfl rfl rfl ⟨_, _, rfl, rfl, rfl⟩
end Go.Proofs.Ytlhgkefaflpgeaa
