/-
The document's sum.
-/
import Derived.Test.YtpoonnjaobjdgaaFuns
import Derived.Test.YtpoonnjaobjdgaaNatMath
import Derived.Test.YtpoonnjaobjdgaaNatMath2
import Derived.Test.YtpoonnjaobjdgaaA1
import Derived.Test.YtpoonnjaobjdgaaA2
import Derived.Test.YtpoonnjaobjdgaaA3
import Derived.Test.YtpoonnjaobjdgaaA4
import Derived.Test.YtpoonnjaobjdgaaB1
namespace Go.Proofs.Ytpoonnjaobjdgaa
open Go Go.Fw
set_option maxRecDepth 100000
set_option linter.unusedVariables false
set_option maxHeartbeats 1000000
theorem S_codewrightref01_Add {pa pb : Option Addr} {n m ca cb : Nat} {a b : List Nat} (ha : a.length ≤ 1099511627776) (hb : b.length ≤ 1099511627776) :
    Ctr Try.prog 42 [.slice pa n ca, .slice pb m cb] [] [slF U32 pa n ca a, slF U32 pb m cb b] (Sv U32 (limbs (val a + val b))) := by
  refine Ctr_of_j' (F := F_codewrightref01_Add) rfl fun C => ?_
  refine j_len 0 rfl fun hn _ _ => ?_
  refine j_len 1 rfl fun hm _ _ => ?_
  subst hn; subst hm
  refine j_range 0 rfl fun hra => ?_
  refine j_range 1 rfl fun hrb => ?_
  have hra' : ∀ x ∈ a, x < 4294967296 := fun x hx => by have := hra x hx; simp only [InR] at this; omega
  have hrb' : ∀ x ∈ b, x < 4294967296 := fun x hx => by have := hrb x hx; simp only [InR] at this; omega
  obtain ⟨M, hM1, hM2, hM3⟩ : ∃ M, a.length ≤ M ∧ b.length ≤ M ∧ (M = a.length ∨ M = b.length) := ⟨max a.length b.length, by omega, by omega, by omega⟩
  refine j_nf [.o [0] 0, .c [1]] rfl ?_
  refine j_run it 1 rfl (by simp) ?_
  refine j_nf [.o [1, 0] 0, .c [1, 1]] rfl ?_
  refine j_run it 1 rfl (by simp) ?_
  refine j_nf [.o [1, 1, 0] 0, .c [1, 1, 1]] rfl ?_
  refine j_run it 1 rfl (by simp) ?_
  refine j_nf [.o [1, 1, 1, 0, 0] 0, .c [1, 1, 1, 0, 1], .c [1, 1, 1, 1]] rfl ?_
  refine j_run it 1 rfl (by simp) ?_
  refine j_nf [.c [1, 1, 1, 0, 1, 0], .blk 0, .c [1, 1, 1, 1]] rfl ?_
  refine j_nil 52 ?_
  refine j_loopN (X := Nat × Nat × List Nat × Option Nat × Nat × List Value) (fun x => [(0, .slice pa a.length ca), (1, .slice pb b.length cb), (5, .slice (ad x.2.2.2.1) x.1 x.2.2.2.2.1), (6, .int .u64 x.2.1), (7, .int .i64 x.1)])
    (fun x => [(x.2.2.2.1, 52, x.2.2.2.2.2)]) (fun _ => [slF U32 pa a.length ca a, slF U32 pb b.length cb b])
    (fun x => (x.1 ≤ M + 1 ∧ (x.1 = M + 1 → x.2.1 = 0) ∧ x.2.1 ≤ 1 ∧ x.2.2.1.length = x.1) ∧ (∀ y ∈ x.2.2.1, y < 4294967296) ∧ val x.2.2.1 + 4294967296 ^ x.1 * x.2.1 = val (a.take x.1) + val (b.take x.1) ∧ GrOk x.2.2.2.1 x.1 x.2.2.2.2.1 1 x.2.2.2.2.2 ∧ x.2.2.2.2.2.take x.1 = natCells .u32 x.2.2.1)
    (fun x => M + 1 - x.1) (0, 0, [], none, 0, []) [0, 1] rfl ⟨⟨Nat.zero_le _, fun h => rfl, Nat.zero_le _, rfl⟩, (fun y hy => by cases hy), by simp [val], GrOk.nil _, rfl⟩ (by repeat (first | exact Fr.sub_nil _ | refine Fr.sub_cons rfl ?_)) rfl rfl ?_
  rintro ⟨k, c, out, bo, cap, cs⟩ ⟨⟨hk, hkc, hc, hl⟩, ho, hv, hg, ht⟩ ih
  simp only at hk hkc hc hl ho hv hg ht ih ⊢
  have h1 := getD_lt (k := k) hra' (by decide)
  have h2 := getD_lt (k := k) hrb' (by decide)
  have step : k ≤ M → (k < a.length ∨ k < b.length ∨ 0 < c) → J F_codewrightref01_Add C [.c [1, 1, 1, 0, 1, 0, 0, 1, 0], .c [1, 1, 1, 0, 1, 0, 0, 1, 1], .lp [1, 1, 1, 0, 1, 0, 0], .blk 0, .c [1, 1, 1, 1]] [(0, .slice pa a.length ca), (1, .slice pb b.length cb), (5, .slice (ad bo) k cap), (6, .int .u64 c), (7, .int .i64 k)] [(bo, 52, cs)] [slF U32 pa a.length ca a, slF U32 pb b.length cb b] (Gives C (Sv U32 (limbs (val a + val b)))) := by
    intro hkM hor
    refine j_nf [.o [1, 1, 1, 0, 1, 0, 0, 1, 0, 0, 0] 0, .c [1, 1, 1, 0, 1, 0, 0, 1, 0, 0, 1], .blk 1, .c [1, 1, 1, 0, 1, 0, 0, 1, 1], .lp [1, 1, 1, 0, 1, 0, 0], .blk 0, .c [1, 1, 1, 1]] rfl ?_
    refine j_run it 2 rfl (by simp) ?_
    refine j_step rfl (x_call [0] rfl (S_codewrightref01_limb) rfl ?_)
    rintro _ _ _ ⟨rfl, rfl, rfl⟩
    simp only [List.cons_append, List.nil_append]
    refine j_run it 2 rfl (by simp) ?_
    refine j_step rfl (x_call [1] rfl (S_codewrightref01_limb) rfl ?_)
    rintro _ _ _ ⟨rfl, rfl, rfl⟩
    simp only [List.cons_append, List.nil_append]
    refine j_run it 4 rfl (by repeat' first | exact trivial | apply And.intro | omega) ?_
    refine j_nf [.o [1, 1, 1, 0, 1, 0, 0, 1, 0, 0, 1, 0] 0, .c [1, 1, 1, 0, 1, 0, 0, 1, 0, 0, 1, 1], .blk 1, .c [1, 1, 1, 0, 1, 0, 0, 1, 1], .lp [1, 1, 1, 0, 1, 0, 0], .blk 0, .c [1, 1, 1, 1]] rfl ?_
    refine j_run it 4 rfl (by repeat' first | exact trivial | apply And.intro | omega) ?_
    refine j_step rfl (x_lit sl35 zo35e rfl rfl rfl rfl (by decide) (by decide) rfl fun b1 => ?_)
    refine j_step rfl (x_app 1 0 rfl rfl rfl rfl sl35 zo35e rfl (by first | exact GrOk.nil _ | assumption | exact .inr ⟨_, rfl, Nat.le_refl _, by omega, rfl⟩) rfl rfl (by first | (simp [Value.oneCell']; done) | (simp [Value.oneCell', cellsL]; done) | (intro u hu; rcases List.mem_singleton.1 hu with rfl; rfl)) (by omega) _ by35e (by omega) fun bo1 cap1 cs1 hg1 ht1 => ?_)
    refine j_run it 1 rfl (by simp) ?_
    refine j_nf [.o [1, 1, 1, 0, 1, 0, 0, 1, 0, 0, 1, 1] 0, .blk 1, .c [1, 1, 1, 0, 1, 0, 0, 1, 1], .lp [1, 1, 1, 0, 1, 0, 0], .blk 0, .c [1, 1, 1, 1]] rfl ?_
    refine j_run it 3 rfl (by repeat' first | exact trivial | apply And.intro | omega) ?_
    refine j_nf [.o [1, 1, 1, 0, 1, 0, 0, 1, 1] 0, .lp [1, 1, 1, 0, 1, 0, 0], .blk 0, .c [1, 1, 1, 1]] rfl ?_
    refine j_run it 3 rfl (by repeat' first | exact trivial | apply And.intro | omega) ?_
    refine j_nfn 1 [.lp [1, 1, 1, 0, 1, 0, 0], .blk 0, .c [1, 1, 1, 1]] rfl ?_
    simp only [Nat.mul_one] at hg1 ht1
    have hs1 : (a.getD k 0 + b.getD k 0 + c) / 4294967296 ≤ 1 := by omega
    refine j_weakB (β' := [(bo1, 52, cs1)]) (by simp) ?_
    refine j_to [0, 1] (by repeat (first | exact Fr.sub_nil _ | refine Fr.sub_cons rfl ?_ | refine Fr.sub_consI rfl (by first | omega | (dsimp only; omega)) ?_ | refine Fr.sub_consS rfl (by first | omega | (dsimp only; omega)) (by first | omega | (dsimp only; omega)) ?_)) rfl rfl (ih (k + 1, (a.getD k 0 + b.getD k 0 + c) / 4294967296, out ++ [(a.getD k 0 + b.getD k 0 + c) % 4294967296], bo1, cap1, cs1) (by simp only; omega)
      ⟨⟨by simp only; omega, (by
        intro hkM1
        have ga := getD_ge (l := a) (k := k) (by omega)
        have gb := getD_ge (l := b) (k := k) (by omega)
        simp only at hkM1 ⊢
        omega), hs1, by simp [hl]⟩, snoc_lt ho (by omega), by
        simp only
        rw [val_snoc, hl, Nat.pow_succ, val_take_getD, val_take_getD]
        exact carry_step hv (by omega), hg1, by
        simp only
        rw [ht1, ht, natCells_append]; rfl⟩)
  by_cases hor : k < a.length ∨ k < b.length ∨ 0 < c
  · have hkM : k ≤ M := by
      rcases hor with h | h | h
      · omega
      · omega
      · by_cases e : k = M + 1
        · have := hkc e; omega
        · omega
    by_cases ka : k < a.length
    · refine j_nf [.o [1, 1, 1, 0, 1, 0, 0, 0, 0] 0, .c [1, 1, 1, 0, 1, 0, 0, 0, 1], .c [1, 1, 1, 0, 1, 0, 0, 1], .lp [1, 1, 1, 0, 1, 0, 0], .blk 0, .c [1, 1, 1, 1]] rfl ?_
      refine j_run it 2 rfl (by simp) ?_
      refine j_step rfl (x_len sl35 rfl ?_)
      refine j_run it 2 rfl (by simp) ?_
      refine j_split_dec (t := 13) rfl (fun h3 => ?_) (fun h3 => by exfalso; omega)
      refine j_run it 9 rfl (by simp) ?_
      refine j_nf [.c [1, 1, 1, 0, 1, 0, 0, 0, 1], .c [1, 1, 1, 0, 1, 0, 0, 1], .lp [1, 1, 1, 0, 1, 0, 0], .blk 0, .c [1, 1, 1, 1]] rfl ?_
      refine j_true rfl rfl ?_
      refine j_nfn 2 [.c [1, 1, 1, 0, 1, 0, 0, 1, 0], .c [1, 1, 1, 0, 1, 0, 0, 1, 1], .lp [1, 1, 1, 0, 1, 0, 0], .blk 0, .c [1, 1, 1, 1]] rfl ?_
      refine j_to [0, 1] (by repeat (first | exact Fr.sub_nil _ | refine Fr.sub_cons rfl ?_ | refine Fr.sub_consI rfl (by first | omega | (dsimp only; omega)) ?_ | refine Fr.sub_consS rfl (by first | omega | (dsimp only; omega)) (by first | omega | (dsimp only; omega)) ?_)) rfl rfl (step hkM hor)
    · by_cases kb : k < b.length
      · refine j_nf [.o [1, 1, 1, 0, 1, 0, 0, 0, 0] 0, .c [1, 1, 1, 0, 1, 0, 0, 0, 1], .c [1, 1, 1, 0, 1, 0, 0, 1], .lp [1, 1, 1, 0, 1, 0, 0], .blk 0, .c [1, 1, 1, 1]] rfl ?_
        refine j_run it 2 rfl (by simp) ?_
        refine j_step rfl (x_len sl35 rfl ?_)
        refine j_run it 2 rfl (by simp) ?_
        refine j_split_dec (t := 13) rfl (fun h3 => by exfalso; omega) (fun h3 => ?_)
        refine j_run it 2 rfl (by simp) ?_
        refine j_gstep rfl rfl (x_len sl35 rfl ?_)
        refine j_run it 3 rfl (by simp) ?_
        refine j_split_dec (t := 19) rfl (fun h4 => ?_) (fun h4 => by exfalso; omega)
        refine j_run it 3 rfl (by simp) ?_
        refine j_nf [.c [1, 1, 1, 0, 1, 0, 0, 0, 1], .c [1, 1, 1, 0, 1, 0, 0, 1], .lp [1, 1, 1, 0, 1, 0, 0], .blk 0, .c [1, 1, 1, 1]] rfl ?_
        refine j_true rfl rfl ?_
        refine j_nfn 2 [.c [1, 1, 1, 0, 1, 0, 0, 1, 0], .c [1, 1, 1, 0, 1, 0, 0, 1, 1], .lp [1, 1, 1, 0, 1, 0, 0], .blk 0, .c [1, 1, 1, 1]] rfl ?_
        refine j_to [0, 1] (by repeat (first | exact Fr.sub_nil _ | refine Fr.sub_cons rfl ?_ | refine Fr.sub_consI rfl (by first | omega | (dsimp only; omega)) ?_ | refine Fr.sub_consS rfl (by first | omega | (dsimp only; omega)) (by first | omega | (dsimp only; omega)) ?_)) rfl rfl (step hkM hor)
      · have hc0 : 0 < c := by omega
        refine j_nf [.o [1, 1, 1, 0, 1, 0, 0, 0, 0] 0, .c [1, 1, 1, 0, 1, 0, 0, 0, 1], .c [1, 1, 1, 0, 1, 0, 0, 1], .lp [1, 1, 1, 0, 1, 0, 0], .blk 0, .c [1, 1, 1, 1]] rfl ?_
        refine j_run it 2 rfl (by simp) ?_
        refine j_step rfl (x_len sl35 rfl ?_)
        refine j_run it 2 rfl (by simp) ?_
        refine j_split_dec (t := 13) rfl (fun h3 => by exfalso; omega) (fun h3 => ?_)
        refine j_run it 2 rfl (by simp) ?_
        refine j_gstep rfl rfl (x_len sl35 rfl ?_)
        refine j_run it 3 rfl (by simp) ?_
        refine j_split_dec (t := 19) rfl (fun h4 => by exfalso; omega) (fun h4 => ?_)
        refine j_run it 3 rfl (by simp) ?_
        refine j_nf [.c [1, 1, 1, 0, 1, 0, 0, 0, 1], .c [1, 1, 1, 0, 1, 0, 0, 1], .lp [1, 1, 1, 0, 1, 0, 0], .blk 0, .c [1, 1, 1, 1]] rfl ?_
        refine j_if rfl rfl (fun h5 => ?_) (fun h5 => by exfalso; omega)
        refine j_nfn 2 [.c [1, 1, 1, 0, 1, 0, 0, 1, 0], .c [1, 1, 1, 0, 1, 0, 0, 1, 1], .lp [1, 1, 1, 0, 1, 0, 0], .blk 0, .c [1, 1, 1, 1]] rfl ?_
        refine j_to [0, 1] (by repeat (first | exact Fr.sub_nil _ | refine Fr.sub_cons rfl ?_ | refine Fr.sub_consI rfl (by first | omega | (dsimp only; omega)) ?_ | refine Fr.sub_consS rfl (by first | omega | (dsimp only; omega)) (by first | omega | (dsimp only; omega)) ?_)) rfl rfl (step hkM hor)
  · have ka : ¬ k < a.length := by omega
    have kb : ¬ k < b.length := by omega
    have hc0 : c = 0 := by omega
    subst hc0
    rw [List.take_of_length_le (by omega), List.take_of_length_le (by omega), Nat.mul_zero, Nat.add_zero] at hv
    refine j_pub_nat (kd := .u32) 4 out 0 rfl hg ht hl.symm (fun x hx => by have := ho x hx; simp only [InR]; omega) (by omega) ?_
    refine j_nf [.o [1, 1, 1, 0, 1, 0, 0, 0, 0] 0, .c [1, 1, 1, 0, 1, 0, 0, 0, 1], .c [1, 1, 1, 0, 1, 0, 0, 1], .lp [1, 1, 1, 0, 1, 0, 0], .blk 0, .c [1, 1, 1, 1]] rfl ?_
    refine j_run it 2 rfl (by simp) ?_
    refine j_step rfl (x_len sl35 rfl ?_)
    refine j_run it 2 rfl (by simp) ?_
    refine j_split_dec (t := 13) rfl (fun h3 => by exfalso; omega) (fun h3 => ?_)
    refine j_run it 2 rfl (by simp) ?_
    refine j_gstep rfl rfl (x_len sl35 rfl ?_)
    refine j_run it 3 rfl (by simp) ?_
    refine j_split_dec (t := 19) rfl (fun h4 => by exfalso; omega) (fun h4 => ?_)
    refine j_run it 3 rfl (by simp) ?_
    refine j_nf [.c [1, 1, 1, 0, 1, 0, 0, 0, 1], .c [1, 1, 1, 0, 1, 0, 0, 1], .lp [1, 1, 1, 0, 1, 0, 0], .blk 0, .c [1, 1, 1, 1]] rfl ?_
    refine j_if rfl rfl (fun h5 => by exfalso; omega) (fun h5 => ?_)
    refine j_nf [.o [1, 1, 1, 1, 0] 0, .c [1, 1, 1, 1, 1]] rfl ?_
    refine j_run it 1 rfl (by simp) ?_
    refine j_step rfl (x_call [0] rfl (S_codewrightref01_Trim) rfl ?_)
    rintro _ _ _ ⟨pa1, ca1, rfl, rfl, rfl⟩
    simp only [List.cons_append, List.nil_append]
    refine j_run it 1 rfl (by simp) ?_
    refine j_nf [.c [1, 1, 1, 1, 1]] rfl ?_
    rw [trim_eq ho, hv]
    refine j_giv [0] rfl rfl rfl ⟨_, _, rfl, rfl, rfl⟩
end Go.Proofs.Ytpoonnjaobjdgaa
