/-
Contracts of nat.plus and nat.Add.
-/
import Derived.Test.YtonjgeikppiodaaFuns
import Derived.Test.YtonjgeikppiodaaNatMath
import Derived.Test.YtonjgeikppiodaaNatMath2
import Derived.Test.YtonjgeikppiodaaA1
import Derived.Test.YtonjgeikppiodaaA2
namespace Go.Proofs.Ytonjgeikppiodaa
open Go Go.Fw
set_option maxRecDepth 100000
set_option linter.unusedVariables false
set_option maxHeartbeats 1000000
theorem S_nat_plus {pa pb : Option Addr} {n m ca cb : Nat} {a b : List Nat} (ha : a.length ≤ 1099511627776) (hb : b.length ≤ 1099511627776) :
    Ctr Try.prog 26 [.slice pa n ca, .slice pb m cb] [] [slF U32 pa n ca a, slF U32 pb m cb b] (Sv U32 (limbs (val a + val b))) := by
  refine Ctr_of_j' (F := F_nat_plus) rfl fun C => ?_
  refine j_len 0 rfl fun hn _ _ => ?_
  refine j_len 1 rfl fun hm _ _ => ?_
  subst hn; subst hm
  have core : ∀ (a b : List Nat) (pa pb : Option Addr) (ca cb : Nat), a.length ≤ 1099511627776 → b.length ≤ a.length →
      J F_nat_plus C [.c [1, 1]] [(0, .slice pa a.length ca), (1, .slice pb b.length cb)] [] [slF U32 pa a.length ca a, slF U32 pb b.length cb b] (Gives C (Sv U32 (limbs (val a + val b)))) := by
    clear ha hb
    intro a b pa pb ca cb ha hab
    refine j_range 0 rfl fun hra => ?_
    refine j_range 1 rfl fun hrb => ?_
    refine j_nf [.o [1, 1, 0] 0, .c [1, 1, 1]] rfl ?_
    refine j_run it 1 rfl (by simp) ?_
    refine j_step rfl (x_len sl25 rfl ?_)
    refine j_run it 1 rfl (by repeat' first | exact trivial | apply And.intro | omega) ?_
    refine j_step rfl (x_make_nat ((a.length) + 1) _ rfl rfl sl25 zo25e by25e (by omega) (by omega) (by omega) fun b1 => ?_)
    refine j_run it 1 rfl (by simp) ?_
    refine j_nf [.o [1, 1, 1, 0] 0, .c [1, 1, 1, 1]] rfl ?_
    refine j_run it 1 rfl (by simp) ?_
    refine j_nf [.o [1, 1, 1, 1, 0, 0] 0, .c [1, 1, 1, 1, 0, 1], .c [1, 1, 1, 1, 1]] rfl ?_
    refine j_run it 1 rfl (by simp) ?_
    refine j_step rfl (x_len sl25 rfl ?_)
    refine j_run it 1 rfl (by simp) ?_
    refine j_nf [.c [1, 1, 1, 1, 0, 1, 0], .blk 0, .c [1, 1, 1, 1, 1]] rfl ?_
    refine j_loopN (X := Nat × Nat × List Nat) (fun x => [(0, .slice pa a.length ca), (1, .slice pb b.length cb), (5, .slice (some ⟨b1, 0, none⟩) (a.length + 1) (a.length + 1)), (6, .int .u64 x.2.1), (21, .int .i64 a.length), (22, .int .i64 x.1)])
      (fun x => [(some b1, 38, natCells .u32 x.2.2)]) (fun _ => [slF U32 pa a.length ca a, slF U32 pb b.length cb b])
      (fun x => x.1 ≤ a.length ∧ x.2.2.length = a.length + 1 ∧ x.2.1 ≤ 1 ∧ (∀ y ∈ x.2.2, y < 4294967296) ∧ val (x.2.2.take x.1) + 4294967296 ^ x.1 * x.2.1 = val (a.take x.1) + val (b.take x.1))
      (fun x => a.length - x.1) (0, 0, List.replicate (a.length + 1) 0) [0, 1] rfl ⟨Nat.zero_le _, by simp, by simp, rep_lt (by decide), by simp [val]⟩ (by repeat (first | exact Fr.sub_nil _ | refine Fr.sub_cons rfl ?_)) rfl rfl ?_
    rintro ⟨k, c, out⟩ ⟨hk, hl, hc, ho, hv⟩ ih
    simp only at hk hl hc ho hv ih ⊢
    by_cases hkl : k < a.length
    · by_cases hkb : k < b.length
      · refine j_nf [.o [1, 1, 1, 1, 0, 1, 0, 0, 0] 0, .c [1, 1, 1, 1, 0, 1, 0, 0, 1], .lp [1, 1, 1, 1, 0, 1, 0, 0], .blk 0, .c [1, 1, 1, 1, 1]] rfl ?_
        refine j_run it 1 rfl (by simp) ?_
        refine j_nf [.c [1, 1, 1, 1, 0, 1, 0, 0, 1, 0], .c [1, 1, 1, 1, 0, 1, 0, 0, 1, 1], .lp [1, 1, 1, 1, 0, 1, 0, 0], .blk 0, .c [1, 1, 1, 1, 1]] rfl ?_
        refine j_if rfl rfl (fun h1 => ?_) (fun h1 => by exfalso; omega)
        refine j_nf [.o [1, 1, 1, 1, 0, 1, 0, 0, 1, 1, 0, 0, 0] 0, .c [1, 1, 1, 1, 0, 1, 0, 0, 1, 1, 0, 0, 1], .blk 1, .c [1, 1, 1, 1, 0, 1, 0, 0, 1, 1, 1], .lp [1, 1, 1, 1, 0, 1, 0, 0], .blk 0, .c [1, 1, 1, 1, 1]] rfl ?_
        refine j_run it 2 rfl (by simp) ?_
        refine j_nf [.o [1, 1, 1, 1, 0, 1, 0, 0, 1, 1, 0, 0, 1, 0] 0, .c [1, 1, 1, 1, 0, 1, 0, 0, 1, 1, 0, 0, 1, 1], .blk 1, .c [1, 1, 1, 1, 0, 1, 0, 0, 1, 1, 1], .lp [1, 1, 1, 1, 0, 1, 0, 0], .blk 0, .c [1, 1, 1, 1, 1]] rfl ?_
        refine j_run it 2 rfl (by simp) ?_
        refine j_step rfl (x_idx 0 (k) rfl rfl rfl sl25 rfl (by omega) fun z1 hz1 b2 o1 => ?_)
        refine j_step rfl (x_ld_nat 0 rfl rfl ld38 fun ⟨r1, r2⟩ => ?_)
        refine j_run it 4 rfl (by repeat' first | exact trivial | apply And.intro | omega) ?_
        refine j_nf [.o [1, 1, 1, 1, 0, 1, 0, 0, 1, 1, 0, 0, 1, 1, 0, 0] 0, .c [1, 1, 1, 1, 0, 1, 0, 0, 1, 1, 0, 0, 1, 1, 0, 1], .c [1, 1, 1, 1, 0, 1, 0, 0, 1, 1, 0, 0, 1, 1, 1], .blk 1, .c [1, 1, 1, 1, 0, 1, 0, 0, 1, 1, 1], .lp [1, 1, 1, 1, 0, 1, 0, 0], .blk 0, .c [1, 1, 1, 1, 1]] rfl ?_
        refine j_run it 2 rfl (by simp) ?_
        refine j_step rfl (x_len sl25 rfl ?_)
        refine j_run it 1 rfl (by simp) ?_
        refine j_nf [.c [1, 1, 1, 1, 0, 1, 0, 0, 1, 1, 0, 0, 1, 1, 0, 1], .c [1, 1, 1, 1, 0, 1, 0, 0, 1, 1, 0, 0, 1, 1, 1], .blk 1, .c [1, 1, 1, 1, 0, 1, 0, 0, 1, 1, 1], .lp [1, 1, 1, 1, 0, 1, 0, 0], .blk 0, .c [1, 1, 1, 1, 1]] rfl ?_
        refine j_if rfl rfl (fun h2 => ?_) (fun h2 => by exfalso; omega)
        refine j_nf [.o [1, 1, 1, 1, 0, 1, 0, 0, 1, 1, 0, 0, 1, 1, 0, 1, 0] 0, .c [1, 1, 1, 1, 0, 1, 0, 0, 1, 1, 0, 0, 1, 1, 1], .blk 1, .c [1, 1, 1, 1, 0, 1, 0, 0, 1, 1, 1], .lp [1, 1, 1, 1, 0, 1, 0, 0], .blk 0, .c [1, 1, 1, 1, 1]] rfl ?_
        refine j_run it 3 rfl (by simp) ?_
        refine j_step rfl (x_idx 2 (k) rfl rfl rfl sl25 rfl (by omega) fun z2 hz2 b3 o2 => ?_)
        refine j_step rfl (x_ld_nat 0 rfl rfl ld38 fun ⟨r3, r4⟩ => ?_)
        refine j_run it 3 rfl (by repeat' first | exact trivial | apply And.intro | omega) ?_
        refine j_nf [.o [1, 1, 1, 1, 0, 1, 0, 0, 1, 1, 0, 0, 1, 1, 1, 0] 0, .c [1, 1, 1, 1, 0, 1, 0, 0, 1, 1, 0, 0, 1, 1, 1, 1], .blk 1, .c [1, 1, 1, 1, 0, 1, 0, 0, 1, 1, 1], .lp [1, 1, 1, 1, 0, 1, 0, 0], .blk 0, .c [1, 1, 1, 1, 1]] rfl ?_
        refine j_run it 3 rfl (by simp) ?_
        refine j_step rfl (x_conv_u32 it rfl rfl rfl ?_)
        refine j_step rfl (x_idx_own (k) (k) rfl rfl sl25 rfl (by omega) (Nat.mul_one _) ?_)
        refine j_step rfl (x_bst_nat 0 ((((z1) + (c)) + (z2)) % 4294967296) rfl rfl rfl ld38 (by first | rfl | omega) (by first | omega | (simp; omega)) ?_)
        refine j_nf [.o [1, 1, 1, 1, 0, 1, 0, 0, 1, 1, 0, 0, 1, 1, 1, 1] 0, .blk 1, .c [1, 1, 1, 1, 0, 1, 0, 0, 1, 1, 1], .lp [1, 1, 1, 1, 0, 1, 0, 0], .blk 0, .c [1, 1, 1, 1, 1]] rfl ?_
        refine j_run it 3 rfl (by simp) ?_
        refine j_nf [.o [1, 1, 1, 1, 0, 1, 0, 0, 1, 1, 1] 0, .lp [1, 1, 1, 1, 0, 1, 0, 0], .blk 0, .c [1, 1, 1, 1, 1]] rfl ?_
        refine j_run it 2 rfl (by repeat' first | exact trivial | apply And.intro | omega) ?_
        refine j_nfn 1 [.lp [1, 1, 1, 1, 0, 1, 0, 0], .blk 0, .c [1, 1, 1, 1, 1]] rfl ?_
        have hz1' := hra z1 (List.mem_of_getElem? hz1)
        have hz2' := hrb z2 (List.mem_of_getElem? hz2)
        simp only [InR] at hz1' hz2'
        refine j_to [2, 3] (by repeat (first | exact Fr.sub_nil _ | refine Fr.sub_cons rfl ?_ | refine Fr.sub_consI rfl (by omega) ?_ | refine Fr.sub_consS rfl (by omega) (by omega) ?_)) rfl rfl (ih (k + 1, (z1 + c + z2) / 4294967296, out.set k ((z1 + c + z2) % 4294967296)) (by simp only; omega) ⟨by simp only; omega, by simpa using hl, by simp only; omega, set_lt ho (by omega), by
          simp only
          rw [val_set_take (by omega), Nat.pow_succ, val_take_succ hz1, val_take_succ hz2]; exact carry_step hv rfl⟩)
      · refine j_nf [.o [1, 1, 1, 1, 0, 1, 0, 0, 0] 0, .c [1, 1, 1, 1, 0, 1, 0, 0, 1], .lp [1, 1, 1, 1, 0, 1, 0, 0], .blk 0, .c [1, 1, 1, 1, 1]] rfl ?_
        refine j_run it 1 rfl (by simp) ?_
        refine j_nf [.c [1, 1, 1, 1, 0, 1, 0, 0, 1, 0], .c [1, 1, 1, 1, 0, 1, 0, 0, 1, 1], .lp [1, 1, 1, 1, 0, 1, 0, 0], .blk 0, .c [1, 1, 1, 1, 1]] rfl ?_
        refine j_if rfl rfl (fun h1 => ?_) (fun h1 => by exfalso; omega)
        refine j_nf [.o [1, 1, 1, 1, 0, 1, 0, 0, 1, 1, 0, 0, 0] 0, .c [1, 1, 1, 1, 0, 1, 0, 0, 1, 1, 0, 0, 1], .blk 1, .c [1, 1, 1, 1, 0, 1, 0, 0, 1, 1, 1], .lp [1, 1, 1, 1, 0, 1, 0, 0], .blk 0, .c [1, 1, 1, 1, 1]] rfl ?_
        refine j_run it 2 rfl (by simp) ?_
        refine j_nf [.o [1, 1, 1, 1, 0, 1, 0, 0, 1, 1, 0, 0, 1, 0] 0, .c [1, 1, 1, 1, 0, 1, 0, 0, 1, 1, 0, 0, 1, 1], .blk 1, .c [1, 1, 1, 1, 0, 1, 0, 0, 1, 1, 1], .lp [1, 1, 1, 1, 0, 1, 0, 0], .blk 0, .c [1, 1, 1, 1, 1]] rfl ?_
        refine j_run it 2 rfl (by simp) ?_
        refine j_step rfl (x_idx 0 (k) rfl rfl rfl sl25 rfl (by omega) fun z1 hz1 b2 o1 => ?_)
        refine j_step rfl (x_ld_nat 0 rfl rfl ld38 fun ⟨r1, r2⟩ => ?_)
        refine j_run it 4 rfl (by repeat' first | exact trivial | apply And.intro | omega) ?_
        refine j_nf [.o [1, 1, 1, 1, 0, 1, 0, 0, 1, 1, 0, 0, 1, 1, 0, 0] 0, .c [1, 1, 1, 1, 0, 1, 0, 0, 1, 1, 0, 0, 1, 1, 0, 1], .c [1, 1, 1, 1, 0, 1, 0, 0, 1, 1, 0, 0, 1, 1, 1], .blk 1, .c [1, 1, 1, 1, 0, 1, 0, 0, 1, 1, 1], .lp [1, 1, 1, 1, 0, 1, 0, 0], .blk 0, .c [1, 1, 1, 1, 1]] rfl ?_
        refine j_run it 2 rfl (by simp) ?_
        refine j_step rfl (x_len sl25 rfl ?_)
        refine j_run it 1 rfl (by simp) ?_
        refine j_nf [.c [1, 1, 1, 1, 0, 1, 0, 0, 1, 1, 0, 0, 1, 1, 0, 1], .c [1, 1, 1, 1, 0, 1, 0, 0, 1, 1, 0, 0, 1, 1, 1], .blk 1, .c [1, 1, 1, 1, 0, 1, 0, 0, 1, 1, 1], .lp [1, 1, 1, 1, 0, 1, 0, 0], .blk 0, .c [1, 1, 1, 1, 1]] rfl ?_
        refine j_if rfl rfl (fun h2 => by exfalso; omega) (fun h2 => ?_)
        refine j_nf [.o [1, 1, 1, 1, 0, 1, 0, 0, 1, 1, 0, 0, 1, 1, 1, 0] 0, .c [1, 1, 1, 1, 0, 1, 0, 0, 1, 1, 0, 0, 1, 1, 1, 1], .blk 1, .c [1, 1, 1, 1, 0, 1, 0, 0, 1, 1, 1], .lp [1, 1, 1, 1, 0, 1, 0, 0], .blk 0, .c [1, 1, 1, 1, 1]] rfl ?_
        refine j_run it 3 rfl (by simp) ?_
        refine j_step rfl (x_conv_u32 it rfl rfl rfl ?_)
        refine j_step rfl (x_idx_own (k) (k) rfl rfl sl25 rfl (by omega) (Nat.mul_one _) ?_)
        refine j_step rfl (x_bst_nat 0 (((z1) + (c)) % 4294967296) rfl rfl rfl ld38 (by first | rfl | omega) (by first | omega | (simp; omega)) ?_)
        refine j_nf [.o [1, 1, 1, 1, 0, 1, 0, 0, 1, 1, 0, 0, 1, 1, 1, 1] 0, .blk 1, .c [1, 1, 1, 1, 0, 1, 0, 0, 1, 1, 1], .lp [1, 1, 1, 1, 0, 1, 0, 0], .blk 0, .c [1, 1, 1, 1, 1]] rfl ?_
        refine j_run it 3 rfl (by simp) ?_
        refine j_nf [.o [1, 1, 1, 1, 0, 1, 0, 0, 1, 1, 1] 0, .lp [1, 1, 1, 1, 0, 1, 0, 0], .blk 0, .c [1, 1, 1, 1, 1]] rfl ?_
        refine j_run it 2 rfl (by repeat' first | exact trivial | apply And.intro | omega) ?_
        refine j_nfn 1 [.lp [1, 1, 1, 1, 0, 1, 0, 0], .blk 0, .c [1, 1, 1, 1, 1]] rfl ?_
        have hz1' := hra z1 (List.mem_of_getElem? hz1)
        simp only [InR] at hz1'
        refine j_to [1, 2] (by repeat (first | exact Fr.sub_nil _ | refine Fr.sub_cons rfl ?_ | refine Fr.sub_consI rfl (by omega) ?_ | refine Fr.sub_consS rfl (by omega) (by omega) ?_)) rfl rfl (ih (k + 1, (z1 + c) / 4294967296, out.set k ((z1 + c) % 4294967296)) (by simp only; omega) ⟨by simp only; omega, by simpa using hl, by simp only; omega, set_lt ho (by omega), by
          simp only
          rw [val_set_take (by omega), Nat.pow_succ, val_take_succ hz1, take_ge (l := b) (by omega)]; exact carry_step (y := 0) hv rfl⟩)
    · refine j_nf [.o [1, 1, 1, 1, 0, 1, 0, 0, 0] 0, .c [1, 1, 1, 1, 0, 1, 0, 0, 1], .lp [1, 1, 1, 1, 0, 1, 0, 0], .blk 0, .c [1, 1, 1, 1, 1]] rfl ?_
      refine j_run it 1 rfl (by simp) ?_
      refine j_nf [.c [1, 1, 1, 1, 0, 1, 0, 0, 1, 0], .c [1, 1, 1, 1, 0, 1, 0, 0, 1, 1], .lp [1, 1, 1, 1, 0, 1, 0, 0], .blk 0, .c [1, 1, 1, 1, 1]] rfl ?_
      refine j_if rfl rfl (fun h1 => by exfalso; omega) (fun h1 => ?_)
      refine j_nf [.o [1, 1, 1, 1, 1, 0] 0, .c [1, 1, 1, 1, 1, 1]] rfl ?_
      refine j_run it 2 rfl (by simp) ?_
      refine j_step rfl (x_len sl25 rfl ?_)
      refine j_run it 2 rfl (by repeat' first | exact trivial | apply And.intro | omega) ?_
      refine j_step rfl (x_idx_own (a.length) (a.length) rfl rfl sl25 rfl (by omega) (Nat.mul_one _) ?_)
      refine j_step rfl (x_bst_nat 0 (c) rfl rfl rfl ld38 (by first | rfl | omega) (by first | omega | (simp; omega)) ?_)
      refine j_nf [.o [1, 1, 1, 1, 1, 1, 0] 0, .c [1, 1, 1, 1, 1, 1, 1]] rfl ?_
      refine j_run it 1 rfl (by simp) ?_
      refine j_pub32 (n := a.length + 1) 0 rfl (by simp [*]) (by first | assumption | exact set_all (by assumption) (by omega) | (simp; omega)) (by omega) ?_
      refine j_step rfl (x_call [0] rfl (S_nat_short) rfl ?_)
      rintro _ _ _ ⟨rfl, rfl, rfl⟩
      simp only [List.cons_append, List.nil_append]
      refine j_run it 1 rfl (by simp) ?_
      refine j_nf [.c [1, 1, 1, 1, 1, 1, 1]] rfl ?_
      have e : k = a.length := by omega
      have fin : trim (out.set a.length c) = limbs (val a + val b) := by
        subst e
        rw [List.take_length, List.take_of_length_le hab] at hv
        rw [trim_eq (set_lt ho (by omega)), ← hv, ← val_set_take (by omega), List.take_of_length_le (by simp; omega)]
      rw [fin]
      refine j_giv [0] rfl rfl rfl ⟨_, _, rfl, rfl, rfl⟩
  by_cases hab : a.length < b.length
  · refine j_nf [.o [0] 0, .c [1]] rfl ?_
    refine j_run it 1 rfl (by simp) ?_
    refine j_nf [.o [1, 0, 0] 0, .c [1, 0, 1], .c [1, 1]] rfl ?_
    refine j_run it 1 rfl (by simp) ?_
    refine j_step rfl (x_len sl25 rfl ?_)
    refine j_run it 1 rfl (by simp) ?_
    refine j_step rfl (x_len sl25 rfl ?_)
    refine j_run it 1 rfl (by simp) ?_
    refine j_nf [.c [1, 0, 1], .c [1, 1]] rfl ?_
    refine j_if rfl rfl (fun h1 => ?_) (fun h1 => by exfalso; omega)
    refine j_nf [.o [1, 0, 1, 0] 0, .c [1, 1]] rfl ?_
    refine j_run it 4 rfl (by simp) ?_
    refine j_nfn 1 [.c [1, 1]] rfl ?_
    rw [Nat.add_comm]
    refine j_to [1, 0] (by repeat (first | exact Fr.sub_nil _ | refine Fr.sub_cons rfl ?_ | refine Fr.sub_consI rfl (by omega) ?_ | refine Fr.sub_consS rfl (by omega) (by omega) ?_)) rfl rfl (core b a pb pa cb ca hb (by omega))
  · refine j_nf [.o [0] 0, .c [1]] rfl ?_
    refine j_run it 1 rfl (by simp) ?_
    refine j_nf [.o [1, 0, 0] 0, .c [1, 0, 1], .c [1, 1]] rfl ?_
    refine j_run it 1 rfl (by simp) ?_
    refine j_step rfl (x_len sl25 rfl ?_)
    refine j_run it 1 rfl (by simp) ?_
    refine j_step rfl (x_len sl25 rfl ?_)
    refine j_run it 1 rfl (by simp) ?_
    refine j_nf [.c [1, 0, 1], .c [1, 1]] rfl ?_
    refine j_if rfl rfl (fun h1 => by exfalso; omega) (fun h1 => ?_)
    refine j_nfn 1 [.c [1, 1]] rfl ?_
    refine j_to [0, 1] (by repeat (first | exact Fr.sub_nil _ | refine Fr.sub_cons rfl ?_ | refine Fr.sub_consI rfl (by omega) ?_ | refine Fr.sub_consS rfl (by omega) (by omega) ?_)) rfl rfl (core a b pa pb ca cb ha (by omega))

/-- Rows of limbs: what a fact on them says outside of memory. -/
theorem rows_range {P : Program} {F : Fun P} {C : Cx} {S : List It} {σ : Fr} {β : List Blk} {Γ : List Fact} {R : Value → World → Prop} {pa : Option Addr} {n ca : Nat} {ls : List (List Nat)} (k : Nat) (hk : nth Γ k = some (slF NatE pa n ca ls))
    (h : (∀ l ∈ ls, ∀ x ∈ l, x < 4294967296) → J F C S σ β Γ R) : J F C S σ β Γ R :=
  j_know (fun w A hG l hl x hx => by
    obtain ⟨_, _, _, hs⟩ := hG _ (fact_mem hk)
    rcases hs with rfl | ⟨b, o, _, _, hel⟩
    · cases hl
    · obtain ⟨i, hi⟩ := List.getElem?_of_mem hl
      obtain ⟨vs, _, pa', ca', _, _, _, hr⟩ := hel i l hi
      rcases hr with rfl | ⟨b', o', _, _, hel'⟩
      · cases hx
      · obtain ⟨j, hj⟩ := List.getElem?_of_mem hx
        obtain ⟨vs, _, _, hR⟩ := hel' j x hj
        simp only [InR] at hR; omega) h

theorem S_nat_Add {pa : Option Addr} {n ca : Nat} {ls : List (List Nat)} (hn : ls.length ≤ 65536) (hL : ∀ l ∈ ls, l.length ≤ 1073741824) : Ctr Try.prog 14 [.slice pa n ca] [] [slF NatE pa n ca ls] (Sv U32 (limbs (sumV ls))) := by
  refine Ctr_of_j' (F := F_nat_Add) rfl fun C => ?_
  refine j_len 0 rfl fun hl _ _ => ?_
  subst hl
  refine rows_range 0 rfl fun hr => ?_
  have hs := sum_len hr hL hn
  refine j_nf [.o [0] 0, .c [1]] rfl ?_
  refine j_run it 1 rfl (by simp) ?_
  refine j_nf [.o [1, 0] 0, .c [1, 1]] rfl ?_
  refine j_run it 1 rfl (by simp) ?_
  refine j_nf [.o [1, 1, 0, 0] 0, .c [1, 1, 0, 1], .c [1, 1, 1]] rfl ?_
  refine j_run it 1 rfl (by simp) ?_
  refine j_step rfl (x_len sl22 rfl ?_)
  refine j_run it 1 rfl (by simp) ?_
  refine j_nf [.c [1, 1, 0, 1, 0], .blk 0, .c [1, 1, 1]] rfl ?_
  refine j_add (slF U32 none (limbs (sumV (ls.take 0))).length 0 (limbs (sumV (ls.take 0)))) (fun w A _ => by rw [show sumV (ls.take 0) = 0 from rfl, limbs_zero]; exact slF_nil _ _ _ _ _) ?_
  refine j_loopN (X := Nat × Option Addr × Nat) (fun x => [(3, .slice x.2.1 (limbs (sumV (ls.take x.1))).length x.2.2), (6, .slice pa ls.length ca), (7, .int .i64 ls.length), (8, .int .i64 x.1)])
    (fun x => []) (fun x => [slF U32 x.2.1 (limbs (sumV (ls.take x.1))).length x.2.2 (limbs (sumV (ls.take x.1))), slF NatE pa ls.length ca ls])
    (fun x => x.1 ≤ ls.length) (fun x => ls.length - x.1) (0, none, 0) [0, 1] rfl (Nat.zero_le _) (by
      rw [show (limbs (sumV (ls.take (0, (none : Option Addr), 0).1))).length = 0 by rw [show sumV (ls.take 0) = 0 from rfl, limbs_zero]; rfl]
      repeat (first | exact Fr.sub_nil _ | refine Fr.sub_cons rfl ?_)) rfl rfl ?_
  rintro ⟨k, ps, cs⟩ hk ih
  simp only at hk ih ⊢
  have hsk := hs k
  by_cases hkl : k < ls.length
  · have side : ∀ z, ls[k]? = some z → (trim z).length ≤ 1099511627776 := fun z hz => by have := trim_length_le z; have := hL z (List.mem_of_getElem? hz); omega
    refine j_nf [.o [1, 1, 0, 1, 0, 0, 0] 0, .c [1, 1, 0, 1, 0, 0, 1], .lp [1, 1, 0, 1, 0, 0], .blk 0, .c [1, 1, 1]] rfl ?_
    refine j_run it 1 rfl (by simp) ?_
    refine j_nf [.c [1, 1, 0, 1, 0, 0, 1, 0], .c [1, 1, 0, 1, 0, 0, 1, 1], .lp [1, 1, 0, 1, 0, 0], .blk 0, .c [1, 1, 1]] rfl ?_
    refine j_if rfl rfl (fun h1 => ?_) (fun h1 => by exfalso; omega)
    refine j_nf [.o [1, 1, 0, 1, 0, 0, 1, 1, 0, 0, 0] 0, .c [1, 1, 0, 1, 0, 0, 1, 1, 0, 0, 1], .blk 1, .c [1, 1, 0, 1, 0, 0, 1, 1, 1], .lp [1, 1, 0, 1, 0, 0], .blk 0, .c [1, 1, 1]] rfl ?_
    refine j_step rfl (x_idx 1 (k) rfl rfl rfl sl22 rfl (by omega) fun z1 hz1 b1 o1 => ?_)
    refine j_step rfl (x_ld_sl 0 rfl rfl ld25 fun pa1 ca1 => ?_)
    refine j_run it 1 rfl (by simp) ?_
    refine j_nf [.o [1, 1, 0, 1, 0, 0, 1, 1, 0, 0, 1] 0, .blk 1, .c [1, 1, 0, 1, 0, 0, 1, 1, 1], .lp [1, 1, 0, 1, 0, 0], .blk 0, .c [1, 1, 1]] rfl ?_
    refine j_run it 2 rfl (by simp) ?_
    refine j_step rfl (x_call [0] rfl (S_nat_short) rfl ?_)
    rintro _ _ _ ⟨rfl, rfl, rfl⟩
    simp only [List.cons_append, List.nil_append]
    refine j_step rfl (x_call [3, 0] rfl (S_nat_plus (by first | omega | exact side _ (by assumption) | assumption | (simp; done) | (simp; omega)) (by first | omega | exact side _ (by assumption) | assumption | (simp; done) | (simp; omega))) rfl ?_)
    rintro _ _ _ ⟨pa2, ca2, rfl, rfl, rfl⟩
    simp only [List.cons_append, List.nil_append]
    refine j_run it 1 rfl (by simp) ?_
    refine j_nf [.o [1, 1, 0, 1, 0, 0, 1, 1, 1] 0, .lp [1, 1, 0, 1, 0, 0], .blk 0, .c [1, 1, 1]] rfl ?_
    refine j_run it 2 rfl (by repeat' first | exact trivial | apply And.intro | omega) ?_
    refine j_nfn 1 [.lp [1, 1, 0, 1, 0, 0], .blk 0, .c [1, 1, 1]] rfl ?_
    have e : val (limbs (sumV (ls.take k))) + val (trim z1) = sumV (ls.take (k + 1)) := by rw [val_limbs, val_trim, sumV_take_succ hz1]
    rw [e]
    refine j_to [0, 5] (by repeat (first | exact Fr.sub_nil _ | refine Fr.sub_cons rfl ?_ | refine Fr.sub_consI rfl (by omega) ?_ | refine Fr.sub_consS rfl (by omega) (by omega) ?_)) rfl rfl (ih (k + 1, pa2, ca2) (by simp only; omega) (by simp only; omega))
  · refine j_nf [.o [1, 1, 0, 1, 0, 0, 0] 0, .c [1, 1, 0, 1, 0, 0, 1], .lp [1, 1, 0, 1, 0, 0], .blk 0, .c [1, 1, 1]] rfl ?_
    refine j_run it 1 rfl (by simp) ?_
    refine j_nf [.c [1, 1, 0, 1, 0, 0, 1, 0], .c [1, 1, 0, 1, 0, 0, 1, 1], .lp [1, 1, 0, 1, 0, 0], .blk 0, .c [1, 1, 1]] rfl ?_
    refine j_if rfl rfl (fun h1 => by exfalso; omega) (fun h1 => ?_)
    refine j_nf [.o [1, 1, 1, 0] 0, .c [1, 1, 1, 1]] rfl ?_
    refine j_run it 1 rfl (by simp) ?_
    refine j_step rfl (x_call [0] rfl (S_nat_Trim) rfl ?_)
    rintro _ _ _ ⟨pa1, ca1, rfl, rfl, rfl⟩
    simp only [List.cons_append, List.nil_append]
    refine j_run it 1 rfl (by simp) ?_
    refine j_nf [.c [1, 1, 1, 1]] rfl ?_
    have e : ls.take k = ls := List.take_of_length_le (by omega)
    rw [e, trim_limbs]
    refine j_giv [0] rfl rfl rfl ⟨_, _, rfl, rfl, rfl⟩
end Go.Proofs.Ytonjgeikppiodaa
