/-
Contracts of nat.times and nat.Mul.
-/
import Derived.Test.YtonjgeikppiodaaFuns
import Derived.Test.YtonjgeikppiodaaNatMath
import Derived.Test.YtonjgeikppiodaaNatMath2
import Derived.Test.YtonjgeikppiodaaA1
import Derived.Test.YtonjgeikppiodaaA2
import Derived.Test.YtonjgeikppiodaaA3
namespace Go.Proofs.Ytonjgeikppiodaa
open Go Go.Fw
set_option maxRecDepth 100000
set_option linter.unusedVariables false
set_option maxHeartbeats 1000000
theorem drop_set_ge {l : List Nat} {k z m : Nat} (h : k < m) : (l.set k z).drop m = l.drop m := by rw [List.drop_set_of_lt h]
theorem get_of_drop {l l' : List Nat} {k z : Nat} (h : l.drop k = l'.drop k) (hz : l[k]? = some z) : l'[k]? = some z := by
  have := congrArg (fun x => x[0]?) h
  simpa [List.getElem?_drop, hz] using this.symm
theorem drop_more {l l' : List Nat} {k : Nat} (h : l.drop k = l'.drop k) : l.drop (k + 1) = l'.drop (k + 1) := by
  have := congrArg (List.drop 1) h
  simpa [List.drop_drop, Nat.add_comm] using this

theorem mul_step {i j c x y z : Nat} {out v0 b : List Nat} (h : val (out.take (i + j)) + 4294967296 ^ (i + j) * c = val (v0.take (i + j)) + 4294967296 ^ i * (x * val (b.take j)))
    (hz : v0[i + j]? = some z) (hy : b[j]? = some y) (ho : i + j < out.length) :
    val ((out.set (i + j) ((x * y + z + c) % 4294967296)).take (i + (j + 1))) + 4294967296 ^ (i + (j + 1)) * ((x * y + z + c) / 4294967296) = val (v0.take (i + (j + 1))) + 4294967296 ^ i * (x * val (b.take (j + 1))) := by
  rw [show i + (j + 1) = (i + j) + 1 by omega, val_set_take ho, Nat.pow_succ, val_take_succ hz, val_take_succ hy, carry_step (x := z) (y := x * y) h (by omega), Nat.mul_add, Nat.mul_add, Nat.pow_add]
  simp only [Nat.mul_assoc, Nat.mul_left_comm]

theorem mul_row {i x : Nat} {a : List Nat} {c : Nat} {out : List Nat} {vb lb : Nat} (h : val (out.take (i + lb)) + 4294967296 ^ (i + lb) * c = val (a.take i) * vb + 4294967296 ^ i * (x * vb)) (hx : a[i]? = some x) (ho : i + lb < out.length) :
    val ((out.set (i + lb) c).take (i + 1 + lb)) = val (a.take (i + 1)) * vb := by
  rw [show i + 1 + lb = i + lb + 1 by omega, val_set_take ho, h, val_take_succ hx, Nat.add_mul, Nat.mul_assoc]

theorem S_nat_times {pa pb : Option Addr} {n m ca cb : Nat} {a b : List Nat} (ha : a.length ≤ 1099511627776) (hb : b.length ≤ 1099511627776) :
    Ctr Try.prog 24 [.slice pa n ca, .slice pb m cb] [] [slF U32 pa n ca a, slF U32 pb m cb b] (Sv U32 (limbs (val a * val b))) := by
  refine Ctr_of_j' (F := F_nat_times) rfl fun C => ?_
  refine j_len 0 rfl fun hn _ _ => ?_
  refine j_len 1 rfl fun hm _ _ => ?_
  subst hn; subst hm
  refine j_range 0 rfl fun hra => ?_
  refine j_range 1 rfl fun hrb => ?_
  simp only [InR] at hra hrb
  refine j_nf [.o [0] 0, .c [1]] rfl ?_
  refine j_run it 1 rfl (by simp) ?_
  refine j_nf [.o [1, 0] 0, .c [1, 1]] rfl ?_
  refine j_run it 1 rfl (by simp) ?_
  refine j_step rfl (x_len sl25 rfl ?_)
  refine j_run it 1 rfl (by simp) ?_
  refine j_step rfl (x_len sl25 rfl ?_)
  refine j_run it 1 rfl (by repeat' first | exact trivial | apply And.intro | omega) ?_
  refine j_step rfl (x_make_nat ((a.length) + (b.length)) _ rfl rfl sl25 zo25e by25e (by omega) (by omega) (by omega) fun b1 => ?_)
  refine j_run it 1 rfl (by simp) ?_
  refine j_nf [.o [1, 1, 0, 0] 0, .c [1, 1, 0, 1], .c [1, 1, 1]] rfl ?_
  refine j_run it 1 rfl (by simp) ?_
  refine j_step rfl (x_len sl25 rfl ?_)
  refine j_run it 1 rfl (by simp) ?_
  refine j_nf [.c [1, 1, 0, 1, 0], .blk 0, .c [1, 1, 1]] rfl ?_
  refine j_loopN (X := Nat × List Nat) (fun x => [(0, .slice pa a.length ca), (1, .slice pb b.length cb), (5, .slice (some ⟨b1, 0, none⟩) (a.length + b.length) (a.length + b.length)), (18, .slice pa a.length ca), (19, .int .i64 a.length), (20, .int .i64 x.1)])
    (fun x => [(some b1, 38, natCells .u32 x.2)]) (fun _ => [slF U32 pa a.length ca a, slF U32 pb b.length cb b])
    (fun x => x.1 ≤ a.length ∧ x.2.length = a.length + b.length ∧ (∀ y ∈ x.2, y < 4294967296) ∧ val (x.2.take (x.1 + b.length)) = val (a.take x.1) * val b)
    (fun x => a.length - x.1) (0, List.replicate (a.length + b.length) 0) [0, 1] rfl ⟨Nat.zero_le _, by simp, rep_lt (by decide), by simp [val, val_replicate]⟩ (by repeat (first | exact Fr.sub_nil _ | refine Fr.sub_cons rfl ?_)) rfl rfl ?_
  rintro ⟨i, v0⟩ ⟨hi, hl, ho, hv⟩ ih
  simp only at hi hl ho hv ih ⊢
  by_cases hil : i < a.length
  · refine j_nf [.o [1, 1, 0, 1, 0, 0, 0] 0, .c [1, 1, 0, 1, 0, 0, 1], .lp [1, 1, 0, 1, 0, 0], .blk 0, .c [1, 1, 1]] rfl ?_
    refine j_run it 1 rfl (by simp) ?_
    refine j_nf [.c [1, 1, 0, 1, 0, 0, 1, 0], .c [1, 1, 0, 1, 0, 0, 1, 1], .lp [1, 1, 0, 1, 0, 0], .blk 0, .c [1, 1, 1]] rfl ?_
    refine j_if rfl rfl (fun h1 => ?_) (fun h1 => by exfalso; omega)
    refine j_nf [.o [1, 1, 0, 1, 0, 0, 1, 1, 0, 0, 0] 0, .c [1, 1, 0, 1, 0, 0, 1, 1, 0, 0, 1], .blk 1, .c [1, 1, 0, 1, 0, 0, 1, 1, 1], .lp [1, 1, 0, 1, 0, 0], .blk 0, .c [1, 1, 1]] rfl ?_
    refine j_run it 1 rfl (by simp) ?_
    refine j_step rfl (x_idx 0 (i) rfl rfl rfl sl25 rfl (by omega) fun z1 hz1 b2 o1 => ?_)
    refine j_step rfl (x_ld_nat 0 rfl rfl ld38 fun ⟨r1, r2⟩ => ?_)
    refine j_run it 2 rfl (by simp) ?_
    refine j_nf [.o [1, 1, 0, 1, 0, 0, 1, 1, 0, 0, 1, 0] 0, .c [1, 1, 0, 1, 0, 0, 1, 1, 0, 0, 1, 1], .blk 1, .c [1, 1, 0, 1, 0, 0, 1, 1, 1], .lp [1, 1, 0, 1, 0, 0], .blk 0, .c [1, 1, 1]] rfl ?_
    refine j_run it 1 rfl (by simp) ?_
    refine j_nf [.o [1, 1, 0, 1, 0, 0, 1, 1, 0, 0, 1, 1, 0, 0] 0, .c [1, 1, 0, 1, 0, 0, 1, 1, 0, 0, 1, 1, 0, 1], .c [1, 1, 0, 1, 0, 0, 1, 1, 0, 0, 1, 1, 1], .blk 1, .c [1, 1, 0, 1, 0, 0, 1, 1, 1], .lp [1, 1, 0, 1, 0, 0], .blk 0, .c [1, 1, 1]] rfl ?_
    refine j_run it 1 rfl (by simp) ?_
    refine j_step rfl (x_len sl25 rfl ?_)
    refine j_run it 1 rfl (by simp) ?_
    refine j_nf [.c [1, 1, 0, 1, 0, 0, 1, 1, 0, 0, 1, 1, 0, 1, 0], .blk 2, .c [1, 1, 0, 1, 0, 0, 1, 1, 0, 0, 1, 1, 1], .blk 1, .c [1, 1, 0, 1, 0, 0, 1, 1, 1], .lp [1, 1, 0, 1, 0, 0], .blk 0, .c [1, 1, 1]] rfl ?_
    refine j_loopN (X := Nat × Nat × List Nat) (fun x => [(0, .slice pa a.length ca), (1, .slice pb b.length cb), (5, .slice (some ⟨b1, 0, none⟩) (a.length + b.length) (a.length + b.length)), (18, .slice pa a.length ca), (19, .int .i64 a.length), (20, .int .i64 i), (6, .int .i64 i), (7, .int .u32 z1), (8, .int .u64 x.2.1), (25, .slice pb b.length cb), (26, .int .i64 b.length), (27, .int .i64 x.1)])
      (fun x => [(some b1, 38, natCells .u32 x.2.2)]) (fun _ => [slF U32 pa a.length ca a, slF U32 pb b.length cb b])
      (fun x => x.1 ≤ b.length ∧ x.2.2.length = a.length + b.length ∧ x.2.1 < 4294967296 ∧ (∀ y ∈ x.2.2, y < 4294967296) ∧ val (x.2.2.take (i + x.1)) + 4294967296 ^ (i + x.1) * x.2.1 = val (v0.take (i + x.1)) + 4294967296 ^ i * (z1 * val (b.take x.1)) ∧ x.2.2.drop (i + x.1) = v0.drop (i + x.1))
      (fun x => b.length - x.1) (0, 0, v0) [1, 2] rfl ⟨Nat.zero_le _, hl, Nat.zero_lt_succ _, ho, by simp [val], rfl⟩ (by repeat (first | exact Fr.sub_nil _ | refine Fr.sub_cons rfl ?_)) rfl rfl ?_
    rintro ⟨j, c, out⟩ ⟨hj, hl', hc, ho', hv', hd⟩ ih'
    simp only at hj hl' hc ho' hv' hd ih' ⊢
    by_cases hjl : j < b.length
    · refine j_nf [.o [1, 1, 0, 1, 0, 0, 1, 1, 0, 0, 1, 1, 0, 1, 0, 0, 0] 0, .c [1, 1, 0, 1, 0, 0, 1, 1, 0, 0, 1, 1, 0, 1, 0, 0, 1], .lp [1, 1, 0, 1, 0, 0, 1, 1, 0, 0, 1, 1, 0, 1, 0, 0], .blk 2, .c [1, 1, 0, 1, 0, 0, 1, 1, 0, 0, 1, 1, 1], .blk 1, .c [1, 1, 0, 1, 0, 0, 1, 1, 1], .lp [1, 1, 0, 1, 0, 0], .blk 0, .c [1, 1, 1]] rfl ?_
      refine j_run it 1 rfl (by simp) ?_
      refine j_nf [.c [1, 1, 0, 1, 0, 0, 1, 1, 0, 0, 1, 1, 0, 1, 0, 0, 1, 0], .c [1, 1, 0, 1, 0, 0, 1, 1, 0, 0, 1, 1, 0, 1, 0, 0, 1, 1], .lp [1, 1, 0, 1, 0, 0, 1, 1, 0, 0, 1, 1, 0, 1, 0, 0], .blk 2, .c [1, 1, 0, 1, 0, 0, 1, 1, 0, 0, 1, 1, 1], .blk 1, .c [1, 1, 0, 1, 0, 0, 1, 1, 1], .lp [1, 1, 0, 1, 0, 0], .blk 0, .c [1, 1, 1]] rfl ?_
      refine j_if rfl rfl (fun h2 => ?_) (fun h2 => by exfalso; omega)
      refine j_nf [.o [1, 1, 0, 1, 0, 0, 1, 1, 0, 0, 1, 1, 0, 1, 0, 0, 1, 1, 0, 0, 0] 0, .c [1, 1, 0, 1, 0, 0, 1, 1, 0, 0, 1, 1, 0, 1, 0, 0, 1, 1, 0, 0, 1], .blk 3, .c [1, 1, 0, 1, 0, 0, 1, 1, 0, 0, 1, 1, 0, 1, 0, 0, 1, 1, 1], .lp [1, 1, 0, 1, 0, 0, 1, 1, 0, 0, 1, 1, 0, 1, 0, 0], .blk 2, .c [1, 1, 0, 1, 0, 0, 1, 1, 0, 0, 1, 1, 1], .blk 1, .c [1, 1, 0, 1, 0, 0, 1, 1, 1], .lp [1, 1, 0, 1, 0, 0], .blk 0, .c [1, 1, 1]] rfl ?_
      refine j_run it 1 rfl (by simp) ?_
      refine j_step rfl (x_idx 1 (j) rfl rfl rfl sl25 rfl (by omega) fun z2 hz2 b3 o2 => ?_)
      refine j_step rfl (x_ld_nat 0 rfl rfl ld38 fun ⟨r3, r4⟩ => ?_)
      refine j_run it 2 rfl (by simp) ?_
      refine j_nf [.o [1, 1, 0, 1, 0, 0, 1, 1, 0, 0, 1, 1, 0, 1, 0, 0, 1, 1, 0, 0, 1, 0] 0, .c [1, 1, 0, 1, 0, 0, 1, 1, 0, 0, 1, 1, 0, 1, 0, 0, 1, 1, 0, 0, 1, 1], .blk 3, .c [1, 1, 0, 1, 0, 0, 1, 1, 0, 0, 1, 1, 0, 1, 0, 0, 1, 1, 1], .lp [1, 1, 0, 1, 0, 0, 1, 1, 0, 0, 1, 1, 0, 1, 0, 0], .blk 2, .c [1, 1, 0, 1, 0, 0, 1, 1, 0, 0, 1, 1, 1], .blk 1, .c [1, 1, 0, 1, 0, 0, 1, 1, 1], .lp [1, 1, 0, 1, 0, 0], .blk 0, .c [1, 1, 1]] rfl ?_
      refine j_run it 9 rfl (by repeat' first | exact trivial | apply And.intro | omega | exact Int.mul_nonneg (by omega) (by omega) | exact mul64_nn (by omega) (by omega) (by omega) | exact mul64_nnn (by omega) (by omega) (by omega) (by omega) | exact mul64_1 (by omega) (by omega) (by omega) (by omega) | exact mul64_2 (by omega) (by omega) (by omega) (by omega) (by omega) | exact mul64_3 (by omega) (by omega) (by omega) (by omega) (by omega) (by omega)) ?_
      refine j_step rfl (x_idx_own ((i) + (j)) ((i) + (j)) rfl rfl sl25 (by omega) (by omega) (Nat.mul_one _) ?_)
      refine j_step rfl (x_bld_natR 0 rfl rfl ld38 (by assumption) (by first | omega | (simp; omega)) fun z3 hz3 hlt1 => ?_)
      refine j_run it 5 rfl (by repeat' first | exact trivial | apply And.intro | omega | exact Int.mul_nonneg (by omega) (by omega) | exact mul64_nn (by omega) (by omega) (by omega) | exact mul64_nnn (by omega) (by omega) (by omega) (by omega) | exact mul64_1 (by omega) (by omega) (by omega) (by omega) | exact mul64_2 (by omega) (by omega) (by omega) (by omega) (by omega) | exact mul64_3 (by omega) (by omega) (by omega) (by omega) (by omega) (by omega)) ?_
      refine j_nf [.o [1, 1, 0, 1, 0, 0, 1, 1, 0, 0, 1, 1, 0, 1, 0, 0, 1, 1, 0, 0, 1, 1, 0] 0, .c [1, 1, 0, 1, 0, 0, 1, 1, 0, 0, 1, 1, 0, 1, 0, 0, 1, 1, 0, 0, 1, 1, 1], .blk 3, .c [1, 1, 0, 1, 0, 0, 1, 1, 0, 0, 1, 1, 0, 1, 0, 0, 1, 1, 1], .lp [1, 1, 0, 1, 0, 0, 1, 1, 0, 0, 1, 1, 0, 1, 0, 0], .blk 2, .c [1, 1, 0, 1, 0, 0, 1, 1, 0, 0, 1, 1, 1], .blk 1, .c [1, 1, 0, 1, 0, 0, 1, 1, 1], .lp [1, 1, 0, 1, 0, 0], .blk 0, .c [1, 1, 1]] rfl ?_
      refine j_run it 5 rfl (by repeat' first | exact trivial | apply And.intro | omega) ?_
      refine j_step rfl (x_conv_u32 it rfl rfl rfl ?_)
      refine j_step rfl (x_idx_own ((i) + (j)) ((i) + (j)) rfl rfl sl25 (by omega) (by omega) (Nat.mul_one _) ?_)
      refine j_step rfl (x_bst_nat 0 (((((z1) * (z2)) + (z3)) + (c)) % 4294967296) rfl rfl rfl ld38 (by first | rfl | omega) (by first | omega | (simp; omega)) ?_)
      refine j_nf [.o [1, 1, 0, 1, 0, 0, 1, 1, 0, 0, 1, 1, 0, 1, 0, 0, 1, 1, 0, 0, 1, 1, 1] 0, .blk 3, .c [1, 1, 0, 1, 0, 0, 1, 1, 0, 0, 1, 1, 0, 1, 0, 0, 1, 1, 1], .lp [1, 1, 0, 1, 0, 0, 1, 1, 0, 0, 1, 1, 0, 1, 0, 0], .blk 2, .c [1, 1, 0, 1, 0, 0, 1, 1, 0, 0, 1, 1, 1], .blk 1, .c [1, 1, 0, 1, 0, 0, 1, 1, 1], .lp [1, 1, 0, 1, 0, 0], .blk 0, .c [1, 1, 1]] rfl ?_
      refine j_run it 3 rfl (by simp) ?_
      refine j_nf [.o [1, 1, 0, 1, 0, 0, 1, 1, 0, 0, 1, 1, 0, 1, 0, 0, 1, 1, 1] 0, .lp [1, 1, 0, 1, 0, 0, 1, 1, 0, 0, 1, 1, 0, 1, 0, 0], .blk 2, .c [1, 1, 0, 1, 0, 0, 1, 1, 0, 0, 1, 1, 1], .blk 1, .c [1, 1, 0, 1, 0, 0, 1, 1, 1], .lp [1, 1, 0, 1, 0, 0], .blk 0, .c [1, 1, 1]] rfl ?_
      refine j_run it 2 rfl (by repeat' first | exact trivial | apply And.intro | omega) ?_
      refine j_nfn 1 [.lp [1, 1, 0, 1, 0, 0, 1, 1, 0, 0, 1, 1, 0, 1, 0, 0], .blk 2, .c [1, 1, 0, 1, 0, 0, 1, 1, 0, 0, 1, 1, 1], .blk 1, .c [1, 1, 0, 1, 0, 0, 1, 1, 1], .lp [1, 1, 0, 1, 0, 0], .blk 0, .c [1, 1, 1]] rfl ?_
      have e3 := get_of_drop hd hz3
      refine j_to [1, 2] (by repeat (first | exact Fr.sub_nil _ | refine Fr.sub_cons rfl ?_ | refine Fr.sub_consI rfl (by omega) ?_ | refine Fr.sub_consS rfl (by omega) (by omega) ?_)) rfl rfl (ih' (j + 1, (z1 * z2 + z3 + c) / 4294967296, out.set (i + j) ((z1 * z2 + z3 + c) % 4294967296)) (by simp only; omega) ⟨by simp only; omega, by simpa using hl', by
          have := Nat.mul_le_mul (show z1 ≤ 4294967295 by omega) (show z2 ≤ 4294967295 by omega)
          simp only; omega, set_lt ho' (by omega), mul_step hv' e3 hz2 (by omega), by
          simp only
          rw [drop_set_ge (by omega), ← Nat.add_assoc]; exact drop_more hd⟩)
    · refine j_nf [.o [1, 1, 0, 1, 0, 0, 1, 1, 0, 0, 1, 1, 0, 1, 0, 0, 0] 0, .c [1, 1, 0, 1, 0, 0, 1, 1, 0, 0, 1, 1, 0, 1, 0, 0, 1], .lp [1, 1, 0, 1, 0, 0, 1, 1, 0, 0, 1, 1, 0, 1, 0, 0], .blk 2, .c [1, 1, 0, 1, 0, 0, 1, 1, 0, 0, 1, 1, 1], .blk 1, .c [1, 1, 0, 1, 0, 0, 1, 1, 1], .lp [1, 1, 0, 1, 0, 0], .blk 0, .c [1, 1, 1]] rfl ?_
      refine j_run it 1 rfl (by simp) ?_
      refine j_nf [.c [1, 1, 0, 1, 0, 0, 1, 1, 0, 0, 1, 1, 0, 1, 0, 0, 1, 0], .c [1, 1, 0, 1, 0, 0, 1, 1, 0, 0, 1, 1, 0, 1, 0, 0, 1, 1], .lp [1, 1, 0, 1, 0, 0, 1, 1, 0, 0, 1, 1, 0, 1, 0, 0], .blk 2, .c [1, 1, 0, 1, 0, 0, 1, 1, 0, 0, 1, 1, 1], .blk 1, .c [1, 1, 0, 1, 0, 0, 1, 1, 1], .lp [1, 1, 0, 1, 0, 0], .blk 0, .c [1, 1, 1]] rfl ?_
      refine j_if rfl rfl (fun h2 => by exfalso; omega) (fun h2 => ?_)
      refine j_nf [.o [1, 1, 0, 1, 0, 0, 1, 1, 0, 0, 1, 1, 1] 0, .blk 1, .c [1, 1, 0, 1, 0, 0, 1, 1, 1], .lp [1, 1, 0, 1, 0, 0], .blk 0, .c [1, 1, 1]] rfl ?_
      refine j_run it 3 rfl (by simp) ?_
      refine j_step rfl (x_len sl25 rfl ?_)
      refine j_run it 3 rfl (by repeat' first | exact trivial | apply And.intro | omega) ?_
      refine j_step rfl (x_idx_own ((i) + (b.length)) ((i) + (b.length)) rfl rfl sl25 (by omega) (by omega) (Nat.mul_one _) ?_)
      refine j_step rfl (x_bst_nat 0 (c) rfl rfl rfl ld38 (by first | rfl | omega) (by first | omega | (simp; omega)) ?_)
      refine j_nf [.o [1, 1, 0, 1, 0, 0, 1, 1, 1] 0, .lp [1, 1, 0, 1, 0, 0], .blk 0, .c [1, 1, 1]] rfl ?_
      refine j_run it 2 rfl (by repeat' first | exact trivial | apply And.intro | omega) ?_
      refine j_nfn 1 [.lp [1, 1, 0, 1, 0, 0], .blk 0, .c [1, 1, 1]] rfl ?_
      have e : j = b.length := by omega
      subst e
      refine j_to [0, 1] (by repeat (first | exact Fr.sub_nil _ | refine Fr.sub_cons rfl ?_ | refine Fr.sub_consI rfl (by omega) ?_ | refine Fr.sub_consS rfl (by omega) (by omega) ?_)) rfl rfl (ih (i + 1, out.set (i + b.length) c) (by simp only; omega) ⟨by simp only; omega, by simpa using hl', set_lt ho' hc, by
          simp only
          exact mul_row (by rw [List.take_length, hv] at hv'; exact hv') hz1 (by omega)⟩)
  · refine j_nf [.o [1, 1, 0, 1, 0, 0, 0] 0, .c [1, 1, 0, 1, 0, 0, 1], .lp [1, 1, 0, 1, 0, 0], .blk 0, .c [1, 1, 1]] rfl ?_
    refine j_run it 1 rfl (by simp) ?_
    refine j_nf [.c [1, 1, 0, 1, 0, 0, 1, 0], .c [1, 1, 0, 1, 0, 0, 1, 1], .lp [1, 1, 0, 1, 0, 0], .blk 0, .c [1, 1, 1]] rfl ?_
    refine j_if rfl rfl (fun h1 => by exfalso; omega) (fun h1 => ?_)
    refine j_nf [.o [1, 1, 1, 0] 0, .c [1, 1, 1, 1]] rfl ?_
    refine j_run it 1 rfl (by simp) ?_
    refine j_pub32 (n := a.length + b.length) 0 rfl (by simp [*]) (by first | assumption | exact set_all (by assumption) (by omega) | (simp; omega)) (by omega) ?_
    refine j_step rfl (x_call [0] rfl (S_nat_short) rfl ?_)
    rintro _ _ _ ⟨rfl, rfl, rfl⟩
    simp only [List.cons_append, List.nil_append]
    refine j_run it 1 rfl (by simp) ?_
    refine j_nf [.c [1, 1, 1, 1]] rfl ?_
    have e : i = a.length := by omega
    subst e
    rw [List.take_length, List.take_of_length_le (by omega)] at hv
    rw [trim_eq ho, hv]
    refine j_giv [0] rfl rfl rfl ⟨_, _, rfl, rfl, rfl⟩

theorem S_nat_Mul {pa : Option Addr} {n ca : Nat} {ls : List (List Nat)} (hL : lenS ls ≤ 1073741824) : Ctr Try.prog 15 [.slice pa n ca] [] [slF NatE pa n ca ls] (Sv U32 (limbs (prodV ls))) := by
  refine Ctr_of_j' (F := F_nat_Mul) rfl fun C => ?_
  refine j_len 0 rfl fun hl hb _ => ?_
  subst hl
  have hb' : ls.length * 24 ≤ 140737488355328 := hb
  refine rows_range 0 rfl fun hr => ?_
  have hs := prod_len hr
  refine j_nf [.o [0] 0, .c [1]] rfl ?_
  refine j_run it 1 rfl (by simp) ?_
  refine j_nf [.o [1, 0] 0, .c [1, 1]] rfl ?_
  refine j_step rfl (x_lit sl25 zo25e rfl rfl rfl rfl (by decide) (by decide) rfl fun b1 => ?_)
  refine j_pub_made (n := 1) (kd := .u32) 4 [1] 0 rfl rfl (by simp [InR]) (by decide) (by decide) ?_
  refine j_run it 1 rfl (by simp) ?_
  refine j_nf [.o [1, 1, 0, 0] 0, .c [1, 1, 0, 1], .c [1, 1, 1]] rfl ?_
  refine j_run it 1 rfl (by simp) ?_
  refine j_step rfl (x_len sl22 rfl ?_)
  refine j_run it 1 rfl (by simp) ?_
  refine j_nf [.c [1, 1, 0, 1, 0], .blk 0, .c [1, 1, 1]] rfl ?_
  have e0 : limbs (prodV (ls.take 0)) = [1] := limbs_one
  refine j_loopN (X := Nat × Option Addr × Nat) (fun x => [(3, .slice x.2.1 (limbs (prodV (ls.take x.1))).length x.2.2), (7, .slice pa ls.length ca), (8, .int .i64 ls.length), (9, .int .i64 x.1)])
    (fun x => []) (fun x => [slF U32 x.2.1 (limbs (prodV (ls.take x.1))).length x.2.2 (limbs (prodV (ls.take x.1))), slF NatE pa ls.length ca ls])
    (fun x => x.1 ≤ ls.length) (fun x => ls.length - x.1) (0, some ⟨b1, 0, none⟩, 1) [0, 1] rfl (Nat.zero_le _) (by
      simp only [e0]
      repeat (first | exact Fr.sub_nil _ | refine Fr.sub_cons rfl ?_)) rfl (by simp only [e0]; rfl) ?_
  rintro ⟨k, ps, cs⟩ hk ih
  simp only at hk ih ⊢
  have hsk := hs k
  by_cases hkl : k < ls.length
  · have side : ∀ z, ls[k]? = some z → (trim z).length ≤ 1099511627776 := fun z hz => by have := trim_length_le z; have := lenS_mem (List.mem_of_getElem? hz); omega
    refine j_nf [.o [1, 1, 0, 1, 0, 0, 0] 0, .c [1, 1, 0, 1, 0, 0, 1], .lp [1, 1, 0, 1, 0, 0], .blk 0, .c [1, 1, 1]] rfl ?_
    refine j_run it 1 rfl (by simp) ?_
    refine j_nf [.c [1, 1, 0, 1, 0, 0, 1, 0], .c [1, 1, 0, 1, 0, 0, 1, 1], .lp [1, 1, 0, 1, 0, 0], .blk 0, .c [1, 1, 1]] rfl ?_
    refine j_if rfl rfl (fun h1 => ?_) (fun h1 => by exfalso; omega)
    refine j_nf [.o [1, 1, 0, 1, 0, 0, 1, 1, 0, 0, 0] 0, .c [1, 1, 0, 1, 0, 0, 1, 1, 0, 0, 1], .blk 1, .c [1, 1, 0, 1, 0, 0, 1, 1, 1], .lp [1, 1, 0, 1, 0, 0], .blk 0, .c [1, 1, 1]] rfl ?_
    refine j_step rfl (x_idx 1 (k) rfl rfl rfl sl22 rfl (by omega) fun z1 hz1 b2 o1 => ?_)
    refine j_step rfl (x_ld_sl 0 rfl rfl ld25 fun pa1 ca1 => ?_)
    refine j_run it 1 rfl (by simp) ?_
    refine j_nf [.o [1, 1, 0, 1, 0, 0, 1, 1, 0, 0, 1] 0, .blk 1, .c [1, 1, 0, 1, 0, 0, 1, 1, 1], .lp [1, 1, 0, 1, 0, 0], .blk 0, .c [1, 1, 1]] rfl ?_
    refine j_run it 2 rfl (by simp) ?_
    refine j_step rfl (x_call [0] rfl (S_nat_short) rfl ?_)
    rintro _ _ _ ⟨rfl, rfl, rfl⟩
    simp only [List.cons_append, List.nil_append]
    refine j_step rfl (x_call [3, 0] rfl (S_nat_times (by first | omega | exact side _ (by assumption) | assumption | (simp; done) | (simp; omega)) (by first | omega | exact side _ (by assumption) | assumption | (simp; done) | (simp; omega))) rfl ?_)
    rintro _ _ _ ⟨pa2, ca2, rfl, rfl, rfl⟩
    simp only [List.cons_append, List.nil_append]
    refine j_run it 1 rfl (by simp) ?_
    refine j_nf [.o [1, 1, 0, 1, 0, 0, 1, 1, 1] 0, .lp [1, 1, 0, 1, 0, 0], .blk 0, .c [1, 1, 1]] rfl ?_
    refine j_run it 2 rfl (by repeat' first | exact trivial | apply And.intro | omega) ?_
    refine j_nfn 1 [.lp [1, 1, 0, 1, 0, 0], .blk 0, .c [1, 1, 1]] rfl ?_
    simp only [val_limbs, val_trim, ← prodV_take_succ hz1]
    refine j_to [0, 5] (by repeat (first | exact Fr.sub_nil _ | refine Fr.sub_cons rfl ?_ | refine Fr.sub_consI rfl (by omega) ?_ | refine Fr.sub_consS rfl (by omega) (by omega) ?_)) rfl rfl (ih (k + 1, pa2, ca2) (by simp only; omega) (by simp only; omega))
  · refine j_nf [.o [1, 1, 0, 1, 0, 0, 0] 0, .c [1, 1, 0, 1, 0, 0, 1], .lp [1, 1, 0, 1, 0, 0], .blk 0, .c [1, 1, 1]] rfl ?_
    refine j_run it 1 rfl (by simp) ?_
    refine j_nf [.c [1, 1, 0, 1, 0, 0, 1, 0], .c [1, 1, 0, 1, 0, 0, 1, 1], .lp [1, 1, 0, 1, 0, 0], .blk 0, .c [1, 1, 1]] rfl ?_
    refine j_if rfl rfl (fun h1 => by exfalso; omega) (fun h1 => ?_)
    refine j_nf [.o [1, 1, 1, 0] 0, .c [1, 1, 1, 1]] rfl ?_
    refine j_run it 1 rfl (by simp) ?_
    refine j_step rfl (x_call [0] rfl (S_nat_Trim) rfl ?_)
    rintro _ _ _ ⟨pa1, ca1, rfl, rfl, rfl⟩
    simp only [List.cons_append, List.nil_append]
    refine j_run it 1 rfl (by simp) ?_
    refine j_nf [.c [1, 1, 1, 1]] rfl ?_
    have e : ls.take k = ls := List.take_of_length_le (by omega)
    rw [e, trim_limbs]
    refine j_giv [0] rfl rfl rfl ⟨_, _, rfl, rfl, rfl⟩
end Go.Proofs.Ytonjgeikppiodaa
