/-
The document's product.
-/
import Derived.Test.YtonjgeikppiodaaFuns
import Derived.Test.YtonjgeikppiodaaNatMath
import Derived.Test.YtonjgeikppiodaaNatMath2
import Derived.Test.YtonjgeikppiodaaA1
import Derived.Test.YtonjgeikppiodaaA2
import Derived.Test.YtonjgeikppiodaaA3
import Derived.Test.YtonjgeikppiodaaA4
import Derived.Test.YtonjgeikppiodaaB1
namespace Go.Proofs.Ytonjgeikppiodaa
open Go Go.Fw
set_option maxRecDepth 100000
set_option linter.unusedVariables false
set_option maxHeartbeats 1000000
theorem S_codewrightref01_Mul {pa pb : Option Addr} {n m ca cb : Nat} {a b : List Nat} (ha : a.length ≤ 1099511627776) (hb : b.length ≤ 1099511627776) :
    Ctr Try.prog 20 [.slice pa n ca, .slice pb m cb] [] [slF U32 pa n ca a, slF U32 pb m cb b] (Sv U32 (limbs (val a * val b))) := by
  refine Ctr_of_j' (F := F_codewrightref01_Mul) rfl fun C => ?_
  refine j_len 0 rfl fun hn _ _ => ?_
  refine j_len 1 rfl fun hm _ _ => ?_
  subst hn; subst hm
  refine j_range 0 rfl fun hra => ?_
  refine j_range 1 rfl fun hrb => ?_
  simp only [InR] at hra hrb
  refine j_nf [.o [0] 0, .c [1]] rfl ?_
  refine j_run it 1 rfl (by simp) ?_
  refine j_nf [.o [1, 0] 0, .c [1, 1]] rfl ?_
  refine j_run it 1 rfl (by simp) ?_
  refine j_step rfl (x_len sl25 rfl ?_)
  refine j_run it 1 rfl (by simp) ?_
  refine j_step rfl (x_len sl25 rfl ?_)
  refine j_run it 1 rfl (by repeat' first | exact trivial | apply And.intro | omega) ?_
  refine j_step rfl (x_make_nat ((a.length) + (b.length)) _ rfl rfl sl25 zo25e by25e (by omega) (by omega) (by omega) fun b1 => ?_)
  refine j_run it 1 rfl (by simp) ?_
  refine j_nf [.o [1, 1, 0, 0] 0, .c [1, 1, 0, 1], .c [1, 1, 1]] rfl ?_
  refine j_run it 1 rfl (by simp) ?_
  refine j_nf [.c [1, 1, 0, 1, 0], .blk 0, .c [1, 1, 1]] rfl ?_
  refine j_loopN (X := Nat × List Nat) (fun x => [(0, .slice pa a.length ca), (1, .slice pb b.length cb), (5, .slice (some ⟨b1, 0, none⟩) (a.length + b.length) (a.length + b.length)), (6, .int .i64 x.1)])
    (fun x => [(some b1, 38, natCells .u32 x.2)]) (fun _ => [slF U32 pa a.length ca a, slF U32 pb b.length cb b])
    (fun x => x.1 ≤ a.length ∧ x.2.length = a.length + b.length ∧ (∀ y ∈ x.2, y < 4294967296) ∧ val (x.2.take (x.1 + b.length)) = val (a.take x.1) * val b)
    (fun x => a.length - x.1) (0, List.replicate (a.length + b.length) 0) [0, 1] rfl ⟨Nat.zero_le _, by simp, rep_lt (by decide), by simp [val, val_replicate]⟩ (by repeat (first | exact Fr.sub_nil _ | refine Fr.sub_cons rfl ?_)) rfl rfl ?_
  rintro ⟨i, v0⟩ ⟨hi, hl, ho, hv⟩ ih
  simp only at hi hl ho hv ih ⊢
  by_cases hil : i < a.length
  · obtain ⟨z1, hz1⟩ : ∃ z, a[i]? = some z := ⟨_, List.getElem?_eq_getElem hil⟩
    have ex : a.getD i default = z1 := by rw [List.getD, hz1]; rfl
    have hx := (hra z1 (List.mem_of_getElem? hz1)).2
    refine j_nf [.o [1, 1, 0, 1, 0, 0, 0, 0] 0, .c [1, 1, 0, 1, 0, 0, 0, 1], .c [1, 1, 0, 1, 0, 0, 1], .lp [1, 1, 0, 1, 0, 0], .blk 0, .c [1, 1, 1]] rfl ?_
    refine j_run it 2 rfl (by simp) ?_
    refine j_step rfl (x_len sl25 rfl ?_)
    refine j_run it 1 rfl (by simp) ?_
    refine j_nf [.c [1, 1, 0, 1, 0, 0, 0, 1], .c [1, 1, 0, 1, 0, 0, 1], .lp [1, 1, 0, 1, 0, 0], .blk 0, .c [1, 1, 1]] rfl ?_
    refine j_if rfl rfl (fun h1 => ?_) (fun h1 => by exfalso; omega)
    refine j_nf [.o [1, 1, 0, 1, 0, 0, 1, 0, 0, 0] 0, .c [1, 1, 0, 1, 0, 0, 1, 0, 0, 1], .blk 1, .c [1, 1, 0, 1, 0, 0, 1, 1], .lp [1, 1, 0, 1, 0, 0], .blk 0, .c [1, 1, 1]] rfl ?_
    refine j_run it 1 rfl (by simp) ?_
    refine j_nf [.o [1, 1, 0, 1, 0, 0, 1, 0, 0, 1, 0, 0] 0, .c [1, 1, 0, 1, 0, 0, 1, 0, 0, 1, 0, 1], .c [1, 1, 0, 1, 0, 0, 1, 0, 0, 1, 1], .blk 1, .c [1, 1, 0, 1, 0, 0, 1, 1], .lp [1, 1, 0, 1, 0, 0], .blk 0, .c [1, 1, 1]] rfl ?_
    refine j_run it 1 rfl (by simp) ?_
    refine j_nf [.c [1, 1, 0, 1, 0, 0, 1, 0, 0, 1, 0, 1, 0], .blk 2, .c [1, 1, 0, 1, 0, 0, 1, 0, 0, 1, 1], .blk 1, .c [1, 1, 0, 1, 0, 0, 1, 1], .lp [1, 1, 0, 1, 0, 0], .blk 0, .c [1, 1, 1]] rfl ?_
    refine j_loopN (X := Nat × Nat × List Nat) (fun x => [(0, .slice pa a.length ca), (1, .slice pb b.length cb), (5, .slice (some ⟨b1, 0, none⟩) (a.length + b.length) (a.length + b.length)), (6, .int .i64 i), (7, .int .u64 x.2.1), (8, .int .i64 x.1)])
      (fun x => [(some b1, 38, natCells .u32 x.2.2)]) (fun _ => [slF U32 pa a.length ca a, slF U32 pb b.length cb b])
      (fun x => x.1 ≤ b.length ∧ x.2.2.length = a.length + b.length ∧ x.2.1 < 4294967296 ∧ (∀ y ∈ x.2.2, y < 4294967296) ∧ val (x.2.2.take (i + x.1)) + 4294967296 ^ (i + x.1) * x.2.1 = val (v0.take (i + x.1)) + 4294967296 ^ i * (z1 * val (b.take x.1)) ∧ x.2.2.drop (i + x.1) = v0.drop (i + x.1))
      (fun x => b.length - x.1) (0, 0, v0) [0, 1] rfl ⟨Nat.zero_le _, hl, Nat.zero_lt_succ _, ho, by simp [val], rfl⟩ (by repeat (first | exact Fr.sub_nil _ | refine Fr.sub_cons rfl ?_)) rfl rfl ?_
    rintro ⟨j, c, out⟩ ⟨hj, hl', hc, ho', hv', hd⟩ ih'
    simp only at hj hl' hc ho' hv' hd ih' ⊢
    by_cases hjl : j < b.length
    · obtain ⟨z2, hz2⟩ : ∃ z, b[j]? = some z := ⟨_, List.getElem?_eq_getElem hjl⟩
      have ey : b.getD j default = z2 := by rw [List.getD, hz2]; rfl
      have hy := (hrb z2 (List.mem_of_getElem? hz2)).2
      obtain ⟨z3, hz3⟩ : ∃ z, out[i + j]? = some z := ⟨_, List.getElem?_eq_getElem (show i + j < out.length by omega)⟩
      have hz3' := ho' z3 (List.mem_of_getElem? hz3)
      refine j_nf [.o [1, 1, 0, 1, 0, 0, 1, 0, 0, 1, 0, 1, 0, 0, 0, 0] 0, .c [1, 1, 0, 1, 0, 0, 1, 0, 0, 1, 0, 1, 0, 0, 0, 1], .c [1, 1, 0, 1, 0, 0, 1, 0, 0, 1, 0, 1, 0, 0, 1], .lp [1, 1, 0, 1, 0, 0, 1, 0, 0, 1, 0, 1, 0, 0], .blk 2, .c [1, 1, 0, 1, 0, 0, 1, 0, 0, 1, 1], .blk 1, .c [1, 1, 0, 1, 0, 0, 1, 1], .lp [1, 1, 0, 1, 0, 0], .blk 0, .c [1, 1, 1]] rfl ?_
      refine j_run it 2 rfl (by simp) ?_
      refine j_step rfl (x_len sl25 rfl ?_)
      refine j_run it 1 rfl (by simp) ?_
      refine j_nf [.c [1, 1, 0, 1, 0, 0, 1, 0, 0, 1, 0, 1, 0, 0, 0, 1], .c [1, 1, 0, 1, 0, 0, 1, 0, 0, 1, 0, 1, 0, 0, 1], .lp [1, 1, 0, 1, 0, 0, 1, 0, 0, 1, 0, 1, 0, 0], .blk 2, .c [1, 1, 0, 1, 0, 0, 1, 0, 0, 1, 1], .blk 1, .c [1, 1, 0, 1, 0, 0, 1, 1], .lp [1, 1, 0, 1, 0, 0], .blk 0, .c [1, 1, 1]] rfl ?_
      refine j_if rfl rfl (fun h2 => ?_) (fun h2 => by exfalso; omega)
      refine j_nf [.c [1, 1, 0, 1, 0, 0, 1, 0, 0, 1, 0, 1, 0, 0, 1, 0, 0, 0], .c [1, 1, 0, 1, 0, 0, 1, 0, 0, 1, 0, 1, 0, 0, 1, 0, 0, 1], .blk 3, .c [1, 1, 0, 1, 0, 0, 1, 0, 0, 1, 0, 1, 0, 0, 1, 1], .lp [1, 1, 0, 1, 0, 0, 1, 0, 0, 1, 0, 1, 0, 0], .blk 2, .c [1, 1, 0, 1, 0, 0, 1, 0, 0, 1, 1], .blk 1, .c [1, 1, 0, 1, 0, 0, 1, 1], .lp [1, 1, 0, 1, 0, 0], .blk 0, .c [1, 1, 1]] rfl ?_
      (apply j_drawK it mx 21; (· rfl); (· rfl))
      (apply lxk_run 2; (· rfl); (· simp))
      (apply lxk_pt; (· rfl); (· exact d_x fun _ => x_idx 0 (i) rfl rfl rfl sl25 rfl (by omega) fun z4 hz4 b2 o1 => (dk_ptD default hz4 0 rfl)); intro b2 o1)
      (apply lxk_eq; (· rfl); (· exact d_x fun _ => x_ld_nat 0 rfl rfl ld38 fun ⟨r1, r2⟩ => dk_eq))
      (apply lxk_run 3; (· rfl); (· exact (by repeat' first | exact trivial | apply And.intro | omega)))
      (apply lxk_pt; (· rfl); (· exact d_x fun _ => x_idx 1 (j) rfl rfl rfl sl25 rfl (by omega) fun z4 hz4 b3 o2 => (dk_ptD default hz4 0 rfl)); intro b3 o2)
      (apply lxk_eq; (· rfl); (· exact d_x fun _ => x_ld_nat 0 rfl rfl ld38 fun ⟨r1, r2⟩ => dk_eq))
      (apply lxk_run 6; (· rfl); (· exact (by repeat' first | exact trivial | apply And.intro | omega | exact Int.mul_nonneg (by omega) (by omega) | exact mul64_nn (by omega) (by omega) (by omega) | exact mul64_nnn (by omega) (by omega) (by omega) (by omega) | exact mul64_1 (by omega) (by omega) (by omega) (by omega) | exact mul64_2 (by omega) (by omega) (by omega) (by omega) (by omega) | exact mul64_3 (by omega) (by omega) (by omega) (by omega) (by omega) (by omega))))
      (apply lxk_eq; (· rfl); (· exact d_x fun _ => x_idx_own ((i) + (j)) ((i) + (j)) rfl rfl sl25 (by omega) (by omega) (Nat.mul_one _) dk_eq))
      (apply lxk_eq; (· rfl); (· exact d_bld_nat 0 rfl rfl ld38 (by assumption)))
      (apply lxk_run 4; (· rfl); (· exact (by repeat' first | exact trivial | apply And.intro | omega | exact Int.mul_nonneg (by omega) (by omega) | exact mul64_nn (by omega) (by omega) (by omega) | exact mul64_nnn (by omega) (by omega) (by omega) (by omega) | exact mul64_1 (by omega) (by omega) (by omega) (by omega) | exact mul64_2 (by omega) (by omega) (by omega) (by omega) (by omega) | exact mul64_3 (by omega) (by omega) (by omega) (by omega) (by omega) (by omega))))
      refine lxk_end rfl ?_
      simp only [List.map_cons, List.map_nil, List.cons_append, List.nil_append]
      refine j_run it 1 rfl (by simp) ?_
      refine j_nf [.o [1, 1, 0, 1, 0, 0, 1, 0, 0, 1, 0, 1, 0, 0, 1, 0, 0, 1, 0] 0, .c [1, 1, 0, 1, 0, 0, 1, 0, 0, 1, 0, 1, 0, 0, 1, 0, 0, 1, 1], .blk 3, .c [1, 1, 0, 1, 0, 0, 1, 0, 0, 1, 0, 1, 0, 0, 1, 1], .lp [1, 1, 0, 1, 0, 0, 1, 0, 0, 1, 0, 1, 0, 0], .blk 2, .c [1, 1, 0, 1, 0, 0, 1, 0, 0, 1, 1], .blk 1, .c [1, 1, 0, 1, 0, 0, 1, 1], .lp [1, 1, 0, 1, 0, 0], .blk 0, .c [1, 1, 1]] rfl ?_
      refine j_run it 7 rfl (by repeat' first | exact trivial | apply And.intro | omega | exact Int.mul_nonneg (by omega) (by omega) | exact mul64_nn (by omega) (by omega) (by omega) | exact mul64_nnn (by omega) (by omega) (by omega) (by omega) | exact mul64_1 (by omega) (by omega) (by omega) (by omega) | exact mul64_2 (by omega) (by omega) (by omega) (by omega) (by omega) | exact mul64_3 (by omega) (by omega) (by omega) (by omega) (by omega) (by omega)) ?_
      refine j_step rfl (x_idx_own ((i) + (j)) ((i) + (j)) rfl rfl sl25 (by omega) (by omega) (Nat.mul_one _) ?_)
      refine j_step rfl (x_bst_nat 0 (((((a.getD i default) * (b.getD j default)) + (z3)) + (c)) % 4294967296) rfl rfl rfl ld38 (by first | rfl | omega) (by first | omega | (simp; omega)) ?_)
      refine j_nf [.o [1, 1, 0, 1, 0, 0, 1, 0, 0, 1, 0, 1, 0, 0, 1, 0, 0, 1, 1] 0, .blk 3, .c [1, 1, 0, 1, 0, 0, 1, 0, 0, 1, 0, 1, 0, 0, 1, 1], .lp [1, 1, 0, 1, 0, 0, 1, 0, 0, 1, 0, 1, 0, 0], .blk 2, .c [1, 1, 0, 1, 0, 0, 1, 0, 0, 1, 1], .blk 1, .c [1, 1, 0, 1, 0, 0, 1, 1], .lp [1, 1, 0, 1, 0, 0], .blk 0, .c [1, 1, 1]] rfl ?_
      refine j_run it 3 rfl (by repeat' first | exact trivial | apply And.intro | omega | exact Int.mul_nonneg (by omega) (by omega) | exact mul64_nn (by omega) (by omega) (by omega) | exact mul64_nnn (by omega) (by omega) (by omega) (by omega) | exact mul64_1 (by omega) (by omega) (by omega) (by omega) | exact mul64_2 (by omega) (by omega) (by omega) (by omega) (by omega) | exact mul64_3 (by omega) (by omega) (by omega) (by omega) (by omega) (by omega)) ?_
      refine j_nf [.o [1, 1, 0, 1, 0, 0, 1, 0, 0, 1, 0, 1, 0, 0, 1, 1] 0, .lp [1, 1, 0, 1, 0, 0, 1, 0, 0, 1, 0, 1, 0, 0], .blk 2, .c [1, 1, 0, 1, 0, 0, 1, 0, 0, 1, 1], .blk 1, .c [1, 1, 0, 1, 0, 0, 1, 1], .lp [1, 1, 0, 1, 0, 0], .blk 0, .c [1, 1, 1]] rfl ?_
      refine j_run it 3 rfl (by repeat' first | exact trivial | apply And.intro | omega) ?_
      refine j_nfn 1 [.lp [1, 1, 0, 1, 0, 0, 1, 0, 0, 1, 0, 1, 0, 0], .blk 2, .c [1, 1, 0, 1, 0, 0, 1, 0, 0, 1, 1], .blk 1, .c [1, 1, 0, 1, 0, 0, 1, 1], .lp [1, 1, 0, 1, 0, 0], .blk 0, .c [1, 1, 1]] rfl ?_
      rw [ex, ey]
      have e3 := get_of_drop hd hz3
      refine j_to [2, 3] (by repeat (first | exact Fr.sub_nil _ | refine Fr.sub_cons rfl ?_ | refine Fr.sub_consI rfl (by omega) ?_ | refine Fr.sub_consS rfl (by omega) (by omega) ?_)) rfl rfl (ih' (j + 1, (z1 * z2 + z3 + c) / 4294967296, out.set (i + j) ((z1 * z2 + z3 + c) % 4294967296)) (by simp only; omega) ⟨by simp only; omega, by simpa using hl', by
          have := Nat.mul_le_mul (show z1 ≤ 4294967295 by omega) (show z2 ≤ 4294967295 by omega)
          simp only; omega, set_lt ho' (by omega), mul_step hv' e3 hz2 (by omega), by
          simp only
          rw [drop_set_ge (by omega), ← Nat.add_assoc]; exact drop_more hd⟩)
    · refine j_nf [.o [1, 1, 0, 1, 0, 0, 1, 0, 0, 1, 0, 1, 0, 0, 0, 0] 0, .c [1, 1, 0, 1, 0, 0, 1, 0, 0, 1, 0, 1, 0, 0, 0, 1], .c [1, 1, 0, 1, 0, 0, 1, 0, 0, 1, 0, 1, 0, 0, 1], .lp [1, 1, 0, 1, 0, 0, 1, 0, 0, 1, 0, 1, 0, 0], .blk 2, .c [1, 1, 0, 1, 0, 0, 1, 0, 0, 1, 1], .blk 1, .c [1, 1, 0, 1, 0, 0, 1, 1], .lp [1, 1, 0, 1, 0, 0], .blk 0, .c [1, 1, 1]] rfl ?_
      refine j_run it 2 rfl (by simp) ?_
      refine j_step rfl (x_len sl25 rfl ?_)
      refine j_run it 1 rfl (by simp) ?_
      refine j_nf [.c [1, 1, 0, 1, 0, 0, 1, 0, 0, 1, 0, 1, 0, 0, 0, 1], .c [1, 1, 0, 1, 0, 0, 1, 0, 0, 1, 0, 1, 0, 0, 1], .lp [1, 1, 0, 1, 0, 0, 1, 0, 0, 1, 0, 1, 0, 0], .blk 2, .c [1, 1, 0, 1, 0, 0, 1, 0, 0, 1, 1], .blk 1, .c [1, 1, 0, 1, 0, 0, 1, 1], .lp [1, 1, 0, 1, 0, 0], .blk 0, .c [1, 1, 1]] rfl ?_
      refine j_if rfl rfl (fun h2 => by exfalso; omega) (fun h2 => ?_)
      refine j_nf [.o [1, 1, 0, 1, 0, 0, 1, 0, 0, 1, 1] 0, .blk 1, .c [1, 1, 0, 1, 0, 0, 1, 1], .lp [1, 1, 0, 1, 0, 0], .blk 0, .c [1, 1, 1]] rfl ?_
      refine j_run it 3 rfl (by simp) ?_
      refine j_step rfl (x_len sl25 rfl ?_)
      refine j_run it 3 rfl (by repeat' first | exact trivial | apply And.intro | omega) ?_
      refine j_step rfl (x_idx_own ((i) + (b.length)) ((i) + (b.length)) rfl rfl sl25 (by omega) (by omega) (Nat.mul_one _) ?_)
      refine j_step rfl (x_bst_nat 0 (c) rfl rfl rfl ld38 (by first | rfl | omega) (by first | omega | (simp; omega)) ?_)
      refine j_nf [.o [1, 1, 0, 1, 0, 0, 1, 1] 0, .lp [1, 1, 0, 1, 0, 0], .blk 0, .c [1, 1, 1]] rfl ?_
      refine j_run it 3 rfl (by repeat' first | exact trivial | apply And.intro | omega) ?_
      refine j_nfn 1 [.lp [1, 1, 0, 1, 0, 0], .blk 0, .c [1, 1, 1]] rfl ?_
      have e : j = b.length := by omega
      subst e
      refine j_to [0, 1] (by repeat (first | exact Fr.sub_nil _ | refine Fr.sub_cons rfl ?_ | refine Fr.sub_consI rfl (by omega) ?_ | refine Fr.sub_consS rfl (by omega) (by omega) ?_)) rfl rfl (ih (i + 1, out.set (i + b.length) c) (by simp only; omega) ⟨by simp only; omega, by simpa using hl', set_lt ho' hc, by
          simp only
          exact mul_row (by rw [List.take_length, hv] at hv'; exact hv') hz1 (by omega)⟩)
  · refine j_nf [.o [1, 1, 0, 1, 0, 0, 0, 0] 0, .c [1, 1, 0, 1, 0, 0, 0, 1], .c [1, 1, 0, 1, 0, 0, 1], .lp [1, 1, 0, 1, 0, 0], .blk 0, .c [1, 1, 1]] rfl ?_
    refine j_run it 2 rfl (by simp) ?_
    refine j_step rfl (x_len sl25 rfl ?_)
    refine j_run it 1 rfl (by simp) ?_
    refine j_nf [.c [1, 1, 0, 1, 0, 0, 0, 1], .c [1, 1, 0, 1, 0, 0, 1], .lp [1, 1, 0, 1, 0, 0], .blk 0, .c [1, 1, 1]] rfl ?_
    refine j_if rfl rfl (fun h1 => by exfalso; omega) (fun h1 => ?_)
    refine j_nf [.o [1, 1, 1, 0] 0, .c [1, 1, 1, 1]] rfl ?_
    refine j_run it 1 rfl (by simp) ?_
    refine j_pub32 (n := a.length + b.length) 0 rfl (by simp [*]) (by first | assumption | exact set_all (by assumption) (by omega) | (simp; omega)) (by omega) ?_
    refine j_step rfl (x_call [0] rfl (S_codewrightref01_Trim) rfl ?_)
    rintro _ _ _ ⟨pa1, ca1, rfl, rfl, rfl⟩
    simp only [List.cons_append, List.nil_append]
    refine j_run it 1 rfl (by simp) ?_
    refine j_nf [.c [1, 1, 1, 1]] rfl ?_
    have e : i = a.length := by omega
    subst e
    rw [List.take_length, List.take_of_length_le (by omega)] at hv
    rw [trim_eq ho, hv]
    refine j_giv [0] rfl rfl rfl ⟨_, _, rfl, rfl, rfl⟩
end Go.Proofs.Ytonjgeikppiodaa
