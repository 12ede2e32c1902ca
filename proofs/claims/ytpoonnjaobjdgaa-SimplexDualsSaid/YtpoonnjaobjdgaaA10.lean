/-
The contract of nat.shift.
-/
import Derived.Test.YtpoonnjaobjdgaaFuns
import Derived.Test.YtpoonnjaobjdgaaNatMath
import Derived.Test.YtpoonnjaobjdgaaNatMath2
import Derived.Test.YtpoonnjaobjdgaaNatMath3
import Derived.Test.YtpoonnjaobjdgaaNatMath5
import Derived.Test.YtpoonnjaobjdgaaNatMath6
import Derived.Test.YtpoonnjaobjdgaaA1
import Derived.Test.YtpoonnjaobjdgaaA2
namespace Go.Proofs.Ytpoonnjaobjdgaa
open Go Go.Fw
set_option maxRecDepth 100000
set_option linter.unusedVariables false
set_option maxHeartbeats 1000000
theorem or_low {x n c : Nat} (h : c < 2 ^ n) : x * 2 ^ n ||| c = x * 2 ^ n + c := by
  rw [Nat.mul_comm, ← Nat.two_pow_add_eq_or_of_lt h]

theorem shl_lt {x n : Nat} (hx : x < 4294967296) (hn : n < 32) : x * 2 ^ n + 2 ^ n ≤ 9223372036854775808 ∧ 1 ≤ 2 ^ n ∧ 2 ^ n ≤ 2147483648 := by
  have h1 : 2 ^ n ≤ 2 ^ 31 := Nat.pow_le_pow_right (by decide) (by omega)
  have h2 : (x + 1) * 2 ^ n ≤ 4294967296 * 2 ^ 31 := Nat.mul_le_mul (by omega) h1
  rw [Nat.succ_mul] at h2
  refine ⟨by omega, Nat.pow_pos (by decide), by omega⟩

/-- The row is given to the caller. -/
abbrev Mv (e : TypeId) (l : List Nat) : Value → List Fact → List Blk → Prop := fun v Φ β => ∃ b, v = .slice (some ⟨b, 0, none⟩) l.length l.length ∧ Φ = [] ∧ β = [(some b, e, natCells .u32 l)]

theorem O_nat_shift {pa : Option Addr} {m ca n : Nat} {a : List Nat} (ha : a.length ≤ 1099511627776) (hn : n < 32) :
    Ctr Try.prog 44 [.slice pa m ca, .int .i64 n] [] [slF U32 pa m ca a] (fun v Φ β => ∃ l, l.length = a.length + 1 ∧ (∀ x ∈ l, x < 4294967296) ∧ val l = val a * 2 ^ n ∧ Mv 52 l v Φ β) := by
  refine Ctr_of_j' (F := F_nat_shift) rfl fun C => ?_
  refine j_len 0 rfl fun hm hba _ => ?_
  subst hm
  refine j_range 0 rfl fun hra => ?_
  have hra' : ∀ x ∈ a, x < 4294967296 := fun x hx => by have := hra x hx; simp only [InR] at this; omega
  refine j_nf [.o [0] 0, .c [1]] rfl ?_
  refine j_run it 1 rfl (by simp) ?_
  refine j_nf [.o [1, 0] 0, .c [1, 1]] rfl ?_
  refine j_run it 1 rfl (by simp) ?_
  refine j_step rfl (x_len sl35 rfl ?_)
  refine j_run it 1 rfl (by repeat' first | exact trivial | apply And.intro | omega) ?_
  refine j_step rfl (x_make_nat ((a.length) + 1) _ rfl rfl sl35 zo35e by35e (by omega) (by omega) (by omega) fun b1 => ?_)
  refine j_run it 1 rfl (by simp) ?_
  refine j_nf [.o [1, 1, 0] 0, .c [1, 1, 1]] rfl ?_
  refine j_run it 1 rfl (by simp) ?_
  refine j_nf [.o [1, 1, 1, 0, 0] 0, .c [1, 1, 1, 0, 1], .c [1, 1, 1, 1]] rfl ?_
  refine j_run it 1 rfl (by simp) ?_
  refine j_step rfl (x_len sl35 rfl ?_)
  refine j_run it 1 rfl (by simp) ?_
  refine j_nf [.c [1, 1, 1, 0, 1, 0], .blk 0, .c [1, 1, 1, 1]] rfl ?_
  refine j_loopG (X := Nat × Nat × List Nat) [0, 1, 4, 5, 14, 15] [0] (fun x => [(6, .int .u64 x.2.1), (16, .int .i64 x.1)]) (fun x => [(some b1, 52, natCells .u32 x.2.2)]) (fun _ => [])
    (fun x => x.1 ≤ a.length ∧ x.2.2.length = a.length + 1 ∧ x.2.1 < 2 ^ n ∧ (∀ z ∈ x.2.2, z < 4294967296) ∧ val (x.2.2.take x.1) + 4294967296 ^ x.1 * x.2.1 = val (a.take x.1) * 2 ^ n)
    (fun x => a.length - x.1) (0, 0, List.replicate (a.length + 1) 0) [] rfl rfl rfl ⟨Nat.zero_le _, by simp, Nat.pow_pos (by decide), rep_lt (by decide), by simp [val]⟩ (by repeat (first | exact Fr.sub_nil _ | refine Fr.sub_cons rfl ?_)) rfl rfl ?_
  rintro ⟨k, c, out⟩ ⟨hk, hlo, hc, ho, he⟩ ih
  simp only [List.cons_append, List.nil_append] at hk hlo hc ho he ih ⊢
  by_cases hkl : k < a.length
  · refine j_nf [.o [1, 1, 1, 0, 1, 0, 0, 0] 0, .c [1, 1, 1, 0, 1, 0, 0, 1], .lp [1, 1, 1, 0, 1, 0, 0], .blk 0, .c [1, 1, 1, 1]] rfl ?_
    refine j_run it 1 rfl (by simp) ?_
    refine j_nf [.c [1, 1, 1, 0, 1, 0, 0, 1, 0], .c [1, 1, 1, 0, 1, 0, 0, 1, 1], .lp [1, 1, 1, 0, 1, 0, 0], .blk 0, .c [1, 1, 1, 1]] rfl ?_
    refine j_if rfl rfl (fun h1 => ?_) (fun h1 => by exfalso; omega)
    refine j_nf [.o [1, 1, 1, 0, 1, 0, 0, 1, 1, 0, 0, 0] 0, .c [1, 1, 1, 0, 1, 0, 0, 1, 1, 0, 0, 1], .blk 1, .c [1, 1, 1, 0, 1, 0, 0, 1, 1, 1], .lp [1, 1, 1, 0, 1, 0, 0], .blk 0, .c [1, 1, 1, 1]] rfl ?_
    refine j_run it 1 rfl (by simp) ?_
    refine j_step rfl (x_idx 0 (k) rfl rfl rfl sl35 rfl (by omega) fun z1 hz1 b2 o1 => ?_)
    refine j_step rfl (x_ld_nat 0 rfl rfl ld52 fun ⟨r1, r2⟩ => ?_)
    refine j_run it 2 rfl (by simp) ?_
    refine j_nf [.o [1, 1, 1, 0, 1, 0, 0, 1, 1, 0, 0, 1, 0] 0, .c [1, 1, 1, 0, 1, 0, 0, 1, 1, 0, 0, 1, 1], .blk 1, .c [1, 1, 1, 0, 1, 0, 0, 1, 1, 1], .lp [1, 1, 1, 0, 1, 0, 0], .blk 0, .c [1, 1, 1, 1]] rfl ?_
    refine j_run it 3 rfl (by repeat' first | exact trivial | apply And.intro | omega) ?_ --ok
    have hxl := hra' _ (List.mem_of_getElem? hz1)
    obtain ⟨hs1, hs2, hs3⟩ := shl_lt hxl hn
    refine j_step rfl (x_shl_nat (z1) (n) rfl rfl (by first | rfl | omega) (by first | rfl | omega) (by first | decide | (simp only [IntKind.bits]; omega)) (by first | assumption | (simp only [InR]; omega)) ?_)
    refine j_run it 1 rfl (by simp) ?_
    refine j_step rfl (x_or_nat (z1 * 2 ^ n) (c) rfl rfl (by first | rfl | omega) (by first | rfl | omega) (by omega) (by omega) ?_)
    refine j_run it 1 rfl (by simp) ?_
    refine j_nf [.o [1, 1, 1, 0, 1, 0, 0, 1, 1, 0, 0, 1, 1, 0] 0, .c [1, 1, 1, 0, 1, 0, 0, 1, 1, 0, 0, 1, 1, 1], .blk 1, .c [1, 1, 1, 0, 1, 0, 0, 1, 1, 1], .lp [1, 1, 1, 0, 1, 0, 0], .blk 0, .c [1, 1, 1, 1]] rfl ?_
    refine j_run it 3 rfl (by simp) ?_
    refine j_step rfl (x_conv_u32 it rfl rfl rfl ?_)
    refine j_step rfl (x_idx_own (k) (k) rfl rfl sl35 rfl (by omega) (Nat.mul_one _) ?_)
    refine j_step rfl (x_bst_nat 0 ((z1 * 2 ^ n ||| c) % 4294967296) rfl rfl rfl ld52 (by first | rfl | omega) (by first | omega | (simp; omega)) ?_)
    refine j_nf [.o [1, 1, 1, 0, 1, 0, 0, 1, 1, 0, 0, 1, 1, 1] 0, .blk 1, .c [1, 1, 1, 0, 1, 0, 0, 1, 1, 1], .lp [1, 1, 1, 0, 1, 0, 0], .blk 0, .c [1, 1, 1, 1]] rfl ?_
    refine j_run it 3 rfl (by simp) ?_
    refine j_nf [.o [1, 1, 1, 0, 1, 0, 0, 1, 1, 1] 0, .lp [1, 1, 1, 0, 1, 0, 0], .blk 0, .c [1, 1, 1, 1]] rfl ?_
    refine j_run it 2 rfl (by repeat' first | exact trivial | apply And.intro | omega) ?_
    refine j_nfn 1 [.lp [1, 1, 1, 0, 1, 0, 0], .blk 0, .c [1, 1, 1, 1]] rfl ?_
    rw [or_low hc]
    have hlt : z1 * 2 ^ n + c < 18446744073709551616 := by omega
    have hdiv : (z1 * 2 ^ n + c) / 4294967296 < 2 ^ n := by
      rw [Nat.div_lt_iff_lt_mul (by decide)]
      have := Nat.mul_le_mul_right (2 ^ n) hxl
      rw [Nat.succ_mul] at this
      omega
    refine j_to [1] (by repeat (first | exact Fr.sub_nil _ | refine Fr.sub_cons rfl ?_ | refine Fr.sub_consI rfl (by first | omega | (dsimp only; omega)) ?_ | refine Fr.sub_consS rfl (by first | omega | (dsimp only; omega)) (by first | omega | (dsimp only; omega)) ?_)) rfl rfl (ih (k + 1, (z1 * 2 ^ n + c) / 4294967296, out.set k ((z1 * 2 ^ n + c) % 4294967296)) (by simp only; omega) ⟨by simp only; omega, by simpa using hlo, hdiv, set_lt ho (by omega), by
      simp only
      rw [val_set_take (by omega), Nat.pow_succ, val_take_succ hz1, Nat.add_mul]
      generalize hS : z1 * 2 ^ n + c = s
      have e : s % 4294967296 + 4294967296 * (s / 4294967296) = s := by omega
      have e2 : 4294967296 ^ k * (s % 4294967296) + 4294967296 ^ k * 4294967296 * (s / 4294967296) = 4294967296 ^ k * (z1 * 2 ^ n) + 4294967296 ^ k * c := by
        rw [Nat.mul_assoc, ← Nat.mul_add, ← Nat.mul_add, e, hS]
      rw [Nat.mul_assoc (4294967296 ^ k) z1]
      omega⟩)
  · have e0 : k = a.length := by omega
    subst e0
    have hs3 : 2 ^ n ≤ 2147483648 := (shl_lt (x := 0) (by decide) hn).2.2
    refine j_nf [.o [1, 1, 1, 0, 1, 0, 0, 0] 0, .c [1, 1, 1, 0, 1, 0, 0, 1], .lp [1, 1, 1, 0, 1, 0, 0], .blk 0, .c [1, 1, 1, 1]] rfl ?_
    refine j_run it 1 rfl (by simp) ?_
    refine j_nf [.c [1, 1, 1, 0, 1, 0, 0, 1, 0], .c [1, 1, 1, 0, 1, 0, 0, 1, 1], .lp [1, 1, 1, 0, 1, 0, 0], .blk 0, .c [1, 1, 1, 1]] rfl ?_
    refine j_if rfl rfl (fun h1 => by exfalso; omega) (fun h1 => ?_)
    refine j_nf [.o [1, 1, 1, 1, 0] 0, .c [1, 1, 1, 1, 1]] rfl ?_
    refine j_run it 2 rfl (by simp) ?_
    refine j_step rfl (x_len sl35 rfl ?_)
    refine j_run it 2 rfl (by repeat' first | exact trivial | apply And.intro | omega) ?_
    refine j_step rfl (x_idx_own (a.length) (a.length) rfl rfl sl35 rfl (by omega) (Nat.mul_one _) ?_)
    refine j_step rfl (x_bst_nat 0 (c) rfl rfl rfl ld52 (by first | rfl | omega) (by first | omega | (simp; omega)) ?_)
    refine j_nf [.o [1, 1, 1, 1, 1, 0] 0, .c [1, 1, 1, 1, 1, 1]] rfl ?_
    refine j_run it 2 rfl (by simp) ?_
    refine j_nf [.c [1, 1, 1, 1, 1, 1]] rfl ?_
    refine j_gives [] rfl rfl rfl ⟨out.set a.length c, by simpa using hlo, set_lt ho (by omega), ?_, b1, by simp [resVal, hlo], rfl, rfl⟩
    rw [List.take_length] at he
    have h := val_set_take (l := out) (k := a.length) (z := c) (by omega)
    rw [List.take_of_length_le (by simp; omega)] at h
    rw [h, he]
end Go.Proofs.Ytpoonnjaobjdgaa
