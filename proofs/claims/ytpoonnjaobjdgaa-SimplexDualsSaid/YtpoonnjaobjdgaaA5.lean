/-
Contracts of nat.digit.
-/
import Derived.Test.YtpoonnjaobjdgaaFuns
import Derived.Test.YtpoonnjaobjdgaaNatMath
import Derived.Test.YtpoonnjaobjdgaaNatMath2
import Derived.Test.YtpoonnjaobjdgaaA1
import Derived.Test.YtpoonnjaobjdgaaA2
import Derived.Test.YtpoonnjaobjdgaaA3
import Derived.Test.YtpoonnjaobjdgaaA4
namespace Go.Proofs.Ytpoonnjaobjdgaa
open Go Go.Fw
set_option maxRecDepth 100000
set_option linter.unusedVariables false
set_option maxHeartbeats 1000000
theorem S_nat_digit {pa : Option Addr} {n ca : Nat} {a : List Nat} {b : Nat} (hb : 0 < b) (hbB : b < 4294967296) :
    Ctr Try.prog 34 [.slice pa n ca, .int .u32 b] [] [slF U32 pa n ca a]
      (fun v Φ β => ∃ pa ca, v = .tuple #[.slice pa (limbs (val a / b)).length ca, .int .u32 (val a % b : Nat)] ∧ Φ = [slF U32 pa (limbs (val a / b)).length ca (limbs (val a / b))] ∧ β = []) := by
  refine Ctr_of_j' (F := F_nat_digit) rfl fun C => ?_
  refine j_len 0 rfl fun hn hby _ => ?_
  subst hn
  have hby' : a.length * 4 ≤ 140737488355328 := hby
  refine j_range 0 rfl fun hra => ?_
  simp only [InR] at hra
  refine j_nf [.o [0] 0, .c [1]] rfl ?_
  refine j_run it 2 rfl (by simp) ?_
  refine j_nf [.o [1, 0] 0, .c [1, 1]] rfl ?_
  refine j_run it 1 rfl (by simp) ?_
  refine j_step rfl (x_len sl35 rfl ?_)
  refine j_step rfl (x_make_nat (a.length) _ rfl rfl sl35 zo35e by35e (by omega) (by omega) (by omega) fun b1 => ?_)
  refine j_run it 1 rfl (by simp) ?_
  refine j_nf [.o [1, 1, 0] 0, .c [1, 1, 1]] rfl ?_
  refine j_run it 1 rfl (by simp) ?_
  refine j_nf [.o [1, 1, 1, 0, 0] 0, .c [1, 1, 1, 0, 1], .c [1, 1, 1, 1]] rfl ?_
  refine j_run it 1 rfl (by simp) ?_
  refine j_step rfl (x_len sl35 rfl ?_)
  refine j_run it 2 rfl (by repeat' first | exact trivial | apply And.intro | omega) ?_
  refine j_nf [.c [1, 1, 1, 0, 1, 0], .blk 0, .c [1, 1, 1, 1]] rfl ?_
  refine j_loopN (X := Nat × Nat × List Nat) (fun x => [(0, .slice pa a.length ca), (1, .int .u32 b), (6, .slice (some ⟨b1, 0, none⟩) a.length a.length), (7, .int .u64 x.2.1), (8, .int .i64 ((x.1 : Int) - 1))])
    (fun x => [(some b1, 52, natCells .u32 x.2.2)]) (fun _ => [slF U32 pa a.length ca a])
    (fun x => x.1 ≤ a.length ∧ x.2.2.length = a.length ∧ x.2.1 < b ∧ (∀ y ∈ x.2.2, y < 4294967296) ∧ val (a.drop x.1) = val (x.2.2.drop x.1) * b + x.2.1)
    (fun x => x.1) (a.length, 0, List.replicate a.length 0) [0] rfl ⟨Nat.le_refl _, by simp, hb, rep_lt (by decide), by simp [val]⟩ (by repeat (first | exact Fr.sub_nil _ | refine Fr.sub_cons rfl ?_)) rfl rfl ?_
  rintro ⟨k, r, out⟩ ⟨hk, hl, hr, ho, hv⟩ ih
  simp only at hk hl hr ho hv ih ⊢
  by_cases hk0 : 0 < k
  · refine j_nf [.o [1, 1, 1, 0, 1, 0, 0, 0, 0] 0, .c [1, 1, 1, 0, 1, 0, 0, 0, 1], .c [1, 1, 1, 0, 1, 0, 0, 1], .lp [1, 1, 1, 0, 1, 0, 0], .blk 0, .c [1, 1, 1, 1]] rfl ?_
    refine j_run it 2 rfl (by simp) ?_
    refine j_nf [.c [1, 1, 1, 0, 1, 0, 0, 0, 1], .c [1, 1, 1, 0, 1, 0, 0, 1], .lp [1, 1, 1, 0, 1, 0, 0], .blk 0, .c [1, 1, 1, 1]] rfl ?_
    refine j_if rfl rfl (fun h1 => ?_) (fun h1 => by exfalso; omega)
    refine j_nf [.o [1, 1, 1, 0, 1, 0, 0, 1, 0, 0, 0] 0, .c [1, 1, 1, 0, 1, 0, 0, 1, 0, 0, 1], .blk 1, .c [1, 1, 1, 0, 1, 0, 0, 1, 1], .lp [1, 1, 1, 0, 1, 0, 0], .blk 0, .c [1, 1, 1, 1]] rfl ?_
    refine j_run it 4 rfl (by repeat' first | exact trivial | apply And.intro | omega) ?_
    refine j_step rfl (x_idx 0 ((k) - 1) rfl rfl rfl sl35 (by omega) (by omega) fun z1 hz1 b2 o1 => ?_)
    refine j_step rfl (x_ld_nat 0 rfl rfl ld52 fun ⟨r1, r2⟩ => ?_)
    refine j_run it 1 rfl (by repeat' first | exact trivial | apply And.intro | omega) ?_
    refine j_step rfl (x_or_shl (r) (z1) rfl rfl (by first | rfl | omega) (by first | rfl | omega) (by omega) (by omega) ?_)
    refine j_run it 1 rfl (by simp) ?_
    refine j_nf [.o [1, 1, 1, 0, 1, 0, 0, 1, 0, 0, 1, 0] 0, .c [1, 1, 1, 0, 1, 0, 0, 1, 0, 0, 1, 1], .blk 1, .c [1, 1, 1, 0, 1, 0, 0, 1, 1], .lp [1, 1, 1, 0, 1, 0, 0], .blk 0, .c [1, 1, 1, 1]] rfl ?_
    refine j_run it 6 rfl (by repeat' first | exact trivial | apply And.intro | omega) ?_
    refine j_step rfl (x_conv_u32 it rfl rfl rfl ?_)
    refine j_step rfl (x_idx_own ((k) - 1) ((k) - 1) rfl rfl sl35 (by omega) (by omega) (Nat.mul_one _) ?_)
    refine j_step rfl (x_bst_nat 0 (((r * 4294967296 + z1) / (b)) % 4294967296) rfl rfl rfl ld52 (by first | rfl | omega) (by first | omega | (simp; omega)) ?_)
    refine j_nf [.o [1, 1, 1, 0, 1, 0, 0, 1, 0, 0, 1, 1] 0, .blk 1, .c [1, 1, 1, 0, 1, 0, 0, 1, 1], .lp [1, 1, 1, 0, 1, 0, 0], .blk 0, .c [1, 1, 1, 1]] rfl ?_
    refine j_run it 5 rfl (by repeat' first | exact trivial | apply And.intro | omega) ?_
    refine j_nf [.o [1, 1, 1, 0, 1, 0, 0, 1, 1] 0, .lp [1, 1, 1, 0, 1, 0, 0], .blk 0, .c [1, 1, 1, 1]] rfl ?_
    refine j_run it 3 rfl (by repeat' first | exact trivial | apply And.intro | omega) ?_
    refine j_nfn 1 [.lp [1, 1, 1, 0, 1, 0, 0], .blk 0, .c [1, 1, 1, 1]] rfl ?_
    have hz := (hra z1 (List.mem_of_getElem? hz1)).2
    have hq := div_lt' (x := z1) hr (by omega)
    refine j_to [1] (by repeat (first | exact Fr.sub_nil _ | refine Fr.sub_cons rfl ?_ | refine Fr.sub_consI rfl (by first | omega | (dsimp only; omega)) ?_ | refine Fr.sub_consS rfl (by first | omega | (dsimp only; omega)) (by first | omega | (dsimp only; omega)) ?_)) rfl rfl (ih (k - 1, (r * 4294967296 + z1) % b, out.set (k - 1) ((r * 4294967296 + z1) / b % 4294967296)) (by simp only; omega) ⟨by simp only; omega, by simpa using hl, Nat.mod_lt _ hb, set_lt ho (by omega), by
      simp only
      rw [Nat.mod_eq_of_lt hq]
      have e : k - 1 + 1 = k := by omega
      have hz1' : a[k - 1]? = some z1 := by first | exact hz1 | simpa using hz1
      rw [val_drop hz1', val_set_drop (by omega), e]
      exact div_step hv hb⟩)
  · refine j_nf [.o [1, 1, 1, 0, 1, 0, 0, 0, 0] 0, .c [1, 1, 1, 0, 1, 0, 0, 0, 1], .c [1, 1, 1, 0, 1, 0, 0, 1], .lp [1, 1, 1, 0, 1, 0, 0], .blk 0, .c [1, 1, 1, 1]] rfl ?_
    refine j_run it 2 rfl (by simp) ?_
    refine j_nf [.c [1, 1, 1, 0, 1, 0, 0, 0, 1], .c [1, 1, 1, 0, 1, 0, 0, 1], .lp [1, 1, 1, 0, 1, 0, 0], .blk 0, .c [1, 1, 1, 1]] rfl ?_
    refine j_if rfl rfl (fun h1 => by exfalso; omega) (fun h1 => ?_)
    refine j_nf [.o [1, 1, 1, 1, 0] 0, .c [1, 1, 1, 1, 1]] rfl ?_
    refine j_run it 1 rfl (by simp) ?_
    refine j_pub32 (n := a.length) 0 rfl (by simp [*]) (by first | assumption | exact set_all (by assumption) (by omega) | (simp; omega)) (by omega) ?_
    refine j_step rfl (x_call [0] rfl (S_nat_short) rfl ?_)
    rintro _ _ _ ⟨rfl, rfl, rfl⟩
    simp only [List.cons_append, List.nil_append]
    refine j_run it 4 rfl (by repeat' first | exact trivial | apply And.intro | omega) ?_
    refine j_nf [.c [1, 1, 1, 1, 1]] rfl ?_
    have e : k = 0 := by omega
    subst e
    simp only [List.drop_zero] at hv
    have h1 : val a / b = val out := by rw [hv, Nat.mul_comm, Nat.mul_add_div hb, Nat.div_eq_of_lt hr, Nat.add_zero]
    have h2 : val a % b = r := by rw [hv, Nat.mul_comm, Nat.mul_add_mod, Nat.mod_eq_of_lt hr]
    rw [trim_eq ho, ← h1]
    refine j_giv [0] rfl rfl rfl ⟨_, _, by rw [h2]; rfl, rfl, rfl⟩
end Go.Proofs.Ytpoonnjaobjdgaa
