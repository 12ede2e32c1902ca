/-
The document's shift.
-/
import Derived.Test.YtpoonnjaobjdgaaFuns
import Derived.Test.YtpoonnjaobjdgaaNatMath
import Derived.Test.YtpoonnjaobjdgaaNatMath2
import Derived.Test.YtpoonnjaobjdgaaNatMath3
import Derived.Test.YtpoonnjaobjdgaaNatMath5
import Derived.Test.YtpoonnjaobjdgaaNatMath6
import Derived.Test.YtpoonnjaobjdgaaA1
import Derived.Test.YtpoonnjaobjdgaaA10
import Derived.Test.YtpoonnjaobjdgaaB1
namespace Go.Proofs.Ytpoonnjaobjdgaa
open Go Go.Fw
set_option maxRecDepth 100000
set_option linter.unusedVariables false
set_option maxHeartbeats 2000000
theorem natCells_snoc (k : IntKind) (l : List Nat) (x : Nat) : natCells k (l ++ [x]) = natCells k l ++ [.int k x] := by simp [natCells]
theorem val_zeros_append (n : Nat) (l : List Nat) : val (List.replicate n 0 ++ l) = 4294967296 ^ n * val l := by
  rw [val_append, val_replicate, List.length_replicate, Nat.zero_add]

theorem S_codewrightref01_shift {pa : Option Addr} {m ca n : Nat} {a : List Nat} (ha : a.length ≤ 1073741824) (hn : n ≤ 1099511627776) :
    Ctr Try.prog 39 [.slice pa m ca, .int .i64 n] [] [slF U32 pa m ca a] (Sv U32 (limbs (val a * 2 ^ n))) := by
  refine Ctr_of_j' (F := F_codewrightref01_shift) rfl fun C => ?_
  refine j_len 0 rfl fun hm hba _ => ?_
  subst hm
  refine j_range 0 rfl fun hra => ?_
  have hra' : ∀ x ∈ a, x < 4294967296 := fun x hx => by have := hra x hx; simp only [InR] at this; omega
  have hs : n % 32 < 32 := Nat.mod_lt _ (by decide)
  have hdiv : ((n : Int) / 32) = ((n / 32 : Nat) : Int) := by omega
  have hmod : ((n : Int) % 32) = ((n % 32 : Nat) : Int) := by omega
  have hpow : 2 ^ n = 4294967296 ^ (n / 32) * 2 ^ (n % 32) := by
    rw [show (4294967296 : Nat) = 2 ^ 32 from rfl, ← Nat.pow_mul, ← Nat.pow_add]
    congr 1; omega
  refine j_nf [.o [0] 0, .c [1]] rfl ?_
  refine j_run it 1 rfl (by simp) ?_
  refine j_nf [.o [1, 0] 0, .c [1, 1]] rfl ?_
  refine j_run it 2 rfl (by repeat' first | exact trivial | apply And.intro | omega) ?_
  refine j_step rfl (x_make_nat ((n) / 32) _ rfl rfl sl35 zo35e by35e (by omega) (by omega) (by omega) fun b1 => ?_)
  refine j_run it 1 rfl (by simp) ?_
  refine j_nf [.o [1, 1, 0] 0, .c [1, 1, 1]] rfl ?_
  refine j_run it 1 rfl (by simp) ?_
  refine j_nf [.o [1, 1, 1, 0, 0] 0, .c [1, 1, 1, 0, 1], .c [1, 1, 1, 1]] rfl ?_
  refine j_run it 1 rfl (by simp) ?_
  refine j_nf [.c [1, 1, 1, 0, 1, 0], .blk 0, .c [1, 1, 1, 1]] rfl ?_
  refine j_loopG (X := Nat × Nat × List Nat × Option Nat × Nat × List Value) [0, 1, 4] [0] (fun x => [(5, .slice (ad x.2.2.2.1) (n / 32 + x.1) x.2.2.2.2.1), (6, .int .u64 x.2.1), (7, .int .i64 x.1)])
    (fun x => [(x.2.2.2.1, 52, x.2.2.2.2.2)]) (fun _ => [])
    (fun x => (x.1 ≤ a.length ∧ x.2.1 < 2 ^ (n % 32) ∧ x.2.2.1.length = x.1) ∧ (∀ y ∈ x.2.2.1, y < 4294967296) ∧ val x.2.2.1 + 4294967296 ^ x.1 * x.2.1 = val (a.take x.1) * 2 ^ (n % 32) ∧ GrOk x.2.2.2.1 (n / 32 + x.1) x.2.2.2.2.1 1 x.2.2.2.2.2 ∧ x.2.2.2.2.2.take (n / 32 + x.1) = natCells .u32 (List.replicate (n / 32) 0 ++ x.2.2.1))
    (fun x => a.length - x.1) (0, 0, [], some b1, n / 32, natCells .u32 (List.replicate (n / 32) 0)) [] rfl rfl rfl ⟨⟨Nat.zero_le _, Nat.pow_pos (by decide), rfl⟩, (fun y hy => by cases hy), by simp [val], .inr ⟨b1, rfl, Nat.le_refl _, by dsimp only; omega, by simp⟩, by simp [natCells_take]⟩ (by repeat (first | exact Fr.sub_nil _ | refine Fr.sub_cons rfl ?_)) rfl rfl ?_
  rintro ⟨k, c, out, bo, cap, cs⟩ ⟨⟨hk, hc, hl⟩, ho, hv, hg, ht⟩ ih
  simp only [List.cons_append, List.nil_append] at hk hc hl ho hv hg ht ih ⊢
  by_cases hkl : k < a.length
  · refine j_nf [.o [1, 1, 1, 0, 1, 0, 0, 0, 0] 0, .c [1, 1, 1, 0, 1, 0, 0, 0, 1], .c [1, 1, 1, 0, 1, 0, 0, 1], .lp [1, 1, 1, 0, 1, 0, 0], .blk 0, .c [1, 1, 1, 1]] rfl ?_
    refine j_run it 2 rfl (by simp) ?_
    refine j_step rfl (x_len sl35 rfl ?_)
    refine j_run it 1 rfl (by simp) ?_
    refine j_nf [.c [1, 1, 1, 0, 1, 0, 0, 0, 1], .c [1, 1, 1, 0, 1, 0, 0, 1], .lp [1, 1, 1, 0, 1, 0, 0], .blk 0, .c [1, 1, 1, 1]] rfl ?_
    refine j_if rfl rfl (fun h1 => ?_) (fun h1 => by exfalso; omega)
    refine j_nf [.o [1, 1, 1, 0, 1, 0, 0, 1, 0, 0, 0] 0, .c [1, 1, 1, 0, 1, 0, 0, 1, 0, 0, 1], .blk 1, .c [1, 1, 1, 0, 1, 0, 0, 1, 1], .lp [1, 1, 1, 0, 1, 0, 0], .blk 0, .c [1, 1, 1, 1]] rfl ?_
    refine j_run it 2 rfl (by simp) ?_
    refine j_step rfl (x_idx 0 (k) rfl rfl rfl sl35 rfl (by omega) fun z1 hz1 b2 o1 => ?_)
    refine j_step rfl (x_ld_nat 0 rfl rfl ld52 fun ⟨r1, r2⟩ => ?_)
    refine j_run it 3 rfl (by repeat' first | exact trivial | apply And.intro | omega) ?_ --ok
    have hxl := hra' _ (List.mem_of_getElem? hz1)
    obtain ⟨hs1, hs2, hs3⟩ := shl_lt hxl hs
    refine j_step rfl (x_shl_nat (z1) ((n) % 32) rfl rfl (by first | rfl | omega) (by first | rfl | omega) (by first | decide | (simp only [IntKind.bits]; omega)) (by first | assumption | (simp only [InR]; omega)) ?_)
    refine j_run it 3 rfl (by repeat' first | exact trivial | apply And.intro | omega) ?_
    refine j_nf [.o [1, 1, 1, 0, 1, 0, 0, 1, 0, 0, 1, 0] 0, .c [1, 1, 1, 0, 1, 0, 0, 1, 0, 0, 1, 1], .blk 1, .c [1, 1, 1, 0, 1, 0, 0, 1, 1], .lp [1, 1, 1, 0, 1, 0, 0], .blk 0, .c [1, 1, 1, 1]] rfl ?_
    refine j_run it 4 rfl (by repeat' first | exact trivial | apply And.intro | omega) ?_
    refine j_step rfl (x_lit sl35 zo35e rfl rfl rfl rfl (by decide) (by decide) rfl fun b3 => ?_)
    refine j_step rfl (x_app 1 0 rfl rfl rfl rfl sl35 zo35e rfl (by first | exact GrOk.nil _ | assumption | exact .inr ⟨_, rfl, Nat.le_refl _, by omega, rfl⟩) rfl rfl (by first | (simp [Value.oneCell']; done) | (simp [Value.oneCell', cellsL]; done) | (intro u hu; rcases List.mem_singleton.1 hu with rfl; rfl)) (by omega) _ by35e (by omega) fun bo1 cap1 cs1 hg1 ht1 => ?_)
    refine j_run it 1 rfl (by simp) ?_
    refine j_nf [.o [1, 1, 1, 0, 1, 0, 0, 1, 0, 0, 1, 1] 0, .blk 1, .c [1, 1, 1, 0, 1, 0, 0, 1, 1], .lp [1, 1, 1, 0, 1, 0, 0], .blk 0, .c [1, 1, 1, 1]] rfl ?_
    refine j_run it 3 rfl (by repeat' first | exact trivial | apply And.intro | omega) ?_
    refine j_nf [.o [1, 1, 1, 0, 1, 0, 0, 1, 1] 0, .lp [1, 1, 1, 0, 1, 0, 0], .blk 0, .c [1, 1, 1, 1]] rfl ?_
    refine j_run it 3 rfl (by repeat' first | exact trivial | apply And.intro | omega) ?_
    refine j_nfn 1 [.lp [1, 1, 1, 0, 1, 0, 0], .blk 0, .c [1, 1, 1, 1]] rfl ?_
    simp only [Nat.mul_one] at hg1 ht1
    have hdv : (z1 * 2 ^ (n % 32) + c) / 4294967296 < 2 ^ (n % 32) := by
      rw [Nat.div_lt_iff_lt_mul (by decide)]
      have := Nat.mul_le_mul_right (2 ^ (n % 32)) hxl
      rw [Nat.succ_mul] at this
      omega
    have hmB : (z1 * 2 ^ (n % 32) + c) % 4294967296 < 4294967296 := Nat.mod_lt _ (by decide)
    refine j_toM [true, false] [1] (by repeat (first | exact Fr.sub_nil _ | refine Fr.sub_cons rfl ?_ | refine Fr.sub_consI rfl (by first | omega | (dsimp only; omega)) ?_ | refine Fr.sub_consS rfl (by first | omega | (dsimp only; omega)) (by first | omega | (dsimp only; omega)) ?_)) rfl rfl (ih (k + 1, (z1 * 2 ^ (n % 32) + c) / 4294967296, out ++ [(z1 * 2 ^ (n % 32) + c) % 4294967296], bo1, cap1, cs1) (by simp only; omega)
      ⟨⟨by simp only; omega, hdv, by simp [hl]⟩, snoc_lt ho hmB, by
        simp only
        rw [val_snoc, hl, Nat.pow_succ, val_take_succ hz1, Nat.add_mul]
        generalize hS : z1 * 2 ^ (n % 32) + c = s
        have e : s % 4294967296 + 4294967296 * (s / 4294967296) = s := by omega
        have e2 : 4294967296 ^ k * (s % 4294967296) + 4294967296 ^ k * 4294967296 * (s / 4294967296) = 4294967296 ^ k * (z1 * 2 ^ (n % 32)) + 4294967296 ^ k * c := by
          rw [Nat.mul_assoc, ← Nat.mul_add, ← Nat.mul_add, e, hS]
        rw [Nat.mul_assoc (4294967296 ^ k) z1]
        omega, hg1, by
        simp only
        rw [← Nat.add_assoc, ht1, ht, ← List.append_assoc, natCells_snoc]; rfl⟩)
  · have ek : k = a.length := by omega
    subst ek
    obtain ⟨_, _, hs3⟩ := shl_lt (x := 0) (by decide) hs
    rw [List.take_length] at hv
    refine j_nf [.o [1, 1, 1, 0, 1, 0, 0, 0, 0] 0, .c [1, 1, 1, 0, 1, 0, 0, 0, 1], .c [1, 1, 1, 0, 1, 0, 0, 1], .lp [1, 1, 1, 0, 1, 0, 0], .blk 0, .c [1, 1, 1, 1]] rfl ?_
    refine j_run it 2 rfl (by simp) ?_
    refine j_step rfl (x_len sl35 rfl ?_)
    refine j_run it 1 rfl (by simp) ?_
    refine j_nf [.c [1, 1, 1, 0, 1, 0, 0, 0, 1], .c [1, 1, 1, 0, 1, 0, 0, 1], .lp [1, 1, 1, 0, 1, 0, 0], .blk 0, .c [1, 1, 1, 1]] rfl ?_
    refine j_if rfl rfl (fun h1 => by exfalso; omega) (fun h1 => ?_)
    refine j_nf [.o [1, 1, 1, 1, 0] 0, .c [1, 1, 1, 1, 1]] rfl ?_
    refine j_run it 3 rfl (by repeat' first | exact trivial | apply And.intro | omega) ?_
    refine j_step rfl (x_lit sl35 zo35e rfl rfl rfl rfl (by decide) (by decide) rfl fun b2 => ?_)
    refine j_step rfl (x_app 1 0 rfl rfl rfl rfl sl35 zo35e rfl (by first | exact GrOk.nil _ | assumption | exact .inr ⟨_, rfl, Nat.le_refl _, by omega, rfl⟩) rfl rfl (by first | (simp [Value.oneCell']; done) | (simp [Value.oneCell', cellsL]; done) | (intro u hu; rcases List.mem_singleton.1 hu with rfl; rfl)) (by omega) _ by35e (by omega) fun bo1 cap1 cs1 hg1 ht1 => ?_)
    simp only [Nat.mul_one] at hg1 ht1
    refine j_pub_nat (kd := .u32) 4 (List.replicate (n / 32) 0 ++ (out ++ [c])) 0 rfl hg1 (by rw [ht1, ht, ← List.append_assoc, natCells_snoc]; rfl) (by simp [hl]; omega) (fun x hx => by
      simp only [List.mem_append, List.mem_replicate, List.mem_singleton] at hx
      rcases hx with ⟨_, rfl⟩ | hx | rfl
      · simp [InR]
      · have := ho x hx; simp only [InR]; omega
      · simp only [InR]; omega) (by omega) ?_
    have hall : ∀ x ∈ List.replicate (n / 32) 0 ++ (out ++ [c]), x < 4294967296 := fun x hx => by
      simp only [List.mem_append, List.mem_replicate, List.mem_singleton] at hx
      rcases hx with ⟨_, rfl⟩ | hx | rfl
      · decide
      · exact ho x hx
      · omega
    refine j_step rfl (x_call [0] rfl (S_codewrightref01_Trim) rfl ?_)
    rintro _ _ _ ⟨pa1, ca1, rfl, rfl, rfl⟩
    simp only [List.cons_append, List.nil_append]
    refine j_run it 1 rfl (by simp) ?_
    refine j_nf [.c [1, 1, 1, 1, 1]] rfl ?_
    rw [trim_eq hall, val_zeros_append, val_snoc, hl, hv, hpow]
    rw [show 4294967296 ^ (n / 32) * (val a * 2 ^ (n % 32)) = val a * (4294967296 ^ (n / 32) * 2 ^ (n % 32)) by simp only [Nat.mul_left_comm]]
    refine j_giv [0] rfl rfl rfl ⟨_, _, rfl, rfl, rfl⟩
end Go.Proofs.Ytpoonnjaobjdgaa
