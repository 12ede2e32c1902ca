/-
The contract of nat.Trim, where the caller goes on writing in what it gets.
-/
import Derived.Test.YtpoonnjaobjdgaaFuns
import Derived.Test.YtpoonnjaobjdgaaNatMath
import Derived.Test.YtpoonnjaobjdgaaA1
namespace Go.Proofs.Ytpoonnjaobjdgaa
open Go Go.Fw
set_option maxRecDepth 100000
set_option linter.unusedVariables false

theorem O_nat_Trim {pa : Option Addr} {n ca : Nat} {l : List Nat} : Ctr Try.prog 32 [.slice pa n ca] [] [slF U32 pa n ca l] (Ov 52 (trim l)) := by
  refine Ctr_of_j' (F := F_nat_Trim) rfl fun C => ?_
  refine j_len 0 rfl fun hn hb _ => ?_
  subst hn
  have hb' : l.length * 4 ≤ 140737488355328 := hb
  have hl := trim_length_le l
  refine j_nf [.o [0] 0, .c [1]] rfl ?_
  refine j_run it 1 rfl (by simp) ?_
  refine j_nf [.o [1, 0] 0, .c [1, 1]] rfl ?_
  refine j_run it 1 rfl (by simp) ?_
  refine j_step rfl (x_call [0] rfl (S_nat_short) rfl ?_)
  rintro _ _ _ ⟨rfl, rfl, rfl⟩
  simp only [List.cons_append, List.nil_append]
  refine j_nil el35 ?_
  refine j_step rfl (x_app_sl 0 0 rfl rfl rfl rfl sl35 zo35e rfl (by first | exact GrOk.nil _ | assumption | exact .inr ⟨_, rfl, Nat.le_refl _, by omega, rfl⟩) (by omega) _ by35e (by omega) fun bo1 cap1 cs1 vss1 hg1 ht1 => ?_)
  refine j_run it 1 rfl (by simp) ?_
  refine j_nf [.c [1, 1]] rfl ?_
  refine j_flat 0 rfl fun hfl => ?_
  simp only [Nat.zero_add, Nat.zero_mul, List.take_zero, List.nil_append, hfl] at ht1
  have e : cs1 = natCells .u32 (trim l) ++ cs1.drop (trim l).length := by
    have h := List.take_append_drop (trim l).length cs1
    rw [show (trim l).length = (trim l).length * (encNat .u32 4).size from (Nat.mul_one _).symm] at h
    rw [ht1] at h
    exact h.symm.trans (by rw [show (trim l).length * (encNat .u32 4).size = (trim l).length from Nat.mul_one _])
  rw [Nat.zero_add] at hg1
  refine j_gives [] rfl rfl rfl ⟨bo1, cap1, cs1.drop (trim l).length, by simp [resVal], by rw [← e]; exact hg1, rfl, by rw [← e]; rfl⟩
end Go.Proofs.Ytpoonnjaobjdgaa
