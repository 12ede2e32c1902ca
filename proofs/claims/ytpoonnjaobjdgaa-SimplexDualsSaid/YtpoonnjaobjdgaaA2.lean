/-
Contracts of nat.Trim, nat.Of.
-/
import Derived.Test.YtpoonnjaobjdgaaFuns
import Derived.Test.YtpoonnjaobjdgaaNatMath
import Derived.Test.YtpoonnjaobjdgaaNatMath2
import Derived.Test.YtpoonnjaobjdgaaA1
namespace Go.Proofs.Ytpoonnjaobjdgaa
open Go Go.Fw
set_option maxRecDepth 100000
set_option linter.unusedVariables false
theorem S_nat_Trim {pa : Option Addr} {n ca : Nat} {l : List Nat} : Ctr Try.prog 32 [.slice pa n ca] [] [slF U32 pa n ca l] (Sv U32 (trim l)) := by
  refine Ctr_of_j' (F := F_nat_Trim) rfl fun C => ?_
  refine j_len 0 rfl fun hn hb hc => ?_
  subst hn
  have hb' : l.length * 4 ≤ 140737488355328 := hb
  have := trim_length_le l
  refine j_nf [.o [0] 0, .c [1]] rfl ?_
  refine j_run it 1 rfl (by simp) ?_
  refine j_nf [.o [1, 0] 0, .c [1, 1]] rfl ?_
  refine j_run it 1 rfl (by simp) ?_
  refine j_step rfl (x_call [0] rfl (S_nat_short) rfl ?_)
  rintro _ _ _ ⟨rfl, rfl, rfl⟩
  simp only [List.cons_append, List.nil_append]
  refine j_nil el35 ?_
  refine j_step rfl (x_app_sl 0 0 rfl rfl rfl rfl sl35 zo35e rfl (by first | exact GrOk.nil _ | assumption | exact .inr ⟨_, rfl, Nat.le_refl _, by omega, rfl⟩) (by omega) _ by35e (by omega) fun bo1 cap1 cs1 vss1 hg1 ht1 => ?_)
  refine j_run it 1 rfl (by simp) ?_
  refine j_nf [.c [1, 1]] rfl ?_
  simp only [Nat.zero_add] at hg1 ht1 ⊢
  refine j_pub 0 0 rfl rfl hg1 (by simpa using ht1) rfl (by show _ * 4 ≤ _; omega) ?_
  refine j_giv [0] rfl rfl rfl ⟨_, _, rfl, rfl, rfl⟩

/-- The two limbs of a word. -/
theorem val_two (n : Nat) : val [n % 4294967296, n / 4294967296] = n := by simp only [val]; omega

theorem S_nat_Of {n : Nat} (hn : n < 18446744073709551616) : Ctr Try.prog 35 [.int .u64 n] [] [] (Sv U32 (limbs n)) := by
  refine Ctr_of_j' (F := F_nat_Of) rfl fun C => ?_
  refine j_nf [.o [0] 0, .c [1]] rfl ?_
  refine j_run it 1 rfl (by simp) ?_
  refine j_nf [.o [1, 0] 0, .c [1, 1]] rfl ?_
  refine j_run it 1 rfl (by simp) ?_
  refine j_step rfl (x_conv_u32 it rfl rfl rfl ?_)
  refine j_run it 3 rfl (by repeat' first | exact trivial | apply And.intro | omega) ?_
  refine j_step rfl (x_lit sl35 zo35e rfl rfl rfl rfl (by decide) (by decide) rfl fun b1 => ?_)
  refine j_pub_made (n := 2) (kd := .u32) 4 [n % 4294967296, n / 4294967296] 0 rfl rfl (by simp [InR]; omega) (by decide) (by decide) ?_
  refine j_step rfl (x_call [0] rfl (S_nat_Trim) rfl ?_)
  rintro _ _ _ ⟨pa1, ca1, rfl, rfl, rfl⟩
  simp only [List.cons_append, List.nil_append]
  refine j_run it 1 rfl (by simp) ?_
  refine j_nf [.c [1, 1]] rfl ?_
  rw [trim_eq (l := [n % 4294967296, n / 4294967296]) (by simp; omega), val_two]
  refine j_giv [0] rfl rfl rfl ⟨_, _, rfl, rfl, rfl⟩
end Go.Proofs.Ytpoonnjaobjdgaa
