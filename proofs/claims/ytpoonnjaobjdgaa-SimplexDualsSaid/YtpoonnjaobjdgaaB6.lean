/-
The document's power.
-/
import Derived.Test.YtpoonnjaobjdgaaFuns
import Derived.Test.YtpoonnjaobjdgaaNatMath
import Derived.Test.YtpoonnjaobjdgaaNatMath2
import Derived.Test.YtpoonnjaobjdgaaNatMath3
import Derived.Test.YtpoonnjaobjdgaaA1
import Derived.Test.YtpoonnjaobjdgaaA2
import Derived.Test.YtpoonnjaobjdgaaA3
import Derived.Test.YtpoonnjaobjdgaaA4
import Derived.Test.YtpoonnjaobjdgaaA5
import Derived.Test.YtpoonnjaobjdgaaA6
import Derived.Test.YtpoonnjaobjdgaaA7
import Derived.Test.YtpoonnjaobjdgaaB1
namespace Go.Proofs.Ytpoonnjaobjdgaa
open Go Go.Fw
set_option maxRecDepth 100000
set_option linter.unusedVariables false
set_option maxHeartbeats 400000
theorem S_codewrightref01_Bits {pa : Option Addr} {n ca : Nat} {l : List Nat} : Ctr Try.prog 38 [.slice pa n ca] [] [slF U32 pa n ca l] (Rv (.int .i64 (bitsL l)) []) := by
  refine Ctr_of_j' (F := F_codewrightref01_Bits) rfl fun C => ?_
  refine j_len 0 rfl fun hn hb _ => ?_
  subst hn
  have hb' : l.length * 4 ≤ 140737488355328 := hb
  refine j_range 0 rfl fun hr => ?_
  simp only [InR] at hr
  have hl := trim_length_le l
  by_cases h0 : (trim l).length = 0
  · refine j_nf [.o [0] 0, .c [1]] rfl ?_
    refine j_run it 1 rfl (by simp) ?_
    refine j_nf [.o [1, 0] 0, .c [1, 1]] rfl ?_
    refine j_run it 1 rfl (by simp) ?_
    refine j_step rfl (x_call [0] rfl (S_codewrightref01_Trim) rfl ?_)
    rintro _ _ _ ⟨pa1, ca1, rfl, rfl, rfl⟩
    simp only [List.cons_append, List.nil_append]
    refine j_run it 1 rfl (by simp) ?_
    refine j_nf [.o [1, 1, 0, 0] 0, .c [1, 1, 0, 1], .c [1, 1, 1]] rfl ?_
    refine j_run it 1 rfl (by simp) ?_
    refine j_step rfl (x_len sl35 rfl ?_)
    refine j_run it 1 rfl (by simp) ?_
    refine j_nf [.c [1, 1, 0, 1], .c [1, 1, 1]] rfl ?_
    refine j_if rfl rfl (fun h1 => ?_) (fun h1 => by exfalso; omega)
    refine j_nf [.o [1, 1, 0, 1, 0, 0] 0, .c [1, 1, 0, 1, 0, 1], .c [1, 1, 1]] rfl ?_
    refine j_run it 1 rfl (by simp) ?_
    refine j_nf [.c [1, 1, 0, 1, 0, 1], .c [1, 1, 1]] rfl ?_
    refine j_giv [] rfl rfl rfl ⟨by rw [bitsL_nil h0]; rfl, rfl, rfl⟩
  · have side2 : ∀ z, (trim l)[(trim l).length - 1]? = some z → blen z ≤ 32 := fun z hz => blen_le (by have := hr z (mem_trim (List.mem_of_getElem? hz)); omega)
    refine j_nf [.o [0] 0, .c [1]] rfl ?_
    refine j_run it 1 rfl (by simp) ?_
    refine j_nf [.o [1, 0] 0, .c [1, 1]] rfl ?_
    refine j_run it 1 rfl (by simp) ?_
    refine j_step rfl (x_call [0] rfl (S_codewrightref01_Trim) rfl ?_)
    rintro _ _ _ ⟨pa1, ca1, rfl, rfl, rfl⟩
    simp only [List.cons_append, List.nil_append]
    refine j_run it 1 rfl (by simp) ?_
    refine j_nf [.o [1, 1, 0, 0] 0, .c [1, 1, 0, 1], .c [1, 1, 1]] rfl ?_
    refine j_run it 1 rfl (by simp) ?_
    refine j_step rfl (x_len sl35 rfl ?_)
    refine j_run it 1 rfl (by simp) ?_
    refine j_nf [.c [1, 1, 0, 1], .c [1, 1, 1]] rfl ?_
    refine j_if rfl rfl (fun h1 => by exfalso; omega) (fun h1 => ?_)
    refine j_nf [.o [1, 1, 1, 0] 0, .c [1, 1, 1, 1]] rfl ?_
    refine j_run it 1 rfl (by simp) ?_
    refine j_step rfl (x_len sl35 rfl ?_)
    refine j_run it 3 rfl (by repeat' first | exact trivial | apply And.intro | omega) ?_
    refine j_nf [.o [1, 1, 1, 1, 0, 0] 0, .c [1, 1, 1, 1, 0, 1], .c [1, 1, 1, 1, 1]] rfl ?_
    refine j_run it 2 rfl (by simp) ?_
    refine j_step rfl (x_len sl35 rfl ?_)
    refine j_run it 1 rfl (by repeat' first | exact trivial | apply And.intro | omega) ?_
    refine j_step rfl (x_idx 0 (((trim l).length) - 1) rfl rfl rfl sl35 (by omega) (by omega) fun z1 hz1 b1 o1 => ?_)
    refine j_step rfl (x_ld_nat 0 rfl rfl ld52 fun ⟨r1, r2⟩ => ?_)
    refine j_run it 1 rfl (by simp) ?_
    refine j_nf [.c [1, 1, 1, 1, 0, 1, 0], .blk 0, .c [1, 1, 1, 1, 1]] rfl ?_
    have hs2 := side2 z1 hz1
    refine j_loopN (X := Nat × Nat) (fun x => [(3, .int .i64 x.1), (4, .int .u32 x.2)]) (fun _ => []) (fun _ => [])
      (fun x => x.1 + blen x.2 = bitsL l ∧ x.2 < 4294967296 ∧ bitsL l ≤ 32 * l.length + 32) (fun x => x.2) (32 * ((trim l).length - 1), z1) [] rfl ⟨by rw [bitsL_top hz1], by have := hr z1 (mem_trim (List.mem_of_getElem? hz1)); simp only; omega, by rw [bitsL_top hz1]; omega⟩ (by repeat (first | exact Fr.sub_nil _ | refine Fr.sub_cons rfl ?_ | refine Fr.sub_consI rfl (by omega) ?_)) rfl rfl ?_
    rintro ⟨c, x⟩ ⟨hc, hx, hbl⟩ ih
    simp only at hc hx ih ⊢
    by_cases hx0 : 0 < x
    · rw [blen_pos (by omega)] at hc
      refine j_nf [.o [1, 1, 1, 1, 0, 1, 0, 0, 0, 0] 0, .c [1, 1, 1, 1, 0, 1, 0, 0, 0, 1], .c [1, 1, 1, 1, 0, 1, 0, 0, 1], .lp [1, 1, 1, 1, 0, 1, 0, 0], .blk 0, .c [1, 1, 1, 1, 1]] rfl ?_
      refine j_run it 2 rfl (by simp) ?_
      refine j_nf [.c [1, 1, 1, 1, 0, 1, 0, 0, 0, 1], .c [1, 1, 1, 1, 0, 1, 0, 0, 1], .lp [1, 1, 1, 1, 0, 1, 0, 0], .blk 0, .c [1, 1, 1, 1, 1]] rfl ?_
      refine j_if rfl rfl (fun h2 => ?_) (fun h2 => by exfalso; omega)
      refine j_nf [.o [1, 1, 1, 1, 0, 1, 0, 0, 1, 0, 0] 0, .blk 1, .c [1, 1, 1, 1, 0, 1, 0, 0, 1, 1], .lp [1, 1, 1, 1, 0, 1, 0, 0], .blk 0, .c [1, 1, 1, 1, 1]] rfl ?_
      refine j_run it 3 rfl (by repeat' first | exact trivial | apply And.intro | omega) ?_
      refine j_nf [.o [1, 1, 1, 1, 0, 1, 0, 0, 1, 1] 0, .lp [1, 1, 1, 1, 0, 1, 0, 0], .blk 0, .c [1, 1, 1, 1, 1]] rfl ?_
      refine j_run it 3 rfl (by repeat' first | exact trivial | apply And.intro | omega) ?_
      refine j_nfn 1 [.lp [1, 1, 1, 1, 0, 1, 0, 0], .blk 0, .c [1, 1, 1, 1, 1]] rfl ?_
      refine j_to [] (by repeat (first | exact Fr.sub_nil _ | refine Fr.sub_cons rfl ?_ | refine Fr.sub_consI rfl (by first | omega | (dsimp only; omega)) ?_ | refine Fr.sub_consS rfl (by first | omega | (dsimp only; omega)) (by first | omega | (dsimp only; omega)) ?_)) rfl rfl (ih (c + 1, x / 2) (by simp only; omega) ⟨by simp only; omega, by simp only; omega, hbl⟩)
    · refine j_nf [.o [1, 1, 1, 1, 0, 1, 0, 0, 0, 0] 0, .c [1, 1, 1, 1, 0, 1, 0, 0, 0, 1], .c [1, 1, 1, 1, 0, 1, 0, 0, 1], .lp [1, 1, 1, 1, 0, 1, 0, 0], .blk 0, .c [1, 1, 1, 1, 1]] rfl ?_
      refine j_run it 2 rfl (by simp) ?_
      refine j_nf [.c [1, 1, 1, 1, 0, 1, 0, 0, 0, 1], .c [1, 1, 1, 1, 0, 1, 0, 0, 1], .lp [1, 1, 1, 1, 0, 1, 0, 0], .blk 0, .c [1, 1, 1, 1, 1]] rfl ?_
      refine j_if rfl rfl (fun h2 => by exfalso; omega) (fun h2 => ?_)
      refine j_nf [.o [1, 1, 1, 1, 1, 0] 0, .c [1, 1, 1, 1, 1, 1]] rfl ?_
      refine j_run it 2 rfl (by simp) ?_
      refine j_nf [.c [1, 1, 1, 1, 1, 1]] rfl ?_
      have e : x = 0 := by omega
      subst e
      rw [blen_zero] at hc
      refine j_giv [] rfl rfl rfl ⟨by rw [← hc]; rfl, rfl, rfl⟩
end Go.Proofs.Ytpoonnjaobjdgaa
