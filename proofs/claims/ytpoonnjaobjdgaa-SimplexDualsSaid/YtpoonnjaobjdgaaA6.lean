/-
Contracts of bits.Len32 and nat.Bits.
-/
import Derived.Test.YtpoonnjaobjdgaaFuns
import Derived.Test.YtpoonnjaobjdgaaNatMath
import Derived.Test.YtpoonnjaobjdgaaNatMath2
import Derived.Test.YtpoonnjaobjdgaaNatMath3
import Derived.Test.YtpoonnjaobjdgaaA1
import Derived.Test.YtpoonnjaobjdgaaA2
import Derived.Test.YtpoonnjaobjdgaaA3
import Derived.Test.YtpoonnjaobjdgaaA4
import Derived.Test.YtpoonnjaobjdgaaA5
namespace Go.Proofs.Ytpoonnjaobjdgaa
open Go Go.Fw
set_option maxRecDepth 100000
set_option linter.unusedVariables false
set_option maxHeartbeats 1000000
theorem S_bits_Len32 {x : Nat} (hx : x < 4294967296) : Ctr Try.prog 31 [.int .u32 x] [] [] (Rv (.int .i64 (blen x)) []) := by
  refine Ctr_of_j' (F := F_bits_Len32) rfl fun C => ?_
  have last : ∀ (y c : Nat), y < 256 → c ≤ 24 → c + blen y = blen x → J F_bits_Len32 C [.c [1, 1, 1]] [(0, .int .u32 y), (2, .int .i64 c)] [] [] (Gives C (Rv (.int .i64 (blen x)) [])) := by
    intro y c hy hc he
    refine j_nf [.o [1, 1, 1, 0] 0, .c [1, 1, 1, 1]] rfl ?_
    refine j_run it 3 rfl (by repeat' first | exact trivial | apply And.intro | omega) ?_
    refine j_step rfl (x_char y rfl rfl rfl rfl (tab_get (by decide +kernel) hy) ?_)
    have e : (UInt8.ofNat (blen y)).toNat = blen y := by
      have := blen_le (n := y) (k := 8) (by simpa using hy)
      simp only [UInt8.toNat_ofNat']; omega
    rw [e]
    have h8 := blen_le (n := y) (k := 8) (by simpa using hy)
    refine j_run it 3 rfl (by repeat' first | exact trivial | apply And.intro | omega) ?_
    refine j_nf [.c [1, 1, 1, 1]] rfl ?_
    refine j_giv [] rfl rfl rfl ⟨by rw [← he]; rfl, rfl, rfl⟩
  have mid : ∀ (y c : Nat), y < 65536 → c ≤ 16 → c + blen y = blen x → J F_bits_Len32 C [.c [1, 1]] [(0, .int .u32 y), (2, .int .i64 c)] [] [] (Gives C (Rv (.int .i64 (blen x)) [])) := by
    intro y c hy hc he
    by_cases h : 256 ≤ y
    · refine j_nf [.o [1, 1, 0, 0] 0, .c [1, 1, 0, 1], .c [1, 1, 1]] rfl ?_
      refine j_run it 2 rfl (by simp) ?_
      refine j_nf [.c [1, 1, 0, 1], .c [1, 1, 1]] rfl ?_
      refine j_if rfl rfl (fun h1 => ?_) (fun h1 => by exfalso; omega)
      refine j_nf [.o [1, 1, 0, 1, 0, 0] 0, .c [1, 1, 0, 1, 0, 1], .c [1, 1, 1]] rfl ?_
      refine j_run it 1 rfl (by simp) ?_
      refine j_step rfl (x_shr_nat (y) 8 rfl rfl (by first | rfl | omega) (by first | rfl | omega) (by first | decide | (simp only [IntKind.bits]; omega)) ?_)
      refine j_run it 1 rfl (by simp) ?_
      refine j_nf [.o [1, 1, 0, 1, 0, 1] 0, .c [1, 1, 1]] rfl ?_
      refine j_run it 3 rfl (by repeat' first | exact trivial | apply And.intro | omega) ?_
      refine j_nfn 1 [.c [1, 1, 1]] rfl ?_
      refine j_to [] (by repeat (first | exact Fr.sub_nil _ | refine Fr.sub_cons rfl ?_ | refine Fr.sub_consI rfl (by first | omega | (dsimp only; omega)) ?_ | refine Fr.sub_consS rfl (by first | omega | (dsimp only; omega)) (by first | omega | (dsimp only; omega)) ?_)) rfl rfl (last (y / 2 ^ 8) (c + 8) (by omega) (by omega) (by rw [← he, blen_div 8 y (by omega)]; omega))
    · refine j_nf [.o [1, 1, 0, 0] 0, .c [1, 1, 0, 1], .c [1, 1, 1]] rfl ?_
      refine j_run it 2 rfl (by simp) ?_
      refine j_nf [.c [1, 1, 0, 1], .c [1, 1, 1]] rfl ?_
      refine j_if rfl rfl (fun h1 => by exfalso; omega) (fun h1 => ?_)
      refine j_nfn 1 [.c [1, 1, 1]] rfl ?_
      refine j_to [] (by repeat (first | exact Fr.sub_nil _ | refine Fr.sub_cons rfl ?_ | refine Fr.sub_consI rfl (by first | omega | (dsimp only; omega)) ?_ | refine Fr.sub_consS rfl (by first | omega | (dsimp only; omega)) (by first | omega | (dsimp only; omega)) ?_)) rfl rfl (last y c (by omega) (by omega) he)
  by_cases h : 65536 ≤ x
  · refine j_nf [.o [0] 0, .c [1]] rfl ?_
    refine j_run it 1 rfl (by simp) ?_
    refine j_nf [.o [1, 0, 0] 0, .c [1, 0, 1], .c [1, 1]] rfl ?_
    refine j_run it 2 rfl (by simp) ?_
    refine j_nf [.c [1, 0, 1], .c [1, 1]] rfl ?_
    refine j_if rfl rfl (fun h1 => ?_) (fun h1 => by exfalso; omega)
    refine j_nf [.o [1, 0, 1, 0, 0] 0, .c [1, 0, 1, 0, 1], .c [1, 1]] rfl ?_
    refine j_run it 1 rfl (by simp) ?_
    refine j_step rfl (x_shr_nat (x) 16 rfl rfl (by first | rfl | omega) (by first | rfl | omega) (by first | decide | (simp only [IntKind.bits]; omega)) ?_)
    refine j_run it 1 rfl (by simp) ?_
    refine j_nf [.o [1, 0, 1, 0, 1] 0, .c [1, 1]] rfl ?_
    refine j_run it 1 rfl (by simp) ?_
    refine j_nfn 1 [.c [1, 1]] rfl ?_
    refine j_to [] (by repeat (first | exact Fr.sub_nil _ | refine Fr.sub_cons rfl ?_ | refine Fr.sub_consI rfl (by first | omega | (dsimp only; omega)) ?_ | refine Fr.sub_consS rfl (by first | omega | (dsimp only; omega)) (by first | omega | (dsimp only; omega)) ?_)) rfl rfl (mid (x / 2 ^ 16) 16 (by omega) (by omega) (by rw [blen_div 16 x (by omega)]; omega))
  · refine j_nf [.o [0] 0, .c [1]] rfl ?_
    refine j_run it 1 rfl (by simp) ?_
    refine j_nf [.o [1, 0, 0] 0, .c [1, 0, 1], .c [1, 1]] rfl ?_
    refine j_run it 2 rfl (by simp) ?_
    refine j_nf [.c [1, 0, 1], .c [1, 1]] rfl ?_
    refine j_if rfl rfl (fun h1 => by exfalso; omega) (fun h1 => ?_)
    refine j_nfn 1 [.c [1, 1]] rfl ?_
    refine j_to [] (by repeat (first | exact Fr.sub_nil _ | refine Fr.sub_cons rfl ?_ | refine Fr.sub_consI rfl (by first | omega | (dsimp only; omega)) ?_ | refine Fr.sub_consS rfl (by first | omega | (dsimp only; omega)) (by first | omega | (dsimp only; omega)) ?_)) rfl rfl (mid x 0 (by omega) (by omega) (by omega))

theorem S_nat_Bits {pa : Option Addr} {n ca : Nat} {l : List Nat} : Ctr Try.prog 22 [.slice pa n ca] [] [slF U32 pa n ca l] (Rv (.int .i64 (bitsL l)) []) := by
  refine Ctr_of_j' (F := F_nat_Bits) rfl fun C => ?_
  refine j_len 0 rfl fun hn hb _ => ?_
  subst hn
  have hb' : l.length * 4 ≤ 140737488355328 := hb
  refine j_range 0 rfl fun hr => ?_
  simp only [InR] at hr
  have hl := trim_length_le l
  by_cases h0 : (trim l).length = 0
  · refine j_nf [.o [0] 0, .c [1]] rfl ?_
    refine j_run it 1 rfl (by simp) ?_
    refine j_nf [.o [1, 0] 0, .c [1, 1]] rfl ?_
    refine j_run it 1 rfl (by simp) ?_
    refine j_step rfl (x_call [0] rfl (S_nat_short) rfl ?_)
    rintro _ _ _ ⟨rfl, rfl, rfl⟩
    simp only [List.cons_append, List.nil_append]
    refine j_run it 1 rfl (by simp) ?_
    refine j_nf [.o [1, 1, 0, 0] 0, .c [1, 1, 0, 1], .c [1, 1, 1]] rfl ?_
    refine j_run it 1 rfl (by simp) ?_
    refine j_step rfl (x_len sl35 rfl ?_)
    refine j_run it 1 rfl (by simp) ?_
    refine j_nf [.c [1, 1, 0, 1], .c [1, 1, 1]] rfl ?_
    refine j_if rfl rfl (fun h1 => ?_) (fun h1 => by exfalso; omega)
    refine j_nf [.o [1, 1, 0, 1, 0, 0] 0, .c [1, 1, 0, 1, 0, 1], .c [1, 1, 1]] rfl ?_
    refine j_run it 1 rfl (by simp) ?_
    refine j_nf [.c [1, 1, 0, 1, 0, 1], .c [1, 1, 1]] rfl ?_
    refine j_giv [] rfl rfl rfl ⟨by rw [bitsL_nil h0]; rfl, rfl, rfl⟩
  · have side : ∀ z, (trim l)[(trim l).length - 1]? = some z → z < 4294967296 := fun z hz => by have := hr z (mem_trim (List.mem_of_getElem? hz)); omega
    have side2 : ∀ z, (trim l)[(trim l).length - 1]? = some z → blen z ≤ 32 := fun z hz => blen_le (by have := side z hz; simpa using this)
    refine j_nf [.o [0] 0, .c [1]] rfl ?_
    refine j_run it 1 rfl (by simp) ?_
    refine j_nf [.o [1, 0] 0, .c [1, 1]] rfl ?_
    refine j_run it 1 rfl (by simp) ?_
    refine j_step rfl (x_call [0] rfl (S_nat_short) rfl ?_)
    rintro _ _ _ ⟨rfl, rfl, rfl⟩
    simp only [List.cons_append, List.nil_append]
    refine j_run it 1 rfl (by simp) ?_
    refine j_nf [.o [1, 1, 0, 0] 0, .c [1, 1, 0, 1], .c [1, 1, 1]] rfl ?_
    refine j_run it 1 rfl (by simp) ?_
    refine j_step rfl (x_len sl35 rfl ?_)
    refine j_run it 1 rfl (by simp) ?_
    refine j_nf [.c [1, 1, 0, 1], .c [1, 1, 1]] rfl ?_
    refine j_if rfl rfl (fun h1 => by exfalso; omega) (fun h1 => ?_)
    refine j_nf [.o [1, 1, 1, 0] 0, .c [1, 1, 1, 1]] rfl ?_
    refine j_run it 1 rfl (by simp) ?_
    refine j_step rfl (x_len sl35 rfl ?_)
    refine j_run it 4 rfl (by repeat' first | exact trivial | apply And.intro | omega) ?_
    refine j_step rfl (x_len sl35 rfl ?_)
    refine j_run it 1 rfl (by repeat' first | exact trivial | apply And.intro | omega) ?_
    refine j_step rfl (x_idx 0 (((trim l).length) - 1) rfl rfl rfl sl35 (by omega) (by omega) fun z1 hz1 b1 o1 => ?_)
    refine j_step rfl (x_ld_nat 0 rfl rfl ld52 fun ⟨r1, r2⟩ => ?_)
    refine j_step rfl (x_call [] rfl (S_bits_Len32 (by first | omega | exact side _ (by assumption) | assumption | rfl | (simp; done) | (simp; omega))) rfl ?_)
    rintro _ _ _ ⟨rfl, rfl, rfl⟩
    simp only [List.cons_append, List.nil_append] --ok
    have hs2 := side2 z1 hz1
    refine j_run it 2 rfl (by repeat' first | exact trivial | apply And.intro | omega) ?_
    refine j_nf [.c [1, 1, 1, 1]] rfl ?_
    refine j_giv [] rfl rfl rfl ⟨by
      rw [bitsL_top hz1]
      show Value.int .i64 _ = Value.int .i64 _
      congr 1; omega, rfl, rfl⟩
end Go.Proofs.Ytpoonnjaobjdgaa
