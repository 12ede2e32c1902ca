/-
Contracts of the document's Power.
-/
import Derived.Test.YtonjgeikppiodaaFuns
import Derived.Test.YtonjgeikppiodaaNatMath
import Derived.Test.YtonjgeikppiodaaNatMath2
import Derived.Test.YtonjgeikppiodaaNatMath3
import Derived.Test.YtonjgeikppiodaaNatMath4
import Derived.Test.YtonjgeikppiodaaA1
import Derived.Test.YtonjgeikppiodaaA2
import Derived.Test.YtonjgeikppiodaaA3
import Derived.Test.YtonjgeikppiodaaA4
import Derived.Test.YtonjgeikppiodaaA5
import Derived.Test.YtonjgeikppiodaaA6
import Derived.Test.YtonjgeikppiodaaA7
import Derived.Test.YtonjgeikppiodaaA8
import Derived.Test.YtonjgeikppiodaaB1
import Derived.Test.YtonjgeikppiodaaB2
import Derived.Test.YtonjgeikppiodaaB3
import Derived.Test.YtonjgeikppiodaaB4
import Derived.Test.YtonjgeikppiodaaB5
import Derived.Test.YtonjgeikppiodaaB6
import Derived.Test.YtonjgeikppiodaaB7
import Derived.Test.YtonjgeikppiodaaC1
import Derived.Test.YtonjgeikppiodaaC2
import Derived.Test.YtonjgeikppiodaaC3
namespace Go.Proofs.Ytonjgeikppiodaa
open Go Go.Fw
set_option maxRecDepth 100000
set_option linter.unusedVariables false
set_option maxHeartbeats 400000
theorem S_codewrightref24_Power {pa : Option Addr} {n ca : Nat} {ls : List (List Nat)} {r : Nat} (h20 : ∀ l ∈ ls, l.length ≤ 20) (hn : ls.length ≤ 65) (hr64 : r ≤ 64) :
    Ctr Try.prog 9 [.slice pa n ca, .int .i64 r] [] [slF NatE pa n ca ls] (Sv U32 (limbs (psum ls r ls.length))) := by
  refine Ctr_of_j' (F := F_codewrightref24_Power) rfl fun C => ?_
  refine j_len 0 rfl fun hl _ _ => ?_
  subst hl
  refine rows_range 0 rfl fun hr => ?_
  have hs := psum_limbs hr h20 hr64 hn
  refine j_nf [.o [0] 0, .c [1]] rfl ?_
  refine j_run it 1 rfl (by simp) ?_
  refine j_nf [.o [1, 0] 0, .c [1, 1]] rfl ?_
  refine j_step rfl (x_lit0 sl25 fun b1 => ?_)
  refine j_run it 1 rfl (by simp) ?_
  refine j_nf [.o [1, 1, 0, 0] 0, .c [1, 1, 0, 1], .c [1, 1, 1]] rfl ?_
  refine j_run it 1 rfl (by simp) ?_
  refine j_nf [.c [1, 1, 0, 1, 0], .blk 0, .c [1, 1, 1]] rfl ?_
  refine j_add (slF U32 (some ⟨b1, 0, none⟩) (limbs (psum ls r 0)).length 0 (limbs (psum ls r 0))) (fun w A _ => by rw [show psum ls r 0 = 0 from rfl, limbs_zero]; exact slF_nil _ _ _ _ _) ?_
  refine j_weakB (β' := []) (by simp) ?_
  refine j_loopN (X := Nat × Option Addr × Nat) (fun x => [(0, .slice pa ls.length ca), (1, .int .i64 r), (5, .slice x.2.1 (limbs (psum ls r x.1)).length x.2.2), (6, .int .i64 x.1)])
    (fun _ => []) (fun x => [slF U32 x.2.1 (limbs (psum ls r x.1)).length x.2.2 (limbs (psum ls r x.1)), slF NatE pa ls.length ca ls])
    (fun x => x.1 ≤ ls.length) (fun x => ls.length - x.1) (0, some ⟨b1, 0, none⟩, 0) [0, 1] rfl (Nat.zero_le _) (by
      rw [show (limbs (psum ls r (0, (some ⟨b1, 0, none⟩ : Option Addr), 0).1)).length = 0 by rw [show psum ls r 0 = 0 from rfl, limbs_zero]; rfl]
      repeat (first | exact Fr.sub_nil _ | refine Fr.sub_cons rfl ?_)) rfl rfl ?_
  rintro ⟨k, ps, cs⟩ hk ih
  simp only at hk ih ⊢
  have hsk := hs k hk
  by_cases hkl : k < ls.length
  · have hvk : val (limbs k) < 4294967296 := by rw [val_limbs]; omega
    have hp := pow_len hvk hr64
    have side : ∀ z, ls[k]? = some z → z.length ≤ 1099511627776 := fun z hz => by have := h20 z (List.mem_of_getElem? hz); omega
    refine j_nf [.o [1, 1, 0, 1, 0, 0, 0, 0] 0, .c [1, 1, 0, 1, 0, 0, 0, 1], .c [1, 1, 0, 1, 0, 0, 1], .lp [1, 1, 0, 1, 0, 0], .blk 0, .c [1, 1, 1]] rfl ?_
    refine j_run it 2 rfl (by simp) ?_
    refine j_step rfl (x_len sl22 rfl ?_)
    refine j_run it 1 rfl (by simp) ?_
    refine j_nf [.c [1, 1, 0, 1, 0, 0, 0, 1], .c [1, 1, 0, 1, 0, 0, 1], .lp [1, 1, 0, 1, 0, 0], .blk 0, .c [1, 1, 1]] rfl ?_
    refine j_if rfl rfl (fun h1 => ?_) (fun h1 => by exfalso; omega)
    refine j_nf [.o [1, 1, 0, 1, 0, 0, 1, 0, 0, 0] 0, .c [1, 1, 0, 1, 0, 0, 1, 0, 0, 1], .blk 1, .c [1, 1, 0, 1, 0, 0, 1, 1], .lp [1, 1, 0, 1, 0, 0], .blk 0, .c [1, 1, 1]] rfl ?_
    refine j_run it 2 rfl (by repeat' first | exact trivial | apply And.intro | omega) ?_
    refine j_step rfl (x_call [] rfl (S_codewrightref01_Of (by first | omega | exact side _ (by assumption) | assumption | (simp; done) | (simp; omega))) rfl ?_)
    rintro _ _ _ ⟨pa1, ca1, rfl, rfl, rfl⟩
    simp only [List.cons_append, List.nil_append]
    refine j_run it 1 rfl (by simp) ?_
    refine j_step rfl (x_call [0] rfl (S_codewrightref01_Pow (by first | omega | exact side _ (by assumption) | assumption | (simp; done) | (simp; omega)) (by first | omega | exact side _ (by assumption) | assumption | (simp; done) | (simp; omega))) rfl ?_)
    rintro _ _ _ ⟨pa2, ca2, rfl, rfl, rfl⟩
    simp only [List.cons_append, List.nil_append]
    refine j_run it 5 rfl (by simp) ?_
    refine j_nf [.o [1, 1, 0, 1, 0, 0, 1, 0, 0, 1] 0, .blk 1, .c [1, 1, 0, 1, 0, 0, 1, 1], .lp [1, 1, 0, 1, 0, 0], .blk 0, .c [1, 1, 1]] rfl ?_
    refine j_run it 4 rfl (by simp) ?_
    refine j_step rfl (x_idx 3 (k) rfl rfl rfl sl22 rfl (by omega) fun z1 hz1 b2 o1 => ?_)
    refine j_step rfl (x_ld_sl 0 rfl rfl ld25 fun pa3 ca3 => ?_)
    refine j_step rfl (x_call [2, 0] rfl (S_codewrightref01_Mul (by first | omega | exact side _ (by assumption) | assumption | (simp; done) | (simp; omega)) (by first | omega | exact side _ (by assumption) | assumption | (simp; done) | (simp; omega))) rfl ?_)
    rintro _ _ _ ⟨pa4, ca4, rfl, rfl, rfl⟩
    simp only [List.cons_append, List.nil_append] --ok
    have hg : ls.getD k default = z1 := by rw [List.getD, hz1]; rfl
    have hps : psum ls r (k + 1) = psum ls r k + k ^ r * val z1 := by rw [psum, hg]
    have hpl : (limbs (k ^ r * val z1)).length ≤ 85 := limbs_mono (hs (k + 1) (by omega)) (by rw [hps]; exact Nat.le_add_left _ _)
    simp only [val_limbs]
    refine j_step rfl (x_call [5, 0] rfl (S_codewrightref01_Add (by first | omega | exact side _ (by assumption) | assumption | (simp; done) | (simp; omega)) (by first | omega | exact side _ (by assumption) | assumption | (simp; done) | (simp; omega))) rfl ?_)
    rintro _ _ _ ⟨pa5, ca5, rfl, rfl, rfl⟩
    simp only [List.cons_append, List.nil_append]
    refine j_run it 1 rfl (by simp) ?_
    refine j_nf [.o [1, 1, 0, 1, 0, 0, 1, 1] 0, .lp [1, 1, 0, 1, 0, 0], .blk 0, .c [1, 1, 1]] rfl ?_
    refine j_run it 3 rfl (by repeat' first | exact trivial | apply And.intro | omega) ?_
    refine j_nfn 1 [.lp [1, 1, 0, 1, 0, 0], .blk 0, .c [1, 1, 1]] rfl ?_
    simp only [val_limbs, ← hps]
    refine j_to [0, 7] (by repeat (first | exact Fr.sub_nil _ | refine Fr.sub_cons rfl ?_ | refine Fr.sub_consI rfl (by omega) ?_ | refine Fr.sub_consS rfl (by omega) (by omega) ?_)) rfl rfl (ih (k + 1, pa5, ca5) (by simp only; omega) (by simp only; omega))
  · refine j_nf [.o [1, 1, 0, 1, 0, 0, 0, 0] 0, .c [1, 1, 0, 1, 0, 0, 0, 1], .c [1, 1, 0, 1, 0, 0, 1], .lp [1, 1, 0, 1, 0, 0], .blk 0, .c [1, 1, 1]] rfl ?_
    refine j_run it 2 rfl (by simp) ?_
    refine j_step rfl (x_len sl22 rfl ?_)
    refine j_run it 1 rfl (by simp) ?_
    refine j_nf [.c [1, 1, 0, 1, 0, 0, 0, 1], .c [1, 1, 0, 1, 0, 0, 1], .lp [1, 1, 0, 1, 0, 0], .blk 0, .c [1, 1, 1]] rfl ?_
    refine j_if rfl rfl (fun h1 => by exfalso; omega) (fun h1 => ?_)
    refine j_nf [.o [1, 1, 1, 0] 0, .c [1, 1, 1, 1]] rfl ?_
    refine j_run it 2 rfl (by simp) ?_
    refine j_nf [.c [1, 1, 1, 1]] rfl ?_
    have e : k = ls.length := by omega
    rw [e]
    refine j_giv [0] rfl rfl rfl ⟨_, _, rfl, rfl, rfl⟩
end Go.Proofs.Ytonjgeikppiodaa
