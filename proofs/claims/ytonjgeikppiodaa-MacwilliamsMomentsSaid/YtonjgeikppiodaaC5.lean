/-
Contracts of the document's Moment.
-/
import Derived.Test.YtonjgeikppiodaaFuns
import Derived.Test.YtonjgeikppiodaaNatMath
import Derived.Test.YtonjgeikppiodaaNatMath2
import Derived.Test.YtonjgeikppiodaaNatMath3
import Derived.Test.YtonjgeikppiodaaNatMath4
import Derived.Test.YtonjgeikppiodaaA1
import Derived.Test.YtonjgeikppiodaaA2
import Derived.Test.YtonjgeikppiodaaA3
import Derived.Test.YtonjgeikppiodaaA4
import Derived.Test.YtonjgeikppiodaaA5
import Derived.Test.YtonjgeikppiodaaA6
import Derived.Test.YtonjgeikppiodaaA7
import Derived.Test.YtonjgeikppiodaaA8
import Derived.Test.YtonjgeikppiodaaB1
import Derived.Test.YtonjgeikppiodaaB2
import Derived.Test.YtonjgeikppiodaaB3
import Derived.Test.YtonjgeikppiodaaB4
import Derived.Test.YtonjgeikppiodaaB5
import Derived.Test.YtonjgeikppiodaaB6
import Derived.Test.YtonjgeikppiodaaB7
import Derived.Test.YtonjgeikppiodaaC1
import Derived.Test.YtonjgeikppiodaaC2
import Derived.Test.YtonjgeikppiodaaC3
namespace Go.Proofs.Ytonjgeikppiodaa
open Go Go.Fw
set_option maxRecDepth 100000
set_option linter.unusedVariables false
set_option maxHeartbeats 400000
theorem S_codewrightref24_Moment {pa : Option Addr} {n ca : Nat} {ls : List (List Nat)} {v : Nat} (h20 : ∀ l ∈ ls, l.length ≤ 20) (hn : ls.length ≤ 65) :
    Ctr Try.prog 10 [.slice pa n ca, .int .i64 v] [] [slF NatE pa n ca ls] (Sv U32 (limbs (msum ls v ls.length))) := by
  refine Ctr_of_j' (F := F_codewrightref24_Moment) rfl fun C => ?_
  refine j_len 0 rfl fun hl _ _ => ?_
  subst hl
  refine rows_range 0 rfl fun hr => ?_
  have hs := msum_limbs (v := v) hr h20 hn
  refine j_nf [.o [0] 0, .c [1]] rfl ?_
  refine j_run it 1 rfl (by simp) ?_
  refine j_nf [.o [1, 0] 0, .c [1, 1]] rfl ?_
  refine j_step rfl (x_lit0 sl25 fun b1 => ?_)
  refine j_run it 1 rfl (by simp) ?_
  refine j_nf [.o [1, 1, 0, 0] 0, .c [1, 1, 0, 1], .c [1, 1, 1]] rfl ?_
  refine j_run it 1 rfl (by simp) ?_
  refine j_nf [.c [1, 1, 0, 1, 0], .blk 0, .c [1, 1, 1]] rfl ?_
  refine j_add (slF U32 (some ⟨b1, 0, none⟩) (limbs (msum ls v 0)).length 0 (limbs (msum ls v 0))) (fun w A _ => by rw [show msum ls v 0 = 0 from rfl, limbs_zero]; exact slF_nil _ _ _ _ _) ?_
  refine j_weakB (β' := []) (by simp) ?_
  refine j_loopN (X := Nat × Option Addr × Nat) (fun x => [(0, .slice pa ls.length ca), (1, .int .i64 v), (5, .slice x.2.1 (limbs (msum ls v x.1)).length x.2.2), (6, .int .i64 x.1)])
    (fun _ => []) (fun x => [slF U32 x.2.1 (limbs (msum ls v x.1)).length x.2.2 (limbs (msum ls v x.1)), slF NatE pa ls.length ca ls])
    (fun x => x.1 ≤ ls.length) (fun x => ls.length - x.1) (0, some ⟨b1, 0, none⟩, 0) [0, 1] rfl (Nat.zero_le _) (by
      rw [show (limbs (msum ls v (0, (some ⟨b1, 0, none⟩ : Option Addr), 0).1)).length = 0 by rw [show msum ls v 0 = 0 from rfl, limbs_zero]; rfl]
      repeat (first | exact Fr.sub_nil _ | refine Fr.sub_cons rfl ?_)) rfl rfl ?_
  rintro ⟨k, ps, cs⟩ hk ih
  simp only at hk ih ⊢
  have hsk := hs k hk
  by_cases hkl : k < ls.length
  · have hp := binom_len (show ls.length - 1 - k ≤ 4096 by omega) v
    obtain ⟨z1, hz1⟩ : ∃ z, ls[k]? = some z := ⟨_, List.getElem?_eq_getElem hkl⟩
    have hg : ls.getD k default = z1 := by rw [List.getD, hz1]; rfl
    have hgl : (ls.getD k default).length ≤ 20 := by rw [hg]; exact h20 z1 (List.mem_of_getElem? hz1)
    have hps : msum ls v (k + 1) = msum ls v k + binom (ls.length - 1 - k) v * val (ls.getD k default) := rfl
    have hpl : (limbs (binom (ls.length - 1 - k) v * val (ls.getD k default))).length ≤ 85 := limbs_mono (hs (k + 1) (by omega)) (by rw [hps]; exact Nat.le_add_left _ _)
    refine j_nf [.o [1, 1, 0, 1, 0, 0, 0, 0] 0, .c [1, 1, 0, 1, 0, 0, 0, 1], .c [1, 1, 0, 1, 0, 0, 1], .lp [1, 1, 0, 1, 0, 0], .blk 0, .c [1, 1, 1]] rfl ?_
    refine j_run it 2 rfl (by simp) ?_
    refine j_step rfl (x_len sl22 rfl ?_)
    refine j_run it 1 rfl (by simp) ?_
    refine j_nf [.c [1, 1, 0, 1, 0, 0, 0, 1], .c [1, 1, 0, 1, 0, 0, 1], .lp [1, 1, 0, 1, 0, 0], .blk 0, .c [1, 1, 1]] rfl ?_
    refine j_if rfl rfl (fun h1 => ?_) (fun h1 => by exfalso; omega)
    refine j_nf [.c [1, 1, 0, 1, 0, 0, 1, 0, 0], .blk 1, .c [1, 1, 0, 1, 0, 0, 1, 1], .lp [1, 1, 0, 1, 0, 0], .blk 0, .c [1, 1, 1]] rfl ?_
    (apply j_drawK it mx 14; (· rfl); (· rfl))
    (apply lxk_run 2; (· rfl); (· simp))
    (apply lxk_eq; (· rfl); (· exact d_x fun _ => x_len sl22 rfl dk_eq))
    (apply lxk_run 4; (· rfl); (· exact (by repeat' first | exact trivial | apply And.intro | omega))) --ok
    rw [show ((ls.length : Int) - 1 - k) = ((ls.length - 1 - k : Nat) : Int) by omega]
    (apply lxk_sl; (· rfl); (· exact d_x fun _ => x_call [] rfl (S_codewrightref01_Choose (by first | omega | exact side _ (by assumption) | assumption | (simp; done) | (simp; omega))) rfl (by rintro _ _ _ ⟨pa1, ca1, rfl, rfl, rfl⟩; exact (dk_sl 0 rfl))); intro pa1 ca1)
    (apply lxk_run 2; (· rfl); (· simp))
    (apply lxk_pt; (· rfl); (· exact d_x fun _ => x_idx 1 (k) rfl rfl rfl sl22 rfl (by omega) fun z2 hz2 b2 o1 => (dk_ptD default hz2 0 rfl)); intro b2 o1)
    (apply lxk_sl; (· rfl); (· exact d_x fun _ => x_ld_sl 0 rfl rfl ld25 fun pa2 ca2 => (dk_sl 0 rfl)); intro pa2 ca2)
    (apply lxk_sl; (· rfl); (· exact d_x fun _ => x_call [2, 0] rfl (S_codewrightref01_Mul (by first | omega | exact side _ (by assumption) | assumption | (simp; done) | (simp; omega)) (by first | omega | exact side _ (by assumption) | assumption | (simp; done) | (simp; omega))) rfl (by rintro _ _ _ ⟨pa3, ca3, rfl, rfl, rfl⟩; exact (dk_sl 0 rfl))); intro pa3 ca3) --ok
    simp only [val_limbs]
    (apply lxk_sl; (· rfl); (· exact d_x fun _ => x_call [4, 0] rfl (S_codewrightref01_Add (by first | omega | exact side _ (by assumption) | assumption | (simp; done) | (simp; omega)) (by first | omega | exact side _ (by assumption) | assumption | (simp; done) | (simp; omega))) rfl (by rintro _ _ _ ⟨pa4, ca4, rfl, rfl, rfl⟩; exact (dk_sl 0 rfl))); intro pa4 ca4)
    refine lxk_end rfl ?_
    simp only [List.map_cons, List.map_nil, List.cons_append, List.nil_append]
    refine j_run it 1 rfl (by simp) ?_
    refine j_nf [.o [1, 1, 0, 1, 0, 0, 1, 1] 0, .lp [1, 1, 0, 1, 0, 0], .blk 0, .c [1, 1, 1]] rfl ?_
    refine j_run it 3 rfl (by repeat' first | exact trivial | apply And.intro | omega) ?_
    refine j_nfn 1 [.lp [1, 1, 0, 1, 0, 0], .blk 0, .c [1, 1, 1]] rfl ?_
    simp only [val_limbs, ← hps]
    refine j_to [0, 6] (by repeat (first | exact Fr.sub_nil _ | refine Fr.sub_cons rfl ?_ | refine Fr.sub_consI rfl (by omega) ?_ | refine Fr.sub_consS rfl (by omega) (by omega) ?_)) rfl rfl (ih (k + 1, pa4, ca4) (by simp only; omega) (by simp only; omega))
  · refine j_nf [.o [1, 1, 0, 1, 0, 0, 0, 0] 0, .c [1, 1, 0, 1, 0, 0, 0, 1], .c [1, 1, 0, 1, 0, 0, 1], .lp [1, 1, 0, 1, 0, 0], .blk 0, .c [1, 1, 1]] rfl ?_
    refine j_run it 2 rfl (by simp) ?_
    refine j_step rfl (x_len sl22 rfl ?_)
    refine j_run it 1 rfl (by simp) ?_
    refine j_nf [.c [1, 1, 0, 1, 0, 0, 0, 1], .c [1, 1, 0, 1, 0, 0, 1], .lp [1, 1, 0, 1, 0, 0], .blk 0, .c [1, 1, 1]] rfl ?_
    refine j_if rfl rfl (fun h1 => by exfalso; omega) (fun h1 => ?_)
    refine j_nf [.o [1, 1, 1, 0] 0, .c [1, 1, 1, 1]] rfl ?_
    refine j_run it 2 rfl (by simp) ?_
    refine j_nf [.c [1, 1, 1, 1]] rfl ?_
    have e : k = ls.length := by omega
    rw [e]
    refine j_giv [0] rfl rfl rfl ⟨_, _, rfl, rfl, rfl⟩
end Go.Proofs.Ytonjgeikppiodaa
