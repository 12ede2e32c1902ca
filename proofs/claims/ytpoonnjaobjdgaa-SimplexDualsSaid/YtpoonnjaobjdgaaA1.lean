/-
Contracts of nat.short.
-/
import Derived.Test.YtpoonnjaobjdgaaFuns
import Derived.Test.YtpoonnjaobjdgaaNatMath
namespace Go.Proofs.Ytpoonnjaobjdgaa
open Go Go.Fw
set_option maxRecDepth 100000
set_option linter.unusedVariables false
theorem S_nat_short {pa : Option Addr} {n ca : Nat} {l : List Nat} : Ctr Try.prog 30 [.slice pa n ca] [] [slF U32 pa n ca l]
    (fun v Φ β => v = .slice pa (trim l).length (trim l).length ∧ Φ = [slF U32 pa (trim l).length (trim l).length (trim l)] ∧ β = []) := by
  refine Ctr_of_j' (F := F_nat_short) rfl fun C => ?_
  refine j_len 0 rfl fun hn hb hc => ?_
  subst hn
  have hb' : l.length * 4 ≤ 140737488355328 := hb
  refine j_nf [.o [0] 0, .c [1]] rfl ?_
  refine j_run it 1 rfl (by simp) ?_
  refine j_nf [.o [1, 0] 0, .c [1, 1]] rfl ?_
  refine j_run it 1 rfl (by simp) ?_
  refine j_step rfl (x_len sl35 rfl ?_)
  refine j_run it 1 rfl (by simp) ?_
  refine j_nf [.c [1, 1, 0, 0], .blk 0, .c [1, 1, 1]] rfl ?_
  refine j_loopN (X := Nat) (fun k => [(0, .slice pa l.length ca), (3, .int .i64 k)]) (fun _ => []) (fun _ => [slF U32 pa l.length ca l]) (fun k => k ≤ l.length ∧ trim (l.take k) = trim l) (fun k => k) l.length [0] rfl ⟨Nat.le_refl _, by rw [List.take_length]⟩ (by repeat (first | exact Fr.sub_nil _ | refine Fr.sub_cons rfl ?_)) rfl rfl ?_
  intro k ⟨hk, ht⟩ ih
  -- the end, once
  have done : trim (l.take k) = l.take k → J F_nat_short C [.c [1, 1, 1]] [(0, .slice pa l.length ca), (3, .int .i64 k)] [] [slF U32 pa l.length ca l]
      (Gives C fun v Φ β => v = .slice pa (trim l).length (trim l).length ∧ Φ = [slF U32 pa (trim l).length (trim l).length (trim l)] ∧ β = []) := by
    intro he
    have e : trim l = l.take k := by rw [← ht, he]
    have e2 : (trim l).length = k := by rw [e, List.length_take]; omega
    refine j_nf [.o [1, 1, 1, 0] 0, .c [1, 1, 1, 1]] rfl ?_
    refine j_run it 3 rfl (by simp) ?_
    refine j_step rfl (x_slice_hm 0 (k) (k) rfl rfl rfl rfl sl35 (by omega) (by omega) (by omega) (by omega) (by omega) ?_)
    refine j_run it 1 rfl (by simp) ?_
    refine j_nf [.c [1, 1, 1, 1]] rfl ?_
    refine j_gives [0] rfl rfl rfl ⟨?_, ?_, rfl⟩
    · rw [e2]; rfl
    · rw [e2, e]
  refine j_nf [.o [1, 1, 0, 0, 0, 0, 0] 0, .c [1, 1, 0, 0, 0, 0, 1], .c [1, 1, 0, 0, 0, 1], .lp [1, 1, 0, 0, 0], .blk 0, .c [1, 1, 1]] rfl ?_
  refine j_run it 3 rfl (by simp) ?_
  refine j_split_dec (t := 8) rfl (fun h1 => ?_) (fun h1 => ?_)
  · refine j_run it 3 rfl (by repeat' first | exact trivial | apply And.intro | omega) ?_
    refine j_gstep rfl rfl (x_idx 0 ((k) - 1) rfl rfl rfl sl35 (by omega) (by omega) fun z1 hz1 b1 o1 => ?_)
    refine j_gstep rfl rfl (x_ld_nat 0 rfl rfl ld52 fun ⟨r1, r2⟩ => ?_)
    refine j_run it 2 rfl (by simp) ?_
    refine j_nf [.c [1, 1, 0, 0, 0, 0, 1], .c [1, 1, 0, 0, 0, 1], .lp [1, 1, 0, 0, 0], .blk 0, .c [1, 1, 1]] rfl ?_
    refine j_if rfl rfl (fun h2 => ?_) (fun h2 => ?_)
    · have hz : z1 = 0 := by omega
      subst hz
      refine j_nf [.o [1, 1, 0, 0, 0, 1, 0] 0, .blk 1, .lp [1, 1, 0, 0, 0], .blk 0, .c [1, 1, 1]] rfl ?_
      refine j_run it 3 rfl (by repeat' first | exact trivial | apply And.intro | omega) ?_
      refine j_nfn 2 [.lp [1, 1, 0, 0, 0], .blk 0, .c [1, 1, 1]] rfl ?_
      refine j_to [1] (by repeat (first | exact Fr.sub_nil _ | refine Fr.sub_cons rfl ?_ | refine Fr.sub_consI rfl (by first | omega | (dsimp only; omega)) ?_ | refine Fr.sub_consS rfl (by first | omega | (dsimp only; omega)) (by first | omega | (dsimp only; omega)) ?_)) rfl rfl (ih (k - 1) (by omega) ⟨by omega, by rw [← trim_take_zero hz1]; rw [show k - 1 + 1 = k by omega]; exact ht⟩)
    · refine j_nfn 1 [.c [1, 1, 1]] rfl ?_
      refine j_to [1] (by repeat (first | exact Fr.sub_nil _ | refine Fr.sub_cons rfl ?_ | refine Fr.sub_consI rfl (by first | omega | (dsimp only; omega)) ?_ | refine Fr.sub_consS rfl (by first | omega | (dsimp only; omega)) (by first | omega | (dsimp only; omega)) ?_)) rfl rfl (done (by have := trim_take_ne hz1 (by omega); rwa [show k - 1 + 1 = k by omega] at this))
  · refine j_run it 7 rfl (by simp) ?_
    refine j_nf [.c [1, 1, 0, 0, 0, 0, 1], .c [1, 1, 0, 0, 0, 1], .lp [1, 1, 0, 0, 0], .blk 0, .c [1, 1, 1]] rfl ?_
    refine j_false rfl rfl ?_
    refine j_nfn 1 [.c [1, 1, 1]] rfl ?_
    refine j_to [0] (by repeat (first | exact Fr.sub_nil _ | refine Fr.sub_cons rfl ?_ | refine Fr.sub_consI rfl (by first | omega | (dsimp only; omega)) ?_ | refine Fr.sub_consS rfl (by first | omega | (dsimp only; omega)) (by first | omega | (dsimp only; omega)) ?_)) rfl rfl (done (by rw [show k = 0 by omega]; rfl))
end Go.Proofs.Ytpoonnjaobjdgaa
