/-
The contract of nat.step, first part: what is done when the guess was too great by one.
-/
import Derived.Test.YtpoonnjaobjdgaaFuns
import Derived.Test.YtpoonnjaobjdgaaNatMath
import Derived.Test.YtpoonnjaobjdgaaNatMath2
import Derived.Test.YtpoonnjaobjdgaaNatMath3
import Derived.Test.YtpoonnjaobjdgaaNatMath5
import Derived.Test.YtpoonnjaobjdgaaNatMath6
import Derived.Test.YtpoonnjaobjdgaaA1
namespace Go.Proofs.Ytpoonnjaobjdgaa
open Go Go.Fw
set_option maxRecDepth 100000
set_option linter.unusedVariables false
set_option maxHeartbeats 2000000
/-- What nat.step leaves. -/
abbrev StepQ (b k U V : Nat) (pre post : List Nat) : Value → List Fact → List Blk → Prop := fun w Φ β => w = .int .u32 (U / V : Nat) ∧ Φ = [] ∧ ∃ u', u'.length = k + 3 ∧ (∀ x ∈ u', x < 4294967296) ∧ val u' = U % V ∧ β = [(some b, 52, natCells .u32 (pre ++ u' ++ post))]

theorem step_back {C : Cx} {b o cap cb k q U V P R uk cc : Nat} {pb : Option Addr} {pre w0 post v : List Nat} (hpre : pre.length = o) (hl0 : w0.length = k + 3) (hvl : v.length = k + 2) (hcap : k + 3 ≤ cap) (hsz : v.length ≤ 1099511627776)
    (hs0 : ∀ x ∈ w0, x < 4294967296) (hv : ∀ x ∈ v, x < 4294967296) (hP : 4294967296 ^ v.length = P) (hV : val v = V) (hV0 : 0 < V) (hVP : V ≤ P) (hR : val (w0.take v.length) = R) (hmod : R + V + P * uk = U % V + P * cc) (huk : uk < cc) (hcc : cc ≤ 4294967296)
    (hg0 : w0[v.length]? = some (uk + 4294967296 - cc)) (hq : q = U / V + 1) (hqB : q < 4294967296) :
    J F_nat_step C [.c [1, 1, 1, 1, 1, 1, 1, 1, 1, 1, 1]] [(0, .slice (some ⟨b, o, none⟩) (k + 3) cap), (1, .slice pb v.length cb), (4, .int .u32 0), (5, .int .i64 v.length), (7, .int .u64 q)]
      [(some b, 52, natCells .u32 (pre ++ w0 ++ post))] [slF U32 pb v.length cb v] (Gives C (StepQ b k U V pre post)) := by
  refine j_nf [.o [1, 1, 1, 1, 1, 1, 1, 1, 1, 1, 1, 0] 0, .c [1, 1, 1, 1, 1, 1, 1, 1, 1, 1, 1, 1]] rfl ?_
  refine j_run it 1 rfl (by simp) ?_
  refine j_nf [.o [1, 1, 1, 1, 1, 1, 1, 1, 1, 1, 1, 1, 0, 0] 0, .c [1, 1, 1, 1, 1, 1, 1, 1, 1, 1, 1, 1, 0, 1], .c [1, 1, 1, 1, 1, 1, 1, 1, 1, 1, 1, 1, 1]] rfl ?_
  refine j_run it 1 rfl (by simp) ?_
  refine j_step rfl (x_len sl35 rfl ?_)
  refine j_run it 1 rfl (by simp) ?_
  refine j_nf [.c [1, 1, 1, 1, 1, 1, 1, 1, 1, 1, 1, 1, 0, 1, 0], .blk 4, .c [1, 1, 1, 1, 1, 1, 1, 1, 1, 1, 1, 1, 1]] rfl ?_
  refine j_loopG (X := Nat × Nat × List Nat) [0, 1, 4, 5, 7, 139] [0] (fun x => [(10, .int .u64 x.2.1), (140, .int .i64 x.1)]) (fun x => [(some b, 52, natCells .u32 (pre ++ x.2.2 ++ post))]) (fun _ => [])
    (fun x => x.1 ≤ v.length ∧ x.2.2.length = k + 3 ∧ x.2.1 ≤ 1 ∧ (∀ z ∈ x.2.2, z < 4294967296) ∧ val (x.2.2.take x.1) + 4294967296 ^ x.1 * x.2.1 = val (w0.take x.1) + val (v.take x.1) ∧ x.2.2.drop x.1 = w0.drop x.1)
    (fun x => v.length - x.1) (0, 0, w0) [] rfl rfl rfl ⟨Nat.zero_le _, hl0, Nat.zero_le _, hs0, by simp [val], rfl⟩ (by repeat (first | exact Fr.sub_nil _ | refine Fr.sub_cons rfl ?_)) rfl rfl ?_
  rintro ⟨i, cy, w⟩ ⟨hi2, hl2, hc2, hw2, he2, hd2⟩ ih2
  simp only [List.cons_append, List.nil_append] at hi2 hl2 hc2 hw2 he2 hd2 ih2 ⊢
  have hdi2 : ∀ j, i ≤ j → w[j]? = w0[j]? := fun j hj => by
    have h := congrArg (fun l : List Nat => l[j - i]?) hd2
    simp only [List.getElem?_drop] at h
    rwa [show i + (j - i) = j by omega] at h
  by_cases hil2 : i < v.length
  · obtain ⟨y, hy⟩ : ∃ y, w[i]? = some y := ⟨w[i], by simp⟩
    have hyl := hw2 _ (List.mem_of_getElem? hy)
    have hx := get_some (l := v) (i := i) (dflt := default) hil2
    have hxl := hv _ (List.mem_of_getElem? hx)
    refine j_nf [.o [1, 1, 1, 1, 1, 1, 1, 1, 1, 1, 1, 1, 0, 1, 0, 0, 0] 0, .c [1, 1, 1, 1, 1, 1, 1, 1, 1, 1, 1, 1, 0, 1, 0, 0, 1], .lp [1, 1, 1, 1, 1, 1, 1, 1, 1, 1, 1, 1, 0, 1, 0, 0], .blk 4, .c [1, 1, 1, 1, 1, 1, 1, 1, 1, 1, 1, 1, 1]] rfl ?_
    refine j_run it 1 rfl (by simp) ?_
    refine j_nf [.c [1, 1, 1, 1, 1, 1, 1, 1, 1, 1, 1, 1, 0, 1, 0, 0, 1, 0], .c [1, 1, 1, 1, 1, 1, 1, 1, 1, 1, 1, 1, 0, 1, 0, 0, 1, 1], .lp [1, 1, 1, 1, 1, 1, 1, 1, 1, 1, 1, 1, 0, 1, 0, 0], .blk 4, .c [1, 1, 1, 1, 1, 1, 1, 1, 1, 1, 1, 1, 1]] rfl ?_
    refine j_if rfl rfl (fun h1 => ?_) (fun h1 => by exfalso; omega)
    refine j_nf [.o [1, 1, 1, 1, 1, 1, 1, 1, 1, 1, 1, 1, 0, 1, 0, 0, 1, 1, 0, 0, 0] 0, .c [1, 1, 1, 1, 1, 1, 1, 1, 1, 1, 1, 1, 0, 1, 0, 0, 1, 1, 0, 0, 1], .blk 5, .c [1, 1, 1, 1, 1, 1, 1, 1, 1, 1, 1, 1, 0, 1, 0, 0, 1, 1, 1], .lp [1, 1, 1, 1, 1, 1, 1, 1, 1, 1, 1, 1, 0, 1, 0, 0], .blk 4, .c [1, 1, 1, 1, 1, 1, 1, 1, 1, 1, 1, 1, 1]] rfl ?_
    refine j_run it 2 rfl (by simp) ?_
    refine j_nf [.c [1, 1, 1, 1, 1, 1, 1, 1, 1, 1, 1, 1, 0, 1, 0, 0, 1, 1, 0, 0, 1, 0], .c [1, 1, 1, 1, 1, 1, 1, 1, 1, 1, 1, 1, 0, 1, 0, 0, 1, 1, 0, 0, 1, 1], .blk 5, .c [1, 1, 1, 1, 1, 1, 1, 1, 1, 1, 1, 1, 0, 1, 0, 0, 1, 1, 1], .lp [1, 1, 1, 1, 1, 1, 1, 1, 1, 1, 1, 1, 0, 1, 0, 0], .blk 4, .c [1, 1, 1, 1, 1, 1, 1, 1, 1, 1, 1, 1, 1]] rfl ?_
    (apply j_drawK it mx 13; (· rfl); (· rfl))
    (apply lxk_run 2; (· rfl); (· simp))
    (apply lxk_eq; (· rfl); (· exact d_x fun _ => x_idx_ownO (i) _ rfl rfl sl35 rfl (by omega) rfl dk_eq))
    (apply lxk_eq; (· rfl); (· exact d_bld_mid 0 (i) rfl rfl ld52 (by omega) (by assumption)))
    (apply lxk_run 3; (· rfl); (· exact (by repeat' first | exact trivial | apply And.intro | omega)))
    (apply lxk_pt; (· rfl); (· exact d_x fun _ => x_idx 0 (i) rfl rfl rfl sl35 rfl (by omega) fun z1 hz1 b1 o1 => (dk_ptD default hz1 0 rfl)); intro b1 o1)
    (apply lxk_eq; (· rfl); (· exact d_x fun _ => x_ld_nat 0 rfl rfl ld52 fun ⟨r1, r2⟩ => dk_eq))
    (apply lxk_run 4; (· rfl); (· exact (by repeat' first | exact trivial | apply And.intro | omega)))
    refine lxk_end rfl ?_
    simp only [List.map_cons, List.map_nil, List.cons_append, List.nil_append]
    refine j_run it 1 rfl (by simp) ?_
    refine j_nf [.o [1, 1, 1, 1, 1, 1, 1, 1, 1, 1, 1, 1, 0, 1, 0, 0, 1, 1, 0, 0, 1, 1, 0] 0, .c [1, 1, 1, 1, 1, 1, 1, 1, 1, 1, 1, 1, 0, 1, 0, 0, 1, 1, 0, 0, 1, 1, 1], .blk 5, .c [1, 1, 1, 1, 1, 1, 1, 1, 1, 1, 1, 1, 0, 1, 0, 0, 1, 1, 1], .lp [1, 1, 1, 1, 1, 1, 1, 1, 1, 1, 1, 1, 0, 1, 0, 0], .blk 4, .c [1, 1, 1, 1, 1, 1, 1, 1, 1, 1, 1, 1, 1]] rfl ?_
    refine j_run it 3 rfl (by simp) ?_
    refine j_step rfl (x_conv_u32 it rfl rfl rfl ?_)
    refine j_step rfl (x_idx_ownO (i) _ rfl rfl sl35 rfl (by omega) rfl ?_)
    refine j_step rfl (x_bst_mid 0 (i) ((((y) + (v.getD i default)) + (cy)) % 4294967296) rfl rfl rfl ld52 (by first | rfl | omega) (by omega) (by first | omega | (simp; omega)) ?_)
    refine j_nf [.o [1, 1, 1, 1, 1, 1, 1, 1, 1, 1, 1, 1, 0, 1, 0, 0, 1, 1, 0, 0, 1, 1, 1] 0, .blk 5, .c [1, 1, 1, 1, 1, 1, 1, 1, 1, 1, 1, 1, 0, 1, 0, 0, 1, 1, 1], .lp [1, 1, 1, 1, 1, 1, 1, 1, 1, 1, 1, 1, 0, 1, 0, 0], .blk 4, .c [1, 1, 1, 1, 1, 1, 1, 1, 1, 1, 1, 1, 1]] rfl ?_
    refine j_run it 3 rfl (by simp) ?_
    refine j_nf [.o [1, 1, 1, 1, 1, 1, 1, 1, 1, 1, 1, 1, 0, 1, 0, 0, 1, 1, 1] 0, .lp [1, 1, 1, 1, 1, 1, 1, 1, 1, 1, 1, 1, 0, 1, 0, 0], .blk 4, .c [1, 1, 1, 1, 1, 1, 1, 1, 1, 1, 1, 1, 1]] rfl ?_
    refine j_run it 2 rfl (by repeat' first | exact trivial | apply And.intro | omega) ?_
    refine j_nfn 1 [.lp [1, 1, 1, 1, 1, 1, 1, 1, 1, 1, 1, 1, 0, 1, 0, 0], .blk 4, .c [1, 1, 1, 1, 1, 1, 1, 1, 1, 1, 1, 1, 1]] rfl ?_
    have hy0 : w0[i]? = some y := by rw [← hdi2 i (Nat.le_refl _)]; exact hy
    generalize v.getD i default = x at hx hxl ⊢
    refine j_to [1] (by repeat (first | exact Fr.sub_nil _ | refine Fr.sub_cons rfl ?_ | refine Fr.sub_consI rfl (by first | omega | (dsimp only; omega)) ?_ | refine Fr.sub_consS rfl (by first | omega | (dsimp only; omega)) (by first | omega | (dsimp only; omega)) ?_)) rfl rfl (ih2 (i + 1, (y + x + cy) / 4294967296, w.set i ((y + x + cy) % 4294967296)) (by simp only; omega) ⟨by simp only; omega, by simpa using hl2, by simp only; omega, set_lt hw2 (by omega), by
      simp only
      rw [val_set_take (by omega), Nat.pow_succ, val_take_succ hy0, val_take_succ hx]; exact carry_step he2 (by omega), by simp only; rw [List.drop_set_of_lt (by omega), ← List.drop_drop, hd2, List.drop_drop]⟩)
  · have ei : i = v.length := by omega
    subst ei
    rw [List.take_length, hR, hV, hP] at he2
    have hwP := take_lt (k := v.length) hw2 (by omega)
    rw [hP] at hwP
    obtain ⟨hb1', hb2'⟩ := kn_back (c := cc) (b := 0) he2 hmod hwP hVP hV0
    have hwn : w[v.length]? = some (uk + 4294967296 - cc) := by rw [hdi2 _ (Nat.le_refl _)]; exact hg0
    have hcy : cy = 1 := by omega
    subst hcy
    have e3 : uk + 4294967296 - cc = 4294967295 := by omega
    rw [e3] at hwn
    refine j_nf [.o [1, 1, 1, 1, 1, 1, 1, 1, 1, 1, 1, 1, 0, 1, 0, 0, 0] 0, .c [1, 1, 1, 1, 1, 1, 1, 1, 1, 1, 1, 1, 0, 1, 0, 0, 1], .lp [1, 1, 1, 1, 1, 1, 1, 1, 1, 1, 1, 1, 0, 1, 0, 0], .blk 4, .c [1, 1, 1, 1, 1, 1, 1, 1, 1, 1, 1, 1, 1]] rfl ?_
    refine j_run it 1 rfl (by simp) ?_
    refine j_nf [.c [1, 1, 1, 1, 1, 1, 1, 1, 1, 1, 1, 1, 0, 1, 0, 0, 1, 0], .c [1, 1, 1, 1, 1, 1, 1, 1, 1, 1, 1, 1, 0, 1, 0, 0, 1, 1], .lp [1, 1, 1, 1, 1, 1, 1, 1, 1, 1, 1, 1, 0, 1, 0, 0], .blk 4, .c [1, 1, 1, 1, 1, 1, 1, 1, 1, 1, 1, 1, 1]] rfl ?_
    refine j_if rfl rfl (fun h1 => by exfalso; omega) (fun h1 => ?_)
    refine j_nf [.o [1, 1, 1, 1, 1, 1, 1, 1, 1, 1, 1, 1, 1, 0] 0, .c [1, 1, 1, 1, 1, 1, 1, 1, 1, 1, 1, 1, 1, 1]] rfl ?_
    refine j_run it 2 rfl (by simp) ?_
    refine j_step rfl (x_idx_ownO (v.length) _ rfl rfl sl35 rfl (by omega) rfl ?_)
    refine j_step rfl (x_bld_mid 0 (v.length) rfl rfl ld52 (by omega) (by assumption) (by first | omega | (simp; omega)) fun z1 hz1 hlt1 => ?_)
    refine j_run it 2 rfl (by repeat' first | exact trivial | apply And.intro | omega) ?_
    refine j_step rfl (x_add_u32 rfl rfl ?_)
    refine j_step rfl (x_idx_ownO (v.length) _ rfl rfl sl35 rfl (by omega) rfl ?_)
    refine j_step rfl (x_bst_mid 0 (v.length) (((z1) + (1)) % 4294967296) rfl rfl rfl ld52 (by first | rfl | omega) (by omega) (by first | omega | (simp; omega)) ?_)
    refine j_nf [.o [1, 1, 1, 1, 1, 1, 1, 1, 1, 1, 1, 1, 1, 1, 0] 0, .c [1, 1, 1, 1, 1, 1, 1, 1, 1, 1, 1, 1, 1, 1, 1]] rfl ?_
    refine j_run it 1 rfl (by simp) ?_
    refine j_step rfl (x_sub_u64 rfl rfl ?_)
    refine j_step rfl (x_conv_u32 it rfl rfl rfl ?_)
    refine j_run it 1 rfl (by simp) ?_
    refine j_nf [.c [1, 1, 1, 1, 1, 1, 1, 1, 1, 1, 1, 1, 1, 1, 1]] rfl ?_
    obtain rfl : z1 = 4294967295 := Option.some.inj (hz1.symm.trans hwn)
    refine j_gives [] rfl rfl rfl ⟨?_, rfl, w.set v.length 0, by simpa using hl2, set_lt hw2 (by decide), ?_, rfl⟩
    · have e : ((q : Int) - 1) % 18446744073709551616 % 4294967296 = ((U / V : Nat) : Int) := by
        generalize U / V = Q at hq ⊢
        omega
      show Value.int .u32 _ = _
      rw [e]
    · have h := val_set_take (l := w) (k := v.length) (z := 0) (by omega)
      rw [List.take_of_length_le (by simp; omega), Nat.mul_zero, Nat.add_zero] at h
      rw [h, hb1']
end Go.Proofs.Ytpoonnjaobjdgaa
