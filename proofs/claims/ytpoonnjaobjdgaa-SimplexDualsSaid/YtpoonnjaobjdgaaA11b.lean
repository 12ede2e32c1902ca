/-
The contract of nat.step, second part: multiplied and taken away.
-/
import Derived.Test.YtpoonnjaobjdgaaFuns
import Derived.Test.YtpoonnjaobjdgaaNatMath
import Derived.Test.YtpoonnjaobjdgaaNatMath2
import Derived.Test.YtpoonnjaobjdgaaNatMath3
import Derived.Test.YtpoonnjaobjdgaaNatMath5
import Derived.Test.YtpoonnjaobjdgaaNatMath6
import Derived.Test.YtpoonnjaobjdgaaA1
import Derived.Test.YtpoonnjaobjdgaaA11a
namespace Go.Proofs.Ytpoonnjaobjdgaa
open Go Go.Fw
set_option maxRecDepth 100000
set_option linter.unusedVariables false
set_option maxHeartbeats 2000000
theorem step_sub {C : Cx} {b o cap cb k q U0 : Nat} {pb : Option Addr} {pre u post v : List Nat} (hpre : pre.length = o) (hul : u.length = k + 3) (hvl : v.length = k + 2) (hcap : k + 3 ≤ cap) (hsz : u.length ≤ 1099511627776)
    (hu : ∀ x ∈ u, x < 4294967296) (hv : ∀ x ∈ v, x < 4294967296) (hU0 : u[v.length]? = some U0) (hv0 : 0 < val v) (hq : q < 4294967296) (hQ1 : val u / val v ≤ q) (hQ2 : q ≤ val u / val v + 1) :
    J F_nat_step C [.c [1, 1, 1, 1, 1, 1]] [(0, .slice (some ⟨b, o, none⟩) (k + 3) cap), (1, .slice pb v.length cb), (4, .int .u32 0), (5, .int .i64 v.length), (7, .int .u64 q)]
      [(some b, 52, natCells .u32 (pre ++ u ++ post))] [slF U32 pb v.length cb v] (Gives C (StepQ b k (val u) (val v) pre post)) := by
  have lU0 := hu _ (List.mem_of_getElem? hU0)
  refine j_nf [.o [1, 1, 1, 1, 1, 1, 0] 0, .c [1, 1, 1, 1, 1, 1, 1]] rfl ?_
  refine j_run it 2 rfl (by simp) ?_
  refine j_nf [.o [1, 1, 1, 1, 1, 1, 1, 0, 0] 0, .c [1, 1, 1, 1, 1, 1, 1, 0, 1], .c [1, 1, 1, 1, 1, 1, 1, 1]] rfl ?_
  refine j_run it 1 rfl (by simp) ?_
  refine j_step rfl (x_len sl35 rfl ?_)
  refine j_run it 1 rfl (by simp) ?_
  refine j_nf [.c [1, 1, 1, 1, 1, 1, 1, 0, 1, 0], .blk 2, .c [1, 1, 1, 1, 1, 1, 1, 1]] rfl ?_
  refine j_loopG (X := Nat × Nat × Nat × List Nat) [0, 1, 4, 5, 7, 85] [0] (fun x => [(9, .int .u64 x.2.1), (10, .int .u64 x.2.2.1), (86, .int .i64 x.1)]) (fun x => [(some b, 52, natCells .u32 (pre ++ x.2.2.2 ++ post))]) (fun _ => [])
    (fun x => x.1 ≤ v.length ∧ x.2.2.2.length = k + 3 ∧ x.2.1 ≤ 1 ∧ x.2.2.1 < 4294967296 ∧ (∀ z ∈ x.2.2.2, z < 4294967296) ∧ val (x.2.2.2.take x.1) + q * val (v.take x.1) = val (u.take x.1) + 4294967296 ^ x.1 * (x.2.2.1 + x.2.1) ∧ x.2.2.2.drop x.1 = u.drop x.1)
    (fun x => v.length - x.1) (0, 0, 0, u) [] rfl rfl rfl ⟨Nat.zero_le _, hul, Nat.zero_le _, Nat.zero_lt_succ _, hu, by simp [val], rfl⟩ (by repeat (first | exact Fr.sub_nil _ | refine Fr.sub_cons rfl ?_)) rfl rfl ?_
  rintro ⟨i, bw, c, u'⟩ ⟨hi, hl', hb1, hc, hu', he, hd⟩ ih
  simp only [List.cons_append, List.nil_append] at hi hl' hb1 hc hu' he hd ih ⊢
  have hdi : ∀ j, i ≤ j → u'[j]? = u[j]? := fun j hj => by
    have h := congrArg (fun l : List Nat => l[j - i]?) hd
    simp only [List.getElem?_drop] at h
    rwa [show i + (j - i) = j by omega] at h
  by_cases hil : i < v.length
  · refine j_nf [.o [1, 1, 1, 1, 1, 1, 1, 0, 1, 0, 0, 0] 0, .c [1, 1, 1, 1, 1, 1, 1, 0, 1, 0, 0, 1], .lp [1, 1, 1, 1, 1, 1, 1, 0, 1, 0, 0], .blk 2, .c [1, 1, 1, 1, 1, 1, 1, 1]] rfl ?_
    refine j_run it 1 rfl (by simp) ?_
    refine j_nf [.c [1, 1, 1, 1, 1, 1, 1, 0, 1, 0, 0, 1, 0], .c [1, 1, 1, 1, 1, 1, 1, 0, 1, 0, 0, 1, 1], .lp [1, 1, 1, 1, 1, 1, 1, 0, 1, 0, 0], .blk 2, .c [1, 1, 1, 1, 1, 1, 1, 1]] rfl ?_
    refine j_if rfl rfl (fun h1 => ?_) (fun h1 => by exfalso; omega)
    refine j_nf [.o [1, 1, 1, 1, 1, 1, 1, 0, 1, 0, 0, 1, 1, 0, 0, 0] 0, .c [1, 1, 1, 1, 1, 1, 1, 0, 1, 0, 0, 1, 1, 0, 0, 1], .blk 3, .c [1, 1, 1, 1, 1, 1, 1, 0, 1, 0, 0, 1, 1, 1], .lp [1, 1, 1, 1, 1, 1, 1, 0, 1, 0, 0], .blk 2, .c [1, 1, 1, 1, 1, 1, 1, 1]] rfl ?_
    refine j_run it 2 rfl (by simp) ?_
    refine j_nf [.o [1, 1, 1, 1, 1, 1, 1, 0, 1, 0, 0, 1, 1, 0, 0, 1, 0] 0, .c [1, 1, 1, 1, 1, 1, 1, 0, 1, 0, 0, 1, 1, 0, 0, 1, 1], .blk 3, .c [1, 1, 1, 1, 1, 1, 1, 0, 1, 0, 0, 1, 1, 1], .lp [1, 1, 1, 1, 1, 1, 1, 0, 1, 0, 0], .blk 2, .c [1, 1, 1, 1, 1, 1, 1, 1]] rfl ?_
    refine j_run it 3 rfl (by simp) ?_
    refine j_step rfl (x_idx 0 (i) rfl rfl rfl sl35 rfl (by omega) fun z1 hz1 b1 o1 => ?_)
    refine j_step rfl (x_ld_nat 0 rfl rfl ld52 fun ⟨r1, r2⟩ => ?_)
    refine j_run it 5 rfl (by repeat' first | exact trivial | apply And.intro | omega | exact Int.mul_nonneg (by omega) (by omega) | exact mul64_nn (by omega) (by omega) (by omega) | exact mul64_nnn (by omega) (by omega) (by omega) (by omega) | exact mul64_1 (by omega) (by omega) (by omega) (by omega) | exact mul64_2 (by omega) (by omega) (by omega) (by omega) (by omega) | exact mul64_3 (by omega) (by omega) (by omega) (by omega) (by omega) (by omega)) ?_
    refine j_nf [.o [1, 1, 1, 1, 1, 1, 1, 0, 1, 0, 0, 1, 1, 0, 0, 1, 1, 0] 0, .c [1, 1, 1, 1, 1, 1, 1, 0, 1, 0, 0, 1, 1, 0, 0, 1, 1, 1], .blk 3, .c [1, 1, 1, 1, 1, 1, 1, 0, 1, 0, 0, 1, 1, 1], .lp [1, 1, 1, 1, 1, 1, 1, 0, 1, 0, 0], .blk 2, .c [1, 1, 1, 1, 1, 1, 1, 1]] rfl ?_
    refine j_run it 3 rfl (by simp) ?_
    refine j_nf [.o [1, 1, 1, 1, 1, 1, 1, 0, 1, 0, 0, 1, 1, 0, 0, 1, 1, 1, 0] 0, .c [1, 1, 1, 1, 1, 1, 1, 0, 1, 0, 0, 1, 1, 0, 0, 1, 1, 1, 1], .blk 3, .c [1, 1, 1, 1, 1, 1, 1, 0, 1, 0, 0, 1, 1, 1], .lp [1, 1, 1, 1, 1, 1, 1, 0, 1, 0, 0], .blk 2, .c [1, 1, 1, 1, 1, 1, 1, 1]] rfl ?_
    refine j_run it 2 rfl (by simp) ?_
    refine j_step rfl (x_idx_ownO (i) _ rfl rfl sl35 rfl (by omega) rfl ?_)
    refine j_step rfl (x_bld_mid 0 (i) rfl rfl ld52 (by omega) (by assumption) (by first | omega | (simp; omega)) fun z2 hz2 hlt1 => ?_)
    refine j_run it 2 rfl (by repeat' first | exact trivial | apply And.intro | omega) ?_
    refine j_step rfl (x_conv_u32 it rfl rfl rfl ?_)
    refine j_run it 1 rfl (by repeat' first | exact trivial | apply And.intro | omega) ?_
    refine j_step rfl (x_sub_u64 rfl rfl ?_)
    refine j_run it 1 rfl (by simp) ?_
    refine j_step rfl (x_sub_u64 rfl rfl ?_)
    refine j_run it 1 rfl (by simp) ?_
    refine j_nf [.o [1, 1, 1, 1, 1, 1, 1, 0, 1, 0, 0, 1, 1, 0, 0, 1, 1, 1, 1, 0] 0, .c [1, 1, 1, 1, 1, 1, 1, 0, 1, 0, 0, 1, 1, 0, 0, 1, 1, 1, 1, 1], .blk 3, .c [1, 1, 1, 1, 1, 1, 1, 0, 1, 0, 0, 1, 1, 1], .lp [1, 1, 1, 1, 1, 1, 1, 0, 1, 0, 0], .blk 2, .c [1, 1, 1, 1, 1, 1, 1, 1]] rfl ?_
    refine j_run it 3 rfl (by simp) ?_
    refine j_step rfl (x_conv_u32 it rfl rfl rfl ?_)
    refine j_step rfl (x_idx_ownO (i) _ rfl rfl sl35 rfl (by omega) rfl ?_)
    refine j_step rfl (x_bst_mid 0 (i) ((((((z2) + 18446744073709551616 - ((((q) * (z1)) + (c)) % 4294967296)) % 18446744073709551616) + 18446744073709551616 - (bw)) % 18446744073709551616) % 4294967296) rfl rfl rfl ld52 (by first | rfl | omega) (by omega) (by first | omega | (simp; omega)) ?_)
    refine j_nf [.o [1, 1, 1, 1, 1, 1, 1, 0, 1, 0, 0, 1, 1, 0, 0, 1, 1, 1, 1, 1] 0, .blk 3, .c [1, 1, 1, 1, 1, 1, 1, 0, 1, 0, 0, 1, 1, 1], .lp [1, 1, 1, 1, 1, 1, 1, 0, 1, 0, 0], .blk 2, .c [1, 1, 1, 1, 1, 1, 1, 1]] rfl ?_
    refine j_run it 3 rfl (by simp) ?_
    refine j_nf [.o [1, 1, 1, 1, 1, 1, 1, 0, 1, 0, 0, 1, 1, 1] 0, .lp [1, 1, 1, 1, 1, 1, 1, 0, 1, 0, 0], .blk 2, .c [1, 1, 1, 1, 1, 1, 1, 1]] rfl ?_
    refine j_run it 2 rfl (by repeat' first | exact trivial | apply And.intro | omega) ?_
    refine j_nfn 1 [.lp [1, 1, 1, 1, 1, 1, 1, 0, 1, 0, 0], .blk 2, .c [1, 1, 1, 1, 1, 1, 1, 1]] rfl ?_
    have hz2u : u[i]? = some z2 := by rw [← hdi i (Nat.le_refl _)]; exact hz2
    have hz1v := hv _ (List.mem_of_getElem? hz1)
    have hst := mulsub_step (q := q) (y := z1) he hb1 hlt1 rfl rfl
    have hpf := prod_fits hq hz1v hc
    generalize hD : ((z2 + 18446744073709551616 - (q * z1 + c) % 4294967296) % 18446744073709551616 + 18446744073709551616 - bw) % 18446744073709551616 = D at hst ⊢
    refine j_to [1] (by repeat (first | exact Fr.sub_nil _ | refine Fr.sub_cons rfl ?_ | refine Fr.sub_consI rfl (by first | omega | (dsimp only; omega)) ?_ | refine Fr.sub_consS rfl (by first | omega | (dsimp only; omega)) (by first | omega | (dsimp only; omega)) ?_)) rfl rfl (ih (i + 1, D / 9223372036854775808, (q * z1 + c) / 4294967296, u'.set i (D % 4294967296)) (by simp only; omega) ⟨by simp only; omega, by simpa using hl', hst.2, hpf.1, set_lt hu' (by omega), by
      simp only
      rw [val_set_take (by omega), Nat.pow_succ, val_take_succ hz1, val_take_succ hz2u]; exact hst.1, by simp only; rw [List.drop_set_of_lt (by omega), ← List.drop_drop, hd, List.drop_drop]⟩)
  · have ei : i = v.length := by omega
    subst ei
    rw [List.take_length] at he
    have hU0' : u'[v.length]? = some U0 := by rw [hdi _ (Nat.le_refl _)]; exact hU0
    have eU : val u = val (u.take v.length) + 4294967296 ^ v.length * U0 := by
      have h := val_take_succ hU0
      rwa [List.take_of_length_le (by omega)] at h
    have hR := take_lt (k := v.length) hu' (by omega)
    have hVP := val_lt hv
    generalize hP : 4294967296 ^ v.length = P at *
    by_cases hok : c + bw ≤ U0
    · obtain ⟨hqe, hmod⟩ := kn_right eU he hok rfl hQ1 hv0
      refine j_nf [.o [1, 1, 1, 1, 1, 1, 1, 0, 1, 0, 0, 0] 0, .c [1, 1, 1, 1, 1, 1, 1, 0, 1, 0, 0, 1], .lp [1, 1, 1, 1, 1, 1, 1, 0, 1, 0, 0], .blk 2, .c [1, 1, 1, 1, 1, 1, 1, 1]] rfl ?_
      refine j_run it 1 rfl (by simp) ?_
      refine j_nf [.c [1, 1, 1, 1, 1, 1, 1, 0, 1, 0, 0, 1, 0], .c [1, 1, 1, 1, 1, 1, 1, 0, 1, 0, 0, 1, 1], .lp [1, 1, 1, 1, 1, 1, 1, 0, 1, 0, 0], .blk 2, .c [1, 1, 1, 1, 1, 1, 1, 1]] rfl ?_
      refine j_if rfl rfl (fun h1 => by exfalso; omega) (fun h1 => ?_)
      refine j_nf [.o [1, 1, 1, 1, 1, 1, 1, 1, 0] 0, .c [1, 1, 1, 1, 1, 1, 1, 1, 1]] rfl ?_
      refine j_run it 2 rfl (by simp) ?_
      refine j_step rfl (x_idx_ownO (v.length) _ rfl rfl sl35 rfl (by omega) rfl ?_)
      refine j_step rfl (x_bld_mid 0 (v.length) rfl rfl ld52 (by omega) (by assumption) (by first | omega | (simp; omega)) fun z1 hz1 hlt1 => ?_)
      refine j_run it 2 rfl (by repeat' first | exact trivial | apply And.intro | omega) ?_
      refine j_step rfl (x_sub_u64 rfl rfl ?_)
      refine j_run it 1 rfl (by simp) ?_
      refine j_step rfl (x_sub_u64 rfl rfl ?_)
      refine j_run it 1 rfl (by simp) ?_
      refine j_nf [.o [1, 1, 1, 1, 1, 1, 1, 1, 1, 0] 0, .c [1, 1, 1, 1, 1, 1, 1, 1, 1, 1]] rfl ?_
      refine j_run it 3 rfl (by simp) ?_
      refine j_step rfl (x_conv_u32 it rfl rfl rfl ?_)
      refine j_step rfl (x_idx_ownO (v.length) _ rfl rfl sl35 rfl (by omega) rfl ?_)
      refine j_step rfl (x_bst_mid 0 (v.length) ((((((z1) + 18446744073709551616 - (c)) % 18446744073709551616) + 18446744073709551616 - (bw)) % 18446744073709551616) % 4294967296) rfl rfl rfl ld52 (by first | rfl | omega) (by omega) (by first | omega | (simp; omega)) ?_)
      refine j_nf [.o [1, 1, 1, 1, 1, 1, 1, 1, 1, 1, 0, 0] 0, .c [1, 1, 1, 1, 1, 1, 1, 1, 1, 1, 0, 1], .c [1, 1, 1, 1, 1, 1, 1, 1, 1, 1, 1]] rfl ?_
      refine j_run it 3 rfl (by simp) ?_
      refine j_nf [.c [1, 1, 1, 1, 1, 1, 1, 1, 1, 1, 0, 1], .c [1, 1, 1, 1, 1, 1, 1, 1, 1, 1, 1]] rfl ?_
      refine j_if rfl rfl (fun h2 => ?_) (fun h2 => ?_)
      · obtain rfl : z1 = U0 := Option.some.inj (hz1.symm.trans hU0')
        refine j_nf [.o [1, 1, 1, 1, 1, 1, 1, 1, 1, 1, 0, 1, 0, 0] 0, .c [1, 1, 1, 1, 1, 1, 1, 1, 1, 1, 0, 1, 0, 1], .c [1, 1, 1, 1, 1, 1, 1, 1, 1, 1, 1]] rfl ?_
        refine j_run it 3 rfl (by repeat' first | exact trivial | apply And.intro | omega) ?_
        refine j_nf [.c [1, 1, 1, 1, 1, 1, 1, 1, 1, 1, 0, 1, 0, 1], .c [1, 1, 1, 1, 1, 1, 1, 1, 1, 1, 1]] rfl ?_
        have e1 : ((z1 + 18446744073709551616 - c) % 18446744073709551616 + 18446744073709551616 - bw) % 18446744073709551616 % 4294967296 = z1 - (c + bw) := by omega
        have e2 : ((q : Int)) = ((val u / val v : Nat) : Int) := by rw [hqe]
        refine j_gives [] rfl rfl rfl ⟨by rw [← e2]; rfl, rfl, u'.set v.length (z1 - (c + bw)), by simpa using hl', set_lt hu' (by omega), ?_, by rw [← e1]; rfl⟩
        have h := val_set_take (l := u') (k := v.length) (z := z1 - (c + bw)) (by omega)
        rw [List.take_of_length_le (by simp; omega), hP] at h
        rw [h, hmod]
      · exfalso
        obtain rfl : z1 = U0 := Option.some.inj (hz1.symm.trans hU0')
        omega
    · obtain ⟨hqe, hmod⟩ := kn_wrong eU he (by omega) hR rfl hQ2 hv0
      refine j_nf [.o [1, 1, 1, 1, 1, 1, 1, 0, 1, 0, 0, 0] 0, .c [1, 1, 1, 1, 1, 1, 1, 0, 1, 0, 0, 1], .lp [1, 1, 1, 1, 1, 1, 1, 0, 1, 0, 0], .blk 2, .c [1, 1, 1, 1, 1, 1, 1, 1]] rfl ?_
      refine j_run it 1 rfl (by simp) ?_
      refine j_nf [.c [1, 1, 1, 1, 1, 1, 1, 0, 1, 0, 0, 1, 0], .c [1, 1, 1, 1, 1, 1, 1, 0, 1, 0, 0, 1, 1], .lp [1, 1, 1, 1, 1, 1, 1, 0, 1, 0, 0], .blk 2, .c [1, 1, 1, 1, 1, 1, 1, 1]] rfl ?_
      refine j_if rfl rfl (fun h1 => by exfalso; omega) (fun h1 => ?_)
      refine j_nf [.o [1, 1, 1, 1, 1, 1, 1, 1, 0] 0, .c [1, 1, 1, 1, 1, 1, 1, 1, 1]] rfl ?_
      refine j_run it 2 rfl (by simp) ?_
      refine j_step rfl (x_idx_ownO (v.length) _ rfl rfl sl35 rfl (by omega) rfl ?_)
      refine j_step rfl (x_bld_mid 0 (v.length) rfl rfl ld52 (by omega) (by assumption) (by first | omega | (simp; omega)) fun z1 hz1 hlt1 => ?_)
      refine j_run it 2 rfl (by repeat' first | exact trivial | apply And.intro | omega) ?_
      refine j_step rfl (x_sub_u64 rfl rfl ?_)
      refine j_run it 1 rfl (by simp) ?_
      refine j_step rfl (x_sub_u64 rfl rfl ?_)
      refine j_run it 1 rfl (by simp) ?_
      refine j_nf [.o [1, 1, 1, 1, 1, 1, 1, 1, 1, 0] 0, .c [1, 1, 1, 1, 1, 1, 1, 1, 1, 1]] rfl ?_
      refine j_run it 3 rfl (by simp) ?_
      refine j_step rfl (x_conv_u32 it rfl rfl rfl ?_)
      refine j_step rfl (x_idx_ownO (v.length) _ rfl rfl sl35 rfl (by omega) rfl ?_)
      refine j_step rfl (x_bst_mid 0 (v.length) ((((((z1) + 18446744073709551616 - (c)) % 18446744073709551616) + 18446744073709551616 - (bw)) % 18446744073709551616) % 4294967296) rfl rfl rfl ld52 (by first | rfl | omega) (by omega) (by first | omega | (simp; omega)) ?_)
      refine j_nf [.o [1, 1, 1, 1, 1, 1, 1, 1, 1, 1, 0, 0] 0, .c [1, 1, 1, 1, 1, 1, 1, 1, 1, 1, 0, 1], .c [1, 1, 1, 1, 1, 1, 1, 1, 1, 1, 1]] rfl ?_
      refine j_run it 3 rfl (by simp) ?_
      refine j_nf [.c [1, 1, 1, 1, 1, 1, 1, 1, 1, 1, 0, 1], .c [1, 1, 1, 1, 1, 1, 1, 1, 1, 1, 1]] rfl ?_
      refine j_if rfl rfl (fun h2 => ?_) (fun h2 => ?_)
      · exfalso
        obtain rfl : z1 = U0 := Option.some.inj (hz1.symm.trans hU0')
        omega
      · obtain rfl : z1 = U0 := Option.some.inj (hz1.symm.trans hU0')
        have e1 : ((z1 + 18446744073709551616 - c) % 18446744073709551616 + 18446744073709551616 - bw) % 18446744073709551616 % 4294967296 = z1 + 4294967296 - (c + bw) := by omega
        rw [e1]
        refine j_nfn 1 [.c [1, 1, 1, 1, 1, 1, 1, 1, 1, 1, 1]] rfl ?_
        refine j_to [0] (by repeat (first | exact Fr.sub_nil _ | refine Fr.sub_cons rfl ?_)) rfl rfl (step_back (w0 := u'.set v.length (z1 + 4294967296 - (c + bw))) (cc := c + bw) (uk := z1) (R := val (u'.take v.length)) (q := q) hpre (by simpa using hl') hvl hcap (by omega) (set_lt hu' (by omega)) hv hP rfl hv0 (Nat.le_of_lt hVP) (by rw [List.take_set_of_le (Nat.le_refl _)]) hmod (by omega) (by omega) (by rw [List.getElem?_set_self (by omega)]) hqe hq)
end Go.Proofs.Ytpoonnjaobjdgaa
