/-
The contract of nat.step.
-/
import Derived.Test.YtpoonnjaobjdgaaFuns
import Derived.Test.YtpoonnjaobjdgaaNatMath
import Derived.Test.YtpoonnjaobjdgaaNatMath2
import Derived.Test.YtpoonnjaobjdgaaNatMath3
import Derived.Test.YtpoonnjaobjdgaaNatMath5
import Derived.Test.YtpoonnjaobjdgaaNatMath6
import Derived.Test.YtpoonnjaobjdgaaA1
import Derived.Test.YtpoonnjaobjdgaaA11a
import Derived.Test.YtpoonnjaobjdgaaA11b
namespace Go.Proofs.Ytpoonnjaobjdgaa
open Go Go.Fw
set_option maxRecDepth 100000
set_option linter.unusedVariables false
set_option maxHeartbeats 2000000
theorem S_nat_step {b o cap : Nat} {pb : Option Addr} {m cb k : Nat} {pre u post v : List Nat} (hpre : pre.length = o) (hul : u.length = k + 3) (hvl : v.length = k + 2) (hcap : k + 3 ≤ cap) (hsz : u.length ≤ 1099511627776)
    (hu : ∀ x ∈ u, x < 4294967296) {V1 : Nat} (hV1 : v[k + 1]? = some V1) (hV1n : 2147483648 ≤ V1) (hUV : val u < 4294967296 * val v) :
    Ctr Try.prog 45 [.slice (some ⟨b, o, none⟩) (k + 3) cap, .slice pb m cb] [(some b, 52, natCells .u32 (pre ++ u ++ post))] [slF U32 pb m cb v]
      (StepQ b k (val u) (val v) pre post) := by
  refine Ctr_of_j' (F := F_nat_step) rfl fun C => ?_
  refine j_len 0 rfl fun hm hbb _ => ?_
  subst hm
  refine j_range 0 rfl fun hrv => ?_
  have hv : ∀ x ∈ v, x < 4294967296 := fun x hx => by have := hrv x hx; simp only [InR] at this; omega
  obtain ⟨U0, hU0⟩ : ∃ x, u[v.length]? = some x := ⟨u[v.length], by simp⟩
  obtain ⟨U1, hU1⟩ : ∃ x, u[v.length - 1]? = some x := ⟨u[v.length - 1], by simp⟩
  obtain ⟨U2, hU2⟩ : ∃ x, u[v.length - 2]? = some x := ⟨u[v.length - 2], by simp⟩
  have hV2 := get_some (l := v) (i := v.length - 2) (dflt := default) (by omega)
  have hV1' : v[v.length - 1]? = some V1 := by rw [hvl]; exact hV1
  have lU0 := hu _ (List.mem_of_getElem? hU0)
  have lU1 := hu _ (List.mem_of_getElem? hU1)
  have lU2 := hu _ (List.mem_of_getElem? hU2)
  have lV1 := hv _ (List.mem_of_getElem? hV1)
  have lV2 := hv _ (List.mem_of_getElem? hV2)
  have hv0 : 0 < val v := by
    rcases Nat.eq_zero_or_pos (val v) with h | h
    · rw [h] at hUV; omega
    · exact h
  have exit : ∀ q : Nat, q < 4294967296 → val u / val v ≤ q → q ≤ val u / val v + 1 → J F_nat_step C [.c [1, 1, 1, 1, 1, 1]] [(0, .slice (some ⟨b, o, none⟩) (k + 3) cap), (1, .slice pb v.length cb), (4, .int .u32 0), (5, .int .i64 v.length), (7, .int .u64 q)]
      [(some b, 52, natCells .u32 (pre ++ u ++ post))] [slF U32 pb v.length cb v] (Gives C (StepQ b k (val u) (val v) pre post)) :=
    fun q h1 h2 h3 => step_sub hpre hul hvl hcap hsz hu hv hU0 hv0 h1 h2 h3
  refine j_nf [.o [0] 0, .c [1]] rfl ?_
  refine j_run it 1 rfl (by simp) ?_
  refine j_nf [.o [1, 0] 0, .c [1, 1]] rfl ?_
  refine j_run it 1 rfl (by simp) ?_
  refine j_step rfl (x_len sl35 rfl ?_)
  refine j_run it 1 rfl (by simp) ?_
  refine j_nf [.c [1, 1, 0], .c [1, 1, 1]] rfl ?_
  (apply j_drawK it mx 13; (· rfl); (· rfl))
  (apply lxk_run 2; (· rfl); (· simp))
  (apply lxk_eq; (· rfl); (· exact d_x fun _ => x_idx_ownO (v.length) _ rfl rfl sl35 rfl (by omega) rfl dk_eq))
  (apply lxk_eq; (· rfl); (· exact d_bld_mid 0 (v.length) rfl rfl ld52 (by omega) (by assumption)))
  (apply lxk_run 5; (· rfl); (· exact (by repeat' first | exact trivial | apply And.intro | omega)))
  (apply lxk_eq; (· rfl); (· exact d_x fun _ => x_idx_ownO ((v.length) - 1) _ rfl rfl sl35 (by omega) (by omega) rfl dk_eq))
  (apply lxk_eq; (· rfl); (· exact d_bld_mid 0 (v.length - 1) rfl rfl ld52 (by omega) (by assumption)))
  (apply lxk_run 1; (· rfl); (· exact (by repeat' first | exact trivial | apply And.intro | omega)))
  (apply lxk_eq; (· rfl); (· exact d_x fun _ => x_or_shl (U0) (U1) rfl rfl (by first | rfl | omega) (by first | rfl | omega) (by omega) (by omega) dk_eq))
  refine lxk_end rfl ?_
  simp only [List.map_cons, List.map_nil, List.cons_append, List.nil_append]
  refine j_run it 1 rfl (by simp) ?_
  refine j_nf [.o [1, 1, 1, 0] 0, .c [1, 1, 1, 1]] rfl ?_
  refine j_run it 4 rfl (by repeat' first | exact trivial | apply And.intro | omega) ?_
  refine j_step rfl (x_idx 0 ((v.length) - 1) rfl rfl rfl sl35 (by omega) (by omega) fun z1 hz1 b1 o1 => ?_)
  refine j_step rfl (x_ld_nat 0 rfl rfl ld52 fun ⟨r1, r2⟩ => ?_)
  refine j_run it 1 rfl (by repeat' first | exact trivial | apply And.intro | omega) ?_ --ok
  obtain rfl : z1 = V1 := Option.some.inj (hz1.symm.trans hV1')
  refine j_run it 2 rfl (by repeat' first | exact trivial | apply And.intro | omega) ?_
  refine j_nf [.o [1, 1, 1, 1, 0] 0, .c [1, 1, 1, 1, 1]] rfl ?_
  refine j_run it 4 rfl (by repeat' first | exact trivial | apply And.intro | omega) ?_
  refine j_step rfl (x_idx 1 ((v.length) - 1) rfl rfl rfl sl35 (by omega) (by omega) fun z2 hz2 b2 o2 => ?_)
  refine j_step rfl (x_ld_nat 0 rfl rfl ld52 fun ⟨r3, r4⟩ => ?_)
  refine j_run it 1 rfl (by repeat' first | exact trivial | apply And.intro | omega) ?_ --ok
  obtain rfl : z2 = z1 := Option.some.inj (hz2.symm.trans hV1')
  have eU := val_top3 (l := u) (k := v.length - 2) (by omega) hU2 (by rw [show v.length - 2 + 1 = v.length - 1 by omega]; exact hU1) (by rw [show v.length - 2 + 2 = v.length by omega]; exact hU0)
  have eV := val_top2 (l := v) (k := v.length - 2) (by omega) hV2 (by rw [show v.length - 2 + 1 = v.length - 1 by omega]; exact hV1')
  have hul' := take_lt (k := v.length - 2) hu (by omega)
  have hvl' := take_lt (k := v.length - 2) hv (by omega)
  generalize 4294967296 ^ (v.length - 2) = P at eU eV hul' hvl'
  have hU0V := kn_top eU eV hvl' lV2 hUV
  have hz0 : 0 < z2 := by omega
  have hQB : val u / val v < 4294967296 := by rw [Nat.div_lt_iff_lt_mul hv0]; exact hUV
  have hQV : val u / val v * val v ≤ val u := Nat.div_mul_le_self _ _
  have hfirst : val u / val v ≤ (U1 + 4294967296 * U0) / z2 := kn_first eU hul' eV hz0 lU2 hQV
  have etop : U1 + 4294967296 * U0 = U0 * 4294967296 + U1 := by omega
  rw [etop] at hfirst
  have hdm : (U0 * 4294967296 + U1) / z2 * z2 + (U0 * 4294967296 + U1) % z2 = U0 * 4294967296 + U1 := by rw [Nat.mul_comm]; exact Nat.div_add_mod _ _
  have hqb : (U0 * 4294967296 + U1) / z2 ≤ 8589934592 := by
    rw [Nat.div_le_iff_le_mul hz0]
    have : 8589934592 * 2147483648 ≤ 8589934592 * z2 := Nat.mul_le_mul_left _ hV1n
    omega
  have hrb : (U0 * 4294967296 + U1) % z2 < z2 := Nat.mod_lt _ hz0
  have less : ∀ q r, q * z2 + r = U0 * 4294967296 + U1 → val u / val v ≤ q → (4294967296 ≤ q ∨ r * 4294967296 + U2 < q * v.getD (v.length - 2) default) → val u / val v + 1 ≤ q := by
    intro q r h1 h2 h3
    rcases Nat.lt_or_ge (val u / val v) q with h | h
    · exact h
    · exfalso
      have e : q = val u / val v := by omega
      rcases h3 with h3 | h3
      · omega
      · have := kn_less (q := q) (r := r) eU hul' eV (by rw [h1, etop]) (by rw [e]; exact hQV)
        omega
  have last : ∀ q r, q * z2 + r = U0 * 4294967296 + U1 → val u / val v ≤ q → (4294967296 ≤ r ∨ (q < 4294967296 ∧ ¬ r * 4294967296 + U2 < q * v.getD (v.length - 2) default)) → q < 4294967296 ∧ q ≤ val u / val v + 1 := by
    intro q r h1 h2 h3
    have hqB : q < 4294967296 := by
      rcases h3 with h3 | h3
      · have h4 : U0 * 4294967296 ≤ z2 * 4294967296 := Nat.mul_le_mul_right _ hU0V
        have h5 : q * z2 < 4294967296 * z2 := by omega
        exact Nat.lt_of_mul_lt_mul_right h5
      · exact h3.1
    refine ⟨hqB, ?_⟩
    rcases Nat.eq_zero_or_pos q with h | h
    · rw [h]; exact Nat.zero_le _
    · obtain ⟨q', rfl⟩ : ∃ q', q = q' + 1 := ⟨q - 1, by omega⟩
      have ht : (q' + 1) * v.getD (v.length - 2) default ≤ r * 4294967296 + U2 := by
        rcases h3 with h3 | h3
        · have : (q' + 1) * v.getD (v.length - 2) default ≤ 4294967296 * 4294967296 := Nat.mul_le_mul (by omega) (by omega)
          have : 4294967296 * 4294967296 ≤ r * 4294967296 := Nat.mul_le_mul_right _ h3
          omega
        · omega
      have := kn_end (q := q') eU eV hvl' (by rw [h1, etop]) hqB hz0 ht
      have := (Nat.le_div_iff_mul_le hv0).2 this
      omega
  have next : ∀ q r z w : Nat, q * z + r = w → 1 ≤ q → (q - 1) * z + (r + z) = w := by
    intro q r z w h1 h2
    obtain ⟨q', rfl⟩ : ∃ q', q = q' + 1 := ⟨q - 1, by omega⟩
    rw [Nat.succ_mul] at h1
    rw [Nat.add_sub_cancel]
    omega
  refine j_run it 2 rfl (by repeat' first | exact trivial | apply And.intro | omega) ?_
  refine j_nf [.c [1, 1, 1, 1, 1, 0, 0], .blk 0, .c [1, 1, 1, 1, 1, 1]] rfl ?_
  refine j_loopG (X := Nat × Nat) [0, 1, 4, 5] [0, 1, 2] (fun x => [(7, .int .u64 x.1), (8, .int .u64 x.2)]) (fun x => [(some b, 52, natCells .u32 (pre ++ u ++ post))]) (fun _ => [])
    (fun x => x.1 * z2 + x.2 = U0 * 4294967296 + U1 ∧ val u / val v ≤ x.1 ∧ x.1 ≤ 8589934592 ∧ x.2 < 8589934592)
    (fun x => 8589934592 - x.2) ((U0 * 4294967296 + U1) / z2, (U0 * 4294967296 + U1) % z2) [] rfl rfl rfl ⟨hdm, hfirst, hqb, by simp only; omega⟩ (by repeat (first | exact Fr.sub_nil _ | refine Fr.sub_cons rfl ?_ | refine Fr.sub_consI rfl (by simp) ?_)) rfl rfl ?_
  rintro ⟨q, r⟩ ⟨hqr, hQq, hq8, hr8⟩ ih
  simp only [List.cons_append, List.nil_append] at hqr hQq hq8 hr8 ih ⊢
  by_cases hr : r < 4294967296
  · by_cases hqB : 4294967296 ≤ q
    · have hl := less q r hqr hQq (.inl hqB)
      refine j_nf [.c [1, 1, 1, 1, 1, 0, 0, 0, 0, 0], .c [1, 1, 1, 1, 1, 0, 0, 0, 0, 1], .c [1, 1, 1, 1, 1, 0, 0, 0, 1], .lp [1, 1, 1, 1, 1, 0, 0, 0], .blk 0, .c [1, 1, 1, 1, 1, 1]] rfl ?_
      (apply j_drawK it mx 26; (· rfl); (· rfl))
      (apply lxk_run 1; (· rfl); (· simp))
      (apply lxk_eq; (· rfl); (· exact d_x fun _ => x_true it rfl (by trivial) (by omega) dk_eq))
      (apply lxk_run 2; (· rfl); (· simp))
      (apply lxk_eq; (· rfl); (· exact d_x fun _ => x_true it rfl (by trivial) (by omega) dk_eq))
      (apply lxk_run 18; (· rfl); (· simp))
      (apply lxk_run 3; (· rfl); (· simp))
      refine lxk_end rfl ?_
      simp only [List.map_cons, List.map_nil, List.cons_append, List.nil_append]
      refine j_nf [.c [1, 1, 1, 1, 1, 0, 0, 0, 0, 1], .c [1, 1, 1, 1, 1, 0, 0, 0, 1], .lp [1, 1, 1, 1, 1, 0, 0, 0], .blk 0, .c [1, 1, 1, 1, 1, 1]] rfl ?_
      refine j_true rfl rfl ?_
      refine j_nf [.o [1, 1, 1, 1, 1, 0, 0, 0, 1, 0, 0] 0, .c [1, 1, 1, 1, 1, 0, 0, 0, 1, 0, 1], .blk 1, .lp [1, 1, 1, 1, 1, 0, 0, 0], .blk 0, .c [1, 1, 1, 1, 1, 1]] rfl ?_
      refine j_run it 3 rfl (by repeat' first | exact trivial | apply And.intro | omega) ?_
      refine j_nf [.o [1, 1, 1, 1, 1, 0, 0, 0, 1, 0, 1] 0, .blk 1, .lp [1, 1, 1, 1, 1, 0, 0, 0], .blk 0, .c [1, 1, 1, 1, 1, 1]] rfl ?_
      refine j_run it 4 rfl (by repeat' first | exact trivial | apply And.intro | omega) ?_
      refine j_step rfl (x_idx 2 ((v.length) - 1) rfl rfl rfl sl35 (by omega) (by omega) fun z1 hz3 b3 o3 => ?_)
      refine j_step rfl (x_ld_nat 0 rfl rfl ld52 fun ⟨r5, r6⟩ => ?_)
      refine j_run it 3 rfl (by repeat' first | exact trivial | apply And.intro | omega) ?_
      refine j_nfn 2 [.lp [1, 1, 1, 1, 1, 0, 0, 0], .blk 0, .c [1, 1, 1, 1, 1, 1]] rfl ?_
      obtain rfl : z1 = z2 := Option.some.inj (hz3.symm.trans hV1')
      refine j_to [1, 2, 3] (by repeat (first | exact Fr.sub_nil _ | refine Fr.sub_cons rfl ?_ | refine Fr.sub_consI rfl (by first | omega | (dsimp only; omega)) ?_ | refine Fr.sub_consS rfl (by first | omega | (dsimp only; omega)) (by first | omega | (dsimp only; omega)) ?_)) rfl rfl (ih (q - 1, r + z1) (by simp only; omega) ⟨next q r z1 _ hqr (by omega), by simp only; omega, by simp only; omega, by simp only; omega⟩)
    · by_cases ht : r * 4294967296 + U2 < q * v.getD (v.length - 2) default
      · have hl := less q r hqr hQq (.inr ht)
        refine j_nf [.c [1, 1, 1, 1, 1, 0, 0, 0, 0, 0], .c [1, 1, 1, 1, 1, 0, 0, 0, 0, 1], .c [1, 1, 1, 1, 1, 0, 0, 0, 1], .lp [1, 1, 1, 1, 1, 0, 0, 0], .blk 0, .c [1, 1, 1, 1, 1, 1]] rfl ?_
        (apply j_drawK it mx 26; (· rfl); (· rfl))
        (apply lxk_run 1; (· rfl); (· simp))
        (apply lxk_eq; (· rfl); (· exact d_x fun _ => x_true it rfl (by trivial) (by omega) dk_eq))
        (apply lxk_run 2; (· rfl); (· simp))
        (apply lxk_eq; (· rfl); (· exact d_x fun _ => x_false it rfl (by trivial) (by omega) dk_eq))
        (apply lxk_run 5; (· rfl); (· exact (by repeat' first | exact trivial | apply And.intro | omega)))
        (apply lxk_pt; (· rfl); (· exact d_x fun _ => x_idx 2 ((v.length) - 2) rfl rfl rfl sl35 (by omega) (by omega) fun z1 hz3 b3 o3 => (dk_ptD default hz3 0 rfl)); intro b3 o3)
        (apply lxk_eq; (· rfl); (· exact d_x fun _ => x_ld_nat 0 rfl rfl ld52 fun ⟨r5, r6⟩ => dk_eq))
        (apply lxk_run 7; (· rfl); (· exact (by repeat' first | exact trivial | apply And.intro | omega | exact Int.mul_nonneg (by omega) (by omega) | exact mul64_nn (by omega) (by omega) (by omega) | exact mul64_nnn (by omega) (by omega) (by omega) (by omega) | exact mul64_1 (by omega) (by omega) (by omega) (by omega) | exact mul64_2 (by omega) (by omega) (by omega) (by omega) (by omega) | exact mul64_3 (by omega) (by omega) (by omega) (by omega) (by omega) (by omega))))
        (apply lxk_eq; (· rfl); (· exact d_x fun _ => x_idx_ownO ((v.length) - 2) _ rfl rfl sl35 (by omega) (by omega) rfl dk_eq))
        (apply lxk_eq; (· rfl); (· exact d_bld_mid 0 (v.length - 2) rfl rfl ld52 (by omega) (by assumption)))
        (apply lxk_run 1; (· rfl); (· exact (by repeat' first | exact trivial | apply And.intro | omega)))
        (apply lxk_eq; (· rfl); (· exact d_x fun _ => x_or_shl (r) (U2) rfl rfl (by first | rfl | omega) (by first | rfl | omega) (by omega) (by omega) dk_eq))
        (apply lxk_eq; (· rfl); (· exact d_x fun _ => x_true it rfl (by trivial) (by omega) dk_eq))
        (apply lxk_run 2; (· rfl); (· simp))
        refine lxk_end rfl ?_
        simp only [List.map_cons, List.map_nil, List.cons_append, List.nil_append]
        refine j_nf [.c [1, 1, 1, 1, 1, 0, 0, 0, 0, 1], .c [1, 1, 1, 1, 1, 0, 0, 0, 1], .lp [1, 1, 1, 1, 1, 0, 0, 0], .blk 0, .c [1, 1, 1, 1, 1, 1]] rfl ?_
        refine j_true rfl rfl ?_
        refine j_nf [.o [1, 1, 1, 1, 1, 0, 0, 0, 1, 0, 0] 0, .c [1, 1, 1, 1, 1, 0, 0, 0, 1, 0, 1], .blk 1, .lp [1, 1, 1, 1, 1, 0, 0, 0], .blk 0, .c [1, 1, 1, 1, 1, 1]] rfl ?_
        refine j_run it 1 rfl (by simp) ?_
        refine j_step rfl (x_sub_u64 rfl rfl ?_)
        refine j_run it 1 rfl (by simp) ?_
        refine j_nf [.o [1, 1, 1, 1, 1, 0, 0, 0, 1, 0, 1] 0, .blk 1, .lp [1, 1, 1, 1, 1, 0, 0, 0], .blk 0, .c [1, 1, 1, 1, 1, 1]] rfl ?_
        refine j_run it 4 rfl (by repeat' first | exact trivial | apply And.intro | omega) ?_
        refine j_step rfl (x_idx 3 ((v.length) - 1) rfl rfl rfl sl35 (by omega) (by omega) fun z1 hz3 b4 o4 => ?_)
        refine j_step rfl (x_ld_nat 0 rfl rfl ld52 fun ⟨r5, r6⟩ => ?_)
        refine j_run it 3 rfl (by repeat' first | exact trivial | apply And.intro | omega) ?_
        refine j_nfn 2 [.lp [1, 1, 1, 1, 1, 0, 0, 0], .blk 0, .c [1, 1, 1, 1, 1, 1]] rfl ?_
        obtain rfl : z1 = z2 := Option.some.inj (hz3.symm.trans hV1')
        have hq1 : 1 ≤ q := Nat.le_trans (Nat.succ_le_succ (Nat.zero_le _)) hl
        refine j_to [2, 3, 4] (by repeat (first | exact Fr.sub_nil _ | refine Fr.sub_cons rfl ?_ | refine Fr.sub_consI rfl (by first | omega | (dsimp only; omega)) ?_ | refine Fr.sub_consS rfl (by first | omega | (dsimp only; omega)) (by first | omega | (dsimp only; omega)) ?_)) rfl rfl (ih (q - 1, r + z1) (by simp only; omega) ⟨next q r z1 _ hqr hq1, Nat.le_sub_of_add_le hl, by simp only; omega, by simp only; omega⟩)
      · obtain ⟨h1, h2⟩ := last q r hqr hQq (.inr ⟨by omega, ht⟩)
        refine j_nf [.c [1, 1, 1, 1, 1, 0, 0, 0, 0, 0], .c [1, 1, 1, 1, 1, 0, 0, 0, 0, 1], .c [1, 1, 1, 1, 1, 0, 0, 0, 1], .lp [1, 1, 1, 1, 1, 0, 0, 0], .blk 0, .c [1, 1, 1, 1, 1, 1]] rfl ?_
        (apply j_drawK it mx 26; (· rfl); (· rfl))
        (apply lxk_run 1; (· rfl); (· simp))
        (apply lxk_eq; (· rfl); (· exact d_x fun _ => x_true it rfl (by trivial) (by omega) dk_eq))
        (apply lxk_run 2; (· rfl); (· simp))
        (apply lxk_eq; (· rfl); (· exact d_x fun _ => x_false it rfl (by trivial) (by omega) dk_eq))
        (apply lxk_run 5; (· rfl); (· exact (by repeat' first | exact trivial | apply And.intro | omega)))
        (apply lxk_pt; (· rfl); (· exact d_x fun _ => x_idx 2 ((v.length) - 2) rfl rfl rfl sl35 (by omega) (by omega) fun z1 hz3 b3 o3 => (dk_ptD default hz3 0 rfl)); intro b3 o3)
        (apply lxk_eq; (· rfl); (· exact d_x fun _ => x_ld_nat 0 rfl rfl ld52 fun ⟨r5, r6⟩ => dk_eq))
        (apply lxk_run 7; (· rfl); (· exact (by repeat' first | exact trivial | apply And.intro | omega)))
        (apply lxk_eq; (· rfl); (· exact d_x fun _ => x_idx_ownO ((v.length) - 2) _ rfl rfl sl35 (by omega) (by omega) rfl dk_eq))
        (apply lxk_eq; (· rfl); (· exact d_bld_mid 0 (v.length - 2) rfl rfl ld52 (by omega) (by assumption)))
        (apply lxk_run 1; (· rfl); (· exact (by repeat' first | exact trivial | apply And.intro | omega)))
        (apply lxk_eq; (· rfl); (· exact d_x fun _ => x_or_shl (r) (U2) rfl rfl (by first | rfl | omega) (by first | rfl | omega) (by omega) (by omega) dk_eq))
        (apply lxk_eq; (· rfl); (· exact d_x fun _ => x_false it rfl (by trivial) (by omega) dk_eq))
        (apply lxk_run 2; (· rfl); (· simp))
        refine lxk_end rfl ?_
        simp only [List.map_cons, List.map_nil, List.cons_append, List.nil_append]
        refine j_nf [.c [1, 1, 1, 1, 1, 0, 0, 0, 0, 1], .c [1, 1, 1, 1, 1, 0, 0, 0, 1], .lp [1, 1, 1, 1, 1, 0, 0, 0], .blk 0, .c [1, 1, 1, 1, 1, 1]] rfl ?_
        refine j_false rfl rfl ?_
        refine j_nfn 1 [.c [1, 1, 1, 1, 1, 1]] rfl ?_
        refine j_to [3] (by repeat (first | exact Fr.sub_nil _ | refine Fr.sub_cons rfl ?_ | refine Fr.sub_consI rfl (by first | omega | (dsimp only; omega)) ?_ | refine Fr.sub_consS rfl (by first | omega | (dsimp only; omega)) (by first | omega | (dsimp only; omega)) ?_)) rfl rfl (exit q h1 hQq h2)
  · obtain ⟨h1, h2⟩ := last q r hqr hQq (.inl (by omega))
    refine j_nf [.c [1, 1, 1, 1, 1, 0, 0, 0, 0, 0], .c [1, 1, 1, 1, 1, 0, 0, 0, 0, 1], .c [1, 1, 1, 1, 1, 0, 0, 0, 1], .lp [1, 1, 1, 1, 1, 0, 0, 0], .blk 0, .c [1, 1, 1, 1, 1, 1]] rfl ?_
    (apply j_drawK it mx 26; (· rfl); (· rfl))
    (apply lxk_run 1; (· rfl); (· simp))
    (apply lxk_eq; (· rfl); (· exact d_x fun _ => x_false it rfl (by trivial) (by omega) dk_eq))
    (apply lxk_run 2; (· rfl); (· simp))
    (apply lxk_run 19; (· rfl); (· simp))
    (apply lxk_run 3; (· rfl); (· simp))
    refine lxk_end rfl ?_
    simp only [List.map_cons, List.map_nil, List.cons_append, List.nil_append]
    refine j_nf [.c [1, 1, 1, 1, 1, 0, 0, 0, 0, 1], .c [1, 1, 1, 1, 1, 0, 0, 0, 1], .lp [1, 1, 1, 1, 1, 0, 0, 0], .blk 0, .c [1, 1, 1, 1, 1, 1]] rfl ?_
    refine j_false rfl rfl ?_
    refine j_nfn 1 [.c [1, 1, 1, 1, 1, 1]] rfl ?_
    refine j_to [2] (by repeat (first | exact Fr.sub_nil _ | refine Fr.sub_cons rfl ?_ | refine Fr.sub_consI rfl (by first | omega | (dsimp only; omega)) ?_ | refine Fr.sub_consS rfl (by first | omega | (dsimp only; omega)) (by first | omega | (dsimp only; omega)) ?_)) rfl rfl (exit q h1 hQq h2)
end Go.Proofs.Ytpoonnjaobjdgaa
