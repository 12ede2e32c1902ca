/-
The contract of nat.long, and of bits.LeadingZeros32.
-/
import Derived.Test.YtpoonnjaobjdgaaFuns
import Derived.Test.YtpoonnjaobjdgaaNatMath
import Derived.Test.YtpoonnjaobjdgaaNatMath2
import Derived.Test.YtpoonnjaobjdgaaNatMath3
import Derived.Test.YtpoonnjaobjdgaaNatMath5
import Derived.Test.YtpoonnjaobjdgaaNatMath6
import Derived.Test.YtpoonnjaobjdgaaNatMath7
import Derived.Test.YtpoonnjaobjdgaaA1
import Derived.Test.YtpoonnjaobjdgaaA6
import Derived.Test.YtpoonnjaobjdgaaA10
import Derived.Test.YtpoonnjaobjdgaaA11a
import Derived.Test.YtpoonnjaobjdgaaA11
namespace Go.Proofs.Ytpoonnjaobjdgaa
open Go Go.Fw
set_option maxRecDepth 100000
set_option linter.unusedVariables false
set_option maxHeartbeats 4000000
theorem S_bits_LeadingZeros32 {x : Nat} (hx : x < 4294967296) : Ctr Try.prog 43 [.int .u32 x] [] [] (Rv (.int .i64 (32 - blen x : Int)) []) := by
  refine Ctr_of_j' (F := F_bits_LeadingZeros32) rfl fun C => ?_
  have h : blen x ≤ 32 := blen_le (by simpa using hx)
  refine j_nf [.o [0] 0, .c [1]] rfl ?_
  refine j_run it 1 rfl (by simp) ?_
  refine j_nf [.o [1, 0] 0, .c [1, 1]] rfl ?_
  refine j_run it 1 rfl (by simp) ?_
  refine j_step rfl (x_call [] rfl (S_bits_Len32 (by first | omega | exact side _ (by assumption) | assumption | rfl | (simp; done) | (simp; omega))) rfl ?_)
  rintro _ _ _ ⟨rfl, rfl, rfl⟩
  simp only [List.cons_append, List.nil_append]
  refine j_run it 2 rfl (by repeat' first | exact trivial | apply And.intro | omega) ?_
  refine j_nf [.c [1, 1]] rfl ?_
  refine j_giv [] rfl rfl rfl ⟨rfl, rfl, rfl⟩

/-- The quotient and the remainder, perhaps with zeros at their ends. -/
abbrev LongQ (A B : Nat) : Value → List Fact → List Blk → Prop := fun v Φ β => ∃ lq lr p1 c1 p2 c2, v = .tuple #[.slice p1 lq.length c1, .slice p2 lr.length c2] ∧ Φ = [slF U32 p1 lq.length c1 lq, slF U32 p2 lr.length c2 lr] ∧ β = [] ∧ val lq = A / B ∧ val lr = A % B

theorem S_nat_long {pa pb : Option Addr} {n m ca cb k t : Nat} {a b : List Nat} (hal : a.length ≤ 1073741824) (hbl : b.length = k + 2) (hab : b.length ≤ a.length) (ht : b[k + 1]? = some t) (h0 : t ≠ 0) :
    Ctr Try.prog 36 [.slice pa n ca, .slice pb m cb] [] [slF U32 pa n ca a, slF U32 pb m cb b] (LongQ (val a) (val b)) := by
  refine Ctr_of_j' (F := F_nat_long) rfl fun C => ?_
  refine j_len 0 rfl fun hn hba _ => ?_
  refine j_len 1 rfl fun hm hbb _ => ?_
  subst hn; subst hm
  refine j_range 0 rfl fun hra => ?_
  refine j_range 1 rfl fun hrb => ?_
  have ha : ∀ x ∈ a, x < 4294967296 := fun x hx => by have := hra x hx; simp only [InR] at this; omega
  have hb : ∀ x ∈ b, x < 4294967296 := fun x hx => by have := hrb x hx; simp only [InR] at this; omega
  have htB := hb t (List.mem_of_getElem? ht)
  have h32 : blen t ≤ 32 := blen_le (by simpa using htB)
  have h1t : 1 ≤ blen t := by have := blen_pos h0; omega
  obtain ⟨hVl, w, hw, hwn⟩ := norm_div hb hbl ht h0
  have hn32 : 32 - blen t < 32 := by omega
  have e32 : (32 - (blen t : Int)) = ((32 - blen t : Nat) : Int) := by omega
  refine j_nf [.o [0] 0, .c [1]] rfl ?_
  refine j_run it 2 rfl (by simp) ?_
  refine j_nf [.o [1, 0] 0, .c [1, 1]] rfl ?_
  refine j_run it 2 rfl (by simp) ?_
  refine j_step rfl (x_len sl35 rfl ?_)
  refine j_run it 1 rfl (by repeat' first | exact trivial | apply And.intro | omega) ?_
  refine j_step rfl (x_idx 1 ((b.length) - 1) rfl rfl rfl sl35 (by omega) (by omega) fun z1 hz1 b1 o1 => ?_)
  refine j_step rfl (x_ld_nat 0 rfl rfl ld52 fun ⟨r1, r2⟩ => ?_)
  obtain rfl : z1 = t := Option.some.inj (hz1.symm.trans (by rw [hbl]; exact ht))
  refine j_step rfl (x_call [] rfl (S_bits_LeadingZeros32 (by first | omega | exact side _ (by assumption) | assumption | rfl | (simp; done) | (simp; omega))) rfl ?_)
  rintro _ _ _ ⟨rfl, rfl, rfl⟩
  simp only [List.cons_append, List.nil_append]
  refine j_run it 1 rfl (by simp) ?_
  refine j_nf [.o [1, 1, 0] 0, .c [1, 1, 1]] rfl ?_
  rw [e32]
  generalize 32 - blen z1 = s at hVl hw hn32 ⊢
  refine j_run it 2 rfl (by simp) ?_
  refine j_step rfl (x_call [2] rfl (O_nat_shift (a := b) (by omega) hn32) rfl ?_)
  rintro _ _ _ ⟨lv, hlv, hlvB, hlvV, b1, rfl, rfl, rfl⟩
  simp only [List.nil_append, List.cons_append]
  have evl : trim lv = limbs (val b * 2 ^ s) := by rw [trim_eq hlvB, hlvV]
  skip
  refine j_pub32 (n := lv.length) 0 rfl rfl hlvB (by omega) ?_
  refine j_step rfl (x_call [0] rfl (S_nat_short) rfl ?_)
  rintro _ _ _ ⟨rfl, rfl, rfl⟩
  simp only [List.cons_append, List.nil_append]
  refine j_run it 1 rfl (by simp) ?_
  refine j_nf [.o [1, 1, 1, 0] 0, .c [1, 1, 1, 1]] rfl ?_
  refine j_run it 2 rfl (by simp) ?_
  rw [evl]
  generalize hvv : limbs (val b * 2 ^ s) = v at hVl hw ⊢
  have hvB : ∀ x ∈ v, x < 4294967296 := by rw [← hvv]; exact limbs_lt _
  have hvV : val v = val b * 2 ^ s := by rw [← hvv, val_limbs]
  refine j_step rfl (x_call [3] rfl (O_nat_shift (a := a) (by omega) hn32) rfl ?_)
  rintro _ _ _ ⟨lu, hlu, hluB, hluV, b2, rfl, rfl, rfl⟩
  simp only [List.nil_append, List.cons_append]
  have hA := val_lt ha
  have hs0 : 0 < 2 ^ s := Nat.pow_pos (by decide)
  have hVlow : 4294967296 ^ (k + 1) * 2 ^ s ≤ val v := by
    rw [hvV]
    refine Nat.mul_le_mul_right _ ?_
    have h := top_split (k := k + 1) hbl ht
    have : 4294967296 ^ (k + 1) * 1 ≤ 4294967296 ^ (k + 1) * z1 := Nat.mul_le_mul_left _ (by omega)
    omega
  have hV0 : 0 < val v := Nat.lt_of_lt_of_le (Nat.mul_pos (Nat.pow_pos (by decide)) hs0) hVlow
  have hVB := val_lt hvB
  have hst := long_start (k := k + 1) (m := a.length - (k + 1)) hluB hlu hluV hA hVlow (by omega) (by omega)
  refine j_run it 1 rfl (by simp) ?_
  refine j_nf [.o [1, 1, 1, 1, 0] 0, .c [1, 1, 1, 1, 1]] rfl ?_
  refine j_run it 1 rfl (by simp) ?_
  refine j_step rfl (x_len sl35 rfl ?_)
  refine j_run it 1 rfl (by simp) ?_
  refine j_nf [.o [1, 1, 1, 1, 1, 0] 0, .c [1, 1, 1, 1, 1, 1]] rfl ?_
  refine j_run it 1 rfl (by simp) ?_
  refine j_step rfl (x_len sl35 rfl ?_)
  refine j_run it 2 rfl (by repeat' first | exact trivial | apply And.intro | omega) ?_
  refine j_step rfl (x_make_nat ((lu.length) - (v.length)) _ rfl rfl sl35 zo35e by35e (by omega) (by omega) (by omega) fun b3 => ?_)
  refine j_run it 1 rfl (by simp) ?_
  refine j_nf [.o [1, 1, 1, 1, 1, 1, 0, 0] 0, .c [1, 1, 1, 1, 1, 1, 0, 1], .c [1, 1, 1, 1, 1, 1, 1]] rfl ?_
  refine j_run it 1 rfl (by simp) ?_
  refine j_step rfl (x_len sl35 rfl ?_)
  refine j_run it 4 rfl (by repeat' first | exact trivial | apply And.intro | omega) ?_
  refine j_nf [.c [1, 1, 1, 1, 1, 1, 0, 1, 0], .blk 0, .c [1, 1, 1, 1, 1, 1, 1]] rfl ?_
  refine j_loopG (X := Nat × List Nat × List Nat) [4, 5, 6, 7, 8, 9] [0, 1, 2, 3, 4] (fun x => [(10, .int .i64 ((x.1 : Int) - 1))]) (fun x => [(some b3, 52, natCells .u32 x.2.1), (some b2, 52, natCells .u32 x.2.2)]) (fun _ => [])
    (fun x => x.1 ≤ a.length - (k + 1) ∧ x.2.1.length = a.length - (k + 1) ∧ (∀ z ∈ x.2.1, z < 4294967296) ∧ x.2.2.length = a.length + 1 ∧ (∀ z ∈ x.2.2, z < 4294967296) ∧ val (x.2.2.drop x.1) < val v ∧ val x.2.2 + 4294967296 ^ x.1 * val v * val (x.2.1.drop x.1) = val a * 2 ^ s)
    (fun x => x.1) (a.length - (k + 1), List.replicate (lu.length - v.length) 0, lu) [] rfl rfl rfl ⟨Nat.le_refl _, by simp; omega, rep_lt (by decide), hlu, hluB, hst, by simp only; rw [List.drop_of_length_le (by simp; omega), hluV]; simp [val]⟩ (by repeat (first | exact Fr.sub_nil _ | refine Fr.sub_cons rfl ?_ | refine Fr.sub_consI rfl (by dsimp only; omega) ?_)) rfl rfl ?_
  rintro ⟨i, quo, uu⟩ ⟨hi, hql, hqB, hul, huB, hud, he⟩ ih
  simp only [List.cons_append, List.nil_append] at hi hql hqB hul huB hud he ih ⊢
  by_cases hi0 : 0 < i
  · obtain ⟨j, rfl⟩ : ∃ j, i = j + 1 := ⟨i - 1, by omega⟩
    rw [show (((j + 1 : Nat) : Int) - 1) = (j : Int) by omega]
    refine j_nf [.o [1, 1, 1, 1, 1, 1, 0, 1, 0, 0, 0, 0] 0, .c [1, 1, 1, 1, 1, 1, 0, 1, 0, 0, 0, 1], .c [1, 1, 1, 1, 1, 1, 0, 1, 0, 0, 1], .lp [1, 1, 1, 1, 1, 1, 0, 1, 0, 0], .blk 0, .c [1, 1, 1, 1, 1, 1, 1]] rfl ?_
    refine j_run it 2 rfl (by simp) ?_
    refine j_nf [.c [1, 1, 1, 1, 1, 1, 0, 1, 0, 0, 0, 1], .c [1, 1, 1, 1, 1, 1, 0, 1, 0, 0, 1], .lp [1, 1, 1, 1, 1, 1, 0, 1, 0, 0], .blk 0, .c [1, 1, 1, 1, 1, 1, 1]] rfl ?_
    refine j_if rfl rfl (fun h1 => ?_) (fun h1 => by exfalso; omega)
    refine j_nf [.o [1, 1, 1, 1, 1, 1, 0, 1, 0, 0, 1, 0, 0] 0, .blk 1, .c [1, 1, 1, 1, 1, 1, 0, 1, 0, 0, 1, 1], .lp [1, 1, 1, 1, 1, 1, 0, 1, 0, 0], .blk 0, .c [1, 1, 1, 1, 1, 1, 1]] rfl ?_
    refine j_run it 8 rfl (by repeat' first | exact trivial | apply And.intro | omega) ?_
    refine j_step rfl (x_slice_own (j) (((j) + (v.length)) + 1) (j) rfl rfl rfl sl35 (by omega) (by omega) (by omega) (by omega) (by omega) (by omega) ?_)
    refine j_run it 1 rfl (by simp) ?_
    rw [show j + v.length + 1 - j = k + 3 by omega]
    obtain ⟨pre, mid, post, rfl, hpre, hmid⟩ : ∃ pre mid post, uu = pre ++ mid ++ post ∧ pre.length = j ∧ mid.length = k + 3 :=
      ⟨uu.take j, (uu.drop j).take (k + 3), (uu.drop j).drop (k + 3), by rw [List.append_assoc, List.take_append_drop, List.take_append_drop], by simp; omega, by simp; omega⟩
    have hmidB : ∀ x ∈ mid, x < 4294967296 := fun x hx => huB x (by simp [hx])
    have hpost0 : val post = 0 := by
      have h1 : (pre ++ mid ++ post).drop (j + 1) = mid.drop 1 ++ post := by
        rw [List.append_assoc, ← List.drop_drop, List.drop_append_of_le_length (by omega), List.drop_of_length_le (l := pre) (by omega), List.nil_append, List.drop_append_of_le_length (by omega)]
      rw [h1] at hud
      have h2 := drop_zero (k := k + 2) (Nat.lt_trans hud (by rw [hVl] at hVB; exact hVB))
      rw [List.drop_append_of_le_length (by simp; omega), List.drop_of_length_le (l := mid.drop 1) (by simp; omega), List.nil_append] at h2
      exact h2
    have hval : ∀ mm : List Nat, mm.length = k + 3 → val (pre ++ mm ++ post) = val pre + 4294967296 ^ j * val mm := fun mm hmm => by
      rw [List.append_assoc, val_append, val_append, hpost0, Nat.mul_zero, Nat.add_zero, hpre]
    have hdropj : ∀ mm : List Nat, (pre ++ mm ++ post).drop j = mm ++ post := fun mm => by
      rw [List.append_assoc, List.drop_append_of_le_length (by omega), List.drop_of_length_le (l := pre) (by omega), List.nil_append]
    have hUV : val mid < 4294967296 * val v := by
      have h1 : val (mid ++ post) = val mid := by rw [val_append, hpost0, Nat.mul_zero, Nat.add_zero]
      obtain ⟨x, hx⟩ : ∃ x, (pre ++ mid ++ post)[j]? = some x := ⟨(pre ++ mid ++ post)[j], by simp⟩
      have h2 := val_drop hx
      rw [hdropj, h1] at h2
      have := huB x (List.mem_of_getElem? hx)
      omega
    refine j_step rfl (x_callB 1 [0] rfl rfl (S_nat_step (k := k) (post := post) hpre hmid hVl (by omega) (by omega) hmidB hw hwn hUV) rfl ?_)
    rintro _ _ _ ⟨rfl, rfl, mid', hm', hmB', hmV, rfl⟩
    simp only [List.nil_append, List.cons_append]
    refine j_step rfl (x_idx_own (j) (j) rfl rfl sl35 rfl (by omega) (Nat.mul_one _) ?_)
    refine j_step rfl (x_bst_nat 1 (val mid / val v) rfl rfl rfl ld52 (by first | rfl | omega) (by first | omega | (simp; omega)) ?_)
    refine j_nf [.o [1, 1, 1, 1, 1, 1, 0, 1, 0, 0, 1, 1] 0, .lp [1, 1, 1, 1, 1, 1, 0, 1, 0, 0], .blk 0, .c [1, 1, 1, 1, 1, 1, 1]] rfl ?_
    refine j_run it 3 rfl (by repeat' first | exact trivial | apply And.intro | omega) ?_
    refine j_nfn 1 [.lp [1, 1, 1, 1, 1, 1, 0, 1, 0, 0], .blk 0, .c [1, 1, 1, 1, 1, 1, 1]] rfl ?_
    refine j_perm (List.Perm.swap _ _ _) ?_
    have hqd : val mid / val v < 4294967296 := by rw [Nat.div_lt_iff_lt_mul hV0]; exact hUV
    refine j_to [0, 1, 2, 3, 4] (by repeat (first | exact Fr.sub_nil _ | refine Fr.sub_cons rfl ?_ | refine Fr.sub_consI rfl (by first | omega | (dsimp only; omega)) ?_ | refine Fr.sub_consS rfl (by first | omega | (dsimp only; omega)) (by first | omega | (dsimp only; omega)) ?_)) rfl rfl (ih (j, quo.set j (val mid / val v), pre ++ mid' ++ post) (by simp only; omega) ⟨by simp only; omega, by simpa using hql, set_lt hqB hqd, by simp at hul ⊢; omega, fun x hx => by
      simp only [List.mem_append] at hx
      rcases hx with (hx | hx) | hx
      · exact huB x (by simp [hx])
      · exact hmB' x hx
      · exact huB x (by simp [hx]), by
      simp only
      rw [hdropj, val_append, hpost0, Nat.mul_zero, Nat.add_zero, hmV]
      exact Nat.mod_lt _ hV0, by
      simp only
      rw [hval mid' hm', val_set_drop (by omega)]
      rw [hval mid hmid, Nat.pow_succ] at he
      exact long_step he rfl hmV⟩)
  · have hi00 : i = 0 := by omega
    subst hi00
    rw [List.drop_zero] at hud he
    rw [Nat.pow_zero, Nat.one_mul] at he
    obtain ⟨hQ, hR⟩ := long_end he hvV hud hs0
    refine j_nf [.o [1, 1, 1, 1, 1, 1, 0, 1, 0, 0, 0, 0] 0, .c [1, 1, 1, 1, 1, 1, 0, 1, 0, 0, 0, 1], .c [1, 1, 1, 1, 1, 1, 0, 1, 0, 0, 1], .lp [1, 1, 1, 1, 1, 1, 0, 1, 0, 0], .blk 0, .c [1, 1, 1, 1, 1, 1, 1]] rfl ?_
    refine j_run it 2 rfl (by simp) ?_
    refine j_nf [.c [1, 1, 1, 1, 1, 1, 0, 1, 0, 0, 0, 1], .c [1, 1, 1, 1, 1, 1, 0, 1, 0, 0, 1], .lp [1, 1, 1, 1, 1, 1, 0, 1, 0, 0], .blk 0, .c [1, 1, 1, 1, 1, 1, 1]] rfl ?_
    refine j_if rfl rfl (fun h1 => by exfalso; omega) (fun h1 => ?_)
    refine j_nf [.o [1, 1, 1, 1, 1, 1, 1, 0] 0, .c [1, 1, 1, 1, 1, 1, 1, 1]] rfl ?_
    refine j_run it 1 rfl (by simp) ?_
    refine j_step rfl (x_make_nat (v.length) _ rfl rfl sl35 zo35e by35e (by omega) (by omega) (by omega) fun b4 => ?_)
    refine j_run it 1 rfl (by simp) ?_
    refine j_nf [.o [1, 1, 1, 1, 1, 1, 1, 1, 0, 0] 0, .c [1, 1, 1, 1, 1, 1, 1, 1, 0, 1], .c [1, 1, 1, 1, 1, 1, 1, 1, 1]] rfl ?_
    refine j_run it 1 rfl (by simp) ?_
    refine j_step rfl (x_len sl35 rfl ?_)
    refine j_run it 1 rfl (by simp) ?_
    refine j_nf [.c [1, 1, 1, 1, 1, 1, 1, 1, 0, 1, 0], .blk 2, .c [1, 1, 1, 1, 1, 1, 1, 1, 1]] rfl ?_
    refine j_loopG (X := Nat × List Nat) [4, 5, 6, 8, 57] [0, 1, 2, 3, 4] (fun x => [(58, .int .i64 x.1)]) (fun x => [(some b4, 52, natCells .u32 x.2), (some b3, 52, natCells .u32 quo), (some b2, 52, natCells .u32 uu)]) (fun _ => [])
      (fun x => x.1 ≤ v.length ∧ x.2.length = v.length ∧ (∀ z ∈ x.2, z < 4294967296) ∧ val (x.2.take x.1) = val uu / 2 ^ s % 4294967296 ^ x.1)
      (fun x => v.length - x.1) (0, List.replicate v.length 0) [] rfl rfl rfl ⟨Nat.zero_le _, by simp, rep_lt (by decide), by simp [val, Nat.mod_one]⟩ (by repeat (first | exact Fr.sub_nil _ | refine Fr.sub_cons rfl ?_)) rfl rfl ?_
    rintro ⟨i, rem⟩ ⟨hi2, hrl, hrB, hrv⟩ ih2
    simp only [List.cons_append, List.nil_append] at hi2 hrl hrB hrv ih2 ⊢
    by_cases hil : i < v.length
    · obtain ⟨x, hx⟩ : ∃ x, uu[i]? = some x := ⟨uu[i], by simp⟩
      obtain ⟨y, hy⟩ : ∃ y, uu[i + 1]? = some y := ⟨uu[i + 1], by simp⟩
      have hxB := huB x (List.mem_of_getElem? hx)
      have hyB := huB y (List.mem_of_getElem? hy)
      refine j_nf [.o [1, 1, 1, 1, 1, 1, 1, 1, 0, 1, 0, 0, 0] 0, .c [1, 1, 1, 1, 1, 1, 1, 1, 0, 1, 0, 0, 1], .lp [1, 1, 1, 1, 1, 1, 1, 1, 0, 1, 0, 0], .blk 2, .c [1, 1, 1, 1, 1, 1, 1, 1, 1]] rfl ?_
      refine j_run it 1 rfl (by simp) ?_
      refine j_nf [.c [1, 1, 1, 1, 1, 1, 1, 1, 0, 1, 0, 0, 1, 0], .c [1, 1, 1, 1, 1, 1, 1, 1, 0, 1, 0, 0, 1, 1], .lp [1, 1, 1, 1, 1, 1, 1, 1, 0, 1, 0, 0], .blk 2, .c [1, 1, 1, 1, 1, 1, 1, 1, 1]] rfl ?_
      refine j_if rfl rfl (fun h2 => ?_) (fun h2 => by exfalso; omega)
      refine j_nf [.o [1, 1, 1, 1, 1, 1, 1, 1, 0, 1, 0, 0, 1, 1, 0, 0, 0] 0, .c [1, 1, 1, 1, 1, 1, 1, 1, 0, 1, 0, 0, 1, 1, 0, 0, 1], .blk 3, .c [1, 1, 1, 1, 1, 1, 1, 1, 0, 1, 0, 0, 1, 1, 1], .lp [1, 1, 1, 1, 1, 1, 1, 1, 0, 1, 0, 0], .blk 2, .c [1, 1, 1, 1, 1, 1, 1, 1, 1]] rfl ?_
      refine j_run it 2 rfl (by simp) ?_
      refine j_nf [.c [1, 1, 1, 1, 1, 1, 1, 1, 0, 1, 0, 0, 1, 1, 0, 0, 1], .blk 3, .c [1, 1, 1, 1, 1, 1, 1, 1, 0, 1, 0, 0, 1, 1, 1], .lp [1, 1, 1, 1, 1, 1, 1, 1, 0, 1, 0, 0], .blk 2, .c [1, 1, 1, 1, 1, 1, 1, 1, 1]] rfl ?_
      (apply j_drawK it mx 19; (· rfl); (· rfl))
      (apply lxk_run 4; (· rfl); (· simp))
      (apply lxk_eq; (· rfl); (· exact d_x fun _ => x_idx_own (i) (i) rfl rfl sl35 rfl (by omega) (Nat.mul_one _) dk_eq))
      (apply lxk_eq; (· rfl); (· exact d_bld_nat 2 rfl rfl ld52 (by assumption)))
      (apply lxk_run 4; (· rfl); (· exact (by repeat' first | exact trivial | apply And.intro | omega)))
      (apply lxk_eq; (· rfl); (· exact d_x fun _ => x_idx_own ((i) + 1) ((i) + 1) rfl rfl sl35 (by omega) (by omega) (Nat.mul_one _) dk_eq))
      (apply lxk_eq; (· rfl); (· exact d_bld_nat 2 rfl rfl ld52 (by assumption)))
      (apply lxk_run 2; (· rfl); (· exact (by repeat' first | exact trivial | apply And.intro | omega)))
      (apply lxk_eq; (· rfl); (· exact d_x fun _ => x_or_nat (x) ((y) * 4294967296) rfl rfl (by first | rfl | omega) (by first | rfl | omega) (by omega) (by omega) dk_eq))
      (apply lxk_run 1; (· rfl); (· simp))
      (apply lxk_eq; (· rfl); (· exact d_x fun _ => x_shr_nat (x ||| y * 4294967296) (s) rfl rfl (by first | rfl | omega) (by first | rfl | omega) (by first | decide | (simp only [IntKind.bits]; omega)) dk_eq))
      (apply lxk_eq; (· rfl); (· exact d_x fun _ => x_conv_u32 it rfl rfl rfl dk_eq))
      (apply lxk_eq; (· rfl); (· exact d_x fun _ => x_idx_own (i) (i) rfl rfl sl35 rfl (by omega) (Nat.mul_one _) dk_eq))
      refine lxk_end rfl ?_
      simp only [List.map_cons, List.map_nil, List.cons_append, List.nil_append]
      refine j_step rfl (x_bst_nat 0 (((x ||| y * 4294967296) / 2 ^ s) % 4294967296) rfl rfl rfl ld52 (by first | rfl | omega) (by first | omega | (simp; omega)) ?_)
      refine j_nf [.o [1, 1, 1, 1, 1, 1, 1, 1, 0, 1, 0, 0, 1, 1, 1] 0, .lp [1, 1, 1, 1, 1, 1, 1, 1, 0, 1, 0, 0], .blk 2, .c [1, 1, 1, 1, 1, 1, 1, 1, 1]] rfl ?_
      refine j_run it 2 rfl (by repeat' first | exact trivial | apply And.intro | omega) ?_
      refine j_nfn 1 [.lp [1, 1, 1, 1, 1, 1, 1, 1, 0, 1, 0, 0], .blk 2, .c [1, 1, 1, 1, 1, 1, 1, 1, 1]] rfl ?_
      have eor : x ||| y * 4294967296 = x + 4294967296 * y := by
        have h := or_low (x := y) (n := 32) (c := x) hxB
        rw [show (2 : Nat) ^ 32 = 4294967296 from rfl] at h
        rw [Nat.or_comm, h]; omega
      rw [eor]
      refine j_to [0, 1, 2, 3, 4] (by repeat (first | exact Fr.sub_nil _ | refine Fr.sub_cons rfl ?_ | refine Fr.sub_consI rfl (by first | omega | (dsimp only; omega)) ?_ | refine Fr.sub_consS rfl (by first | omega | (dsimp only; omega)) (by first | omega | (dsimp only; omega)) ?_)) rfl rfl (ih2 (i + 1, rem.set i ((x + 4294967296 * y) / 2 ^ s % 4294967296)) (by simp only; omega) ⟨by simp only; omega, by simpa using hrl, set_lt hrB (Nat.mod_lt _ (by decide)), by
        simp only
        rw [val_set_take (by omega), hrv, rem_digit huB hx hy hn32]⟩)
    · have ei : i = v.length := by omega
      subst ei
      have hrv' : val rem = val a % val b := by
        rw [← hrl, List.take_length, hrl, hR, Nat.mul_div_cancel _ hs0] at hrv
        rw [hrv]
        refine Nat.mod_eq_of_lt (Nat.lt_of_le_of_lt ?_ (Nat.lt_trans hud hVB))
        rw [hR]
        exact Nat.le_mul_of_pos_right _ hs0
      refine j_nf [.o [1, 1, 1, 1, 1, 1, 1, 1, 0, 1, 0, 0, 0] 0, .c [1, 1, 1, 1, 1, 1, 1, 1, 0, 1, 0, 0, 1], .lp [1, 1, 1, 1, 1, 1, 1, 1, 0, 1, 0, 0], .blk 2, .c [1, 1, 1, 1, 1, 1, 1, 1, 1]] rfl ?_
      refine j_run it 1 rfl (by simp) ?_
      refine j_nf [.c [1, 1, 1, 1, 1, 1, 1, 1, 0, 1, 0, 0, 1, 0], .c [1, 1, 1, 1, 1, 1, 1, 1, 0, 1, 0, 0, 1, 1], .lp [1, 1, 1, 1, 1, 1, 1, 1, 0, 1, 0, 0], .blk 2, .c [1, 1, 1, 1, 1, 1, 1, 1, 1]] rfl ?_
      refine j_if rfl rfl (fun h2 => by exfalso; omega) (fun h2 => ?_)
      refine j_nf [.o [1, 1, 1, 1, 1, 1, 1, 1, 1, 0] 0, .c [1, 1, 1, 1, 1, 1, 1, 1, 1, 1]] rfl ?_
      refine j_run it 4 rfl (by simp) ?_
      refine j_nf [.c [1, 1, 1, 1, 1, 1, 1, 1, 1, 1]] rfl ?_
      refine j_pub32 (n := v.length) 0 rfl hrl hrB (by omega) ?_
      refine j_pub32 (n := lu.length - v.length) 0 rfl (by omega) hqB (by omega) ?_
      have e1 : lu.length - v.length = quo.length := by omega
      rw [e1, ← hrl]
      refine j_giv [0, 1] rfl rfl rfl ⟨quo, rem, _, _, _, _, rfl, rfl, rfl, hQ, hrv'⟩
end Go.Proofs.Ytpoonnjaobjdgaa
