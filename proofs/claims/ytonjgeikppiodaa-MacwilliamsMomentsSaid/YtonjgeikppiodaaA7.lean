/-
Contracts of nat.Pow, for small bases and exponents.
-/
import Derived.Test.YtonjgeikppiodaaFuns
import Derived.Test.YtonjgeikppiodaaNatMath
import Derived.Test.YtonjgeikppiodaaNatMath2
import Derived.Test.YtonjgeikppiodaaNatMath3
import Derived.Test.YtonjgeikppiodaaA1
import Derived.Test.YtonjgeikppiodaaA2
import Derived.Test.YtonjgeikppiodaaA3
import Derived.Test.YtonjgeikppiodaaA4
import Derived.Test.YtonjgeikppiodaaA5
import Derived.Test.YtonjgeikppiodaaA6
namespace Go.Proofs.Ytonjgeikppiodaa
open Go Go.Fw
set_option maxRecDepth 100000
set_option linter.unusedVariables false
set_option maxHeartbeats 1000000
/-- A slice and an int. -/
abbrev S2 {α : Type} (E : Enc α) (l : List α) (e : Int) : Value → List Fact → List Blk → Prop := fun v Φ β => ∃ pa ca, v = .tuple #[.slice pa l.length ca, .int .i64 e] ∧ Φ = [slF E pa l.length ca l] ∧ β = []

theorem pow_len {a n k : Nat} (h : a < 4294967296) (hn : n ≤ k) : (limbs (a ^ n)).length ≤ k + 1 := by
  refine limbs_length_le ?_
  have h1 : a ^ n ≤ 4294967296 ^ n := Nat.pow_le_pow_left (by omega) n
  have h2 : 4294967296 ^ n ≤ 4294967296 ^ k := Nat.pow_le_pow_right (by omega) hn
  have h3 : 0 < 4294967296 ^ k := Nat.pow_pos (by omega)
  rw [Nat.pow_succ]; omega

theorem S_nat_Pow {pa : Option Addr} {m ca n : Nat} {l : List Nat} (hl : val l < 4294967296) (hn : n ≤ 4000) : Ctr Try.prog 12 [.slice pa m ca, .int .i64 n] [] [slF U32 pa m ca l] (S2 U32 (limbs (val l ^ n)) 0) := by
  refine Ctr_of_j' (F := F_nat_Pow) rfl fun C => ?_
  refine j_len 0 rfl fun hm _ _ => ?_
  subst hm
  refine j_range 0 rfl fun hr => ?_
  have hrr : ∀ x ∈ l, x < 4294967296 := fun x hx => by have := hr x hx; simp only [InR] at this; omega
  have ht : trim l = limbs (val l) := trim_eq hrr
  have hbl := bitsL_small ht hl
  have h32 : blen (val l) ≤ 32 := blen_le (by simpa using hl)
  rw [← hbl] at h32
  have hmul : ((bitsL l : Int) - 1) * n ≤ 124000 := by
    have := Int.mul_le_mul (show (bitsL l : Int) - 1 ≤ 31 by omega) (show (n : Int) ≤ 4000 by omega) (by omega) (by decide)
    omega
  have hmul0 : 0 < bitsL l → 0 ≤ ((bitsL l : Int) - 1) * n := fun h => Int.mul_nonneg (by omega) (by omega)
  by_cases h0 : n = 0
  · subst h0
    have hone : (limbs (val l ^ 0)) = [1] := by rw [Nat.pow_zero, limbs_one]
    refine j_nf [.o [0] 0, .c [1]] rfl ?_
    refine j_run it 2 rfl (by simp) ?_
    refine j_nf [.o [1, 0, 0] 0, .c [1, 0, 1], .c [1, 1]] rfl ?_
    refine j_run it 2 rfl (by simp) ?_
    refine j_nf [.c [1, 0, 1], .c [1, 1]] rfl ?_
    refine j_if rfl rfl (fun h1 => by exfalso; omega) (fun h1 => ?_)
    refine j_nf [.o [1, 1, 0] 0, .c [1, 1, 1]] rfl ?_
    refine j_run it 1 rfl (by simp) ?_
    refine j_step rfl (x_call [0] rfl (S_nat_Bits) rfl ?_)
    rintro _ _ _ ⟨rfl, rfl, rfl⟩
    simp only [List.cons_append, List.nil_append]
    refine j_run it 1 rfl (by simp) ?_
    refine j_nf [.o [1, 1, 1, 0, 0, 0] 0, .c [1, 1, 1, 0, 0, 1], .blk 0, .c [1, 1, 1, 1]] rfl ?_
    refine j_run it 7 rfl (by simp) ?_
    refine j_nf [.c [1, 1, 1, 0, 0, 1], .blk 0, .c [1, 1, 1, 1]] rfl ?_
    refine j_true rfl rfl ?_
    refine j_nf [.o [1, 1, 1, 0, 0, 1, 0, 0] 0, .c [1, 1, 1, 0, 0, 1, 0, 1], .blk 0, .c [1, 1, 1, 1]] rfl ?_
    refine j_step rfl (x_lit sl25 zo25e rfl rfl rfl rfl (by decide) (by decide) rfl fun b1 => ?_)
    refine j_run it 2 rfl (by simp) ?_
    refine j_nf [.c [1, 1, 1, 0, 0, 1, 0, 1], .blk 0, .c [1, 1, 1, 1]] rfl ?_
    refine j_pub_made (n := 1) (kd := .u32) 4 [1] 0 rfl rfl (by simp [InR]) (by decide) (by decide) ?_
    refine j_giv [0] rfl rfl rfl ⟨_, _, by rw [hone]; rfl, by rw [hone]; rfl, rfl⟩
  by_cases h1 : val l = 1
  · have hone : (limbs (val l ^ n)) = [1] := by rw [h1, Nat.one_pow, limbs_one]
    have hb1 : bitsL l = 1 := by rw [hbl]; exact blen_eq_one.2 h1
    refine j_nf [.o [0] 0, .c [1]] rfl ?_
    refine j_run it 2 rfl (by simp) ?_
    refine j_nf [.o [1, 0, 0] 0, .c [1, 0, 1], .c [1, 1]] rfl ?_
    refine j_run it 2 rfl (by simp) ?_
    refine j_nf [.c [1, 0, 1], .c [1, 1]] rfl ?_
    refine j_if rfl rfl (fun h2 => by exfalso; omega) (fun h2 => ?_)
    refine j_nf [.o [1, 1, 0] 0, .c [1, 1, 1]] rfl ?_
    refine j_run it 1 rfl (by simp) ?_
    refine j_step rfl (x_call [0] rfl (S_nat_Bits) rfl ?_)
    rintro _ _ _ ⟨rfl, rfl, rfl⟩
    simp only [List.cons_append, List.nil_append]
    refine j_run it 1 rfl (by simp) ?_
    refine j_nf [.o [1, 1, 1, 0, 0, 0] 0, .c [1, 1, 1, 0, 0, 1], .blk 0, .c [1, 1, 1, 1]] rfl ?_
    refine j_run it 3 rfl (by simp) ?_
    refine j_split_dec (t := 16) rfl (fun h3 => by exfalso; omega) (fun h3 => ?_)
    refine j_run it 4 rfl (by simp) ?_
    refine j_nf [.c [1, 1, 1, 0, 0, 1], .blk 0, .c [1, 1, 1, 1]] rfl ?_
    refine j_if rfl rfl (fun h4 => ?_) (fun h4 => by exfalso; omega)
    refine j_nf [.o [1, 1, 1, 0, 0, 1, 0, 0] 0, .c [1, 1, 1, 0, 0, 1, 0, 1], .blk 0, .c [1, 1, 1, 1]] rfl ?_
    refine j_step rfl (x_lit sl25 zo25e rfl rfl rfl rfl (by decide) (by decide) rfl fun b1 => ?_)
    refine j_run it 2 rfl (by simp) ?_
    refine j_nf [.c [1, 1, 1, 0, 0, 1, 0, 1], .blk 0, .c [1, 1, 1, 1]] rfl ?_
    refine j_pub_made (n := 1) (kd := .u32) 4 [1] 0 rfl rfl (by simp [InR]) (by decide) (by decide) ?_
    refine j_giv [0] rfl rfl rfl ⟨_, _, by rw [hone]; rfl, by rw [hone]; rfl, rfl⟩
  have hb1 : bitsL l ≠ 1 := by rw [hbl]; exact fun h => h1 (blen_eq_one.1 h)
  by_cases h2 : val l = 0
  · have hz : (limbs (val l ^ n)) = [] := by rw [h2, Nat.zero_pow (by omega), limbs_zero]
    have hb0 : bitsL l = 0 := by rw [hbl]; exact blen_eq_zero.2 h2
    refine j_nf [.o [0] 0, .c [1]] rfl ?_
    refine j_run it 2 rfl (by simp) ?_
    refine j_nf [.o [1, 0, 0] 0, .c [1, 0, 1], .c [1, 1]] rfl ?_
    refine j_run it 2 rfl (by simp) ?_
    refine j_nf [.c [1, 0, 1], .c [1, 1]] rfl ?_
    refine j_if rfl rfl (fun h3 => by exfalso; omega) (fun h3 => ?_)
    refine j_nf [.o [1, 1, 0] 0, .c [1, 1, 1]] rfl ?_
    refine j_run it 1 rfl (by simp) ?_
    refine j_step rfl (x_call [0] rfl (S_nat_Bits) rfl ?_)
    rintro _ _ _ ⟨rfl, rfl, rfl⟩
    simp only [List.cons_append, List.nil_append]
    refine j_run it 1 rfl (by simp) ?_
    refine j_nf [.o [1, 1, 1, 0, 0, 0] 0, .c [1, 1, 1, 0, 0, 1], .blk 0, .c [1, 1, 1, 1]] rfl ?_
    refine j_run it 3 rfl (by simp) ?_
    refine j_split_dec (t := 16) rfl (fun h4 => by exfalso; omega) (fun h4 => ?_)
    refine j_run it 4 rfl (by simp) ?_
    refine j_nf [.c [1, 1, 1, 0, 0, 1], .blk 0, .c [1, 1, 1, 1]] rfl ?_
    refine j_if rfl rfl (fun h5 => by exfalso; omega) (fun h5 => ?_)
    refine j_nf [.o [1, 1, 1, 0, 0, 1, 1, 0] 0, .c [1, 1, 1, 0, 0, 1, 1, 1], .blk 0, .c [1, 1, 1, 1]] rfl ?_
    refine j_run it 3 rfl (by simp) ?_
    refine j_nf [.c [1, 1, 1, 0, 0, 1, 1, 1], .blk 0, .c [1, 1, 1, 1]] rfl ?_
    refine j_if rfl rfl (fun h6 => ?_) (fun h6 => by exfalso; omega)
    refine j_nf [.o [1, 1, 1, 0, 0, 1, 1, 1, 0, 0] 0, .c [1, 1, 1, 0, 0, 1, 1, 1, 0, 1], .blk 0, .c [1, 1, 1, 1]] rfl ?_
    refine j_run it 2 rfl (by simp) ?_
    refine j_nf [.c [1, 1, 1, 0, 0, 1, 1, 1, 0, 1], .blk 0, .c [1, 1, 1, 1]] rfl ?_
    refine j_add (slF U32 none 0 0 []) (fun w A _ => slF_nil _ _ _ _ _) ?_
    refine j_giv [0] rfl rfl rfl ⟨_, _, by rw [hz]; rfl, by rw [hz]; rfl, rfl⟩
  have hb0 : bitsL l ≠ 0 := by rw [hbl]; exact fun h => h2 (blen_eq_zero.1 h)
  have hm0 := hmul0 (by omega)
  have hW := pow_len hl (show n ≤ 4000 from hn)
  refine j_nf [.o [0] 0, .c [1]] rfl ?_
  refine j_run it 2 rfl (by simp) ?_
  refine j_nf [.o [1, 0, 0] 0, .c [1, 0, 1], .c [1, 1]] rfl ?_
  refine j_run it 2 rfl (by simp) ?_
  refine j_nf [.c [1, 0, 1], .c [1, 1]] rfl ?_
  refine j_if rfl rfl (fun h3 => by exfalso; omega) (fun h3 => ?_)
  refine j_nf [.o [1, 1, 0] 0, .c [1, 1, 1]] rfl ?_
  refine j_run it 1 rfl (by simp) ?_
  refine j_step rfl (x_call [0] rfl (S_nat_Bits) rfl ?_)
  rintro _ _ _ ⟨rfl, rfl, rfl⟩
  simp only [List.cons_append, List.nil_append]
  refine j_run it 1 rfl (by simp) ?_
  refine j_nf [.o [1, 1, 1, 0, 0, 0] 0, .c [1, 1, 1, 0, 0, 1], .blk 0, .c [1, 1, 1, 1]] rfl ?_
  refine j_run it 3 rfl (by simp) ?_
  refine j_split_dec (t := 16) rfl (fun h4 => by exfalso; omega) (fun h4 => ?_)
  refine j_run it 4 rfl (by simp) ?_
  refine j_nf [.c [1, 1, 1, 0, 0, 1], .blk 0, .c [1, 1, 1, 1]] rfl ?_
  refine j_if rfl rfl (fun h5 => by exfalso; omega) (fun h5 => ?_)
  refine j_nf [.o [1, 1, 1, 0, 0, 1, 1, 0] 0, .c [1, 1, 1, 0, 0, 1, 1, 1], .blk 0, .c [1, 1, 1, 1]] rfl ?_
  refine j_run it 3 rfl (by simp) ?_
  refine j_nf [.c [1, 1, 1, 0, 0, 1, 1, 1], .blk 0, .c [1, 1, 1, 1]] rfl ?_
  refine j_if rfl rfl (fun h6 => by exfalso; omega) (fun h6 => ?_)
  refine j_nf [.o [1, 1, 1, 0, 0, 1, 1, 1, 1, 0] 0, .c [1, 1, 1, 0, 0, 1, 1, 1, 1, 1], .blk 0, .c [1, 1, 1, 1]] rfl ?_
  refine j_run it 3 rfl (by simp) ?_
  refine j_split_dec (t := 27) rfl (fun h7 => by exfalso; omega) (fun h7 => ?_)
  refine j_run it 7 rfl (by repeat' first | exact trivial | apply And.intro | omega) ?_
  refine j_nf [.c [1, 1, 1, 0, 0, 1, 1, 1, 1, 1], .blk 0, .c [1, 1, 1, 1]] rfl ?_
  refine j_if rfl rfl (fun h8 => by exfalso; omega) (fun h8 => ?_)
  refine j_nf [.o [1, 1, 1, 1, 0] 0, .c [1, 1, 1, 1, 1]] rfl ?_
  refine j_step rfl (x_lit sl25 zo25e rfl rfl rfl rfl (by decide) (by decide) rfl fun b1 => ?_)
  refine j_run it 1 rfl (by simp) ?_
  refine j_step rfl (x_call [0] rfl (S_nat_short) rfl ?_)
  rintro _ _ _ ⟨rfl, rfl, rfl⟩
  simp only [List.cons_append, List.nil_append]
  refine j_run it 2 rfl (by simp) ?_
  refine j_nf [.c [1, 1, 1, 1, 1, 0, 0], .blk 1, .c [1, 1, 1, 1, 1, 1]] rfl ?_
  refine j_pub_made (n := 1) (kd := .u32) 4 [1] 0 rfl rfl (by simp [InR]) (by decide) (by decide) ?_
  rw [ht]
  have e1 : limbs 1 = [1] := limbs_one
  refine j_loopN (X := Nat × Nat × Nat × (Option Addr × Nat) × (Option Addr × Nat)) (fun x => [(1, .int .i64 x.1), (7, .slice x.2.2.2.1.1 (limbs x.2.1).length x.2.2.2.1.2), (8, .slice x.2.2.2.2.1 (limbs x.2.2.1).length x.2.2.2.2.2)])
    (fun _ => []) (fun x => [slF U32 x.2.2.2.1.1 (limbs x.2.1).length x.2.2.2.1.2 (limbs x.2.1), slF U32 x.2.2.2.2.1 (limbs x.2.2.1).length x.2.2.2.2.2 (limbs x.2.2.1)])
    (fun x => 1 ≤ x.1 ∧ x.1 ≤ 4000 ∧ 1 ≤ x.2.1 ∧ 1 ≤ x.2.2.1 ∧ x.2.1 * x.2.2.1 ^ x.1 = val l ^ n) (fun x => x.1) (n, 1, val l, (some ⟨b1, 0, none⟩, 1), (pa, (limbs (val l)).length)) [0, 1] rfl
    ⟨by simp only; omega, hn, Nat.le_refl _, by simp only; omega, by simp⟩ (by simp only [e1]; repeat (first | exact Fr.sub_nil _ | refine Fr.sub_cons rfl ?_)) rfl (by simp only [e1]; rfl) ?_
  rintro ⟨k, o, s, ⟨po, co⟩, ⟨ps, cs⟩⟩ ⟨hk1, hk2, ho, hs, hv⟩ ih
  simp only at hk1 hk2 ho hs hv ih ⊢
  obtain ⟨hoW, hsW, hosW⟩ := pow_bounds hv ho hs hk1
  have lo := limbs_mono hW hoW
  have ls := limbs_mono hW hsW
  have los := limbs_mono hW hosW
  have lx : (limbs (val (limbs o) * val (limbs s))).length ≤ 4001 := by rw [val_limbs, val_limbs]; exact los
  have hss : 1 ≤ s * s := Nat.mul_pos hs hs
  by_cases hodd : k % 2 = 1
  · by_cases hk : k = 1
    · have hend : o * s = val l ^ n := by rw [← hv, hk, Nat.pow_one]
      refine j_nf [.o [1, 1, 1, 1, 1, 0, 0, 0, 0, 0, 0] 0, .c [1, 1, 1, 1, 1, 0, 0, 0, 0, 0, 1], .c [1, 1, 1, 1, 1, 0, 0, 0, 0, 1], .blk 2, .lp [1, 1, 1, 1, 1, 0, 0, 0], .blk 1, .c [1, 1, 1, 1, 1, 1]] rfl ?_
      refine j_run it 1 rfl (by simp) ?_
      refine j_step rfl (x_and_one (k) rfl rfl (by first | rfl | omega) (by omega) ?_)
      refine j_run it 1 rfl (by simp) ?_
      refine j_nf [.c [1, 1, 1, 1, 1, 0, 0, 0, 0, 0, 1], .c [1, 1, 1, 1, 1, 0, 0, 0, 0, 1], .blk 2, .lp [1, 1, 1, 1, 1, 0, 0, 0], .blk 1, .c [1, 1, 1, 1, 1, 1]] rfl ?_
      refine j_if rfl rfl (fun h9 => ?_) (fun h9 => by exfalso; omega)
      refine j_nf [.o [1, 1, 1, 1, 1, 0, 0, 0, 0, 0, 1, 0] 0, .c [1, 1, 1, 1, 1, 0, 0, 0, 0, 1], .blk 2, .lp [1, 1, 1, 1, 1, 0, 0, 0], .blk 1, .c [1, 1, 1, 1, 1, 1]] rfl ?_
      refine j_run it 2 rfl (by simp) ?_
      refine j_step rfl (x_call [0, 1] rfl (S_nat_times (by first | omega | exact side _ (by assumption) | assumption | (simp; done) | (simp; omega)) (by first | omega | exact side _ (by assumption) | assumption | (simp; done) | (simp; omega))) rfl ?_)
      rintro _ _ _ ⟨pa1, ca1, rfl, rfl, rfl⟩
      simp only [List.cons_append, List.nil_append]
      refine j_run it 1 rfl (by simp) ?_
      refine j_nf [.o [1, 1, 1, 1, 1, 0, 0, 0, 0, 1, 0] 0, .c [1, 1, 1, 1, 1, 0, 0, 0, 0, 1, 1], .blk 2, .lp [1, 1, 1, 1, 1, 0, 0, 0], .blk 1, .c [1, 1, 1, 1, 1, 1]] rfl ?_
      refine j_run it 3 rfl (by simp) ?_
      refine j_nf [.o [1, 1, 1, 1, 1, 0, 0, 0, 0, 1, 1, 0, 0] 0, .c [1, 1, 1, 1, 1, 0, 0, 0, 0, 1, 1, 0, 1], .c [1, 1, 1, 1, 1, 0, 0, 0, 0, 1, 1, 1], .blk 2, .lp [1, 1, 1, 1, 1, 0, 0, 0], .blk 1, .c [1, 1, 1, 1, 1, 1]] rfl ?_
      refine j_run it 2 rfl (by simp) ?_
      refine j_nf [.c [1, 1, 1, 1, 1, 0, 0, 0, 0, 1, 1, 0, 1], .c [1, 1, 1, 1, 1, 0, 0, 0, 0, 1, 1, 1], .blk 2, .lp [1, 1, 1, 1, 1, 0, 0, 0], .blk 1, .c [1, 1, 1, 1, 1, 1]] rfl ?_
      refine j_if rfl rfl (fun h10 => ?_) (fun h10 => by exfalso; omega)
      refine j_nf [.o [1, 1, 1, 1, 1, 1, 0, 0] 0, .c [1, 1, 1, 1, 1, 1, 0, 1], .c [1, 1, 1, 1, 1, 1, 1]] rfl ?_
      refine j_run it 1 rfl (by simp) ?_
      refine j_step rfl (x_len sl25 rfl ?_)
      refine j_run it 1 rfl (by simp) ?_
      refine j_nf [.c [1, 1, 1, 1, 1, 1, 0, 1], .c [1, 1, 1, 1, 1, 1, 1]] rfl ?_
      refine j_if rfl rfl (fun h11 => by exfalso; omega) (fun h11 => ?_)
      refine j_nf [.o [1, 1, 1, 1, 1, 1, 1, 0] 0, .c [1, 1, 1, 1, 1, 1, 1, 1]] rfl ?_
      refine j_run it 1 rfl (by simp) ?_
      refine j_step rfl (x_call [0] rfl (S_nat_Trim) rfl ?_)
      rintro _ _ _ ⟨pa2, ca2, rfl, rfl, rfl⟩
      simp only [List.cons_append, List.nil_append]
      refine j_run it 2 rfl (by simp) ?_
      refine j_nf [.c [1, 1, 1, 1, 1, 1, 1, 1]] rfl ?_
      simp only [val_limbs, trim_limbs, hend]
      refine j_giv [0] rfl rfl rfl ⟨_, _, rfl, rfl, rfl⟩
    · refine j_nf [.o [1, 1, 1, 1, 1, 0, 0, 0, 0, 0, 0] 0, .c [1, 1, 1, 1, 1, 0, 0, 0, 0, 0, 1], .c [1, 1, 1, 1, 1, 0, 0, 0, 0, 1], .blk 2, .lp [1, 1, 1, 1, 1, 0, 0, 0], .blk 1, .c [1, 1, 1, 1, 1, 1]] rfl ?_
      refine j_run it 1 rfl (by simp) ?_
      refine j_step rfl (x_and_one (k) rfl rfl (by first | rfl | omega) (by omega) ?_)
      refine j_run it 1 rfl (by simp) ?_
      refine j_nf [.c [1, 1, 1, 1, 1, 0, 0, 0, 0, 0, 1], .c [1, 1, 1, 1, 1, 0, 0, 0, 0, 1], .blk 2, .lp [1, 1, 1, 1, 1, 0, 0, 0], .blk 1, .c [1, 1, 1, 1, 1, 1]] rfl ?_
      refine j_if rfl rfl (fun h9 => ?_) (fun h9 => by exfalso; omega)
      refine j_nf [.o [1, 1, 1, 1, 1, 0, 0, 0, 0, 0, 1, 0] 0, .c [1, 1, 1, 1, 1, 0, 0, 0, 0, 1], .blk 2, .lp [1, 1, 1, 1, 1, 0, 0, 0], .blk 1, .c [1, 1, 1, 1, 1, 1]] rfl ?_
      refine j_run it 2 rfl (by simp) ?_
      refine j_step rfl (x_call [0, 1] rfl (S_nat_times (by first | omega | exact side _ (by assumption) | assumption | (simp; done) | (simp; omega)) (by first | omega | exact side _ (by assumption) | assumption | (simp; done) | (simp; omega))) rfl ?_)
      rintro _ _ _ ⟨pa1, ca1, rfl, rfl, rfl⟩
      simp only [List.cons_append, List.nil_append]
      refine j_run it 1 rfl (by simp) ?_
      refine j_nf [.o [1, 1, 1, 1, 1, 0, 0, 0, 0, 1, 0] 0, .c [1, 1, 1, 1, 1, 0, 0, 0, 0, 1, 1], .blk 2, .lp [1, 1, 1, 1, 1, 0, 0, 0], .blk 1, .c [1, 1, 1, 1, 1, 1]] rfl ?_
      refine j_run it 3 rfl (by simp) ?_
      refine j_nf [.o [1, 1, 1, 1, 1, 0, 0, 0, 0, 1, 1, 0, 0] 0, .c [1, 1, 1, 1, 1, 0, 0, 0, 0, 1, 1, 0, 1], .c [1, 1, 1, 1, 1, 0, 0, 0, 0, 1, 1, 1], .blk 2, .lp [1, 1, 1, 1, 1, 0, 0, 0], .blk 1, .c [1, 1, 1, 1, 1, 1]] rfl ?_
      refine j_run it 2 rfl (by simp) ?_
      refine j_nf [.c [1, 1, 1, 1, 1, 0, 0, 0, 0, 1, 1, 0, 1], .c [1, 1, 1, 1, 1, 0, 0, 0, 0, 1, 1, 1], .blk 2, .lp [1, 1, 1, 1, 1, 0, 0, 0], .blk 1, .c [1, 1, 1, 1, 1, 1]] rfl ?_
      refine j_if rfl rfl (fun h10 => by exfalso; omega) (fun h10 => ?_)
      refine j_nf [.o [1, 1, 1, 1, 1, 0, 0, 0, 0, 1, 1, 1] 0, .blk 2, .lp [1, 1, 1, 1, 1, 0, 0, 0], .blk 1, .c [1, 1, 1, 1, 1, 1]] rfl ?_
      refine j_run it 2 rfl (by simp) ?_
      refine j_step rfl (x_call [2, 2] rfl (S_nat_times (by first | omega | exact side _ (by assumption) | assumption | (simp; done) | (simp; omega)) (by first | omega | exact side _ (by assumption) | assumption | (simp; done) | (simp; omega))) rfl ?_)
      rintro _ _ _ ⟨pa2, ca2, rfl, rfl, rfl⟩
      simp only [List.cons_append, List.nil_append]
      refine j_run it 1 rfl (by simp) ?_
      refine j_nfn 2 [.lp [1, 1, 1, 1, 1, 0, 0, 0], .blk 1, .c [1, 1, 1, 1, 1, 1]] rfl ?_
      simp only [val_limbs]
      refine j_to [1, 0] (by repeat (first | exact Fr.sub_nil _ | refine Fr.sub_cons rfl ?_ | refine Fr.sub_consI rfl (by omega) ?_ | refine Fr.sub_consS rfl (by omega) (by omega) ?_)) rfl rfl (ih (k / 2, o * s, s * s, (pa1, ca1), (pa2, ca2)) (by simp only; omega) ⟨by simp only; omega, by simp only; omega, Nat.mul_pos ho hs, hss, pow_odd hv hodd⟩)
  · refine j_nf [.o [1, 1, 1, 1, 1, 0, 0, 0, 0, 0, 0] 0, .c [1, 1, 1, 1, 1, 0, 0, 0, 0, 0, 1], .c [1, 1, 1, 1, 1, 0, 0, 0, 0, 1], .blk 2, .lp [1, 1, 1, 1, 1, 0, 0, 0], .blk 1, .c [1, 1, 1, 1, 1, 1]] rfl ?_
    refine j_run it 1 rfl (by simp) ?_
    refine j_step rfl (x_and_one (k) rfl rfl (by first | rfl | omega) (by omega) ?_)
    refine j_run it 1 rfl (by simp) ?_
    refine j_nf [.c [1, 1, 1, 1, 1, 0, 0, 0, 0, 0, 1], .c [1, 1, 1, 1, 1, 0, 0, 0, 0, 1], .blk 2, .lp [1, 1, 1, 1, 1, 0, 0, 0], .blk 1, .c [1, 1, 1, 1, 1, 1]] rfl ?_
    refine j_if rfl rfl (fun h9 => by exfalso; omega) (fun h9 => ?_)
    refine j_nf [.o [1, 1, 1, 1, 1, 0, 0, 0, 0, 1, 0] 0, .c [1, 1, 1, 1, 1, 0, 0, 0, 0, 1, 1], .blk 2, .lp [1, 1, 1, 1, 1, 0, 0, 0], .blk 1, .c [1, 1, 1, 1, 1, 1]] rfl ?_
    refine j_run it 3 rfl (by simp) ?_
    refine j_nf [.o [1, 1, 1, 1, 1, 0, 0, 0, 0, 1, 1, 0, 0] 0, .c [1, 1, 1, 1, 1, 0, 0, 0, 0, 1, 1, 0, 1], .c [1, 1, 1, 1, 1, 0, 0, 0, 0, 1, 1, 1], .blk 2, .lp [1, 1, 1, 1, 1, 0, 0, 0], .blk 1, .c [1, 1, 1, 1, 1, 1]] rfl ?_
    refine j_run it 2 rfl (by simp) ?_
    refine j_nf [.c [1, 1, 1, 1, 1, 0, 0, 0, 0, 1, 1, 0, 1], .c [1, 1, 1, 1, 1, 0, 0, 0, 0, 1, 1, 1], .blk 2, .lp [1, 1, 1, 1, 1, 0, 0, 0], .blk 1, .c [1, 1, 1, 1, 1, 1]] rfl ?_
    refine j_if rfl rfl (fun h10 => by exfalso; omega) (fun h10 => ?_)
    refine j_nf [.o [1, 1, 1, 1, 1, 0, 0, 0, 0, 1, 1, 1] 0, .blk 2, .lp [1, 1, 1, 1, 1, 0, 0, 0], .blk 1, .c [1, 1, 1, 1, 1, 1]] rfl ?_
    refine j_run it 2 rfl (by simp) ?_
    refine j_step rfl (x_call [1, 1] rfl (S_nat_times (by first | omega | exact side _ (by assumption) | assumption | (simp; done) | (simp; omega)) (by first | omega | exact side _ (by assumption) | assumption | (simp; done) | (simp; omega))) rfl ?_)
    rintro _ _ _ ⟨pa1, ca1, rfl, rfl, rfl⟩
    simp only [List.cons_append, List.nil_append]
    refine j_run it 1 rfl (by simp) ?_
    refine j_nfn 2 [.lp [1, 1, 1, 1, 1, 0, 0, 0], .blk 1, .c [1, 1, 1, 1, 1, 1]] rfl ?_
    simp only [val_limbs]
    refine j_to [1, 0] (by repeat (first | exact Fr.sub_nil _ | refine Fr.sub_cons rfl ?_ | refine Fr.sub_consI rfl (by omega) ?_ | refine Fr.sub_consS rfl (by omega) (by omega) ?_)) rfl rfl (ih (k / 2, o, s * s, (po, co), (pa1, ca1)) (by simp only; omega) ⟨by simp only; omega, by simp only; omega, ho, hss, pow_even hv (by omega)⟩)
end Go.Proofs.Ytonjgeikppiodaa
