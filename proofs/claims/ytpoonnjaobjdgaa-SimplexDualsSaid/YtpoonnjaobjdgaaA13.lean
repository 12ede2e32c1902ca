/-
The contracts of nat.DivMod and nat.Gcd.
-/
import Derived.Test.YtpoonnjaobjdgaaFuns
import Derived.Test.YtpoonnjaobjdgaaNatMath
import Derived.Test.YtpoonnjaobjdgaaNatMath2
import Derived.Test.YtpoonnjaobjdgaaNatMath3
import Derived.Test.YtpoonnjaobjdgaaNatMath5
import Derived.Test.YtpoonnjaobjdgaaNatMath6
import Derived.Test.YtpoonnjaobjdgaaNatMath7
import Derived.Test.YtpoonnjaobjdgaaA1
import Derived.Test.YtpoonnjaobjdgaaA2
import Derived.Test.YtpoonnjaobjdgaaA5
import Derived.Test.YtpoonnjaobjdgaaA9
import Derived.Test.YtpoonnjaobjdgaaA11a
import Derived.Test.YtpoonnjaobjdgaaA12
namespace Go.Proofs.Ytpoonnjaobjdgaa
open Go Go.Fw
set_option maxRecDepth 100000
set_option linter.unusedVariables false
set_option maxHeartbeats 4000000
/-- A quotient and a remainder. -/
abbrev DivQ (A B : Nat) : Value → List Fact → List Blk → Prop := fun v Φ β => ∃ p1 c1 p2 c2, v = .tuple #[.slice p1 (limbs (A / B)).length c1, .slice p2 (limbs (A % B)).length c2, .int .i64 0] ∧ Φ = [slF U32 p1 (limbs (A / B)).length c1 (limbs (A / B)), slF U32 p2 (limbs (A % B)).length c2 (limbs (A % B))] ∧ β = []

theorem S_nat_DivMod {pa pb : Option Addr} {n m ca cb : Nat} {a b : List Nat} (hal : a.length ≤ 1073741824) (hb0 : val b ≠ 0) :
    Ctr Try.prog 25 [.slice pa n ca, .slice pb m cb] [] [slF U32 pa n ca a, slF U32 pb m cb b] (DivQ (val a) (val b)) := by
  refine Ctr_of_j' (F := F_nat_DivMod) rfl fun C => ?_
  refine j_len 0 rfl fun hn hba _ => ?_
  refine j_len 1 rfl fun hm hbb _ => ?_
  subst hn; subst hm
  have hba' : a.length * 4 ≤ 140737488355328 := hba
  have hbb' : b.length * 4 ≤ 140737488355328 := hbb
  refine j_range 0 rfl fun hra => ?_
  refine j_range 1 rfl fun hrb => ?_
  have ha : ∀ x ∈ a, x < 4294967296 := fun x hx => by have := hra x hx; simp only [InR] at this; omega
  have hb : ∀ x ∈ b, x < 4294967296 := fun x hx => by have := hrb x hx; simp only [InR] at this; omega
  have ea := trim_eq ha
  have eb := trim_eq hb
  have lla := trim_length_le a
  have llb := trim_length_le b
  have va : val (trim a) = val a := val_trim a
  have vb : val (trim b) = val b := val_trim b
  have hbne : 1 ≤ (trim b).length := by
    rcases Nat.eq_zero_or_pos (trim b).length with h | h
    · exfalso; have h2 := List.eq_nil_of_length_eq_zero h; rw [eb, limbs_nil] at h2; exact hb0 h2
    · exact h
  by_cases hlt : val a < val b
  · have hc : cmpN (val (trim a)) (val (trim b)) < 0 := by rw [va, vb, cmpN_lt hlt]; decide
    have e1 : limbs (val a / val b) = [] := by rw [Nat.div_eq_of_lt hlt, limbs_zero]
    have e2 : limbs (val a % val b) = trim (trim a) := by rw [Nat.mod_eq_of_lt hlt, trim_trim, ea]
    refine j_nf [.o [0] 0, .c [1]] rfl ?_
    refine j_run it 3 rfl (by simp) ?_
    refine j_nf [.o [1, 0] 0, .c [1, 1]] rfl ?_
    refine j_run it 1 rfl (by simp) ?_
    refine j_step rfl (x_call [0] rfl (S_nat_short) rfl ?_)
    rintro _ _ _ ⟨rfl, rfl, rfl⟩
    simp only [List.cons_append, List.nil_append]
    refine j_run it 1 rfl (by simp) ?_
    refine j_step rfl (x_call [2] rfl (S_nat_short) rfl ?_)
    rintro _ _ _ ⟨rfl, rfl, rfl⟩
    simp only [List.cons_append, List.nil_append]
    refine j_run it 2 rfl (by simp) ?_
    refine j_nf [.o [1, 1, 0, 0, 0] 0, .c [1, 1, 0, 0, 1], .blk 0, .c [1, 1, 1]] rfl ?_
    refine j_run it 1 rfl (by simp) ?_
    refine j_step rfl (x_len sl35 rfl ?_)
    refine j_run it 2 rfl (by simp) ?_
    refine j_nf [.c [1, 1, 0, 0, 1], .blk 0, .c [1, 1, 1]] rfl ?_
    refine j_if rfl rfl (fun h1 => by exfalso; omega) (fun h1 => ?_)
    refine j_nf [.o [1, 1, 0, 0, 1, 1, 0] 0, .c [1, 1, 0, 0, 1, 1, 1], .blk 0, .c [1, 1, 1]] rfl ?_
    refine j_run it 2 rfl (by simp) ?_
    refine j_step rfl (x_call [1, 0] rfl (S_nat_Cmp) rfl ?_)
    rintro _ _ _ ⟨rfl, rfl, rfl⟩
    simp only [List.cons_append, List.nil_append]
    refine j_run it 2 rfl (by simp) ?_
    refine j_nf [.c [1, 1, 0, 0, 1, 1, 1], .blk 0, .c [1, 1, 1]] rfl ?_
    refine j_if rfl rfl (fun h2 => ?_) (fun h2 => by exfalso; omega)
    refine j_nf [.o [1, 1, 0, 0, 1, 1, 1, 0, 0] 0, .c [1, 1, 0, 0, 1, 1, 1, 0, 1], .blk 0, .c [1, 1, 1]] rfl ?_
    refine j_run it 1 rfl (by simp) ?_
    refine j_step rfl (x_call [1] rfl (S_nat_Trim) rfl ?_)
    rintro _ _ _ ⟨pa1, ca1, rfl, rfl, rfl⟩
    simp only [List.cons_append, List.nil_append]
    refine j_run it 3 rfl (by simp) ?_
    refine j_nf [.c [1, 1, 0, 0, 1, 1, 1, 0, 1], .blk 0, .c [1, 1, 1]] rfl ?_
    refine j_add (slF U32 none 0 0 []) (fun w A _ => slF_nil _ _ _ _ _) ?_
    refine j_giv [0, 1] rfl rfl rfl ⟨none, 0, pa1, ca1, by rw [e1, e2]; rfl, by rw [e1, e2]; rfl, rfl⟩
  · have hc : ¬ cmpN (val (trim a)) (val (trim b)) < 0 := by rw [va, vb]; unfold cmpN; split <;> (try split) <;> omega
    by_cases h1 : (trim b).length = 1
    · obtain ⟨d, hd⟩ : ∃ d, trim b = [d] := List.length_eq_one_iff.1 h1
      have hvd : val b = d := by rw [← vb, hd]; simp [val]
      have hd0 : 0 < d := by omega
      have hdB : d < 4294967296 := hb d (mem_trim (by rw [hd]; simp))
      have side : ∀ z, (trim b)[0]? = some z → z = d := fun z hz => by rw [hd] at hz; simpa using hz.symm
      refine j_nf [.o [0] 0, .c [1]] rfl ?_
      refine j_run it 3 rfl (by simp) ?_
      refine j_nf [.o [1, 0] 0, .c [1, 1]] rfl ?_
      refine j_run it 1 rfl (by simp) ?_
      refine j_step rfl (x_call [0] rfl (S_nat_short) rfl ?_)
      rintro _ _ _ ⟨rfl, rfl, rfl⟩
      simp only [List.cons_append, List.nil_append]
      refine j_run it 1 rfl (by simp) ?_
      refine j_step rfl (x_call [2] rfl (S_nat_short) rfl ?_)
      rintro _ _ _ ⟨rfl, rfl, rfl⟩
      simp only [List.cons_append, List.nil_append]
      refine j_run it 2 rfl (by simp) ?_
      refine j_nf [.o [1, 1, 0, 0, 0] 0, .c [1, 1, 0, 0, 1], .blk 0, .c [1, 1, 1]] rfl ?_
      refine j_run it 1 rfl (by simp) ?_
      refine j_step rfl (x_len sl35 rfl ?_)
      refine j_run it 2 rfl (by simp) ?_
      refine j_nf [.c [1, 1, 0, 0, 1], .blk 0, .c [1, 1, 1]] rfl ?_
      refine j_if rfl rfl (fun h2 => by exfalso; omega) (fun h2 => ?_)
      refine j_nf [.o [1, 1, 0, 0, 1, 1, 0] 0, .c [1, 1, 0, 0, 1, 1, 1], .blk 0, .c [1, 1, 1]] rfl ?_
      refine j_run it 2 rfl (by simp) ?_
      refine j_step rfl (x_call [1, 0] rfl (S_nat_Cmp) rfl ?_)
      rintro _ _ _ ⟨rfl, rfl, rfl⟩
      simp only [List.cons_append, List.nil_append]
      refine j_run it 2 rfl (by simp) ?_
      refine j_nf [.c [1, 1, 0, 0, 1, 1, 1], .blk 0, .c [1, 1, 1]] rfl ?_
      refine j_if rfl rfl (fun h3 => by exfalso; omega) (fun h3 => ?_)
      refine j_nf [.o [1, 1, 0, 0, 1, 1, 1, 1, 0] 0, .c [1, 1, 0, 0, 1, 1, 1, 1, 1], .blk 0, .c [1, 1, 1]] rfl ?_
      refine j_run it 1 rfl (by simp) ?_
      refine j_step rfl (x_len sl35 rfl ?_)
      refine j_run it 2 rfl (by simp) ?_
      refine j_nf [.c [1, 1, 0, 0, 1, 1, 1, 1, 1], .blk 0, .c [1, 1, 1]] rfl ?_
      refine j_if rfl rfl (fun h4 => ?_) (fun h4 => by exfalso; omega)
      refine j_nf [.o [1, 1, 0, 0, 1, 1, 1, 1, 1, 0, 0] 0, .c [1, 1, 0, 0, 1, 1, 1, 1, 1, 0, 1], .blk 0, .c [1, 1, 1]] rfl ?_
      refine j_run it 2 rfl (by simp) ?_
      refine j_step rfl (x_idx 0 0 rfl rfl rfl sl35 (by omega) (by omega) fun z1 hz1 b1 o1 => ?_)
      refine j_step rfl (x_ld_nat 0 rfl rfl ld52 fun ⟨r1, r2⟩ => ?_)
      obtain rfl : z1 = d := side z1 hz1
      have hm : val (trim a) % z1 < 4294967296 := Nat.lt_trans (Nat.mod_lt _ hd0) hdB
      have hm2 : val (trim a) % z1 < 18446744073709551616 := by omega
      refine j_step rfl (x_call [2] rfl (S_nat_digit (by first | omega | exact side _ (by assumption) | assumption | rfl | (simp; done) | (simp; omega)) (by first | omega | exact side _ (by assumption) | assumption | rfl | (simp; done) | (simp; omega))) rfl ?_)
      rintro _ _ _ ⟨pa1, ca1, rfl, rfl, rfl⟩
      simp only [List.cons_append, List.nil_append]
      refine j_run it 5 rfl (by simp) ?_
      refine j_nf [.o [1, 1, 0, 0, 1, 1, 1, 1, 1, 0, 1, 0] 0, .c [1, 1, 0, 0, 1, 1, 1, 1, 1, 0, 1, 1], .blk 0, .c [1, 1, 1]] rfl ?_
      refine j_run it 3 rfl (by repeat' first | exact trivial | apply And.intro | omega) ?_
      refine j_step rfl (x_call [] rfl (S_nat_Of (by first | omega | exact side _ (by assumption) | assumption | rfl | (simp; done) | (simp; omega))) rfl ?_)
      rintro _ _ _ ⟨pa2, ca2, rfl, rfl, rfl⟩
      simp only [List.cons_append, List.nil_append]
      refine j_run it 3 rfl (by simp) ?_
      refine j_nf [.c [1, 1, 0, 0, 1, 1, 1, 1, 1, 0, 1, 1], .blk 0, .c [1, 1, 1]] rfl ?_
      rw [va, ← hvd]
      refine j_giv [1, 0] rfl rfl rfl ⟨_, _, _, _, rfl, rfl, rfl⟩
    · obtain ⟨k, hk⟩ : ∃ k, (trim b).length = k + 2 := ⟨(trim b).length - 2, by omega⟩
      obtain ⟨t, ht, ht0⟩ := limbs_top (n := val b) (k := k + 1) (by rw [← eb]; exact hk)
      rw [← eb] at ht
      have hab : (trim b).length ≤ (trim a).length := by
        rw [eb, ea]
        exact limbs_mono (Nat.le_refl _) (by omega)
      refine j_nf [.o [0] 0, .c [1]] rfl ?_
      refine j_run it 3 rfl (by simp) ?_
      refine j_nf [.o [1, 0] 0, .c [1, 1]] rfl ?_
      refine j_run it 1 rfl (by simp) ?_
      refine j_step rfl (x_call [0] rfl (S_nat_short) rfl ?_)
      rintro _ _ _ ⟨rfl, rfl, rfl⟩
      simp only [List.cons_append, List.nil_append]
      refine j_run it 1 rfl (by simp) ?_
      refine j_step rfl (x_call [2] rfl (S_nat_short) rfl ?_)
      rintro _ _ _ ⟨rfl, rfl, rfl⟩
      simp only [List.cons_append, List.nil_append]
      refine j_run it 2 rfl (by simp) ?_
      refine j_nf [.o [1, 1, 0, 0, 0] 0, .c [1, 1, 0, 0, 1], .blk 0, .c [1, 1, 1]] rfl ?_
      refine j_run it 1 rfl (by simp) ?_
      refine j_step rfl (x_len sl35 rfl ?_)
      refine j_run it 2 rfl (by simp) ?_
      refine j_nf [.c [1, 1, 0, 0, 1], .blk 0, .c [1, 1, 1]] rfl ?_
      refine j_if rfl rfl (fun h2 => by exfalso; omega) (fun h2 => ?_)
      refine j_nf [.o [1, 1, 0, 0, 1, 1, 0] 0, .c [1, 1, 0, 0, 1, 1, 1], .blk 0, .c [1, 1, 1]] rfl ?_
      refine j_run it 2 rfl (by simp) ?_
      refine j_step rfl (x_call [1, 0] rfl (S_nat_Cmp) rfl ?_)
      rintro _ _ _ ⟨rfl, rfl, rfl⟩
      simp only [List.cons_append, List.nil_append]
      refine j_run it 2 rfl (by simp) ?_
      refine j_nf [.c [1, 1, 0, 0, 1, 1, 1], .blk 0, .c [1, 1, 1]] rfl ?_
      refine j_if rfl rfl (fun h3 => by exfalso; omega) (fun h3 => ?_)
      refine j_nf [.o [1, 1, 0, 0, 1, 1, 1, 1, 0] 0, .c [1, 1, 0, 0, 1, 1, 1, 1, 1], .blk 0, .c [1, 1, 1]] rfl ?_
      refine j_run it 1 rfl (by simp) ?_
      refine j_step rfl (x_len sl35 rfl ?_)
      refine j_run it 2 rfl (by simp) ?_
      refine j_nf [.c [1, 1, 0, 0, 1, 1, 1, 1, 1], .blk 0, .c [1, 1, 1]] rfl ?_
      refine j_if rfl rfl (fun h4 => by exfalso; omega) (fun h4 => ?_)
      refine j_nf [.o [1, 1, 1, 0] 0, .c [1, 1, 1, 1]] rfl ?_
      refine j_run it 2 rfl (by simp) ?_
      refine j_step rfl (x_call [1, 0] rfl (S_nat_long (k := k) (t := t) (by omega) hk hab ht ht0) rfl ?_)
      rintro _ _ _ ⟨lq, lr, p1, c1, p2, c2, rfl, rfl, rfl, hq, hr⟩
      simp only [List.nil_append, List.cons_append]
      refine j_range 0 rfl fun hrq => ?_
      refine j_range 1 rfl fun hrr => ?_
      have eq := trim_eq (l := lq) (fun x hx => by have := hrq x hx; simp only [InR] at this; omega)
      have er := trim_eq (l := lr) (fun x hx => by have := hrr x hx; simp only [InR] at this; omega)
      rw [hq, va, vb] at eq
      rw [hr, va, vb] at er
      refine j_run it 5 rfl (by simp) ?_
      refine j_nf [.o [1, 1, 1, 1, 0] 0, .c [1, 1, 1, 1, 1]] rfl ?_
      refine j_run it 1 rfl (by simp) ?_
      refine j_step rfl (x_call [0] rfl (S_nat_Trim) rfl ?_)
      rintro _ _ _ ⟨pa1, ca1, rfl, rfl, rfl⟩
      simp only [List.cons_append, List.nil_append]
      refine j_run it 1 rfl (by simp) ?_
      refine j_step rfl (x_call [2] rfl (S_nat_Trim) rfl ?_)
      rintro _ _ _ ⟨pa2, ca2, rfl, rfl, rfl⟩
      simp only [List.cons_append, List.nil_append]
      refine j_run it 3 rfl (by simp) ?_
      refine j_nf [.c [1, 1, 1, 1, 1]] rfl ?_
      rw [eq, er]
      refine j_giv [1, 0] rfl rfl rfl ⟨_, _, _, _, rfl, rfl, rfl⟩

theorem S_nat_Gcd {pa pb : Option Addr} {n m ca cb : Nat} {a b : List Nat} (hal : a.length ≤ 1073741824) (hbl : b.length ≤ 1073741824) :
    Ctr Try.prog 24 [.slice pa n ca, .slice pb m cb] [] [slF U32 pa n ca a, slF U32 pb m cb b] (Sv U32 (limbs (Nat.gcd (val a) (val b)))) := by
  refine Ctr_of_j' (F := F_nat_Gcd) rfl fun C => ?_
  refine j_len 0 rfl fun hn hba _ => ?_
  refine j_len 1 rfl fun hm hbb _ => ?_
  subst hn; subst hm
  refine j_range 0 rfl fun hra => ?_
  refine j_range 1 rfl fun hrb => ?_
  have ha : ∀ x ∈ a, x < 4294967296 := fun x hx => by have := hra x hx; simp only [InR] at this; omega
  have hb : ∀ x ∈ b, x < 4294967296 := fun x hx => by have := hrb x hx; simp only [InR] at this; omega
  have ea := trim_eq ha
  have eb := trim_eq hb
  have lla := trim_length_le a
  have llb := trim_length_le b
  refine j_nf [.o [0] 0, .c [1]] rfl ?_
  refine j_run it 1 rfl (by simp) ?_
  refine j_nf [.o [1, 0] 0, .c [1, 1]] rfl ?_
  refine j_run it 1 rfl (by simp) ?_
  refine j_step rfl (x_call [0] rfl (S_nat_short) rfl ?_)
  rintro _ _ _ ⟨rfl, rfl, rfl⟩
  simp only [List.cons_append, List.nil_append]
  refine j_run it 1 rfl (by simp) ?_
  refine j_step rfl (x_call [2] rfl (S_nat_short) rfl ?_)
  rintro _ _ _ ⟨rfl, rfl, rfl⟩
  simp only [List.cons_append, List.nil_append]
  refine j_run it 2 rfl (by simp) ?_
  refine j_nf [.c [1, 1, 0, 0], .blk 0, .c [1, 1, 1]] rfl ?_
  rw [ea, eb]
  rw [ea] at lla
  rw [eb] at llb
  refine j_loopG (X := Nat × Nat × (Option Addr × Nat) × (Option Addr × Nat)) [4] [] (fun x => [(0, .slice x.2.2.1.1 (limbs x.1).length x.2.2.1.2), (1, .slice x.2.2.2.1 (limbs x.2.1).length x.2.2.2.2)]) (fun _ => []) (fun x => [slF U32 x.2.2.1.1 (limbs x.1).length x.2.2.1.2 (limbs x.1), slF U32 x.2.2.2.1 (limbs x.2.1).length x.2.2.2.2 (limbs x.2.1)])
    (fun x => (limbs x.1).length ≤ 1073741824 ∧ (limbs x.2.1).length ≤ 1073741824 ∧ Nat.gcd x.1 x.2.1 = Nat.gcd (val a) (val b)) (fun x => x.2.1) (val a, val b, (pa, (limbs (val a)).length), (pb, (limbs (val b)).length)) [1, 0] rfl rfl rfl ⟨Nat.le_trans lla hal, Nat.le_trans llb hbl, rfl⟩ (by repeat (first | exact Fr.sub_nil _ | refine Fr.sub_cons rfl ?_)) rfl rfl ?_
  rintro ⟨x, y, ⟨px, cx⟩, ⟨py, cy⟩⟩ ⟨hx, hy, hg⟩ ih
  simp only [List.cons_append, List.nil_append] at hx hy hg ih ⊢
  by_cases hy0 : y = 0
  · have e0 : (limbs y).length = 0 := by rw [hy0, limbs_zero]; rfl
    subst hy0
    refine j_nf [.o [1, 1, 0, 0, 0, 0, 0] 0, .c [1, 1, 0, 0, 0, 0, 1], .c [1, 1, 0, 0, 0, 1], .lp [1, 1, 0, 0, 0], .blk 0, .c [1, 1, 1]] rfl ?_
    refine j_run it 1 rfl (by simp) ?_
    refine j_step rfl (x_len sl35 rfl ?_)
    refine j_run it 1 rfl (by simp) ?_
    refine j_nf [.c [1, 1, 0, 0, 0, 0, 1], .c [1, 1, 0, 0, 0, 1], .lp [1, 1, 0, 0, 0], .blk 0, .c [1, 1, 1]] rfl ?_
    refine j_if rfl rfl (fun h1 => by exfalso; omega) (fun h1 => ?_)
    refine j_nf [.o [1, 1, 1, 0] 0, .c [1, 1, 1, 1]] rfl ?_
    refine j_run it 1 rfl (by simp) ?_
    refine j_step rfl (x_call [0] rfl (S_nat_Trim) rfl ?_)
    rintro _ _ _ ⟨pa1, ca1, rfl, rfl, rfl⟩
    simp only [List.cons_append, List.nil_append]
    refine j_run it 1 rfl (by simp) ?_
    refine j_nf [.c [1, 1, 1, 1]] rfl ?_
    rw [trim_limbs, show x = Nat.gcd (val a) (val b) by rw [← hg, Nat.gcd_zero_right]]
    refine j_giv [0] rfl rfl rfl ⟨_, _, rfl, rfl, rfl⟩
  · have e0 : 0 < (limbs y).length := List.length_pos_iff.2 (fun h => hy0 (limbs_nil.1 h))
    have hv : val (limbs y) ≠ 0 := by rw [val_limbs]; exact hy0
    refine j_nf [.o [1, 1, 0, 0, 0, 0, 0] 0, .c [1, 1, 0, 0, 0, 0, 1], .c [1, 1, 0, 0, 0, 1], .lp [1, 1, 0, 0, 0], .blk 0, .c [1, 1, 1]] rfl ?_
    refine j_run it 1 rfl (by simp) ?_
    refine j_step rfl (x_len sl35 rfl ?_)
    refine j_run it 1 rfl (by simp) ?_
    refine j_nf [.c [1, 1, 0, 0, 0, 0, 1], .c [1, 1, 0, 0, 0, 1], .lp [1, 1, 0, 0, 0], .blk 0, .c [1, 1, 1]] rfl ?_
    refine j_if rfl rfl (fun h1 => ?_) (fun h1 => by exfalso; omega)
    refine j_nf [.o [1, 1, 0, 0, 0, 1, 0, 0] 0, .c [1, 1, 0, 0, 0, 1, 0, 1], .blk 1, .lp [1, 1, 0, 0, 0], .blk 0, .c [1, 1, 1]] rfl ?_
    refine j_run it 2 rfl (by simp) ?_
    refine j_step rfl (x_call [0, 1] rfl (S_nat_DivMod (by first | omega | exact side _ (by assumption) | assumption | rfl | (simp; done) | (simp; omega)) (by first | omega | exact side _ (by assumption) | assumption | rfl | (simp; done) | (simp; omega))) rfl ?_)
    rintro _ _ _ ⟨p11, c11, p21, c21, rfl, rfl, rfl⟩
    simp only [List.cons_append, List.nil_append]
    refine j_run it 7 rfl (by simp) ?_
    refine j_nf [.o [1, 1, 0, 0, 0, 1, 0, 1] 0, .blk 1, .lp [1, 1, 0, 0, 0], .blk 0, .c [1, 1, 1]] rfl ?_
    refine j_run it 4 rfl (by simp) ?_
    refine j_nfn 2 [.lp [1, 1, 0, 0, 0], .blk 0, .c [1, 1, 1]] rfl ?_
    simp only [val_limbs]
    refine j_to [3, 1] (by repeat (first | exact Fr.sub_nil _ | refine Fr.sub_cons rfl ?_ | refine Fr.sub_consI rfl (by first | omega | (dsimp only; omega)) ?_ | refine Fr.sub_consS rfl (by first | omega | (dsimp only; omega)) (by first | omega | (dsimp only; omega)) ?_)) rfl rfl (ih (y, x % y, (py, cy), (p21, c21)) (by simp only; exact Nat.mod_lt _ (by omega)) ⟨hy, limbs_mono hy (Nat.le_of_lt (Nat.mod_lt _ (by omega))), by simp only; rw [← hg, Nat.gcd_comm x y, Nat.gcd_rec y x, Nat.gcd_comm]⟩)
end Go.Proofs.Ytpoonnjaobjdgaa
