/-
The contracts of nat.DivMod and nat.Gcd. The contracts of rational.one, canonical, Trim, Neg, Sign. The contract of nat.Trim, where the caller goes on writing in what it gets. The contract of nat.Sub. The contracts of rational.plus, Add, Sub, Cmp, Mul. The contracts of rational.Sub, Cmp, Mul. The document's fractions: Make, Trim, Sign, Neg, Mul. The document's fractions: Add, Sub, Cmp. The document's fractions compared as data. The document's integers among the fractions: abs, Of, Int, Nat, Nil; Order. Ranges of the layer delsarte; the document's Range and Words; distances of words. Contracts of macwilliams.shape, the document's Shape, and the law's long. The program's numbers with a sign: plus, minus, times, small, ratio. Contracts of nat.Binomial.
-/
import Derived.Test.YtlhgkefaflpgeaaHR4
set_option linter.unusedVariables false
set_option linter.unusedSimpArgs false

namespace Go.Proofs.Ytlhgkefaflpgeaa
open Go Go.Fw
set_option maxRecDepth 100000
set_option linter.unusedVariables false
set_option linter.unusedSimpArgs false
set_option maxHeartbeats 4000000
/-- A quotient and a remainder. -/
abbrev DivQ (A B : Nat) : Value → List Fact → List Blk → Prop := fun v Φ β => ∃ p1 c1 p2 c2, v = .tuple #[.slice p1 (limbs (A / B)).length c1, .slice p2 (limbs (A % B)).length c2, .int .i64 0] ∧ Φ = [slF U32 p1 (limbs (A / B)).length c1 (limbs (A / B)), slF U32 p2 (limbs (A % B)).length c2 (limbs (A % B))] ∧ β = []

theorem S_nat_DivMod {pa pb : Option Addr} {n m ca cb : Nat} {a b : List Nat} (hal : a.length ≤ 1073741824) (hb0 : val b ≠ 0) :
    Ctr Try.prog 74 [.slice pa n ca, .slice pb m cb] [] [slF U32 pa n ca a, slF U32 pb m cb b] (DivQ (val a) (val b)) := by
  refine Ctr_of_j' (F := F_nat_DivMod) rfl fun C => ?_
  refine j_len 0 rfl fun hn hba _ => ?_
  refine j_len 1 rfl fun hm hbb _ => ?_
  subst hn; subst hm
  have hba' : a.length * 4 ≤ 140737488355328 := hba
  have hbb' : b.length * 4 ≤ 140737488355328 := hbb
  refine j_range 0 rfl fun hra => ?_
  refine j_range 1 rfl fun hrb => ?_
  have ha : ∀ x ∈ a, x < 4294967296 := fun x hx => by have := hra x hx; simp only [InR] at this; omega
  have hb : ∀ x ∈ b, x < 4294967296 := fun x hx => by have := hrb x hx; simp only [InR] at this; omega
  have ea := trim_eq ha
  have eb := trim_eq hb
  have lla := trim_length_le a
  have llb := trim_length_le b
  have va : val (trim a) = val a := val_trim a
  have vb : val (trim b) = val b := val_trim b
  have hbne : 1 ≤ (trim b).length := by
    rcases Nat.eq_zero_or_pos (trim b).length with h | h
    · exfalso; have h2 := List.eq_nil_of_length_eq_zero h; rw [eb, limbs_nil] at h2; exact hb0 h2
    · exact h
  by_cases hlt : val a < val b
  · have hc : cmpN (val (trim a)) (val (trim b)) < 0 := by rw [va, vb, cmpN_lt hlt]; decide
    have e1 : limbs (val a / val b) = [] := by rw [Nat.div_eq_of_lt hlt, limbs_zero]
    have e2 : limbs (val a % val b) = trim (trim a) := by rw [Nat.mod_eq_of_lt hlt, trim_trim, ea]
    refine j_nf [.o [0] 0, .c [1]] rfl ?_
    refine j_run it 3 rfl (by simp) ?_
    refine j_nf [.o [1, 0] 0, .c [1, 1]] rfl ?_
    refine j_run it 1 rfl (by simp) ?_
    refine j_step rfl (x_call [0] rfl (S_nat_short) rfl ?_)
    rintro _ _ _ ⟨rfl, rfl, rfl⟩
    simp only [List.cons_append, List.nil_append]
    refine j_run it 1 rfl (by simp) ?_
    refine j_step rfl (x_call [2] rfl (S_nat_short) rfl ?_)
    rintro _ _ _ ⟨rfl, rfl, rfl⟩
    simp only [List.cons_append, List.nil_append]
    refine j_run it 2 rfl (by simp) ?_
    refine j_nf [.o [1, 1, 0, 0, 0] 0, .c [1, 1, 0, 0, 1], .blk 0, .c [1, 1, 1]] rfl ?_
    refine j_run it 1 rfl (by simp) ?_
    refine j_step rfl (x_len sl33 rfl ?_)
    refine j_run it 2 rfl (by simp) ?_
    refine j_nf [.c [1, 1, 0, 0, 1], .blk 0, .c [1, 1, 1]] rfl ?_
    refine j_if rfl rfl (fun h1 => by exfalso; omega) (fun h1 => ?_)
    refine j_nf [.o [1, 1, 0, 0, 1, 1, 0] 0, .c [1, 1, 0, 0, 1, 1, 1], .blk 0, .c [1, 1, 1]] rfl ?_
    refine j_run it 2 rfl (by simp) ?_
    refine j_step rfl (x_call [1, 0] rfl (S_nat_Cmp) rfl ?_)
    rintro _ _ _ ⟨rfl, rfl, rfl⟩
    simp only [List.cons_append, List.nil_append]
    refine j_run it 2 rfl (by simp) ?_
    refine j_nf [.c [1, 1, 0, 0, 1, 1, 1], .blk 0, .c [1, 1, 1]] rfl ?_
    refine j_if rfl rfl (fun h2 => ?_) (fun h2 => by exfalso; omega)
    refine j_nf [.o [1, 1, 0, 0, 1, 1, 1, 0, 0] 0, .c [1, 1, 0, 0, 1, 1, 1, 0, 1], .blk 0, .c [1, 1, 1]] rfl ?_
    refine j_run it 1 rfl (by simp) ?_
    refine j_step rfl (x_call [1] rfl (S_nat_Trim) rfl ?_)
    rintro _ _ _ ⟨pa1, ca1, rfl, rfl, rfl⟩
    simp only [List.cons_append, List.nil_append]
    refine j_run it 3 rfl (by simp) ?_
    refine j_nf [.c [1, 1, 0, 0, 1, 1, 1, 0, 1], .blk 0, .c [1, 1, 1]] rfl ?_
    refine j_add (slF U32 none 0 0 []) (fun w A _ => slF_nil _ _ _ _ _) ?_
    refine j_giv [0, 1] rfl rfl rfl ⟨none, 0, pa1, ca1, by rw [e1, e2]; rfl, by rw [e1, e2]; rfl, rfl⟩
  · have hc : ¬ cmpN (val (trim a)) (val (trim b)) < 0 := by rw [va, vb]; unfold cmpN; split <;> (try split) <;> omega
    by_cases h1 : (trim b).length = 1
    · obtain ⟨d, hd⟩ : ∃ d, trim b = [d] := List.length_eq_one_iff.1 h1
      have hvd : val b = d := by rw [← vb, hd]; simp [val]
      have hd0 : 0 < d := by omega
      have hdB : d < 4294967296 := hb d (mem_trim (by rw [hd]; simp))
      have side : ∀ z, (trim b)[0]? = some z → z = d := fun z hz => by rw [hd] at hz; simpa using hz.symm
      refine j_nf [.o [0] 0, .c [1]] rfl ?_
      refine j_run it 3 rfl (by simp) ?_
      refine j_nf [.o [1, 0] 0, .c [1, 1]] rfl ?_
      refine j_run it 1 rfl (by simp) ?_
      refine j_step rfl (x_call [0] rfl (S_nat_short) rfl ?_)
      rintro _ _ _ ⟨rfl, rfl, rfl⟩
      simp only [List.cons_append, List.nil_append]
      refine j_run it 1 rfl (by simp) ?_
      refine j_step rfl (x_call [2] rfl (S_nat_short) rfl ?_)
      rintro _ _ _ ⟨rfl, rfl, rfl⟩
      simp only [List.cons_append, List.nil_append]
      refine j_run it 2 rfl (by simp) ?_
      refine j_nf [.o [1, 1, 0, 0, 0] 0, .c [1, 1, 0, 0, 1], .blk 0, .c [1, 1, 1]] rfl ?_
      refine j_run it 1 rfl (by simp) ?_
      refine j_step rfl (x_len sl33 rfl ?_)
      refine j_run it 2 rfl (by simp) ?_
      refine j_nf [.c [1, 1, 0, 0, 1], .blk 0, .c [1, 1, 1]] rfl ?_
      refine j_if rfl rfl (fun h2 => by exfalso; omega) (fun h2 => ?_)
      refine j_nf [.o [1, 1, 0, 0, 1, 1, 0] 0, .c [1, 1, 0, 0, 1, 1, 1], .blk 0, .c [1, 1, 1]] rfl ?_
      refine j_run it 2 rfl (by simp) ?_
      refine j_step rfl (x_call [1, 0] rfl (S_nat_Cmp) rfl ?_)
      rintro _ _ _ ⟨rfl, rfl, rfl⟩
      simp only [List.cons_append, List.nil_append]
      refine j_run it 2 rfl (by simp) ?_
      refine j_nf [.c [1, 1, 0, 0, 1, 1, 1], .blk 0, .c [1, 1, 1]] rfl ?_
      refine j_if rfl rfl (fun h3 => by exfalso; omega) (fun h3 => ?_)
      refine j_nf [.o [1, 1, 0, 0, 1, 1, 1, 1, 0] 0, .c [1, 1, 0, 0, 1, 1, 1, 1, 1], .blk 0, .c [1, 1, 1]] rfl ?_
      refine j_run it 1 rfl (by simp) ?_
      refine j_step rfl (x_len sl33 rfl ?_)
      refine j_run it 2 rfl (by simp) ?_
      refine j_nf [.c [1, 1, 0, 0, 1, 1, 1, 1, 1], .blk 0, .c [1, 1, 1]] rfl ?_
      refine j_if rfl rfl (fun h4 => ?_) (fun h4 => by exfalso; omega)
      refine j_nf [.o [1, 1, 0, 0, 1, 1, 1, 1, 1, 0, 0] 0, .c [1, 1, 0, 0, 1, 1, 1, 1, 1, 0, 1], .blk 0, .c [1, 1, 1]] rfl ?_
      refine j_run it 2 rfl (by simp) ?_
      refine j_step rfl (x_idx 0 0 rfl rfl rfl sl33 (by omega) (by omega) fun z1 hz1 b1 o1 => ?_)
      refine j_step rfl (x_ld_nat 0 rfl rfl ld78 fun ⟨r1, r2⟩ => ?_)
      obtain rfl : z1 = d := side z1 hz1
      have hm : val (trim a) % z1 < 4294967296 := Nat.lt_trans (Nat.mod_lt _ hd0) hdB
      have hm2 : val (trim a) % z1 < 18446744073709551616 := by omega
      refine j_step rfl (x_call [2] rfl (S_nat_digit (by first | omega | exact side _ (by assumption) | assumption | rfl | (simp; done) | (simp; omega)) (by first | omega | exact side _ (by assumption) | assumption | rfl | (simp; done) | (simp; omega))) rfl ?_)
      rintro _ _ _ ⟨pa1, ca1, rfl, rfl, rfl⟩
      simp only [List.cons_append, List.nil_append]
      refine j_run it 5 rfl (by simp) ?_
      refine j_nf [.o [1, 1, 0, 0, 1, 1, 1, 1, 1, 0, 1, 0] 0, .c [1, 1, 0, 0, 1, 1, 1, 1, 1, 0, 1, 1], .blk 0, .c [1, 1, 1]] rfl ?_
      refine j_run it 3 rfl (by repeat' first | exact trivial | apply And.intro | omega) ?_
      refine j_step rfl (x_call [] rfl (S_nat_Of (by first | omega | exact side _ (by assumption) | assumption | rfl | (simp; done) | (simp; omega))) rfl ?_)
      rintro _ _ _ ⟨pa2, ca2, rfl, rfl, rfl⟩
      simp only [List.cons_append, List.nil_append]
      refine j_run it 3 rfl (by simp) ?_
      refine j_nf [.c [1, 1, 0, 0, 1, 1, 1, 1, 1, 0, 1, 1], .blk 0, .c [1, 1, 1]] rfl ?_
      rw [va, ← hvd]
      refine j_giv [1, 0] rfl rfl rfl ⟨_, _, _, _, rfl, rfl, rfl⟩
    · obtain ⟨k, hk⟩ : ∃ k, (trim b).length = k + 2 := ⟨(trim b).length - 2, by omega⟩
      obtain ⟨t, ht, ht0⟩ := limbs_top (n := val b) (k := k + 1) (by rw [← eb]; exact hk)
      rw [← eb] at ht
      have hab : (trim b).length ≤ (trim a).length := by
        rw [eb, ea]
        exact limbs_mono (Nat.le_refl _) (by omega)
      refine j_nf [.o [0] 0, .c [1]] rfl ?_
      refine j_run it 3 rfl (by simp) ?_
      refine j_nf [.o [1, 0] 0, .c [1, 1]] rfl ?_
      refine j_run it 1 rfl (by simp) ?_
      refine j_step rfl (x_call [0] rfl (S_nat_short) rfl ?_)
      rintro _ _ _ ⟨rfl, rfl, rfl⟩
      simp only [List.cons_append, List.nil_append]
      refine j_run it 1 rfl (by simp) ?_
      refine j_step rfl (x_call [2] rfl (S_nat_short) rfl ?_)
      rintro _ _ _ ⟨rfl, rfl, rfl⟩
      simp only [List.cons_append, List.nil_append]
      refine j_run it 2 rfl (by simp) ?_
      refine j_nf [.o [1, 1, 0, 0, 0] 0, .c [1, 1, 0, 0, 1], .blk 0, .c [1, 1, 1]] rfl ?_
      refine j_run it 1 rfl (by simp) ?_
      refine j_step rfl (x_len sl33 rfl ?_)
      refine j_run it 2 rfl (by simp) ?_
      refine j_nf [.c [1, 1, 0, 0, 1], .blk 0, .c [1, 1, 1]] rfl ?_
      refine j_if rfl rfl (fun h2 => by exfalso; omega) (fun h2 => ?_)
      refine j_nf [.o [1, 1, 0, 0, 1, 1, 0] 0, .c [1, 1, 0, 0, 1, 1, 1], .blk 0, .c [1, 1, 1]] rfl ?_
      refine j_run it 2 rfl (by simp) ?_
      refine j_step rfl (x_call [1, 0] rfl (S_nat_Cmp) rfl ?_)
      rintro _ _ _ ⟨rfl, rfl, rfl⟩
      simp only [List.cons_append, List.nil_append]
      refine j_run it 2 rfl (by simp) ?_
      refine j_nf [.c [1, 1, 0, 0, 1, 1, 1], .blk 0, .c [1, 1, 1]] rfl ?_
      refine j_if rfl rfl (fun h3 => by exfalso; omega) (fun h3 => ?_)
      refine j_nf [.o [1, 1, 0, 0, 1, 1, 1, 1, 0] 0, .c [1, 1, 0, 0, 1, 1, 1, 1, 1], .blk 0, .c [1, 1, 1]] rfl ?_
      refine j_run it 1 rfl (by simp) ?_
      refine j_step rfl (x_len sl33 rfl ?_)
      refine j_run it 2 rfl (by simp) ?_
      refine j_nf [.c [1, 1, 0, 0, 1, 1, 1, 1, 1], .blk 0, .c [1, 1, 1]] rfl ?_
      refine j_if rfl rfl (fun h4 => by exfalso; omega) (fun h4 => ?_)
      refine j_nf [.o [1, 1, 1, 0] 0, .c [1, 1, 1, 1]] rfl ?_
      refine j_run it 2 rfl (by simp) ?_
      refine j_step rfl (x_call [1, 0] rfl (S_nat_long (k := k) (t := t) (by omega) hk hab ht ht0) rfl ?_)
      rintro _ _ _ ⟨lq, lr, p1, c1, p2, c2, rfl, rfl, rfl, hq, hr⟩
      simp only [List.nil_append, List.cons_append]
      refine j_range 0 rfl fun hrq => ?_
      refine j_range 1 rfl fun hrr => ?_
      have eq := trim_eq (l := lq) (fun x hx => by have := hrq x hx; simp only [InR] at this; omega)
      have er := trim_eq (l := lr) (fun x hx => by have := hrr x hx; simp only [InR] at this; omega)
      rw [hq, va, vb] at eq
      rw [hr, va, vb] at er
      refine j_run it 5 rfl (by simp) ?_
      refine j_nf [.o [1, 1, 1, 1, 0] 0, .c [1, 1, 1, 1, 1]] rfl ?_
      refine j_run it 1 rfl (by simp) ?_
      refine j_step rfl (x_call [0] rfl (S_nat_Trim) rfl ?_)
      rintro _ _ _ ⟨pa1, ca1, rfl, rfl, rfl⟩
      simp only [List.cons_append, List.nil_append]
      refine j_run it 1 rfl (by simp) ?_
      refine j_step rfl (x_call [2] rfl (S_nat_Trim) rfl ?_)
      rintro _ _ _ ⟨pa2, ca2, rfl, rfl, rfl⟩
      simp only [List.cons_append, List.nil_append]
      refine j_run it 3 rfl (by simp) ?_
      refine j_nf [.c [1, 1, 1, 1, 1]] rfl ?_
      rw [eq, er]
      refine j_giv [1, 0] rfl rfl rfl ⟨_, _, _, _, rfl, rfl, rfl⟩

theorem S_nat_Gcd {pa pb : Option Addr} {n m ca cb : Nat} {a b : List Nat} (hal : a.length ≤ 1073741824) (hbl : b.length ≤ 1073741824) :
    Ctr Try.prog 73 [.slice pa n ca, .slice pb m cb] [] [slF U32 pa n ca a, slF U32 pb m cb b] (Sv U32 (limbs (Nat.gcd (val a) (val b)))) := by
  refine Ctr_of_j' (F := F_nat_Gcd) rfl fun C => ?_
  refine j_len 0 rfl fun hn hba _ => ?_
  refine j_len 1 rfl fun hm hbb _ => ?_
  subst hn; subst hm
  refine j_range 0 rfl fun hra => ?_
  refine j_range 1 rfl fun hrb => ?_
  have ha : ∀ x ∈ a, x < 4294967296 := fun x hx => by have := hra x hx; simp only [InR] at this; omega
  have hb : ∀ x ∈ b, x < 4294967296 := fun x hx => by have := hrb x hx; simp only [InR] at this; omega
  have ea := trim_eq ha
  have eb := trim_eq hb
  have lla := trim_length_le a
  have llb := trim_length_le b
  refine j_nf [.o [0] 0, .c [1]] rfl ?_
  refine j_run it 1 rfl (by simp) ?_
  refine j_nf [.o [1, 0] 0, .c [1, 1]] rfl ?_
  refine j_run it 1 rfl (by simp) ?_
  refine j_step rfl (x_call [0] rfl (S_nat_short) rfl ?_)
  rintro _ _ _ ⟨rfl, rfl, rfl⟩
  simp only [List.cons_append, List.nil_append]
  refine j_run it 1 rfl (by simp) ?_
  refine j_step rfl (x_call [2] rfl (S_nat_short) rfl ?_)
  rintro _ _ _ ⟨rfl, rfl, rfl⟩
  simp only [List.cons_append, List.nil_append]
  refine j_run it 2 rfl (by simp) ?_
  refine j_nf [.c [1, 1, 0, 0], .blk 0, .c [1, 1, 1]] rfl ?_
  rw [ea, eb]
  rw [ea] at lla
  rw [eb] at llb
  refine j_loopG (X := Nat × Nat × (Option Addr × Nat) × (Option Addr × Nat)) [4] [] (fun x => [(0, .slice x.2.2.1.1 (limbs x.1).length x.2.2.1.2), (1, .slice x.2.2.2.1 (limbs x.2.1).length x.2.2.2.2)]) (fun _ => []) (fun x => [slF U32 x.2.2.1.1 (limbs x.1).length x.2.2.1.2 (limbs x.1), slF U32 x.2.2.2.1 (limbs x.2.1).length x.2.2.2.2 (limbs x.2.1)])
    (fun x => (limbs x.1).length ≤ 1073741824 ∧ (limbs x.2.1).length ≤ 1073741824 ∧ Nat.gcd x.1 x.2.1 = Nat.gcd (val a) (val b)) (fun x => x.2.1) (val a, val b, (pa, (limbs (val a)).length), (pb, (limbs (val b)).length)) [1, 0] rfl rfl rfl ⟨Nat.le_trans lla hal, Nat.le_trans llb hbl, rfl⟩ (by repeat (first | exact Fr.sub_nil _ | refine Fr.sub_cons rfl ?_)) rfl rfl ?_
  rintro ⟨x, y, ⟨px, cx⟩, ⟨py, cy⟩⟩ ⟨hx, hy, hg⟩ ih
  simp only [List.cons_append, List.nil_append] at hx hy hg ih ⊢
  by_cases hy0 : y = 0
  · have e0 : (limbs y).length = 0 := by rw [hy0, limbs_zero]; rfl
    subst hy0
    refine j_nf [.o [1, 1, 0, 0, 0, 0, 0] 0, .c [1, 1, 0, 0, 0, 0, 1], .c [1, 1, 0, 0, 0, 1], .lp [1, 1, 0, 0, 0], .blk 0, .c [1, 1, 1]] rfl ?_
    refine j_run it 1 rfl (by simp) ?_
    refine j_step rfl (x_len sl33 rfl ?_)
    refine j_run it 1 rfl (by simp) ?_
    refine j_nf [.c [1, 1, 0, 0, 0, 0, 1], .c [1, 1, 0, 0, 0, 1], .lp [1, 1, 0, 0, 0], .blk 0, .c [1, 1, 1]] rfl ?_
    refine j_if rfl rfl (fun h1 => by exfalso; omega) (fun h1 => ?_)
    refine j_nf [.o [1, 1, 1, 0] 0, .c [1, 1, 1, 1]] rfl ?_
    refine j_run it 1 rfl (by simp) ?_
    refine j_step rfl (x_call [0] rfl (S_nat_Trim) rfl ?_)
    rintro _ _ _ ⟨pa1, ca1, rfl, rfl, rfl⟩
    simp only [List.cons_append, List.nil_append]
    refine j_run it 1 rfl (by simp) ?_
    refine j_nf [.c [1, 1, 1, 1]] rfl ?_
    rw [trim_limbs, show x = Nat.gcd (val a) (val b) by rw [← hg, Nat.gcd_zero_right]]
    refine j_giv [0] rfl rfl rfl ⟨_, _, rfl, rfl, rfl⟩
  · have e0 : 0 < (limbs y).length := List.length_pos_iff.2 (fun h => hy0 (limbs_nil.1 h))
    have hv : val (limbs y) ≠ 0 := by rw [val_limbs]; exact hy0
    refine j_nf [.o [1, 1, 0, 0, 0, 0, 0] 0, .c [1, 1, 0, 0, 0, 0, 1], .c [1, 1, 0, 0, 0, 1], .lp [1, 1, 0, 0, 0], .blk 0, .c [1, 1, 1]] rfl ?_
    refine j_run it 1 rfl (by simp) ?_
    refine j_step rfl (x_len sl33 rfl ?_)
    refine j_run it 1 rfl (by simp) ?_
    refine j_nf [.c [1, 1, 0, 0, 0, 0, 1], .c [1, 1, 0, 0, 0, 1], .lp [1, 1, 0, 0, 0], .blk 0, .c [1, 1, 1]] rfl ?_
    refine j_if rfl rfl (fun h1 => ?_) (fun h1 => by exfalso; omega)
    refine j_nf [.o [1, 1, 0, 0, 0, 1, 0, 0] 0, .c [1, 1, 0, 0, 0, 1, 0, 1], .blk 1, .lp [1, 1, 0, 0, 0], .blk 0, .c [1, 1, 1]] rfl ?_
    refine j_run it 2 rfl (by simp) ?_
    refine j_step rfl (x_call [0, 1] rfl (S_nat_DivMod (by first | omega | exact side _ (by assumption) | assumption | rfl | (simp; done) | (simp; omega)) (by first | omega | exact side _ (by assumption) | assumption | rfl | (simp; done) | (simp; omega))) rfl ?_)
    rintro _ _ _ ⟨p11, c11, p21, c21, rfl, rfl, rfl⟩
    simp only [List.cons_append, List.nil_append]
    refine j_run it 7 rfl (by simp) ?_
    refine j_nf [.o [1, 1, 0, 0, 0, 1, 0, 1] 0, .blk 1, .lp [1, 1, 0, 0, 0], .blk 0, .c [1, 1, 1]] rfl ?_
    refine j_run it 4 rfl (by simp) ?_
    refine j_nfn 2 [.lp [1, 1, 0, 0, 0], .blk 0, .c [1, 1, 1]] rfl ?_
    simp only [val_limbs]
    refine j_to [3, 1] (by repeat (first | exact Fr.sub_nil _ | refine Fr.sub_cons rfl ?_ | refine Fr.sub_consI rfl (by first | omega | (dsimp only; omega)) ?_ | refine Fr.sub_consS rfl (by first | omega | (dsimp only; omega)) (by first | omega | (dsimp only; omega)) ?_)) rfl rfl (ih (y, x % y, (py, cy), (p21, c21)) (by simp only; exact Nat.mod_lt _ (by omega)) ⟨hy, limbs_mono hy (Nat.le_of_lt (Nat.mod_lt _ (by omega))), by simp only; rw [← hg, Nat.gcd_comm x y, Nat.gcd_rec y x, Nat.gcd_comm]⟩)
end Go.Proofs.Ytlhgkefaflpgeaa

namespace Go.Proofs.Ytlhgkefaflpgeaa
open Go Go.Fw
set_option maxRecDepth 100000
set_option linter.unusedVariables false
set_option linter.unusedSimpArgs false
set_option maxHeartbeats 2000000
theorem S_rational_one : Ctr Try.prog 67 [] [] [] (Sv U32 [1]) := by
  refine Ctr_of_j' (F := F_rational_one) rfl fun C => ?_
  refine j_nf [.o [0] 0, .c [1]] rfl ?_
  refine j_run it 1 rfl (by simp) ?_
  refine j_nf [.o [1, 0] 0, .c [1, 1]] rfl ?_
  refine j_step rfl (x_lit sl33 zo33e rfl rfl rfl rfl (by decide) (by decide) rfl fun b1 => ?_)
  refine j_run it 1 rfl (by simp) ?_
  refine j_nf [.c [1, 1]] rfl ?_
  refine j_pub_made (n := 1) (kd := .u32) 4 [1] 0 rfl rfl (by simp [InR]) (by decide) (by decide) ?_
  refine j_giv [0] rfl rfl rfl ⟨_, _, rfl, rfl, rfl⟩

theorem bitsL_zero {l : List Nat} (h : ∀ x ∈ l, x < 4294967296) : bitsL l = 0 ↔ val l = 0 := by
  have ht := trim_eq h
  constructor
  · intro h0
    rcases Nat.eq_zero_or_pos (trim l).length with h1 | h1
    · have := List.eq_nil_of_length_eq_zero h1
      rw [ht, limbs_nil] at this; exact this
    · obtain ⟨k, hk⟩ : ∃ k, (trim l).length = k + 1 := ⟨(trim l).length - 1, by omega⟩
      obtain ⟨t, hz, hz0⟩ := limbs_top (n := val l) (k := k) (by rw [← ht]; exact hk)
      rw [← ht] at hz
      have h3 := bitsL_top (z := t) (by rw [hk]; exact hz)
      have := blen_pos hz0
      omega
  · intro h0
    exact bitsL_nil (by rw [ht, h0, limbs_zero]; rfl)

theorem lim {l : List Nat} (h : ∀ x ∈ l, InR .u32 x) : ∀ x ∈ l, x < 4294967296 := fun x hx => by have := h x hx; simp only [InR] at this; omega

theorem S_rational_canonical {neg : Bool} {pn pd : Option Addr} {n m cn cd : Nat} {N D : List Nat} (hN : N.length ≤ 1073741824) (hD : D.length ≤ 1073741824) :
    Ctr Try.prog 57 [.bool neg, .slice pn n cn, .slice pd m cd] [] [slF U32 pn n cn N, slF U32 pd m cd D] (RtV (rt (vq (neg, N, D)))) := by
  refine Ctr_of_j' (F := F_rational_canonical) rfl fun C => ?_
  refine j_len 0 rfl fun hn hba _ => ?_
  refine j_len 1 rfl fun hm hbb _ => ?_
  subst hn; subst hm
  refine j_range 0 rfl fun hra => ?_
  refine j_range 1 rfl fun hrb => ?_
  have ha := lim hra
  have hb := lim hrb
  have za := bitsL_zero ha
  have zb := bitsL_zero hb
  have zero : val N = 0 ∨ val D = 0 → rt (vq (neg, N, D)) = (false, [], [1]) := fun h => by rw [vq_eq, mk_zero h, rt_zero]
  by_cases h1 : bitsL N = 0
  · have e := zero (.inl (za.1 h1))
    refine j_nf [.o [0] 0, .c [1]] rfl ?_
    refine j_step rfl (x_alloc zo35 fun b1 => ?_)
    refine j_nf [.o [1, 0, 0] 0, .c [1, 0, 1], .c [1, 1]] rfl ?_
    refine j_run it 1 rfl (by simp) ?_
    refine j_step rfl (x_call [0] rfl (S_nat_Bits) rfl ?_)
    rintro _ _ _ ⟨rfl, rfl, rfl⟩
    simp only [List.cons_append, List.nil_append]
    refine j_run it 2 rfl (by simp) ?_
    refine j_split_dec (t := 11) rfl (fun h2 => ?_) (fun h2 => by exfalso; omega)
    refine j_run it 4 rfl (by simp) ?_
    refine j_nf [.c [1, 0, 1], .c [1, 1]] rfl ?_
    refine j_true rfl rfl ?_
    refine j_nf [.o [1, 0, 1, 0, 0] 0, .c [1, 0, 1, 0, 1], .c [1, 1]] rfl ?_
    refine j_step rfl (x_call [] rfl (S_rational_one) rfl ?_)
    rintro _ _ _ ⟨pa1, ca1, rfl, rfl, rfl⟩
    simp only [List.cons_append, List.nil_append]
    refine j_step rfl (x_build (cs := [Value.bool false, Value.slice none 0 0, Value.slice pa1 [1].length ca1]) st35 zo35 rfl rfl ?_)
    refine j_step rfl (x_bst_all 0 rfl rfl rfl ld35 rfl rfl (by simp [Value.oneCell']) ?_)
    refine j_nf [.c [1, 0, 1, 0, 1], .c [1, 1]] rfl ?_
    refine j_add (slF U32 none 0 0 []) (fun w A _ => slF_nil _ _ _ _ _) ?_
    refine j_givC [0, 1] rfl (.agg 0 rfl rfl ld35 rfl .nil) rfl ⟨none, 0, pa1, ca1, by rw [e]; rfl, by rw [e]; rfl, rfl⟩
  by_cases h2 : bitsL D = 0
  · have e := zero (.inr (zb.1 h2))
    refine j_nf [.o [0] 0, .c [1]] rfl ?_
    refine j_step rfl (x_alloc zo35 fun b1 => ?_)
    refine j_nf [.o [1, 0, 0] 0, .c [1, 0, 1], .c [1, 1]] rfl ?_
    refine j_run it 1 rfl (by simp) ?_
    refine j_step rfl (x_call [0] rfl (S_nat_Bits) rfl ?_)
    rintro _ _ _ ⟨rfl, rfl, rfl⟩
    simp only [List.cons_append, List.nil_append]
    refine j_run it 2 rfl (by simp) ?_
    refine j_split_dec (t := 11) rfl (fun h3 => by exfalso; omega) (fun h3 => ?_)
    refine j_run it 1 rfl (by simp) ?_
    refine j_gstep rfl rfl (x_call [1] rfl (S_nat_Bits) rfl ?_)
    rintro _ _ _ ⟨rfl, rfl, rfl⟩
    simp only [List.cons_append, List.nil_append]
    refine j_run it 2 rfl (by simp) ?_
    refine j_nf [.c [1, 0, 1], .c [1, 1]] rfl ?_
    refine j_if rfl rfl (fun h4 => ?_) (fun h4 => by exfalso; omega)
    refine j_nf [.o [1, 0, 1, 0, 0] 0, .c [1, 0, 1, 0, 1], .c [1, 1]] rfl ?_
    refine j_step rfl (x_call [] rfl (S_rational_one) rfl ?_)
    rintro _ _ _ ⟨pa1, ca1, rfl, rfl, rfl⟩
    simp only [List.cons_append, List.nil_append]
    refine j_step rfl (x_build (cs := [Value.bool false, Value.slice none 0 0, Value.slice pa1 [1].length ca1]) st35 zo35 rfl rfl ?_)
    refine j_step rfl (x_bst_all 0 rfl rfl rfl ld35 rfl rfl (by simp [Value.oneCell']) ?_)
    refine j_nf [.c [1, 0, 1, 0, 1], .c [1, 1]] rfl ?_
    refine j_add (slF U32 none 0 0 []) (fun w A _ => slF_nil _ _ _ _ _) ?_
    refine j_givC [0, 1] rfl (.agg 0 rfl rfl ld35 rfl .nil) rfl ⟨none, 0, pa1, ca1, by rw [e]; rfl, by rw [e]; rfl, rfl⟩
  · have v1 : val N ≠ 0 := fun h => h1 (za.2 h)
    have v2 : val D ≠ 0 := fun h => h2 (zb.2 h)
    have hg : val (limbs (Nat.gcd (val N) (val D))) ≠ 0 := by
      rw [val_limbs]
      have := Nat.gcd_pos_of_pos_left (val D) (Nat.pos_of_ne_zero v1)
      omega
    have e : rt (vq (neg, N, D)) = (neg, limbs (val N / val (limbs (Nat.gcd (val N) (val D)))), limbs (val D / val (limbs (Nat.gcd (val N) (val D))))) := by
      rw [vq_eq, rt_mk v1 v2, val_limbs]
    refine j_nf [.o [0] 0, .c [1]] rfl ?_
    refine j_step rfl (x_alloc zo35 fun b1 => ?_)
    refine j_nf [.o [1, 0, 0] 0, .c [1, 0, 1], .c [1, 1]] rfl ?_
    refine j_run it 1 rfl (by simp) ?_
    refine j_step rfl (x_call [0] rfl (S_nat_Bits) rfl ?_)
    rintro _ _ _ ⟨rfl, rfl, rfl⟩
    simp only [List.cons_append, List.nil_append]
    refine j_run it 2 rfl (by simp) ?_
    refine j_split_dec (t := 11) rfl (fun h3 => by exfalso; omega) (fun h3 => ?_)
    refine j_run it 1 rfl (by simp) ?_
    refine j_gstep rfl rfl (x_call [1] rfl (S_nat_Bits) rfl ?_)
    rintro _ _ _ ⟨rfl, rfl, rfl⟩
    simp only [List.cons_append, List.nil_append]
    refine j_run it 2 rfl (by simp) ?_
    refine j_nf [.c [1, 0, 1], .c [1, 1]] rfl ?_
    refine j_if rfl rfl (fun h4 => by exfalso; omega) (fun h4 => ?_)
    refine j_nf [.o [1, 1, 0] 0, .c [1, 1, 1]] rfl ?_
    refine j_run it 2 rfl (by simp) ?_
    refine j_step rfl (x_call [0, 1] rfl (S_nat_Gcd (by first | omega | exact side _ (by assumption) | assumption | rfl | (simp; done) | (simp; omega)) (by first | omega | exact side _ (by assumption) | assumption | rfl | (simp; done) | (simp; omega))) rfl ?_)
    rintro _ _ _ ⟨pa1, ca1, rfl, rfl, rfl⟩
    simp only [List.cons_append, List.nil_append]
    refine j_run it 1 rfl (by simp) ?_
    refine j_nf [.o [1, 1, 1, 0] 0, .c [1, 1, 1, 1]] rfl ?_
    refine j_run it 2 rfl (by simp) ?_
    refine j_step rfl (x_call [1, 0] rfl (S_nat_DivMod (by first | omega | exact side _ (by assumption) | assumption | rfl | (simp; done) | (simp; omega)) (by first | omega | exact side _ (by assumption) | assumption | rfl | (simp; done) | (simp; omega))) rfl ?_)
    rintro _ _ _ ⟨p11, c11, p21, c21, rfl, rfl, rfl⟩
    simp only [List.cons_append, List.nil_append]
    refine j_run it 5 rfl (by simp) ?_
    refine j_nf [.o [1, 1, 1, 1, 0] 0, .c [1, 1, 1, 1, 1]] rfl ?_
    refine j_run it 2 rfl (by simp) ?_
    refine j_step rfl (x_call [4, 2] rfl (S_nat_DivMod (by first | omega | exact side _ (by assumption) | assumption | rfl | (simp; done) | (simp; omega)) (by first | omega | exact side _ (by assumption) | assumption | rfl | (simp; done) | (simp; omega))) rfl ?_)
    rintro _ _ _ ⟨p12, c12, p22, c22, rfl, rfl, rfl⟩
    simp only [List.cons_append, List.nil_append]
    refine j_run it 5 rfl (by simp) ?_
    refine j_nf [.o [1, 1, 1, 1, 1, 0] 0, .c [1, 1, 1, 1, 1, 1]] rfl ?_
    refine j_run it 3 rfl (by simp) ?_
    refine j_step rfl (x_build (cs := [Value.bool neg, Value.slice p11 (limbs (val N / val (limbs ((val N).gcd (val D))))).length c11, Value.slice p12 (limbs (val D / val (limbs ((val N).gcd (val D))))).length c12]) st35 zo35 rfl rfl ?_)
    refine j_step rfl (x_bst_all 0 rfl rfl rfl ld35 rfl rfl (by simp [Value.oneCell']) ?_)
    refine j_nf [.c [1, 1, 1, 1, 1, 1]] rfl ?_
    refine j_givC [2, 0] rfl (.agg 0 rfl rfl ld35 rfl .nil) rfl ⟨p11, c11, p12, c12, by rw [e]; rfl, by rw [e], rfl⟩

theorem S_rational_Trim {neg : Bool} {pn pd : Option Addr} {n m cn cd : Nat} {N D : List Nat} (hN : N.length ≤ 1073741824) (hD : D.length ≤ 1073741824) :
    Ctr Try.prog 77 [.agg #[.bool neg, .slice pn n cn, .slice pd m cd]] [] [slF U32 pn n cn N, slF U32 pd m cd D] (RtV (rt (vq (neg, N, D)))) := by
  refine Ctr_of_j' (F := F_rational_Trim) rfl fun C => ?_
  refine j_len 0 rfl fun hn _ _ => ?_
  refine j_len 1 rfl fun hm _ _ => ?_
  subst hn; subst hm
  refine j_nf [.o [0] 0, .c [1]] rfl ?_
  refine j_step rfl (x_box_agg rfl fun b1 => ?_)
  refine j_step rfl (x_alloc zo35 fun b2 => ?_)
  refine j_nf [.o [1, 0] 0, .c [1, 1]] rfl ?_
  refine j_step rfl (x_field rfl fd35_0 ?_)
  refine j_step rfl (x_bld 1 rfl rfl ld4 rfl ?_)
  refine j_step rfl (x_field rfl fd35_1 ?_)
  refine j_step rfl (x_bld 1 rfl rfl ld33 rfl ?_)
  refine j_step rfl (x_field rfl fd35_2 ?_)
  refine j_step rfl (x_bld 1 rfl rfl ld33 rfl ?_)
  refine j_step rfl (x_call [0, 1] rfl (S_rational_canonical (by first | omega | exact side _ (by assumption) | assumption | rfl | (simp; done) | (simp; omega)) (by first | omega | exact side _ (by assumption) | assumption | rfl | (simp; done) | (simp; omega))) rfl ?_)
  rintro _ _ _ ⟨pn1, cn1, pd1, cd1, rfl, rfl, rfl⟩
  simp only [List.cons_append, List.nil_append]
  refine j_step rfl (x_bst_all 0 rfl rfl rfl ld35 rfl rfl (by simp [Value.oneCell']) ?_)
  refine j_nf [.c [1, 1]] rfl ?_
  refine j_givC [0, 1] rfl (.agg 0 rfl rfl ld35 rfl .nil) rfl ⟨_, _, _, _, rfl, rfl, rfl⟩

theorem S_rational_Neg {neg : Bool} {pn pd : Option Addr} {n m cn cd : Nat} {N D : List Nat} (hN : N.length ≤ 1073741824) (hD : D.length ≤ 1073741824) :
    Ctr Try.prog 55 [.agg #[.bool neg, .slice pn n cn, .slice pd m cd]] [] [slF U32 pn n cn N, slF U32 pd m cd D] (RtV (rt (-vq (neg, N, D)))) := by
  refine Ctr_of_j' (F := F_rational_Neg) rfl fun C => ?_
  refine j_len 0 rfl fun hn _ _ => ?_
  refine j_len 1 rfl fun hm _ _ => ?_
  subst hn; subst hm
  refine j_nf [.o [0] 0, .c [1]] rfl ?_
  refine j_step rfl (x_box_agg rfl fun b1 => ?_)
  refine j_step rfl (x_alloc zo35 fun b2 => ?_)
  refine j_nf [.o [1, 0] 0, .c [1, 1]] rfl ?_
  refine j_step rfl (x_field rfl fd35_0 ?_)
  refine j_step rfl (x_bld 1 rfl rfl ld4 rfl ?_)
  refine j_run it 1 rfl (by simp) ?_
  refine j_step rfl (x_field rfl fd35_1 ?_)
  refine j_step rfl (x_bld 1 rfl rfl ld33 rfl ?_)
  refine j_step rfl (x_field rfl fd35_2 ?_)
  refine j_step rfl (x_bld 1 rfl rfl ld33 rfl ?_)
  refine j_step rfl (x_call [0, 1] rfl (S_rational_canonical (by first | omega | exact side _ (by assumption) | assumption | rfl | (simp; done) | (simp; omega)) (by first | omega | exact side _ (by assumption) | assumption | rfl | (simp; done) | (simp; omega))) rfl ?_)
  rintro _ _ _ ⟨pn1, cn1, pd1, cd1, rfl, rfl, rfl⟩
  simp only [List.cons_append, List.nil_append]
  refine j_step rfl (x_bst_all 0 rfl rfl rfl ld35 rfl rfl (by simp [Value.oneCell']) ?_)
  refine j_nf [.c [1, 1]] rfl ?_
  have e : vq (!neg, N, D) = -vq (neg, N, D) := neg_mk _ _ _
  rw [e]
  refine j_givC [0, 1] rfl (.agg 0 rfl rfl ld35 rfl .nil) rfl ⟨_, _, _, _, rfl, rfl, rfl⟩

theorem S_rational_Sign {neg : Bool} {pn pd : Option Addr} {n m cn cd : Nat} {N D : List Nat} :
    Ctr Try.prog 47 [.agg #[.bool neg, .slice pn n cn, .slice pd m cd]] [] [slF U32 pn n cn N, slF U32 pd m cd D] (Rv (.int .i64 (vq (neg, N, D)).num.sign) []) := by
  refine Ctr_of_j' (F := F_rational_Sign) rfl fun C => ?_
  refine j_len 0 rfl fun hn _ _ => ?_
  refine j_len 1 rfl fun hm _ _ => ?_
  subst hn; subst hm
  refine j_range 0 rfl fun hra => ?_
  refine j_range 1 rfl fun hrb => ?_
  have ha := lim hra
  have hb := lim hrb
  have za := bitsL_zero ha
  have zb := bitsL_zero hb
  have zero : val N = 0 ∨ val D = 0 → (vq (neg, N, D)).num.sign = 0 := fun h => by rw [vq_eq, mk_zero h]; rfl
  by_cases h1 : bitsL N = 0
  · rw [zero (.inl (za.1 h1))]
    refine j_nf [.o [0] 0, .c [1]] rfl ?_
    refine j_step rfl (x_box_agg rfl fun b1 => ?_)
    refine j_run it 1 rfl (by simp) ?_
    refine j_nf [.o [1, 0, 0, 0] 0, .c [1, 0, 0, 1], .blk 0, .c [1, 1]] rfl ?_
    refine j_step rfl (x_field rfl fd35_1 ?_)
    refine j_step rfl (x_bld 0 rfl rfl ld33 rfl ?_)
    refine j_step rfl (x_call [0] rfl (S_nat_Bits) rfl ?_)
    rintro _ _ _ ⟨rfl, rfl, rfl⟩
    simp only [List.cons_append, List.nil_append]
    refine j_run it 2 rfl (by simp) ?_
    refine j_split_dec (t := 8) rfl (fun h2 => ?_) (fun h2 => by exfalso; omega)
    refine j_run it 6 rfl (by simp) ?_
    refine j_nf [.c [1, 0, 0, 1], .blk 0, .c [1, 1]] rfl ?_
    refine j_true rfl rfl ?_
    refine j_nf [.o [1, 0, 0, 1, 0, 0] 0, .c [1, 0, 0, 1, 0, 1], .blk 0, .c [1, 1]] rfl ?_
    refine j_run it 1 rfl (by simp) ?_
    refine j_nf [.c [1, 0, 0, 1, 0, 1], .blk 0, .c [1, 1]] rfl ?_
    refine j_giv [] rfl rfl rfl ⟨rfl, rfl, rfl⟩
  by_cases h2 : bitsL D = 0
  · rw [zero (.inr (zb.1 h2))]
    refine j_nf [.o [0] 0, .c [1]] rfl ?_
    refine j_step rfl (x_box_agg rfl fun b1 => ?_)
    refine j_run it 1 rfl (by simp) ?_
    refine j_nf [.o [1, 0, 0, 0] 0, .c [1, 0, 0, 1], .blk 0, .c [1, 1]] rfl ?_
    refine j_step rfl (x_field rfl fd35_1 ?_)
    refine j_step rfl (x_bld 0 rfl rfl ld33 rfl ?_)
    refine j_step rfl (x_call [0] rfl (S_nat_Bits) rfl ?_)
    rintro _ _ _ ⟨rfl, rfl, rfl⟩
    simp only [List.cons_append, List.nil_append]
    refine j_run it 2 rfl (by simp) ?_
    refine j_split_dec (t := 8) rfl (fun h3 => by exfalso; omega) (fun h3 => ?_)
    refine j_gstep rfl rfl (x_field rfl fd35_2 ?_)
    refine j_gstep rfl rfl (x_bld 0 rfl rfl ld33 rfl ?_)
    refine j_gstep rfl rfl (x_call [1] rfl (S_nat_Bits) rfl ?_)
    rintro _ _ _ ⟨rfl, rfl, rfl⟩
    simp only [List.cons_append, List.nil_append]
    refine j_run it 3 rfl (by simp) ?_
    refine j_nf [.c [1, 0, 0, 1], .blk 0, .c [1, 1]] rfl ?_
    refine j_if rfl rfl (fun h4 => ?_) (fun h4 => by exfalso; omega)
    refine j_nf [.o [1, 0, 0, 1, 0, 0] 0, .c [1, 0, 0, 1, 0, 1], .blk 0, .c [1, 1]] rfl ?_
    refine j_run it 1 rfl (by simp) ?_
    refine j_nf [.c [1, 0, 0, 1, 0, 1], .blk 0, .c [1, 1]] rfl ?_
    refine j_giv [] rfl rfl rfl ⟨rfl, rfl, rfl⟩
  · rw [vq_eq, mk_sign (fun h => h1 (za.2 h)) (fun h => h2 (zb.2 h))]
    cases neg with
    | true =>
      refine j_nf [.o [0] 0, .c [1]] rfl ?_
      refine j_step rfl (x_box_agg rfl fun b1 => ?_)
      refine j_run it 1 rfl (by simp) ?_
      refine j_nf [.o [1, 0, 0, 0] 0, .c [1, 0, 0, 1], .blk 0, .c [1, 1]] rfl ?_
      refine j_step rfl (x_field rfl fd35_1 ?_)
      refine j_step rfl (x_bld 0 rfl rfl ld33 rfl ?_)
      refine j_step rfl (x_call [0] rfl (S_nat_Bits) rfl ?_)
      rintro _ _ _ ⟨rfl, rfl, rfl⟩
      simp only [List.cons_append, List.nil_append]
      refine j_run it 2 rfl (by simp) ?_
      refine j_split_dec (t := 8) rfl (fun h3 => by exfalso; omega) (fun h3 => ?_)
      refine j_gstep rfl rfl (x_field rfl fd35_2 ?_)
      refine j_gstep rfl rfl (x_bld 0 rfl rfl ld33 rfl ?_)
      refine j_gstep rfl rfl (x_call [1] rfl (S_nat_Bits) rfl ?_)
      rintro _ _ _ ⟨rfl, rfl, rfl⟩
      simp only [List.cons_append, List.nil_append]
      refine j_run it 3 rfl (by simp) ?_
      refine j_nf [.c [1, 0, 0, 1], .blk 0, .c [1, 1]] rfl ?_
      refine j_if rfl rfl (fun h4 => by exfalso; omega) (fun h4 => ?_)
      refine j_nf [.o [1, 0, 0, 1, 1, 0] 0, .c [1, 0, 0, 1, 1, 1], .blk 0, .c [1, 1]] rfl ?_
      refine j_step rfl (x_field rfl fd35_0 ?_)
      refine j_step rfl (x_bld 0 rfl rfl ld4 rfl ?_)
      refine j_run it 1 rfl (by simp) ?_
      refine j_nf [.c [1, 0, 0, 1, 1, 1], .blk 0, .c [1, 1]] rfl ?_
      refine j_true rfl rfl ?_
      refine j_nf [.o [1, 0, 0, 1, 1, 1, 0, 0] 0, .c [1, 0, 0, 1, 1, 1, 0, 1], .blk 0, .c [1, 1]] rfl ?_
      refine j_run it 1 rfl (by simp) ?_
      refine j_nf [.c [1, 0, 0, 1, 1, 1, 0, 1], .blk 0, .c [1, 1]] rfl ?_
      refine j_giv [] rfl rfl rfl ⟨rfl, rfl, rfl⟩
    | false =>
      refine j_nf [.o [0] 0, .c [1]] rfl ?_
      refine j_step rfl (x_box_agg rfl fun b1 => ?_)
      refine j_run it 1 rfl (by simp) ?_
      refine j_nf [.o [1, 0, 0, 0] 0, .c [1, 0, 0, 1], .blk 0, .c [1, 1]] rfl ?_
      refine j_step rfl (x_field rfl fd35_1 ?_)
      refine j_step rfl (x_bld 0 rfl rfl ld33 rfl ?_)
      refine j_step rfl (x_call [0] rfl (S_nat_Bits) rfl ?_)
      rintro _ _ _ ⟨rfl, rfl, rfl⟩
      simp only [List.cons_append, List.nil_append]
      refine j_run it 2 rfl (by simp) ?_
      refine j_split_dec (t := 8) rfl (fun h3 => by exfalso; omega) (fun h3 => ?_)
      refine j_gstep rfl rfl (x_field rfl fd35_2 ?_)
      refine j_gstep rfl rfl (x_bld 0 rfl rfl ld33 rfl ?_)
      refine j_gstep rfl rfl (x_call [1] rfl (S_nat_Bits) rfl ?_)
      rintro _ _ _ ⟨rfl, rfl, rfl⟩
      simp only [List.cons_append, List.nil_append]
      refine j_run it 3 rfl (by simp) ?_
      refine j_nf [.c [1, 0, 0, 1], .blk 0, .c [1, 1]] rfl ?_
      refine j_if rfl rfl (fun h4 => by exfalso; omega) (fun h4 => ?_)
      refine j_nf [.o [1, 0, 0, 1, 1, 0] 0, .c [1, 0, 0, 1, 1, 1], .blk 0, .c [1, 1]] rfl ?_
      refine j_step rfl (x_field rfl fd35_0 ?_)
      refine j_step rfl (x_bld 0 rfl rfl ld4 rfl ?_)
      refine j_run it 1 rfl (by simp) ?_
      refine j_nf [.c [1, 0, 0, 1, 1, 1], .blk 0, .c [1, 1]] rfl ?_
      refine j_false rfl rfl ?_
      refine j_nf [.o [1, 1, 0] 0, .c [1, 1, 1]] rfl ?_
      refine j_run it 1 rfl (by simp) ?_
      refine j_nf [.c [1, 1, 1]] rfl ?_
      refine j_giv [] rfl rfl rfl ⟨rfl, rfl, rfl⟩
end Go.Proofs.Ytlhgkefaflpgeaa

namespace Go.Proofs.Ytlhgkefaflpgeaa
open Go Go.Fw
set_option maxRecDepth 100000
set_option linter.unusedVariables false
set_option linter.unusedSimpArgs false

theorem O_nat_Trim {pa : Option Addr} {n ca : Nat} {l : List Nat} : Ctr Try.prog 87 [.slice pa n ca] [] [slF U32 pa n ca l] (Ov 78 (trim l)) := by
  refine Ctr_of_j' (F := F_nat_Trim) rfl fun C => ?_
  refine j_len 0 rfl fun hn hb _ => ?_
  subst hn
  have hb' : l.length * 4 ≤ 140737488355328 := hb
  have hl := trim_length_le l
  refine j_nf [.o [0] 0, .c [1]] rfl ?_
  refine j_run it 1 rfl (by simp) ?_
  refine j_nf [.o [1, 0] 0, .c [1, 1]] rfl ?_
  refine j_run it 1 rfl (by simp) ?_
  refine j_step rfl (x_call [0] rfl (S_nat_short) rfl ?_)
  rintro _ _ _ ⟨rfl, rfl, rfl⟩
  simp only [List.cons_append, List.nil_append]
  refine j_nil el33 ?_
  refine j_step rfl (x_app_sl 0 0 rfl rfl rfl rfl sl33 zo33e rfl (by first | exact GrOk.nil _ | assumption | exact .inr ⟨_, rfl, Nat.le_refl _, by omega, rfl⟩) (by omega) _ by33e (by omega) fun bo1 cap1 cs1 vss1 hg1 ht1 => ?_)
  refine j_run it 1 rfl (by simp) ?_
  refine j_nf [.c [1, 1]] rfl ?_
  refine j_flat 0 rfl fun hfl => ?_
  simp only [Nat.zero_add, Nat.zero_mul, List.take_zero, List.nil_append, hfl] at ht1
  have e : cs1 = natCells .u32 (trim l) ++ cs1.drop (trim l).length := by
    have h := List.take_append_drop (trim l).length cs1
    rw [show (trim l).length = (trim l).length * (encNat .u32 4).size from (Nat.mul_one _).symm] at h
    rw [ht1] at h
    exact h.symm.trans (by rw [show (trim l).length * (encNat .u32 4).size = (trim l).length from Nat.mul_one _])
  rw [Nat.zero_add] at hg1
  refine j_gives [] rfl rfl rfl ⟨bo1, cap1, cs1.drop (trim l).length, by simp [resVal], by rw [← e]; exact hg1, rfl, by rw [← e]; rfl⟩
end Go.Proofs.Ytlhgkefaflpgeaa

namespace Go.Proofs.Ytlhgkefaflpgeaa
open Go Go.Fw
set_option maxRecDepth 100000
set_option linter.unusedVariables false
set_option linter.unusedSimpArgs false
set_option maxHeartbeats 1000000
theorem S_nat_Sub {pa pb : Option Addr} {n m ca cb : Nat} {a b : List Nat} (hab : val b ≤ val a) :
    Ctr Try.prog 83 [.slice pa n ca, .slice pb m cb] [] [slF U32 pa n ca a, slF U32 pb m cb b] (S2 U32 (limbs (val a - val b)) 0) := by
  refine Ctr_of_j' (F := F_nat_Sub) rfl fun C => ?_
  refine j_len 0 rfl fun hn hba _ => ?_
  refine j_len 1 rfl fun hm hbb _ => ?_
  subst hn; subst hm
  have hba' : a.length * 4 ≤ 140737488355328 := hba
  have hbb' : b.length * 4 ≤ 140737488355328 := hbb
  refine j_range 0 rfl fun hra => ?_
  refine j_range 1 rfl fun hrb => ?_
  have hra' : ∀ x ∈ a, x < 4294967296 := fun x hx => by have := hra x hx; simp only [InR] at this; omega
  have hrb' : ∀ x ∈ b, x < 4294967296 := fun x hx => by have := hrb x hx; simp only [InR] at this; omega
  have ht : ∀ x ∈ trim a, x < 4294967296 := fun x hx => hra' x (mem_trim hx)
  have hv : val (trim a) = val a := val_trim a
  have hl := trim_length_le a
  have hc : 0 ≤ cmpN (val a) (val b) := by unfold cmpN; split <;> (try split) <;> omega
  refine j_nf [.o [0] 0, .c [1]] rfl ?_
  refine j_run it 2 rfl (by simp) ?_
  refine j_nf [.o [1, 0, 0] 0, .c [1, 0, 1], .c [1, 1]] rfl ?_
  refine j_run it 2 rfl (by simp) ?_
  refine j_step rfl (x_call [0, 1] rfl (S_nat_Cmp) rfl ?_)
  rintro _ _ _ ⟨rfl, rfl, rfl⟩
  simp only [List.cons_append, List.nil_append]
  refine j_run it 1 rfl (by simp) ?_
  refine j_nf [.c [1, 0, 1], .c [1, 1]] rfl ?_
  refine j_if rfl rfl (fun h1 => by exfalso; omega) (fun h1 => ?_)
  refine j_nf [.o [1, 1, 0] 0, .c [1, 1, 1]] rfl ?_
  refine j_run it 1 rfl (by simp) ?_
  refine j_step rfl (x_call [0] rfl O_nat_Trim rfl ?_)
  rintro _ _ _ ⟨bo, cap, rest, rfl, hg, rfl, rfl⟩
  simp only [List.nil_append, List.cons_append]
  generalize trim a = l at ht hv hl hg ⊢
  refine j_run it 1 rfl (by simp) ?_
  refine j_nf [.o [1, 1, 1, 0] 0, .c [1, 1, 1, 1]] rfl ?_
  refine j_run it 1 rfl (by simp) ?_
  refine j_nf [.o [1, 1, 1, 1, 0, 0] 0, .c [1, 1, 1, 1, 0, 1], .c [1, 1, 1, 1, 1]] rfl ?_
  refine j_run it 1 rfl (by simp) ?_
  refine j_step rfl (x_len sl33 rfl ?_)
  refine j_run it 1 rfl (by simp) ?_
  refine j_nf [.c [1, 1, 1, 1, 0, 1, 0], .blk 0, .c [1, 1, 1, 1, 1]] rfl ?_
  refine j_loopG (X := Nat × Nat × List Nat) [1, 4, 5, 6, 17] [0, 1] (fun x => [(7, .int .u64 x.2.1), (18, .int .i64 x.1)]) (fun x => [(bo, 78, natCells .u32 x.2.2 ++ rest)]) (fun _ => [])
    (fun x => x.1 ≤ l.length ∧ x.2.2.length = l.length ∧ x.2.1 ≤ 1 ∧ (∀ z ∈ x.2.2, z < 4294967296) ∧ val (x.2.2.take x.1) + val (b.take x.1) = val (l.take x.1) + 4294967296 ^ x.1 * x.2.1 ∧ x.2.2.drop x.1 = l.drop x.1)
    (fun x => l.length - x.1) (0, 0, l) [] rfl rfl rfl ⟨Nat.zero_le _, rfl, Nat.zero_le _, ht, by simp [val], rfl⟩ (by repeat (first | exact Fr.sub_nil _ | refine Fr.sub_cons rfl ?_)) rfl rfl ?_
  rintro ⟨k, c, out⟩ ⟨hk, hlo, hc1, ho, he, hd⟩ ih
  simp only [List.cons_append, List.nil_append] at hk hlo hc1 ho he hd ih ⊢
  by_cases hkl : k < l.length
  · obtain ⟨b', rfl⟩ : ∃ b', bo = some b' := by
      rcases hg with ⟨_, h0, _⟩ | ⟨b', h, _⟩
      · omega
      · exact ⟨b', h⟩
    have hdk : out[k]? = l[k]? := by
      have h := congrArg (fun l : List Nat => l[0]?) hd
      simpa using h
    have hdk1 : out.drop (k + 1) = l.drop (k + 1) := by rw [← List.drop_drop, hd, List.drop_drop]
    by_cases hkb : k < b.length
    · refine j_nf [.o [1, 1, 1, 1, 0, 1, 0, 0, 0] 0, .c [1, 1, 1, 1, 0, 1, 0, 0, 1], .lp [1, 1, 1, 1, 0, 1, 0, 0], .blk 0, .c [1, 1, 1, 1, 1]] rfl ?_
      refine j_run it 1 rfl (by simp) ?_
      refine j_nf [.c [1, 1, 1, 1, 0, 1, 0, 0, 1, 0], .c [1, 1, 1, 1, 0, 1, 0, 0, 1, 1], .lp [1, 1, 1, 1, 0, 1, 0, 0], .blk 0, .c [1, 1, 1, 1, 1]] rfl ?_
      refine j_if rfl rfl (fun h2 => ?_) (fun h2 => by exfalso; omega)
      refine j_nf [.o [1, 1, 1, 1, 0, 1, 0, 0, 1, 1, 0, 0, 0] 0, .c [1, 1, 1, 1, 0, 1, 0, 0, 1, 1, 0, 0, 1], .blk 1, .c [1, 1, 1, 1, 0, 1, 0, 0, 1, 1, 1], .lp [1, 1, 1, 1, 0, 1, 0, 0], .blk 0, .c [1, 1, 1, 1, 1]] rfl ?_
      refine j_run it 2 rfl (by simp) ?_
      refine j_nf [.o [1, 1, 1, 1, 0, 1, 0, 0, 1, 1, 0, 0, 1, 0] 0, .c [1, 1, 1, 1, 0, 1, 0, 0, 1, 1, 0, 0, 1, 1], .blk 1, .c [1, 1, 1, 1, 0, 1, 0, 0, 1, 1, 1], .lp [1, 1, 1, 1, 0, 1, 0, 0], .blk 0, .c [1, 1, 1, 1, 1]] rfl ?_
      refine j_run it 2 rfl (by simp) ?_
      refine j_step rfl (x_idx_own (k) (k) rfl rfl sl33 rfl (by omega) (Nat.mul_one _) ?_)
      refine j_step rfl (x_bld_natA 0 rfl rfl ld78 (by assumption) (by first | omega | (simp; omega)) fun z1 hz1 hlt1 => ?_)
      refine j_run it 2 rfl (by repeat' first | exact trivial | apply And.intro | omega) ?_
      refine j_step rfl (x_sub_u64 rfl rfl ?_)
      refine j_run it 1 rfl (by simp) ?_
      refine j_nf [.o [1, 1, 1, 1, 0, 1, 0, 0, 1, 1, 0, 0, 1, 1, 0, 0] 0, .c [1, 1, 1, 1, 0, 1, 0, 0, 1, 1, 0, 0, 1, 1, 0, 1], .c [1, 1, 1, 1, 0, 1, 0, 0, 1, 1, 0, 0, 1, 1, 1], .blk 1, .c [1, 1, 1, 1, 0, 1, 0, 0, 1, 1, 1], .lp [1, 1, 1, 1, 0, 1, 0, 0], .blk 0, .c [1, 1, 1, 1, 1]] rfl ?_
      refine j_run it 2 rfl (by simp) ?_
      refine j_step rfl (x_len sl33 rfl ?_)
      refine j_run it 1 rfl (by simp) ?_
      refine j_nf [.c [1, 1, 1, 1, 0, 1, 0, 0, 1, 1, 0, 0, 1, 1, 0, 1], .c [1, 1, 1, 1, 0, 1, 0, 0, 1, 1, 0, 0, 1, 1, 1], .blk 1, .c [1, 1, 1, 1, 0, 1, 0, 0, 1, 1, 1], .lp [1, 1, 1, 1, 0, 1, 0, 0], .blk 0, .c [1, 1, 1, 1, 1]] rfl ?_
      refine j_if rfl rfl (fun h3 => ?_) (fun h3 => by exfalso; omega)
      refine j_nf [.o [1, 1, 1, 1, 0, 1, 0, 0, 1, 1, 0, 0, 1, 1, 0, 1, 0] 0, .c [1, 1, 1, 1, 0, 1, 0, 0, 1, 1, 0, 0, 1, 1, 1], .blk 1, .c [1, 1, 1, 1, 0, 1, 0, 0, 1, 1, 1], .lp [1, 1, 1, 1, 0, 1, 0, 0], .blk 0, .c [1, 1, 1, 1, 1]] rfl ?_
      refine j_run it 3 rfl (by simp) ?_
      refine j_step rfl (x_idx 1 (k) rfl rfl rfl sl33 rfl (by omega) fun z2 hz2 b1 o1 => ?_)
      refine j_step rfl (x_ld_nat 0 rfl rfl ld78 fun ⟨r1, r2⟩ => ?_)
      refine j_run it 1 rfl (by repeat' first | exact trivial | apply And.intro | omega) ?_
      refine j_step rfl (x_sub_u64 rfl rfl ?_)
      refine j_run it 1 rfl (by simp) ?_
      refine j_nf [.o [1, 1, 1, 1, 0, 1, 0, 0, 1, 1, 0, 0, 1, 1, 1, 0] 0, .c [1, 1, 1, 1, 0, 1, 0, 0, 1, 1, 0, 0, 1, 1, 1, 1], .blk 1, .c [1, 1, 1, 1, 0, 1, 0, 0, 1, 1, 1], .lp [1, 1, 1, 1, 0, 1, 0, 0], .blk 0, .c [1, 1, 1, 1, 1]] rfl ?_
      refine j_run it 3 rfl (by simp) ?_
      refine j_step rfl (x_conv_u32 it rfl rfl rfl ?_)
      refine j_step rfl (x_idx_own (k) (k) rfl rfl sl33 rfl (by omega) (Nat.mul_one _) ?_)
      refine j_step rfl (x_bst_natA 0 ((((((z1) + 18446744073709551616 - (c)) % 18446744073709551616) + 18446744073709551616 - (z2)) % 18446744073709551616) % 4294967296) rfl rfl rfl ld78 (by first | rfl | omega) (by first | omega | (simp; omega)) ?_)
      refine j_nf [.o [1, 1, 1, 1, 0, 1, 0, 0, 1, 1, 0, 0, 1, 1, 1, 1] 0, .blk 1, .c [1, 1, 1, 1, 0, 1, 0, 0, 1, 1, 1], .lp [1, 1, 1, 1, 0, 1, 0, 0], .blk 0, .c [1, 1, 1, 1, 1]] rfl ?_
      refine j_run it 3 rfl (by simp) ?_
      refine j_nf [.o [1, 1, 1, 1, 0, 1, 0, 0, 1, 1, 1] 0, .lp [1, 1, 1, 1, 0, 1, 0, 0], .blk 0, .c [1, 1, 1, 1, 1]] rfl ?_
      refine j_run it 2 rfl (by repeat' first | exact trivial | apply And.intro | omega) ?_
      refine j_nfn 1 [.lp [1, 1, 1, 1, 0, 1, 0, 0], .blk 0, .c [1, 1, 1, 1, 1]] rfl ?_
      have hz1l : l[k]? = some z1 := by rw [← hdk]; exact hz1
      have hz2' := hrb' z2 (List.mem_of_getElem? hz2)
      obtain ⟨-, hle⟩ := borrow_word hc1 hlt1 hz2' rfl
      have hst := borrow_step he hc1 hlt1 hz2' rfl
      generalize hD : ((z1 + 18446744073709551616 - c) % 18446744073709551616 + 18446744073709551616 - z2) % 18446744073709551616 = D at hle hst ⊢
      refine j_to [1, 2] (by repeat (first | exact Fr.sub_nil _ | refine Fr.sub_cons rfl ?_ | refine Fr.sub_consI rfl (by first | omega | (dsimp only; omega)) ?_ | refine Fr.sub_consS rfl (by first | omega | (dsimp only; omega)) (by first | omega | (dsimp only; omega)) ?_)) rfl rfl (ih (k + 1, D / 9223372036854775808, out.set k (D % 4294967296)) (by simp only; omega) ⟨by simp only; omega, by simpa using hlo, hle, set_lt ho (by omega), by
        simp only
        rw [val_set_take (by omega), Nat.pow_succ, val_take_succ hz1l, val_take_succ hz2]; exact hst, by simp only; rw [List.drop_set_of_lt (by omega)]; exact hdk1⟩)
    · refine j_nf [.o [1, 1, 1, 1, 0, 1, 0, 0, 0] 0, .c [1, 1, 1, 1, 0, 1, 0, 0, 1], .lp [1, 1, 1, 1, 0, 1, 0, 0], .blk 0, .c [1, 1, 1, 1, 1]] rfl ?_
      refine j_run it 1 rfl (by simp) ?_
      refine j_nf [.c [1, 1, 1, 1, 0, 1, 0, 0, 1, 0], .c [1, 1, 1, 1, 0, 1, 0, 0, 1, 1], .lp [1, 1, 1, 1, 0, 1, 0, 0], .blk 0, .c [1, 1, 1, 1, 1]] rfl ?_
      refine j_if rfl rfl (fun h2 => ?_) (fun h2 => by exfalso; omega)
      refine j_nf [.o [1, 1, 1, 1, 0, 1, 0, 0, 1, 1, 0, 0, 0] 0, .c [1, 1, 1, 1, 0, 1, 0, 0, 1, 1, 0, 0, 1], .blk 1, .c [1, 1, 1, 1, 0, 1, 0, 0, 1, 1, 1], .lp [1, 1, 1, 1, 0, 1, 0, 0], .blk 0, .c [1, 1, 1, 1, 1]] rfl ?_
      refine j_run it 2 rfl (by simp) ?_
      refine j_nf [.o [1, 1, 1, 1, 0, 1, 0, 0, 1, 1, 0, 0, 1, 0] 0, .c [1, 1, 1, 1, 0, 1, 0, 0, 1, 1, 0, 0, 1, 1], .blk 1, .c [1, 1, 1, 1, 0, 1, 0, 0, 1, 1, 1], .lp [1, 1, 1, 1, 0, 1, 0, 0], .blk 0, .c [1, 1, 1, 1, 1]] rfl ?_
      refine j_run it 2 rfl (by simp) ?_
      refine j_step rfl (x_idx_own (k) (k) rfl rfl sl33 rfl (by omega) (Nat.mul_one _) ?_)
      refine j_step rfl (x_bld_natA 0 rfl rfl ld78 (by assumption) (by first | omega | (simp; omega)) fun z1 hz1 hlt1 => ?_)
      refine j_run it 2 rfl (by repeat' first | exact trivial | apply And.intro | omega) ?_
      refine j_step rfl (x_sub_u64 rfl rfl ?_)
      refine j_run it 1 rfl (by simp) ?_
      refine j_nf [.o [1, 1, 1, 1, 0, 1, 0, 0, 1, 1, 0, 0, 1, 1, 0, 0] 0, .c [1, 1, 1, 1, 0, 1, 0, 0, 1, 1, 0, 0, 1, 1, 0, 1], .c [1, 1, 1, 1, 0, 1, 0, 0, 1, 1, 0, 0, 1, 1, 1], .blk 1, .c [1, 1, 1, 1, 0, 1, 0, 0, 1, 1, 1], .lp [1, 1, 1, 1, 0, 1, 0, 0], .blk 0, .c [1, 1, 1, 1, 1]] rfl ?_
      refine j_run it 2 rfl (by simp) ?_
      refine j_step rfl (x_len sl33 rfl ?_)
      refine j_run it 1 rfl (by simp) ?_
      refine j_nf [.c [1, 1, 1, 1, 0, 1, 0, 0, 1, 1, 0, 0, 1, 1, 0, 1], .c [1, 1, 1, 1, 0, 1, 0, 0, 1, 1, 0, 0, 1, 1, 1], .blk 1, .c [1, 1, 1, 1, 0, 1, 0, 0, 1, 1, 1], .lp [1, 1, 1, 1, 0, 1, 0, 0], .blk 0, .c [1, 1, 1, 1, 1]] rfl ?_
      refine j_if rfl rfl (fun h3 => by exfalso; omega) (fun h3 => ?_)
      refine j_nf [.o [1, 1, 1, 1, 0, 1, 0, 0, 1, 1, 0, 0, 1, 1, 1, 0] 0, .c [1, 1, 1, 1, 0, 1, 0, 0, 1, 1, 0, 0, 1, 1, 1, 1], .blk 1, .c [1, 1, 1, 1, 0, 1, 0, 0, 1, 1, 1], .lp [1, 1, 1, 1, 0, 1, 0, 0], .blk 0, .c [1, 1, 1, 1, 1]] rfl ?_
      refine j_run it 3 rfl (by simp) ?_
      refine j_step rfl (x_conv_u32 it rfl rfl rfl ?_)
      refine j_step rfl (x_idx_own (k) (k) rfl rfl sl33 rfl (by omega) (Nat.mul_one _) ?_)
      refine j_step rfl (x_bst_natA 0 ((((z1) + 18446744073709551616 - (c)) % 18446744073709551616) % 4294967296) rfl rfl rfl ld78 (by first | rfl | omega) (by first | omega | (simp; omega)) ?_)
      refine j_nf [.o [1, 1, 1, 1, 0, 1, 0, 0, 1, 1, 0, 0, 1, 1, 1, 1] 0, .blk 1, .c [1, 1, 1, 1, 0, 1, 0, 0, 1, 1, 1], .lp [1, 1, 1, 1, 0, 1, 0, 0], .blk 0, .c [1, 1, 1, 1, 1]] rfl ?_
      refine j_run it 3 rfl (by simp) ?_
      refine j_nf [.o [1, 1, 1, 1, 0, 1, 0, 0, 1, 1, 1] 0, .lp [1, 1, 1, 1, 0, 1, 0, 0], .blk 0, .c [1, 1, 1, 1, 1]] rfl ?_
      refine j_run it 2 rfl (by repeat' first | exact trivial | apply And.intro | omega) ?_
      refine j_nfn 1 [.lp [1, 1, 1, 1, 0, 1, 0, 0], .blk 0, .c [1, 1, 1, 1, 1]] rfl ?_
      have hz1l : l[k]? = some z1 := by rw [← hdk]; exact hz1
      obtain ⟨-, hle⟩ := borrow_word (y := 0) hc1 hlt1 (by decide) rfl
      have hst := borrow_step (y := 0) he hc1 hlt1 (by decide) rfl
      have e0 : ((z1 + 18446744073709551616 - c) % 18446744073709551616 + 18446744073709551616 - 0) % 18446744073709551616 = (z1 + 18446744073709551616 - c) % 18446744073709551616 := by omega
      rw [e0] at hle hst
      generalize hD : (z1 + 18446744073709551616 - c) % 18446744073709551616 = D at hle hst ⊢
      refine j_to [0, 1] (by repeat (first | exact Fr.sub_nil _ | refine Fr.sub_cons rfl ?_ | refine Fr.sub_consI rfl (by first | omega | (dsimp only; omega)) ?_ | refine Fr.sub_consS rfl (by first | omega | (dsimp only; omega)) (by first | omega | (dsimp only; omega)) ?_)) rfl rfl (ih (k + 1, D / 9223372036854775808, out.set k (D % 4294967296)) (by simp only; omega) ⟨by simp only; omega, by simpa using hlo, hle, set_lt ho (by omega), by
        simp only
        rw [val_set_take (by omega), Nat.pow_succ, val_take_succ hz1l, take_ge (l := b) (by omega)]; exact hst, by simp only; rw [List.drop_set_of_lt (by omega)]; exact hdk1⟩)
  · have ek : k = l.length := by omega
    subst ek
    have eo : out.take l.length = out := by rw [← hlo, List.take_length]
    rw [eo, List.take_length, hv] at he
    have hc0 : c = 0 ∧ val (b.take l.length) = val b := by
      have h1 := take_lt (k := l.length) ho (by omega)
      rw [eo] at h1
      have hlen : b.length ≤ l.length ∨ l.length ≤ b.length := Nat.le_total _ _
      have hA : val b = val (b.take l.length) + 4294967296 ^ l.length * val (b.drop l.length) := by
        rcases hlen with h | h
        · rw [List.take_of_length_le h, List.drop_of_length_le h]; simp [val]
        · exact val_take_drop b _ h
      have hcA : 4294967296 ^ l.length * c ≤ val out + val (b.take l.length) - val a := by omega
      generalize 4294967296 ^ l.length = P at *
      have hD : val (b.drop l.length) = 0 := by
        rcases Nat.eq_zero_or_pos (val (b.drop l.length)) with h | h
        · exact h
        · have : P * 1 ≤ P * val (b.drop l.length) := Nat.mul_le_mul_left _ h
          have : P * c ≤ P * 1 := Nat.mul_le_mul_left _ hc1
          omega
      rw [hD, Nat.mul_zero, Nat.add_zero] at hA
      refine ⟨?_, hA.symm⟩
      rcases Nat.eq_zero_or_pos c with h | h
      · exact h
      · have : P * 1 ≤ P * c := Nat.mul_le_mul_left _ h
        omega
    obtain ⟨rfl, hvb⟩ := hc0
    have hres : val out = val a - val b := by rw [hvb] at he; omega
    refine j_nf [.o [1, 1, 1, 1, 0, 1, 0, 0, 0] 0, .c [1, 1, 1, 1, 0, 1, 0, 0, 1], .lp [1, 1, 1, 1, 0, 1, 0, 0], .blk 0, .c [1, 1, 1, 1, 1]] rfl ?_
    refine j_run it 1 rfl (by simp) ?_
    refine j_nf [.c [1, 1, 1, 1, 0, 1, 0, 0, 1, 0], .c [1, 1, 1, 1, 0, 1, 0, 0, 1, 1], .lp [1, 1, 1, 1, 0, 1, 0, 0], .blk 0, .c [1, 1, 1, 1, 1]] rfl ?_
    refine j_if rfl rfl (fun h2 => by exfalso; omega) (fun h2 => ?_)
    refine j_nf [.o [1, 1, 1, 1, 1, 0] 0, .c [1, 1, 1, 1, 1, 1]] rfl ?_
    refine j_run it 1 rfl (by simp) ?_
    have hg2 : GrOk bo out.length cap 1 (natCells .u32 out ++ rest) := by
      rw [hlo]
      rcases hg with ⟨h1, h2, h3, h4⟩ | ⟨b', h1, h2, h3, h4⟩
      · refine .inl ⟨h1, h2, h3, ?_⟩
        have e1 : l = [] := List.eq_nil_of_length_eq_zero h2
        have e2 : out = [] := List.eq_nil_of_length_eq_zero (by omega)
        rw [e2]; rw [e1] at h4; exact h4
      · exact .inr ⟨b', h1, h2, h3, by simp at h4 ⊢; omega⟩
    rw [← hlo]
    refine j_pub_nat (n := out.length) (cap := cap) 4 out 0 rfl hg2 (by rw [List.take_append_of_le_length (by simp), natCells_take, List.take_length]) rfl (fun x hx => by have := ho x hx; simp only [InR]; omega) (by omega) ?_
    refine j_step rfl (x_call [0] rfl (S_nat_short) rfl ?_)
    rintro _ _ _ ⟨rfl, rfl, rfl⟩
    simp only [List.cons_append, List.nil_append]
    refine j_run it 2 rfl (by simp) ?_
    refine j_nf [.c [1, 1, 1, 1, 1, 1]] rfl ?_
    rw [trim_eq ho, hres]
    refine j_giv [0] rfl rfl rfl ⟨_, _, rfl, rfl, rfl⟩
end Go.Proofs.Ytlhgkefaflpgeaa

namespace Go.Proofs.Ytlhgkefaflpgeaa
open Go Go.Fw
set_option maxRecDepth 100000
set_option linter.unusedVariables false
set_option linter.unusedSimpArgs false
set_option maxHeartbeats 2000000
theorem prod2 (a b : List Nat) : prodV [a, b] = val a * val b := by simp [prodV]
theorem sum2 (a b : List Nat) : sumV [a, b] = val a + val b := by simp [sumV]
theorem len2 {a b : List Nat} {k : Nat} (ha : a.length ≤ k) (hb : b.length ≤ k) : lenS [a, b] ≤ k + k := by simp [lenS]; omega
theorem prod_lim {a b j : Nat} (ha : (limbs a).length ≤ j) (hb : (limbs b).length ≤ j) : (limbs (a * b)).length ≤ j + j :=
  limbs_length_le (by rw [Nat.pow_add]; exact Nat.mul_lt_mul'' (limbs_le_length ha) (limbs_le_length hb))
theorem sum_lim {a b j : Nat} (ha : (limbs a).length ≤ j) (hb : (limbs b).length ≤ j) : (limbs (a + b)).length ≤ j + 1 :=
  limbs_length_le (by have := limbs_le_length ha; have := limbs_le_length hb; rw [Nat.pow_succ]; omega)
theorem all2 {a b : List Nat} {k : Nat} (ha : a.length ≤ k) (hb : b.length ≤ k) : ∀ l ∈ [a, b], l.length ≤ k := fun l hl => by
  rcases List.mem_cons.1 hl with rfl | hl
  · exact ha
  · rw [List.mem_singleton.1 hl]; exact hb

theorem S_rational_plus {p q : Rat} {g1 g2 : Bool} {pn1 pd1 pn2 pd2 : Option Addr} {n1 m1 n2 m2 cn1 cd1 cn2 cd2 : Nat} {N1 D1 N2 D2 : List Nat} (h1 : rt p = (g1, N1, D1)) (h2 : rt q = (g2, N2, D2))
    (l1 : N1.length ≤ 134217728) (l2 : D1.length ≤ 134217728) (l3 : N2.length ≤ 134217728) (l4 : D2.length ≤ 134217728) :
    Ctr Try.prog 68 [.agg #[.bool g1, .slice pn1 n1 cn1, .slice pd1 m1 cd1], .agg #[.bool g2, .slice pn2 n2 cn2, .slice pd2 m2 cd2]] [] [slF U32 pn1 n1 cn1 N1, slF U32 pd1 m1 cd1 D1, slF U32 pn2 n2 cn2 N2, slF U32 pd2 m2 cd2 D2] (RtV (rt (p + q))) := by
  refine Ctr_of_j' (F := F_rational_plus) rfl fun C => ?_
  refine j_len 0 rfl fun e1 _ _ => ?_
  refine j_len 1 rfl fun e2 _ _ => ?_
  refine j_len 2 rfl fun e3 _ _ => ?_
  refine j_len 3 rfl fun e4 _ _ => ?_
  subst e1; subst e2; subst e3; subst e4
  have vN1 : val N1 = p.num.natAbs := by rw [← num_rt p, h1]
  have vD1 : val D1 = p.den := by rw [← den_rt p, h1]
  have vN2 : val N2 = q.num.natAbs := by rw [← num_rt q, h2]
  have vD2 : val D2 = q.den := by rw [← den_rt q, h2]
  have hg1 : g1 = decide (p.num < 0) := by rw [← neg_rt p, h1]
  have hg2 : g2 = decide (q.num < 0) := by rw [← neg_rt q, h2]
  have L1 : lenS [N1, D2] ≤ 1073741824 := Nat.le_trans (len2 l1 l4) (by decide)
  have L2 : lenS [N2, D1] ≤ 1073741824 := Nat.le_trans (len2 l3 l2) (by decide)
  have L3 : lenS [D1, D2] ≤ 1073741824 := Nat.le_trans (len2 l2 l4) (by decide)
  have vn1 : (limbs p.num.natAbs).length ≤ 134217728 := by have h := congrArg (fun x : Rt3 => x.2.1) h1; simp only [rt] at h; rw [h]; exact l1
  have vd1 : (limbs p.den).length ≤ 134217728 := by have h := congrArg (fun x : Rt3 => x.2.2) h1; simp only [rt] at h; rw [h]; exact l2
  have vn2 : (limbs q.num.natAbs).length ≤ 134217728 := by have h := congrArg (fun x : Rt3 => x.2.1) h2; simp only [rt] at h; rw [h]; exact l3
  have vd2 : (limbs q.den).length ≤ 134217728 := by have h := congrArg (fun x : Rt3 => x.2.2) h2; simp only [rt] at h; rw [h]; exact l4
  have LX := prod_lim vn1 vd2
  have LY := prod_lim vn2 vd1
  have LD := prod_lim vd1 vd2
  have LS : (limbs (sumV [limbs (p.num.natAbs * q.den), limbs (q.num.natAbs * p.den)])).length ≤ 1073741824 := by rw [sum2, val_limbs, val_limbs]; exact Nat.le_trans (sum_lim LX LY) (by decide)
  have A1 : ∀ l ∈ [limbs (p.num.natAbs * q.den), limbs (q.num.natAbs * p.den)], l.length ≤ 1073741824 := all2 (Nat.le_trans LX (by decide)) (Nat.le_trans LY (by decide))
  refine j_nf [.o [0] 0, .c [1]] rfl ?_
  refine j_step rfl (x_box_agg rfl fun b1 => ?_)
  refine j_step rfl (x_box_agg rfl fun b2 => ?_)
  refine j_step rfl (x_alloc zo35 fun b3 => ?_)
  refine j_nf [.c [1, 0], .c [1, 1]] rfl ?_
  (apply j_drawK it mx 12; (· rfl); (· rfl))
  (apply lxk_eq; (· rfl); (· exact d_x fun _ => x_field rfl fd35_1 dk_eq))
  (apply lxk_eq; (· rfl); (· exact d_bld 2 rfl rfl ld33 rfl))
  (apply lxk_eq; (· rfl); (· exact d_x fun _ => x_field rfl fd35_2 dk_eq))
  (apply lxk_eq; (· rfl); (· exact d_bld 1 rfl rfl ld33 rfl))
  (apply lxk_sl; (· rfl); (· exact d_x fun _ => x_lit sl104 zo104e rfl rfl rfl rfl (by decide) (by decide) rfl fun b4 => dk_all (E := (encSl U32)) [[Value.slice pn1 N1.length cn1], [Value.slice pd2 D2.length cd2]] [N1, D2] (fun w A hG => (allrd_cons (rd_of_slF (hG _ (fact_mem (n := 0) rfl))) (allrd_cons (rd_of_slF (hG _ (fact_mem (n := 3) rfl))) allrd_nil))) rfl rfl rfl (by decide)); intro pa1 ca1)
  (apply lxk_sl; (· rfl); (· exact d_x fun _ => x_call [0] rfl (S_nat_Mul (by first | omega | exact side _ (by assumption) | assumption | rfl | (simp; done) | (simp; omega))) rfl (by rintro _ _ _ ⟨pa2, ca2, rfl, rfl, rfl⟩; exact (dk_sl 0 rfl))); intro pa2 ca2)
  (apply lxk_eq; (· rfl); (· exact d_x fun _ => x_field rfl fd35_1 dk_eq))
  (apply lxk_eq; (· rfl); (· exact d_bld 1 rfl rfl ld33 rfl))
  (apply lxk_eq; (· rfl); (· exact d_x fun _ => x_field rfl fd35_2 dk_eq))
  (apply lxk_eq; (· rfl); (· exact d_bld 2 rfl rfl ld33 rfl))
  (apply lxk_sl; (· rfl); (· exact d_x fun _ => x_lit sl104 zo104e rfl rfl rfl rfl (by decide) (by decide) rfl fun b4 => dk_all (E := (encSl U32)) [[Value.slice pn2 N2.length cn2], [Value.slice pd1 D1.length cd1]] [N2, D1] (fun w A hG => (allrd_cons (rd_of_slF (hG _ (fact_mem (n := 2) rfl))) (allrd_cons (rd_of_slF (hG _ (fact_mem (n := 1) rfl))) allrd_nil))) rfl rfl rfl (by decide)); intro pa3 ca3)
  (apply lxk_sl; (· rfl); (· exact d_x fun _ => x_call [0] rfl (S_nat_Mul (by first | omega | exact side _ (by assumption) | assumption | rfl | (simp; done) | (simp; omega))) rfl (by rintro _ _ _ ⟨pa4, ca4, rfl, rfl, rfl⟩; exact (dk_sl 0 rfl))); intro pa4 ca4)
  refine lxk_end rfl ?_
  simp only [List.map_cons, List.map_nil, List.cons_append, List.nil_append]
  refine j_run it 2 rfl (by simp) ?_
  refine j_nf [.o [1, 1, 0] 0, .c [1, 1, 1]] rfl ?_
  refine j_step rfl (x_field rfl fd35_2 ?_)
  refine j_step rfl (x_bld 2 rfl rfl ld33 rfl ?_)
  refine j_step rfl (x_field rfl fd35_2 ?_)
  refine j_step rfl (x_bld 1 rfl rfl ld33 rfl ?_)
  refine j_step rfl (x_lit sl104 zo104e rfl rfl rfl rfl (by decide) (by decide) rfl fun b4 => ?_)
  refine j_pub_all (E := (encSl U32)) (n := 2) [[Value.slice pd1 D1.length cd1], [Value.slice pd2 D2.length cd2]] [D1, D2] 0 (fun w A hG => (allrd_cons (rd_of_slF (hG _ (fact_mem (n := 5) rfl))) (allrd_cons (rd_of_slF (hG _ (fact_mem (n := 7) rfl))) allrd_nil))) rfl rfl rfl rfl (by decide) (by decide) ?_
  refine j_step rfl (x_call [0] rfl (S_nat_Mul (by first | omega | exact side _ (by assumption) | assumption | rfl | (simp; done) | (simp; omega))) rfl ?_)
  rintro _ _ _ ⟨pa5, ca5, rfl, rfl, rfl⟩
  simp only [List.cons_append, List.nil_append]
  refine j_run it 1 rfl (by simp) ?_
  refine j_nf [.o [1, 1, 1, 0, 0] 0, .c [1, 1, 1, 0, 1], .c [1, 1, 1, 1]] rfl ?_
  refine j_step rfl (x_field rfl fd35_0 ?_)
  refine j_step rfl (x_bld 2 rfl rfl ld4 rfl ?_)
  refine j_step rfl (x_field rfl fd35_0 ?_)
  refine j_step rfl (x_bld 1 rfl rfl ld4 rfl ?_)
  refine j_step rfl (x_eqb ub rfl rfl ?_)
  refine j_nf [.c [1, 1, 1, 0, 1], .c [1, 1, 1, 1]] rfl ?_
  refine j_cond rfl rfl (fun h3 => ?_) (fun h3 => ?_)
  · have hs : g1 = g2 := by simpa using h3
    simp only [prod2, vN1, vD1, vN2, vD2]
    have e : vq (g1, limbs (sumV [limbs (p.num.natAbs * q.den), limbs (q.num.natAbs * p.den)]), limbs (p.den * q.den)) = p + q := by
      rw [vq_eq]
      simp only [sum2, val_limbs]
      rw [hg1]
      exact add_same (by rw [← hg1, ← hg2, hs])
    refine j_nf [.c [1, 1, 1, 0, 1, 0, 0], .c [1, 1, 1, 0, 1, 0, 1], .c [1, 1, 1, 1]] rfl ?_
    (apply j_drawK it mx 8; (· rfl); (· rfl))
    (apply lxk_eq; (· rfl); (· exact d_x fun _ => x_field rfl fd35_0 dk_eq))
    (apply lxk_eq; (· rfl); (· exact d_bld 2 rfl rfl ld4 rfl))
    (apply lxk_run 2; (· rfl); (· simp))
    (apply lxk_sl; (· rfl); (· exact d_x fun _ => x_lit sl104 zo104e rfl rfl rfl rfl (by decide) (by decide) rfl fun b5 => dk_all (E := (encSl U32)) [[Value.slice pa2 (limbs (p.num.natAbs * q.den)).length ca2], [Value.slice pa4 (limbs (q.num.natAbs * p.den)).length ca4]] [limbs (p.num.natAbs * q.den), limbs (q.num.natAbs * p.den)] (fun w A hG => (allrd_cons (rd_of_slF (hG _ (fact_mem (n := 4) rfl))) (allrd_cons (rd_of_slF (hG _ (fact_mem (n := 2) rfl))) allrd_nil))) rfl rfl rfl (by decide)); intro pa6 ca6)
    (apply lxk_sl; (· rfl); (· exact d_x fun _ => x_call [0] rfl (S_nat_Add (by first | omega | exact side _ (by assumption) | assumption | rfl | (simp; done) | (simp; omega)) (by first | omega | exact side _ (by assumption) | assumption | rfl | (simp; done) | (simp; omega))) rfl (by rintro _ _ _ ⟨pa7, ca7, rfl, rfl, rfl⟩; exact (dk_sl 0 rfl))); intro pa7 ca7)
    (apply lxk_run 1; (· rfl); (· simp))
    (apply lxk_rq; (· rfl); (· exact d_x fun _ => x_call [0, 2] rfl (S_rational_canonical (by first | omega | exact side _ (by assumption) | assumption | rfl | (simp; done) | (simp; omega)) (by first | omega | exact side _ (by assumption) | assumption | rfl | (simp; done) | (simp; omega))) rfl (by rintro _ _ _ ⟨pn3, cn3, pd3, cd3, rfl, rfl, rfl⟩; exact (dk_rq 0 1 rfl rfl))); intro pn3 cn3 pd3 cd3)
    simp only [vq_rt']
    refine lxk_end rfl ?_
    simp only [List.map_cons, List.map_nil, List.cons_append, List.nil_append]
    refine j_step rfl (x_bst_all 0 rfl rfl rfl ld35 rfl rfl (by simp [Value.oneCell']) ?_)
    refine j_nf [.c [1, 1, 1, 0, 1, 0, 1], .c [1, 1, 1, 1]] rfl ?_
    rw [e]
    refine j_givC [0, 1] rfl (.agg 0 rfl rfl ld35 rfl .nil) rfl ⟨_, _, _, _, rfl, rfl, rfl⟩
  · have hs : g1 ≠ g2 := by simpa using h3
    simp only [prod2, vN1, vD1, vN2, vD2]
    have hd : decide (p.num < 0) ≠ decide (q.num < 0) := by rw [← hg1, ← hg2]; exact hs
    by_cases hc : p.num.natAbs * q.den < q.num.natAbs * p.den
    · have hc2 : cmpN (val (limbs (p.num.natAbs * q.den))) (val (limbs (q.num.natAbs * p.den))) < 0 := by rw [val_limbs, val_limbs, cmpN_lt hc]; decide
      have hle : val (limbs (p.num.natAbs * q.den)) ≤ val (limbs (q.num.natAbs * p.den)) := by rw [val_limbs, val_limbs]; omega
      have LB : (limbs (val (limbs (q.num.natAbs * p.den)) - val (limbs (p.num.natAbs * q.den)))).length ≤ 1073741824 := limbs_mono (Nat.le_trans LY (by decide)) (by rw [val_limbs, val_limbs]; omega)
      have e : vq (g2, limbs (val (limbs (q.num.natAbs * p.den)) - val (limbs (p.num.natAbs * q.den))), limbs (p.den * q.den)) = p + q := by
        rw [vq_eq]
        simp only [val_limbs]
        rw [hg2, Rat.add_comm, Nat.mul_comm p.den q.den]
        exact add_diff (fun h => hd h.symm) (by omega)
      refine j_nf [.o [1, 1, 1, 1, 0, 0] 0, .c [1, 1, 1, 1, 0, 1], .c [1, 1, 1, 1, 1]] rfl ?_
      refine j_run it 2 rfl (by simp) ?_
      refine j_step rfl (x_call [4, 2] rfl (S_nat_Cmp) rfl ?_)
      rintro _ _ _ ⟨rfl, rfl, rfl⟩
      simp only [List.cons_append, List.nil_append]
      refine j_run it 1 rfl (by simp) ?_
      refine j_nf [.c [1, 1, 1, 1, 0, 1], .c [1, 1, 1, 1, 1]] rfl ?_
      refine j_if rfl rfl (fun h4 => ?_) (fun h4 => by exfalso; omega)
      (apply j_drawK it mx 5; (· rfl); (· rfl))
      (apply lxk_run 2; (· rfl); (· simp))
      (apply lxk_eq; (· rfl); (· exact d_bld_all 1 rfl rfl ld35 rfl))
      (apply lxk_run 2; (· rfl); (· simp))
      refine lxk_end rfl ?_
      simp only [List.map_cons, List.map_nil, List.cons_append, List.nil_append]
      refine j_step rfl (x_bst_all 2 rfl rfl rfl ld35 rfl rfl (by simp [Value.oneCell']) ?_)
      refine j_nf [.o [1, 1, 1, 1, 1, 0] 0, .c [1, 1, 1, 1, 1, 1]] rfl ?_
      refine j_run it 2 rfl (by simp) ?_
      refine j_step rfl (x_call [2, 4] rfl (S_nat_Sub (by first | omega | exact side _ (by assumption) | assumption | rfl | (simp; done) | (simp; omega))) rfl ?_)
      rintro _ _ _ ⟨pa6, ca6, rfl, rfl, rfl⟩
      simp only [List.cons_append, List.nil_append]
      refine j_run it 5 rfl (by simp) ?_
      refine j_nf [.o [1, 1, 1, 1, 1, 1, 0] 0, .c [1, 1, 1, 1, 1, 1, 1]] rfl ?_
      refine j_step rfl (x_field rfl fd35_0 ?_)
      refine j_step rfl (x_bld 2 rfl rfl ld4 rfl ?_)
      refine j_run it 2 rfl (by simp) ?_
      refine j_step rfl (x_call [0, 1] rfl (S_rational_canonical (by first | omega | exact side _ (by assumption) | assumption | rfl | (simp; done) | (simp; omega)) (by first | omega | exact side _ (by assumption) | assumption | rfl | (simp; done) | (simp; omega))) rfl ?_)
      rintro _ _ _ ⟨pn3, cn3, pd3, cd3, rfl, rfl, rfl⟩
      simp only [List.cons_append, List.nil_append]
      refine j_step rfl (x_bst_all 0 rfl rfl rfl ld35 rfl rfl (by simp [Value.oneCell']) ?_)
      refine j_nf [.c [1, 1, 1, 1, 1, 1, 1]] rfl ?_
      rw [e]
      refine j_givC [0, 1] rfl (.agg 0 rfl rfl ld35 rfl .nil) rfl ⟨_, _, _, _, rfl, rfl, rfl⟩
    · have hc2 : ¬ cmpN (val (limbs (p.num.natAbs * q.den))) (val (limbs (q.num.natAbs * p.den))) < 0 := by rw [val_limbs, val_limbs]; unfold cmpN; split <;> (try split) <;> omega
      have hle : val (limbs (q.num.natAbs * p.den)) ≤ val (limbs (p.num.natAbs * q.den)) := by rw [val_limbs, val_limbs]; omega
      have LB : (limbs (val (limbs (p.num.natAbs * q.den)) - val (limbs (q.num.natAbs * p.den)))).length ≤ 1073741824 := limbs_mono (Nat.le_trans LX (by decide)) (by rw [val_limbs, val_limbs]; omega)
      have e : vq (g1, limbs (val (limbs (p.num.natAbs * q.den)) - val (limbs (q.num.natAbs * p.den))), limbs (p.den * q.den)) = p + q := by
        rw [vq_eq]
        simp only [val_limbs]
        rw [hg1]
        exact add_diff hd (by omega)
      refine j_nf [.o [1, 1, 1, 1, 0, 0] 0, .c [1, 1, 1, 1, 0, 1], .c [1, 1, 1, 1, 1]] rfl ?_
      refine j_run it 2 rfl (by simp) ?_
      refine j_step rfl (x_call [4, 2] rfl (S_nat_Cmp) rfl ?_)
      rintro _ _ _ ⟨rfl, rfl, rfl⟩
      simp only [List.cons_append, List.nil_append]
      refine j_run it 1 rfl (by simp) ?_
      refine j_nf [.c [1, 1, 1, 1, 0, 1], .c [1, 1, 1, 1, 1]] rfl ?_
      refine j_if rfl rfl (fun h4 => by exfalso; omega) (fun h4 => ?_)
      refine j_nf [.o [1, 1, 1, 1, 1, 0] 0, .c [1, 1, 1, 1, 1, 1]] rfl ?_
      refine j_run it 2 rfl (by simp) ?_
      refine j_step rfl (x_call [4, 2] rfl (S_nat_Sub (by first | omega | exact side _ (by assumption) | assumption | rfl | (simp; done) | (simp; omega))) rfl ?_)
      rintro _ _ _ ⟨pa6, ca6, rfl, rfl, rfl⟩
      simp only [List.cons_append, List.nil_append]
      refine j_run it 5 rfl (by simp) ?_
      refine j_nf [.o [1, 1, 1, 1, 1, 1, 0] 0, .c [1, 1, 1, 1, 1, 1, 1]] rfl ?_
      refine j_step rfl (x_field rfl fd35_0 ?_)
      refine j_step rfl (x_bld 2 rfl rfl ld4 rfl ?_)
      refine j_run it 2 rfl (by simp) ?_
      refine j_step rfl (x_call [0, 1] rfl (S_rational_canonical (by first | omega | exact side _ (by assumption) | assumption | rfl | (simp; done) | (simp; omega)) (by first | omega | exact side _ (by assumption) | assumption | rfl | (simp; done) | (simp; omega))) rfl ?_)
      rintro _ _ _ ⟨pn3, cn3, pd3, cd3, rfl, rfl, rfl⟩
      simp only [List.cons_append, List.nil_append]
      refine j_step rfl (x_bst_all 0 rfl rfl rfl ld35 rfl rfl (by simp [Value.oneCell']) ?_)
      refine j_nf [.c [1, 1, 1, 1, 1, 1, 1]] rfl ?_
      rw [e]
      refine j_givC [0, 1] rfl (.agg 0 rfl rfl ld35 rfl .nil) rfl ⟨_, _, _, _, rfl, rfl, rfl⟩
end Go.Proofs.Ytlhgkefaflpgeaa

namespace Go.Proofs.Ytlhgkefaflpgeaa
open Go Go.Fw
set_option maxRecDepth 100000
set_option linter.unusedVariables false
set_option linter.unusedSimpArgs false
set_option maxHeartbeats 2000000
theorem rt_len {g : Bool} {N D : List Nat} {k : Nat} (hN : ∀ x ∈ N, x < 4294967296) (hD : ∀ x ∈ D, x < 4294967296) (lN : N.length ≤ k) (lD : D.length ≤ k) (hk : 1 ≤ k) : (rt (vq (g, N, D))).2.1.length ≤ k ∧ (rt (vq (g, N, D))).2.2.length ≤ k :=
  bd_len (bd_vq hN hD lN lD hk)
theorem rt_len_neg {g : Bool} {N D : List Nat} {k : Nat} (hN : ∀ x ∈ N, x < 4294967296) (hD : ∀ x ∈ D, x < 4294967296) (lN : N.length ≤ k) (lD : D.length ≤ k) (hk : 1 ≤ k) : (rt (-vq (g, N, D))).2.1.length ≤ k ∧ (rt (-vq (g, N, D))).2.2.length ≤ k :=
  bd_len (bd_neg (bd_vq hN hD lN lD hk))

theorem S_rational_Sub {g1 g2 : Bool} {pn1 pd1 pn2 pd2 : Option Addr} {n1 m1 n2 m2 cn1 cd1 cn2 cd2 : Nat} {N1 D1 N2 D2 : List Nat}
    (l1 : N1.length ≤ 33554432) (l2 : D1.length ≤ 33554432) (l3 : N2.length ≤ 33554432) (l4 : D2.length ≤ 33554432) :
    Ctr Try.prog 65 [.agg #[.bool g1, .slice pn1 n1 cn1, .slice pd1 m1 cd1], .agg #[.bool g2, .slice pn2 n2 cn2, .slice pd2 m2 cd2]] [] [slF U32 pn1 n1 cn1 N1, slF U32 pd1 m1 cd1 D1, slF U32 pn2 n2 cn2 N2, slF U32 pd2 m2 cd2 D2] (RtV (rt (vq (g1, N1, D1) - vq (g2, N2, D2)))) := by
  refine Ctr_of_j' (F := F_rational_Sub) rfl fun C => ?_
  refine j_range 0 rfl fun r1 => ?_
  refine j_range 1 rfl fun r2 => ?_
  refine j_range 2 rfl fun r3 => ?_
  refine j_range 3 rfl fun r4 => ?_
  obtain ⟨k1, k2⟩ := rt_len (g := g1) (lim r1) (lim r2) l1 l2 (by decide)
  obtain ⟨k3, k4⟩ := rt_len_neg (g := g2) (lim r3) (lim r4) l3 l4 (by decide)
  refine j_nf [.o [0] 0, .c [1]] rfl ?_
  refine j_step rfl (x_box_agg rfl fun b1 => ?_)
  refine j_step rfl (x_box_agg rfl fun b2 => ?_)
  refine j_step rfl (x_alloc zo35 fun b3 => ?_)
  refine j_nf [.c [1, 0], .c [1, 1]] rfl ?_
  (apply j_drawK it mx 5; (· rfl); (· rfl))
  (apply lxk_eq; (· rfl); (· exact d_bld_all 2 rfl rfl ld35 rfl))
  (apply lxk_rq; (· rfl); (· exact d_x fun _ => x_call [0, 1] rfl (S_rational_Trim (by first | omega | exact side _ (by assumption) | assumption | rfl | (simp; done) | (simp; omega)) (by first | omega | exact side _ (by assumption) | assumption | rfl | (simp; done) | (simp; omega))) rfl (by rintro _ _ _ ⟨pn3, cn3, pd3, cd3, rfl, rfl, rfl⟩; exact (dk_rq 0 1 rfl rfl))); intro pn3 cn3 pd3 cd3)
  simp only [vq_rt']
  (apply lxk_eq; (· rfl); (· exact d_bld_all 1 rfl rfl ld35 rfl))
  (apply lxk_rq; (· rfl); (· exact d_x fun _ => x_call [4, 5] rfl (S_rational_Neg (by first | omega | exact side _ (by assumption) | assumption | rfl | (simp; done) | (simp; omega)) (by first | omega | exact side _ (by assumption) | assumption | rfl | (simp; done) | (simp; omega))) rfl (by rintro _ _ _ ⟨pn4, cn4, pd4, cd4, rfl, rfl, rfl⟩; exact (dk_rq 0 1 rfl rfl))); intro pn4 cn4 pd4 cd4)
  simp only [vq_rt']
  (apply lxk_rq; (· rfl); (· exact d_x fun _ => x_call [2, 3, 0, 1] rfl (S_rational_plus (by first | omega | exact side _ (by assumption) | assumption | rfl | (simp; done) | (simp; omega)) (by first | omega | exact side _ (by assumption) | assumption | rfl | (simp; done) | (simp; omega)) (by first | omega | exact side _ (by assumption) | assumption | rfl | (simp; done) | (simp; omega)) (by first | omega | exact side _ (by assumption) | assumption | rfl | (simp; done) | (simp; omega)) (by first | omega | exact side _ (by assumption) | assumption | rfl | (simp; done) | (simp; omega)) (by first | omega | exact side _ (by assumption) | assumption | rfl | (simp; done) | (simp; omega))) rfl (by rintro _ _ _ ⟨pn5, cn5, pd5, cd5, rfl, rfl, rfl⟩; exact (dk_rq 0 1 rfl rfl))); intro pn5 cn5 pd5 cd5)
  simp only [vq_rt']
  refine lxk_end rfl ?_
  simp only [List.map_cons, List.map_nil, List.cons_append, List.nil_append]
  refine j_step rfl (x_bst_all 0 rfl rfl rfl ld35 rfl rfl (by simp [Value.oneCell']) ?_)
  refine j_nf [.c [1, 1]] rfl ?_
  rw [← Rat.sub_eq_add_neg]
  refine j_givC [0, 1] rfl (.agg 0 rfl rfl ld35 rfl .nil) rfl ⟨_, _, _, _, rfl, rfl, rfl⟩

theorem S_rational_Cmp {g1 g2 : Bool} {pn1 pd1 pn2 pd2 : Option Addr} {n1 m1 n2 m2 cn1 cd1 cn2 cd2 : Nat} {N1 D1 N2 D2 : List Nat}
    (l1 : N1.length ≤ 33554432) (l2 : D1.length ≤ 33554432) (l3 : N2.length ≤ 33554432) (l4 : D2.length ≤ 33554432) :
    Ctr Try.prog 45 [.agg #[.bool g1, .slice pn1 n1 cn1, .slice pd1 m1 cd1], .agg #[.bool g2, .slice pn2 n2 cn2, .slice pd2 m2 cd2]] [] [slF U32 pn1 n1 cn1 N1, slF U32 pd1 m1 cd1 D1, slF U32 pn2 n2 cn2 N2, slF U32 pd2 m2 cd2 D2] (Rv (.int .i64 (vq (g1, N1, D1) - vq (g2, N2, D2)).num.sign) []) := by
  refine Ctr_of_j' (F := F_rational_Cmp) rfl fun C => ?_
  refine j_nf [.o [0] 0, .c [1]] rfl ?_
  refine j_step rfl (x_box_agg rfl fun b1 => ?_)
  refine j_step rfl (x_box_agg rfl fun b2 => ?_)
  refine j_run it 1 rfl (by simp) ?_
  refine j_nf [.o [1, 0] 0, .c [1, 1]] rfl ?_
  refine j_step rfl (x_bld_all 1 rfl rfl ld35 rfl ?_)
  refine j_step rfl (x_bld_all 0 rfl rfl ld35 rfl ?_)
  refine j_step rfl (x_call [0, 1, 2, 3] rfl (S_rational_Sub (by first | omega | exact side _ (by assumption) | assumption | rfl | (simp; done) | (simp; omega)) (by first | omega | exact side _ (by assumption) | assumption | rfl | (simp; done) | (simp; omega)) (by first | omega | exact side _ (by assumption) | assumption | rfl | (simp; done) | (simp; omega)) (by first | omega | exact side _ (by assumption) | assumption | rfl | (simp; done) | (simp; omega))) rfl ?_)
  rintro _ _ _ ⟨pn3, cn3, pd3, cd3, rfl, rfl, rfl⟩
  simp only [List.cons_append, List.nil_append]
  refine j_step rfl (x_call [0, 1] rfl (S_rational_Sign) rfl ?_)
  rintro _ _ _ ⟨rfl, rfl, rfl⟩
  simp only [List.cons_append, List.nil_append]
  simp only [vq_rt']
  refine j_run it 1 rfl (by simp) ?_
  refine j_nf [.c [1, 1]] rfl ?_
  refine j_giv [] rfl rfl rfl ⟨rfl, rfl, rfl⟩

/-- Rows of fractions: what a fact on them says outside of memory. -/
theorem rts_range {P : Program} {F : Fun P} {C : Cx} {S : List It} {σ : Fr} {β : List Blk} {Γ : List Fact} {R : Value → World → Prop} {pa : Option Addr} {n ca : Nat} {ls : List Rt} (k : Nat) (hk : nth Γ k = some (slF RatE pa n ca ls))
    (h : (∀ r ∈ ls, (∀ x ∈ r.2.1, x < 4294967296) ∧ (∀ x ∈ r.2.2, x < 4294967296)) → J F C S σ β Γ R) : J F C S σ β Γ R :=
  j_know (fun w A hG r hr => by
    obtain ⟨_, _, _, hs⟩ := hG _ (fact_mem hk)
    rcases hs with rfl | ⟨b, o, _, _, hel⟩
    · cases hr
    · obtain ⟨i, hi⟩ := List.getElem?_of_mem hr
      obtain ⟨vs, _, hrd⟩ := hel i r hi
      obtain ⟨_, _, _, _, _, h1, h2⟩ := rt_open hrd
      have key : ∀ {pa ca} {l : List Nat}, SlRd U32 w A pa ca l → ∀ x ∈ l, x < 4294967296 := by
        intro pa ca l hs x hx
        obtain ⟨_, _, hs⟩ := hs
        rcases hs with rfl | ⟨b', o', _, _, hel'⟩
        · cases hx
        · obtain ⟨j, hj⟩ := List.getElem?_of_mem hx
          obtain ⟨vs, _, _, hR⟩ := hel' j x hj
          simp only [InR] at hR; omega
      exact ⟨key h1, key h2⟩) h

theorem S_rational_Mul {pa : Option Addr} {n ca K : Nat} {ls : List Rt} (hK : 1 ≤ K) (hL : ∀ r ∈ ls, r.2.1.length ≤ K ∧ r.2.2.length ≤ K) (hn : K * ls.length ≤ 134217728) (hK2 : K ≤ 134217728) :
    Ctr Try.prog 69 [.slice pa n ca] [] [slF RatE pa n ca ls] (RtV (rt (prodQ ls))) := by
  refine Ctr_of_j' (F := F_rational_Mul) rfl fun C => ?_
  refine j_len 0 rfl fun e1 hb _ => ?_
  subst e1
  have hb' : ls.length * 56 ≤ 140737488355328 := hb
  refine rts_range 0 rfl fun hr => ?_
  have hok : ∀ r ∈ ls, okR K r := fun r h => ⟨(hr r h).1, (hr r h).2, (hL r h).1, (hL r h).2⟩
  refine j_nf [.o [0] 0, .c [1]] rfl ?_
  refine j_step rfl (x_alloc zo35 fun b1 => ?_)
  refine j_nf [.o [1, 0] 0, .c [1, 1]] rfl ?_
  refine j_step rfl (x_call [] rfl (S_rational_one) rfl ?_)
  rintro _ _ _ ⟨pa1, ca1, rfl, rfl, rfl⟩
  simp only [List.cons_append, List.nil_append]
  refine j_step rfl (x_call [] rfl (S_rational_one) rfl ?_)
  rintro _ _ _ ⟨pa2, ca2, rfl, rfl, rfl⟩
  simp only [List.cons_append, List.nil_append]
  refine j_run it 3 rfl (by simp) ?_
  refine j_nf [.o [1, 1, 0, 0] 0, .c [1, 1, 0, 1], .c [1, 1, 1]] rfl ?_
  refine j_run it 1 rfl (by simp) ?_
  refine j_step rfl (x_len sl23 rfl ?_)
  refine j_run it 1 rfl (by simp) ?_
  refine j_nf [.c [1, 1, 0, 1, 0], .blk 0, .c [1, 1, 1]] rfl ?_
  refine j_loopG (X := Nat × Rat × (Option Addr × Nat) × (Option Addr × Nat)) [2, 11, 12] [2] (fun x => [(3, .bool (rt x.2.1).1), (4, .slice x.2.2.1.1 (rt x.2.1).2.1.length x.2.2.1.2), (5, .slice x.2.2.2.1 (rt x.2.1).2.2.length x.2.2.2.2), (13, .int .i64 x.1)])
    (fun _ => [(some b1, 35, [.bool false, .slice none 0 0, .slice none 0 0])]) (fun x => [slF U32 x.2.2.1.1 (rt x.2.1).2.1.length x.2.2.1.2 (rt x.2.1).2.1, slF U32 x.2.2.2.1 (rt x.2.1).2.2.length x.2.2.2.2 (rt x.2.1).2.2])
    (fun x => x.1 ≤ ls.length ∧ x.2.1 = prodQ (ls.take x.1)) (fun x => ls.length - x.1) (0, 1, (pa1, ca1), (pa2, ca2)) [1, 0] rfl rfl rfl ⟨Nat.zero_le _, by simp [prodQ]⟩ (by rw [rt_one]; repeat (first | exact Fr.sub_nil _ | refine Fr.sub_cons rfl ?_)) rfl (by rw [rt_one]; rfl) ?_
  rintro ⟨k, q, ⟨pn, cn⟩, ⟨pd, cd⟩⟩ ⟨hk, hq⟩ ih
  simp only [List.cons_append, List.nil_append] at hk hq ih ⊢
  by_cases hkl : k < ls.length
  · have hbq : bd (K * k + 1) q := by
      rw [hq]
      exact bd_mono (prodQ_bd hK fun r h => hok r (List.mem_of_mem_take h)) (by simp; rw [Nat.min_eq_left (by omega)]; omega)
    have hKk : K * k + K ≤ K * ls.length := by rw [← Nat.mul_succ]; exact Nat.mul_le_mul_left _ hkl
    refine j_nf [.o [1, 1, 0, 1, 0, 0, 0] 0, .c [1, 1, 0, 1, 0, 0, 1], .lp [1, 1, 0, 1, 0, 0], .blk 0, .c [1, 1, 1]] rfl ?_
    refine j_run it 1 rfl (by simp) ?_
    refine j_nf [.c [1, 1, 0, 1, 0, 0, 1, 0], .c [1, 1, 0, 1, 0, 0, 1, 1], .lp [1, 1, 0, 1, 0, 0], .blk 0, .c [1, 1, 1]] rfl ?_
    refine j_if rfl rfl (fun h1 => ?_) (fun h1 => by exfalso; omega)
    refine j_nf [.o [1, 1, 0, 1, 0, 0, 1, 1, 0, 0, 0] 0, .c [1, 1, 0, 1, 0, 0, 1, 1, 0, 0, 1], .blk 1, .c [1, 1, 0, 1, 0, 0, 1, 1, 1], .lp [1, 1, 0, 1, 0, 0], .blk 0, .c [1, 1, 1]] rfl ?_
    refine j_step rfl (x_idx 2 (k) rfl rfl rfl sl23 rfl (by omega) fun z1 hz1 b2 o1 => ?_)
    refine j_step rfl (x_ld_rt 0 rfl rfl ld35 fun pa3 ca3 pa4 ca4 => ?_)
    refine j_step rfl (x_alloc zo35 fun b3 => ?_)
    refine j_step rfl (x_bst_all 0 rfl rfl rfl ld35 rfl rfl (by simp [Value.oneCell']) ?_)
    refine j_nf [.o [1, 1, 0, 1, 0, 0, 1, 1, 0, 0, 1, 0] 0, .c [1, 1, 0, 1, 0, 0, 1, 1, 0, 0, 1, 1], .blk 1, .c [1, 1, 0, 1, 0, 0, 1, 1, 1], .lp [1, 1, 0, 1, 0, 0], .blk 0, .c [1, 1, 1]] rfl ?_
    refine j_step rfl (x_bld_all 0 rfl rfl ld35 rfl ?_) --ok
    have hm := List.mem_of_getElem? hz1
    obtain ⟨zg, zN, zD⟩ := z1
    obtain ⟨y1, y2, y3, y4⟩ := hok _ hm
    obtain ⟨w1, w2⟩ := rt_len (g := zg) (N := zN) (D := zD) y1 y2 y3 y4 hK
    obtain ⟨w3, w4⟩ := bd_len hbq
    dsimp only at y3 y4 ⊢
    have L1 : lenS [(rt q).2.1, (rt (vq (zg, zN, zD))).2.1] ≤ 1073741824 := by simp [lenS]; omega
    have L2 : lenS [(rt q).2.2, (rt (vq (zg, zN, zD))).2.2] ≤ 1073741824 := by simp [lenS]; omega
    have L3 : (limbs (prodV [(rt q).2.1, (rt (vq (zg, zN, zD))).2.1])).length ≤ 1073741824 := by
      rw [prod2, num_rt, num_rt]
      exact Nat.le_trans (limbs_length_le (mul_pow hbq.1 (limbs_le_length w1))) (by omega)
    have L4 : (limbs (prodV [(rt q).2.2, (rt (vq (zg, zN, zD))).2.2])).length ≤ 1073741824 := by
      rw [prod2, den_rt, den_rt]
      exact Nat.le_trans (limbs_length_le (mul_pow hbq.2 (limbs_le_length w2))) (by omega)
    have e : vq ((rt q).1 != (rt (vq (zg, zN, zD))).1, limbs (prodV [(rt q).2.1, (rt (vq (zg, zN, zD))).2.1]), limbs (prodV [(rt q).2.2, (rt (vq (zg, zN, zD))).2.2])) = q * vq (zg, zN, zD) := by
      rw [vq_eq]
      simp only [prod2, val_limbs, num_rt, den_rt, neg_rt]
      exact mul_mk _ _
    refine j_step rfl (x_call [0, 1] rfl (S_rational_Trim (by first | omega | exact side _ (by assumption) | assumption | rfl | (simp; done) | (simp; omega)) (by first | omega | exact side _ (by assumption) | assumption | rfl | (simp; done) | (simp; omega))) rfl ?_)
    rintro _ _ _ ⟨pn1, cn1, pd1, cd1, rfl, rfl, rfl⟩
    simp only [List.cons_append, List.nil_append]
    refine j_step rfl (x_bst_all 0 rfl rfl rfl ld35 rfl rfl (by simp [Value.oneCell']) ?_)
    refine j_nf [.c [1, 1, 0, 1, 0, 0, 1, 1, 0, 0, 1, 1, 0], .c [1, 1, 0, 1, 0, 0, 1, 1, 0, 0, 1, 1, 1], .blk 1, .c [1, 1, 0, 1, 0, 0, 1, 1, 1], .lp [1, 1, 0, 1, 0, 0], .blk 0, .c [1, 1, 1]] rfl ?_
    (apply j_drawK it mx 16; (· rfl); (· rfl))
    (apply lxk_run 1; (· rfl); (· simp))
    (apply lxk_eq; (· rfl); (· exact d_x fun _ => x_field rfl fd35_0 dk_eq))
    (apply lxk_eq; (· rfl); (· exact d_bld 0 rfl rfl ld4 rfl))
    (apply lxk_eq; (· rfl); (· exact d_x fun _ => x_neb ub rfl rfl dk_eq))
    (apply lxk_run 1; (· rfl); (· simp))
    (apply lxk_eq; (· rfl); (· exact d_x fun _ => x_field rfl fd35_1 dk_eq))
    (apply lxk_eq; (· rfl); (· exact d_bld 0 rfl rfl ld33 rfl))
    (apply lxk_sl; (· rfl); (· exact d_x fun _ => x_lit sl104 zo104e rfl rfl rfl rfl (by decide) (by decide) rfl fun b4 => dk_all (E := (encSl U32)) [[Value.slice pn (rt q).snd.fst.length cn], [Value.slice pn1 (rt (vq (zg, zN, zD))).snd.fst.length cn1]] [(rt q).snd.fst, (rt (vq (zg, zN, zD))).snd.fst] (fun w A hG => (allrd_cons (rd_of_slF (hG _ (fact_mem (n := 5) rfl))) (allrd_cons (rd_of_slF (hG _ (fact_mem (n := 0) rfl))) allrd_nil))) rfl rfl rfl (by decide)); intro pa5 ca5)
    (apply lxk_sl; (· rfl); (· exact d_x fun _ => x_call [0] rfl (S_nat_Mul (by first | omega | exact side _ (by assumption) | assumption | rfl | (simp; done) | (simp; omega))) rfl (by rintro _ _ _ ⟨pa6, ca6, rfl, rfl, rfl⟩; exact (dk_sl 0 rfl))); intro pa6 ca6)
    (apply lxk_run 1; (· rfl); (· simp))
    (apply lxk_eq; (· rfl); (· exact d_x fun _ => x_field rfl fd35_2 dk_eq))
    (apply lxk_eq; (· rfl); (· exact d_bld 0 rfl rfl ld33 rfl))
    (apply lxk_sl; (· rfl); (· exact d_x fun _ => x_lit sl104 zo104e rfl rfl rfl rfl (by decide) (by decide) rfl fun b4 => dk_all (E := (encSl U32)) [[Value.slice pd (rt q).snd.snd.length cd], [Value.slice pd1 (rt (vq (zg, zN, zD))).snd.snd.length cd1]] [(rt q).snd.snd, (rt (vq (zg, zN, zD))).snd.snd] (fun w A hG => (allrd_cons (rd_of_slF (hG _ (fact_mem (n := 6) rfl))) (allrd_cons (rd_of_slF (hG _ (fact_mem (n := 1) rfl))) allrd_nil))) rfl rfl rfl (by decide)); intro pa7 ca7)
    (apply lxk_sl; (· rfl); (· exact d_x fun _ => x_call [0] rfl (S_nat_Mul (by first | omega | exact side _ (by assumption) | assumption | rfl | (simp; done) | (simp; omega))) rfl (by rintro _ _ _ ⟨pa8, ca8, rfl, rfl, rfl⟩; exact (dk_sl 0 rfl))); intro pa8 ca8)
    (apply lxk_rq; (· rfl); (· exact d_x fun _ => x_call [2, 0] rfl (S_rational_canonical (by first | omega | exact side _ (by assumption) | assumption | rfl | (simp; done) | (simp; omega)) (by first | omega | exact side _ (by assumption) | assumption | rfl | (simp; done) | (simp; omega))) rfl (by rintro _ _ _ ⟨pn2, cn2, pd2, cd2, rfl, rfl, rfl⟩; exact (dk_rq 0 1 rfl rfl))); intro pn2 cn2 pd2 cd2)
    simp only [vq_rt']
    (apply lxk_alloc; (· rfl); (· exact zo35); intro b4)
    refine lxk_end rfl ?_
    simp only [List.map_cons, List.map_nil, List.cons_append, List.nil_append]
    refine j_step rfl (x_bst_all 0 rfl rfl rfl ld35 rfl rfl (by simp [Value.oneCell']) ?_)
    refine j_nf [.c [1, 1, 0, 1, 0, 0, 1, 1, 0, 0, 1, 1, 1], .blk 1, .c [1, 1, 0, 1, 0, 0, 1, 1, 1], .lp [1, 1, 0, 1, 0, 0], .blk 0, .c [1, 1, 1]] rfl ?_
    (apply j_drawK it mx 8; (· rfl); (· rfl))
    (apply lxk_eq; (· rfl); (· exact d_x fun _ => x_field rfl fd35_0 dk_eq))
    (apply lxk_eq; (· rfl); (· exact d_bld 0 rfl rfl ld4 rfl))
    (apply lxk_eq; (· rfl); (· exact d_x fun _ => x_field rfl fd35_1 dk_eq))
    (apply lxk_eq; (· rfl); (· exact d_bld 0 rfl rfl ld33 rfl))
    (apply lxk_eq; (· rfl); (· exact d_x fun _ => x_field rfl fd35_2 dk_eq))
    (apply lxk_eq; (· rfl); (· exact d_bld 0 rfl rfl ld33 rfl))
    (apply lxk_run 2; (· rfl); (· simp))
    refine lxk_end rfl ?_
    simp only [List.map_cons, List.map_nil, List.cons_append, List.nil_append]
    refine j_run it 1 rfl (by simp) ?_
    refine j_nf [.o [1, 1, 0, 1, 0, 0, 1, 1, 1] 0, .lp [1, 1, 0, 1, 0, 0], .blk 0, .c [1, 1, 1]] rfl ?_
    refine j_run it 2 rfl (by repeat' first | exact trivial | apply And.intro | omega) ?_
    refine j_nfn 1 [.lp [1, 1, 0, 1, 0, 0], .blk 0, .c [1, 1, 1]] rfl ?_
    rw [e]
    refine j_toM [false, false, true] [0, 1, 13] (by repeat (first | exact Fr.sub_nil _ | refine Fr.sub_cons rfl ?_ | refine Fr.sub_consI rfl (by first | omega | (dsimp only; omega)) ?_ | refine Fr.sub_consS rfl (by first | omega | (dsimp only; omega)) (by first | omega | (dsimp only; omega)) ?_)) rfl rfl (ih (k + 1, q * vq (zg, zN, zD), (pn2, cn2), (pd2, cd2)) (by simp only; omega) ⟨by simp only; omega, by simp only; rw [prodQ_take hz1, hq]⟩)
  · have ek : k = ls.length := by omega
    subst ek
    rw [List.take_length] at hq
    subst hq
    refine j_nf [.o [1, 1, 0, 1, 0, 0, 0] 0, .c [1, 1, 0, 1, 0, 0, 1], .lp [1, 1, 0, 1, 0, 0], .blk 0, .c [1, 1, 1]] rfl ?_
    refine j_run it 1 rfl (by simp) ?_
    refine j_nf [.c [1, 1, 0, 1, 0, 0, 1, 0], .c [1, 1, 0, 1, 0, 0, 1, 1], .lp [1, 1, 0, 1, 0, 0], .blk 0, .c [1, 1, 1]] rfl ?_
    refine j_if rfl rfl (fun h1 => by exfalso; omega) (fun h1 => ?_)
    refine j_nf [.o [1, 1, 1, 0] 0, .c [1, 1, 1, 1]] rfl ?_
    refine j_run it 3 rfl (by simp) ?_
    refine j_step rfl (x_build (cs := [Value.bool (rt (prodQ ls)).fst, Value.slice pn (rt (prodQ ls)).snd.fst.length cn, Value.slice pd (rt (prodQ ls)).snd.snd.length cd]) st35 zo35 rfl rfl ?_)
    refine j_step rfl (x_bst_all 0 rfl rfl rfl ld35 rfl rfl (by simp [Value.oneCell']) ?_)
    refine j_nf [.c [1, 1, 1, 1]] rfl ?_
    refine j_givC [0, 1] rfl (.agg 0 rfl rfl ld35 rfl .nil) rfl ⟨_, _, _, _, rfl, rfl, rfl⟩
end Go.Proofs.Ytlhgkefaflpgeaa

namespace Go.Proofs.Ytlhgkefaflpgeaa
open Go Go.Fw
set_option maxRecDepth 100000
set_option linter.unusedVariables false
set_option linter.unusedSimpArgs false
set_option maxHeartbeats 2000000
theorem S_codewrightref02_Make {neg : Bool} {pn pd : Option Addr} {n m cn cd : Nat} {N D : List Nat} (hN : N.length ≤ 1073741824) (hD : D.length ≤ 1073741824) :
    Ctr Try.prog 36 [.bool neg, .slice pn n cn, .slice pd m cd] [] [slF U32 pn n cn N, slF U32 pd m cd D] (RtV (rt (vq (neg, N, D)))) := by
  refine Ctr_of_j' (F := F_codewrightref02_Make) rfl fun C => ?_
  refine j_len 0 rfl fun hn hba _ => ?_
  refine j_len 1 rfl fun hm hbb _ => ?_
  subst hn; subst hm
  refine j_range 0 rfl fun hra => ?_
  refine j_range 1 rfl fun hrb => ?_
  have ha := lim hra
  have hb := lim hrb
  have ea := trim_eq ha
  have eb := trim_eq hb
  have za : (trim N).length = 0 ↔ val N = 0 := by rw [ea]; exact ⟨fun h => limbs_nil.1 (List.eq_nil_of_length_eq_zero h), fun h => by rw [h, limbs_zero]; rfl⟩
  have zb : (trim D).length = 0 ↔ val D = 0 := by rw [eb]; exact ⟨fun h => limbs_nil.1 (List.eq_nil_of_length_eq_zero h), fun h => by rw [h, limbs_zero]; rfl⟩
  have zero : val N = 0 ∨ val D = 0 → rt (vq (neg, N, D)) = (false, [], [1]) := fun h => by rw [vq_eq, mk_zero h, rt_zero]
  by_cases h1 : (trim N).length = 0
  · have e := zero (.inl (za.1 h1))
    refine j_nf [.o [0] 0, .c [1]] rfl ?_
    refine j_step rfl (x_alloc zo35 fun b1 => ?_)
    refine j_nf [.o [1, 0, 0] 0, .c [1, 0, 1], .c [1, 1]] rfl ?_
    refine j_run it 1 rfl (by simp) ?_
    refine j_step rfl (x_call [0] rfl (S_codewrightref01_Zero) rfl ?_)
    rintro _ _ _ ⟨rfl, rfl, rfl⟩
    simp only [List.cons_append, List.nil_append]
    refine j_run it 1 rfl (by simp) ?_
    refine j_split_dec (t := 14) rfl (fun h2 => ?_) (fun h2 => by exfalso; omega)
    refine j_run it 3 rfl (by simp) ?_
    refine j_nf [.c [1, 0, 1], .c [1, 1]] rfl ?_
    refine j_true rfl rfl ?_
    refine j_nf [.o [1, 0, 1, 0, 0] 0, .c [1, 0, 1, 0, 1], .c [1, 1]] rfl ?_
    refine j_step rfl (x_lit0 sl33 fun b2 => ?_)
    refine j_step rfl (x_lit sl33 zo33e rfl rfl rfl rfl (by decide) (by decide) rfl fun b3 => ?_)
    refine j_step rfl (x_build (cs := [Value.bool false, Value.slice (some { block := b2, off := 0 }) 0 0, Value.slice (some { block := b3, off := 0 }) 1 1]) st35 zo35 rfl rfl ?_)
    refine j_step rfl (x_bst_all 2 rfl rfl rfl ld35 rfl rfl (by simp [Value.oneCell']) ?_)
    refine j_nf [.c [1, 0, 1, 0, 1], .c [1, 1]] rfl ?_
    refine j_pub_made (n := 1) (kd := .u32) 4 [1] 0 rfl rfl (by simp [InR]) (by decide) (by decide) ?_
    refine j_add (slF U32 (some ⟨b2, 0, none⟩) 0 0 []) (fun w A _ => slF_nil _ _ _ _ _) ?_
    refine j_givC [0, 1] rfl (.agg 1 rfl rfl ld35 rfl .nil) rfl ⟨_, _, _, _, by rw [e]; rfl, by rw [e]; rfl, rfl⟩
  by_cases h2 : (trim D).length = 0
  · have e := zero (.inr (zb.1 h2))
    refine j_nf [.o [0] 0, .c [1]] rfl ?_
    refine j_step rfl (x_alloc zo35 fun b1 => ?_)
    refine j_nf [.o [1, 0, 0] 0, .c [1, 0, 1], .c [1, 1]] rfl ?_
    refine j_run it 1 rfl (by simp) ?_
    refine j_step rfl (x_call [0] rfl (S_codewrightref01_Zero) rfl ?_)
    rintro _ _ _ ⟨rfl, rfl, rfl⟩
    simp only [List.cons_append, List.nil_append]
    refine j_run it 1 rfl (by simp) ?_
    refine j_split_dec (t := 14) rfl (fun h3 => by exfalso; omega) (fun h3 => ?_)
    refine j_run it 1 rfl (by simp) ?_
    refine j_gstep rfl rfl (x_call [1] rfl (S_codewrightref01_Zero) rfl ?_)
    rintro _ _ _ ⟨rfl, rfl, rfl⟩
    simp only [List.cons_append, List.nil_append]
    refine j_run it 1 rfl (by simp) ?_
    refine j_nf [.c [1, 0, 1], .c [1, 1]] rfl ?_
    refine j_if rfl rfl (fun h4 => ?_) (fun h4 => by exfalso; omega)
    refine j_nf [.o [1, 0, 1, 0, 0] 0, .c [1, 0, 1, 0, 1], .c [1, 1]] rfl ?_
    refine j_step rfl (x_lit0 sl33 fun b2 => ?_)
    refine j_step rfl (x_lit sl33 zo33e rfl rfl rfl rfl (by decide) (by decide) rfl fun b3 => ?_)
    refine j_step rfl (x_build (cs := [Value.bool false, Value.slice (some { block := b2, off := 0 }) 0 0, Value.slice (some { block := b3, off := 0 }) 1 1]) st35 zo35 rfl rfl ?_)
    refine j_step rfl (x_bst_all 2 rfl rfl rfl ld35 rfl rfl (by simp [Value.oneCell']) ?_)
    refine j_nf [.c [1, 0, 1, 0, 1], .c [1, 1]] rfl ?_
    refine j_pub_made (n := 1) (kd := .u32) 4 [1] 0 rfl rfl (by simp [InR]) (by decide) (by decide) ?_
    refine j_add (slF U32 (some ⟨b2, 0, none⟩) 0 0 []) (fun w A _ => slF_nil _ _ _ _ _) ?_
    refine j_givC [0, 1] rfl (.agg 1 rfl rfl ld35 rfl .nil) rfl ⟨_, _, _, _, by rw [e]; rfl, by rw [e]; rfl, rfl⟩
  · have v1 : val N ≠ 0 := fun h => h1 (za.2 h)
    have v2 : val D ≠ 0 := fun h => h2 (zb.2 h)
    have hg : val (limbs (Nat.gcd (val N) (val D))) ≠ 0 := by
      rw [val_limbs]
      have := Nat.gcd_pos_of_pos_left (val D) (Nat.pos_of_ne_zero v1)
      omega
    have e : rt (vq (neg, N, D)) = (neg, limbs (val N / val (limbs (Nat.gcd (val N) (val D)))), limbs (val D / val (limbs (Nat.gcd (val N) (val D))))) := by
      rw [vq_eq, rt_mk v1 v2, val_limbs]
    have hgl : (limbs (Nat.gcd (val N) (val D))).length ≤ 1073741824 := limbs_mono (Nat.le_trans (by rw [← ea]; exact trim_length_le N) hN) (Nat.gcd_le_left _ (Nat.pos_of_ne_zero v1))
    refine j_nf [.o [0] 0, .c [1]] rfl ?_
    refine j_step rfl (x_alloc zo35 fun b1 => ?_)
    refine j_nf [.o [1, 0, 0] 0, .c [1, 0, 1], .c [1, 1]] rfl ?_
    refine j_run it 1 rfl (by simp) ?_
    refine j_step rfl (x_call [0] rfl (S_codewrightref01_Zero) rfl ?_)
    rintro _ _ _ ⟨rfl, rfl, rfl⟩
    simp only [List.cons_append, List.nil_append]
    refine j_run it 1 rfl (by simp) ?_
    refine j_split_dec (t := 14) rfl (fun h3 => by exfalso; omega) (fun h3 => ?_)
    refine j_run it 1 rfl (by simp) ?_
    refine j_gstep rfl rfl (x_call [1] rfl (S_codewrightref01_Zero) rfl ?_)
    rintro _ _ _ ⟨rfl, rfl, rfl⟩
    simp only [List.cons_append, List.nil_append]
    refine j_run it 1 rfl (by simp) ?_
    refine j_nf [.c [1, 0, 1], .c [1, 1]] rfl ?_
    refine j_if rfl rfl (fun h4 => by exfalso; omega) (fun h4 => ?_)
    refine j_nf [.o [1, 1, 0] 0, .c [1, 1, 1]] rfl ?_
    refine j_run it 2 rfl (by simp) ?_
    refine j_step rfl (x_call [0, 1] rfl (S_codewrightref01_Gcd (by first | omega | exact side _ (by assumption) | assumption | rfl | (simp; done) | (simp; omega)) (by first | omega | exact side _ (by assumption) | assumption | rfl | (simp; done) | (simp; omega))) rfl ?_)
    rintro _ _ _ ⟨pa1, ca1, rfl, rfl, rfl⟩
    simp only [List.cons_append, List.nil_append]
    refine j_run it 1 rfl (by simp) ?_
    refine j_nf [.o [1, 1, 1, 0] 0, .c [1, 1, 1, 1]] rfl ?_
    refine j_run it 2 rfl (by simp) ?_
    refine j_step rfl (x_call [1, 0] rfl (S_codewrightref01_DivMod (by first | omega | exact side _ (by assumption) | assumption | rfl | (simp; done) | (simp; omega)) (by first | omega | exact side _ (by assumption) | assumption | rfl | (simp; done) | (simp; omega)) (by first | omega | exact side _ (by assumption) | assumption | rfl | (simp; done) | (simp; omega))) rfl ?_)
    rintro _ _ _ ⟨p11, c11, p21, c21, rfl, rfl, rfl⟩
    simp only [List.cons_append, List.nil_append]
    refine j_run it 5 rfl (by simp) ?_
    refine j_nf [.o [1, 1, 1, 1, 0] 0, .c [1, 1, 1, 1, 1]] rfl ?_
    refine j_run it 2 rfl (by simp) ?_
    refine j_step rfl (x_call [4, 2] rfl (S_codewrightref01_DivMod (by first | omega | exact side _ (by assumption) | assumption | rfl | (simp; done) | (simp; omega)) (by first | omega | exact side _ (by assumption) | assumption | rfl | (simp; done) | (simp; omega)) (by first | omega | exact side _ (by assumption) | assumption | rfl | (simp; done) | (simp; omega))) rfl ?_)
    rintro _ _ _ ⟨p12, c12, p22, c22, rfl, rfl, rfl⟩
    simp only [List.cons_append, List.nil_append]
    refine j_run it 5 rfl (by simp) ?_
    refine j_nf [.o [1, 1, 1, 1, 1, 0] 0, .c [1, 1, 1, 1, 1, 1]] rfl ?_
    refine j_run it 3 rfl (by simp) ?_
    refine j_step rfl (x_build (cs := [Value.bool neg, Value.slice p11 (limbs (val N / val (limbs ((val N).gcd (val D))))).length c11, Value.slice p12 (limbs (val D / val (limbs ((val N).gcd (val D))))).length c12]) st35 zo35 rfl rfl ?_)
    refine j_step rfl (x_bst_all 0 rfl rfl rfl ld35 rfl rfl (by simp [Value.oneCell']) ?_)
    refine j_nf [.c [1, 1, 1, 1, 1, 1]] rfl ?_
    refine j_givC [2, 0] rfl (.agg 0 rfl rfl ld35 rfl .nil) rfl ⟨p11, c11, p12, c12, by rw [e]; rfl, by rw [e], rfl⟩

theorem S_codewrightref02_Trim {neg : Bool} {pn pd : Option Addr} {n m cn cd : Nat} {N D : List Nat} (hN : N.length ≤ 1073741824) (hD : D.length ≤ 1073741824) :
    Ctr Try.prog 34 [.agg #[.bool neg, .slice pn n cn, .slice pd m cd]] [] [slF U32 pn n cn N, slF U32 pd m cd D] (RtV (rt (vq (neg, N, D)))) := by
  refine Ctr_of_j' (F := F_codewrightref02_Trim) rfl fun C => ?_
  refine j_nf [.o [0] 0, .c [1]] rfl ?_
  refine j_step rfl (x_box_agg rfl fun b1 => ?_)
  refine j_step rfl (x_alloc zo35 fun b2 => ?_)
  refine j_nf [.o [1, 0] 0, .c [1, 1]] rfl ?_
  refine j_step rfl (x_field rfl fd35_0 ?_)
  refine j_step rfl (x_bld 1 rfl rfl ld4 rfl ?_)
  refine j_step rfl (x_field rfl fd35_1 ?_)
  refine j_step rfl (x_bld 1 rfl rfl ld33 rfl ?_)
  refine j_step rfl (x_field rfl fd35_2 ?_)
  refine j_step rfl (x_bld 1 rfl rfl ld33 rfl ?_)
  refine j_step rfl (x_call [0, 1] rfl (S_codewrightref02_Make (by first | omega | exact side _ (by assumption) | assumption | rfl | (simp; done) | (simp; omega)) (by first | omega | exact side _ (by assumption) | assumption | rfl | (simp; done) | (simp; omega))) rfl ?_)
  rintro _ _ _ ⟨pn1, cn1, pd1, cd1, rfl, rfl, rfl⟩
  simp only [List.cons_append, List.nil_append]
  refine j_step rfl (x_bst_all 0 rfl rfl rfl ld35 rfl rfl (by simp [Value.oneCell']) ?_)
  refine j_nf [.c [1, 1]] rfl ?_
  refine j_givC [0, 1] rfl (.agg 0 rfl rfl ld35 rfl .nil) rfl ⟨_, _, _, _, rfl, rfl, rfl⟩

theorem S_codewrightref02_Sign {neg : Bool} {pn pd : Option Addr} {n m cn cd : Nat} {N D : List Nat} (hN : N.length ≤ 1073741824) (hD : D.length ≤ 1073741824) :
    Ctr Try.prog 16 [.agg #[.bool neg, .slice pn n cn, .slice pd m cd]] [] [slF U32 pn n cn N, slF U32 pd m cd D] (Rv (.int .i64 (vq (neg, N, D)).num.sign) []) := by
  refine Ctr_of_j' (F := F_codewrightref02_Sign) rfl fun C => ?_
  by_cases h0 : (rt (vq (neg, N, D))).2.1.length = 0
  · have e : (vq (neg, N, D)).num.sign = 0 := by
      have := List.eq_nil_of_length_eq_zero h0
      have h2 : (vq (neg, N, D)).num.natAbs = 0 := limbs_nil.1 this
      have h3 : (vq (neg, N, D)).num = 0 := by omega
      rw [h3]; rfl
    rw [e]
    refine j_nf [.o [0] 0, .c [1]] rfl ?_
    refine j_step rfl (x_box_agg rfl fun b1 => ?_)
    refine j_run it 1 rfl (by simp) ?_
    refine j_nf [.o [1, 0] 0, .c [1, 1]] rfl ?_
    refine j_step rfl (x_bld_all 0 rfl rfl ld35 rfl ?_)
    refine j_step rfl (x_call [0, 1] rfl (S_codewrightref02_Trim (by first | omega | exact side _ (by assumption) | assumption | rfl | (simp; done) | (simp; omega)) (by first | omega | exact side _ (by assumption) | assumption | rfl | (simp; done) | (simp; omega))) rfl ?_)
    rintro _ _ _ ⟨pn1, cn1, pd1, cd1, rfl, rfl, rfl⟩
    simp only [List.cons_append, List.nil_append]
    refine j_step rfl (x_bst_all 0 rfl rfl rfl ld35 rfl rfl (by simp [Value.oneCell']) ?_)
    refine j_nf [.o [1, 1, 0, 0] 0, .c [1, 1, 0, 1], .c [1, 1, 1]] rfl ?_
    refine j_step rfl (x_field rfl fd35_1 ?_)
    refine j_step rfl (x_bld 0 rfl rfl ld33 rfl ?_)
    refine j_step rfl (x_len sl33 rfl ?_)
    refine j_run it 1 rfl (by simp) ?_
    refine j_nf [.c [1, 1, 0, 1], .c [1, 1, 1]] rfl ?_
    refine j_if rfl rfl (fun h1 => ?_) (fun h1 => by exfalso; omega)
    refine j_nf [.o [1, 1, 0, 1, 0, 0] 0, .c [1, 1, 0, 1, 0, 1], .c [1, 1, 1]] rfl ?_
    refine j_run it 1 rfl (by simp) ?_
    refine j_nf [.c [1, 1, 0, 1, 0, 1], .c [1, 1, 1]] rfl ?_
    refine j_giv [] rfl rfl rfl ⟨rfl, rfl, rfl⟩
  · have e : (vq (neg, N, D)).num ≠ 0 := fun h => h0 (by show (limbs (vq (neg, N, D)).num.natAbs).length = 0; rw [h]; simp [limbs_zero])
    refine j_nf [.o [0] 0, .c [1]] rfl ?_
    refine j_step rfl (x_box_agg rfl fun b1 => ?_)
    refine j_run it 1 rfl (by simp) ?_
    refine j_nf [.o [1, 0] 0, .c [1, 1]] rfl ?_
    refine j_step rfl (x_bld_all 0 rfl rfl ld35 rfl ?_)
    refine j_step rfl (x_call [0, 1] rfl (S_codewrightref02_Trim (by first | omega | exact side _ (by assumption) | assumption | rfl | (simp; done) | (simp; omega)) (by first | omega | exact side _ (by assumption) | assumption | rfl | (simp; done) | (simp; omega))) rfl ?_)
    rintro _ _ _ ⟨pn1, cn1, pd1, cd1, rfl, rfl, rfl⟩
    simp only [List.cons_append, List.nil_append]
    refine j_step rfl (x_bst_all 0 rfl rfl rfl ld35 rfl rfl (by simp [Value.oneCell']) ?_)
    refine j_nf [.o [1, 1, 0, 0] 0, .c [1, 1, 0, 1], .c [1, 1, 1]] rfl ?_
    refine j_step rfl (x_field rfl fd35_1 ?_)
    refine j_step rfl (x_bld 0 rfl rfl ld33 rfl ?_)
    refine j_step rfl (x_len sl33 rfl ?_)
    refine j_run it 1 rfl (by simp) ?_
    refine j_nf [.c [1, 1, 0, 1], .c [1, 1, 1]] rfl ?_
    refine j_if rfl rfl (fun h1 => by exfalso; omega) (fun h1 => ?_)
    refine j_nf [.o [1, 1, 1, 0, 0] 0, .c [1, 1, 1, 0, 1], .c [1, 1, 1, 1]] rfl ?_
    refine j_step rfl (x_field rfl fd35_0 ?_)
    refine j_step rfl (x_bld 0 rfl rfl ld4 rfl ?_)
    refine j_nf [.c [1, 1, 1, 0, 1], .c [1, 1, 1, 1]] rfl ?_
    refine j_cond rfl rfl (fun h2 => ?_) (fun h2 => ?_)
    · have hn : (vq (neg, N, D)).num < 0 := by simpa [rt] using h2
      rw [Int.sign_eq_neg_one_of_neg hn]
      refine j_nf [.o [1, 1, 1, 0, 1, 0, 0] 0, .c [1, 1, 1, 0, 1, 0, 1], .c [1, 1, 1, 1]] rfl ?_
      refine j_run it 1 rfl (by simp) ?_
      refine j_nf [.c [1, 1, 1, 0, 1, 0, 1], .c [1, 1, 1, 1]] rfl ?_
      refine j_giv [] rfl rfl rfl ⟨rfl, rfl, rfl⟩
    · have hn : ¬ (vq (neg, N, D)).num < 0 := by simpa [rt] using h2
      rw [Int.sign_eq_one_of_pos (by omega)]
      refine j_nf [.o [1, 1, 1, 1, 0] 0, .c [1, 1, 1, 1, 1]] rfl ?_
      refine j_run it 1 rfl (by simp) ?_
      refine j_nf [.c [1, 1, 1, 1, 1]] rfl ?_
      refine j_giv [] rfl rfl rfl ⟨rfl, rfl, rfl⟩

theorem S_codewrightref02_Neg {neg : Bool} {pn pd : Option Addr} {n m cn cd : Nat} {N D : List Nat} (hN : N.length ≤ 1073741824) (hD : D.length ≤ 1073741824) :
    Ctr Try.prog 56 [.agg #[.bool neg, .slice pn n cn, .slice pd m cd]] [] [slF U32 pn n cn N, slF U32 pd m cd D] (RtV (rt (-vq (neg, N, D)))) := by
  refine Ctr_of_j' (F := F_codewrightref02_Neg) rfl fun C => ?_
  refine j_len 0 rfl fun hn _ _ => ?_
  refine j_len 1 rfl fun hm _ _ => ?_
  subst hn; subst hm
  refine j_range 0 rfl fun hra => ?_
  refine j_range 1 rfl fun hrb => ?_
  obtain ⟨k1, k2⟩ := rt_len (g := neg) (lim hra) (lim hrb) hN hD (by decide)
  have e : vq (!(rt (vq (neg, N, D))).1, (rt (vq (neg, N, D))).2.1, (rt (vq (neg, N, D))).2.2) = -vq (neg, N, D) := by
    rw [vq_eq, neg_mk]; congr 1; exact vq_rt _
  refine j_nf [.o [0] 0, .c [1]] rfl ?_
  refine j_step rfl (x_box_agg rfl fun b1 => ?_)
  refine j_step rfl (x_alloc zo35 fun b2 => ?_)
  refine j_nf [.o [1, 0] 0, .c [1, 1]] rfl ?_
  refine j_step rfl (x_bld_all 1 rfl rfl ld35 rfl ?_)
  refine j_step rfl (x_call [0, 1] rfl (S_codewrightref02_Trim (by first | omega | exact side _ (by assumption) | assumption | rfl | (simp; done) | (simp; omega)) (by first | omega | exact side _ (by assumption) | assumption | rfl | (simp; done) | (simp; omega))) rfl ?_)
  rintro _ _ _ ⟨pn1, cn1, pd1, cd1, rfl, rfl, rfl⟩
  simp only [List.cons_append, List.nil_append]
  refine j_step rfl (x_bst_all 1 rfl rfl rfl ld35 rfl rfl (by simp [Value.oneCell']) ?_)
  refine j_nf [.o [1, 1, 0] 0, .c [1, 1, 1]] rfl ?_
  refine j_step rfl (x_field rfl fd35_0 ?_)
  refine j_step rfl (x_bld 1 rfl rfl ld4 rfl ?_)
  refine j_run it 1 rfl (by simp) ?_
  refine j_step rfl (x_field rfl fd35_1 ?_)
  refine j_step rfl (x_bld 1 rfl rfl ld33 rfl ?_)
  refine j_step rfl (x_field rfl fd35_2 ?_)
  refine j_step rfl (x_bld 1 rfl rfl ld33 rfl ?_)
  refine j_step rfl (x_call [0, 1] rfl (S_codewrightref02_Make (by first | omega | exact side _ (by assumption) | assumption | rfl | (simp; done) | (simp; omega)) (by first | omega | exact side _ (by assumption) | assumption | rfl | (simp; done) | (simp; omega))) rfl ?_)
  rintro _ _ _ ⟨pn2, cn2, pd2, cd2, rfl, rfl, rfl⟩
  simp only [List.cons_append, List.nil_append]
  refine j_step rfl (x_bst_all 0 rfl rfl rfl ld35 rfl rfl (by simp [Value.oneCell']) ?_)
  refine j_nf [.c [1, 1, 1]] rfl ?_
  rw [e]
  refine j_givC [0, 1] rfl (.agg 0 rfl rfl ld35 rfl .nil) rfl ⟨_, _, _, _, rfl, rfl, rfl⟩

theorem mul_rt (p q : Rat) : vq ((rt p).1 != (rt q).1, limbs (val (rt p).2.1 * val (rt q).2.1), limbs (val (rt p).2.2 * val (rt q).2.2)) = p * q := by
  rw [vq_eq]
  simp only [val_limbs, num_rt, den_rt, neg_rt]
  exact mul_mk _ _
theorem limbs_of {l : List Nat} {k : Nat} {x : Nat} (h : l = limbs x) (hl : l.length ≤ k) : (limbs (val l)).length ≤ k := by subst h; rw [val_limbs]; exact hl
theorem S_codewrightref02_Mul {g1 g2 : Bool} {pn1 pd1 pn2 pd2 : Option Addr} {n1 m1 n2 m2 cn1 cd1 cn2 cd2 : Nat} {N1 D1 N2 D2 : List Nat}
    (l1 : N1.length ≤ 134217728) (l2 : D1.length ≤ 134217728) (l3 : N2.length ≤ 134217728) (l4 : D2.length ≤ 134217728) :
    Ctr Try.prog 42 [.agg #[.bool g1, .slice pn1 n1 cn1, .slice pd1 m1 cd1], .agg #[.bool g2, .slice pn2 n2 cn2, .slice pd2 m2 cd2]] [] [slF U32 pn1 n1 cn1 N1, slF U32 pd1 m1 cd1 D1, slF U32 pn2 n2 cn2 N2, slF U32 pd2 m2 cd2 D2] (RtV (rt (vq (g1, N1, D1) * vq (g2, N2, D2)))) := by
  refine Ctr_of_j' (F := F_codewrightref02_Mul) rfl fun C => ?_
  refine j_range 0 rfl fun r1 => ?_
  refine j_range 1 rfl fun r2 => ?_
  refine j_range 2 rfl fun r3 => ?_
  refine j_range 3 rfl fun r4 => ?_
  obtain ⟨k1, k2⟩ := rt_len (g := g1) (lim r1) (lim r2) l1 l2 (by decide)
  obtain ⟨k3, k4⟩ := rt_len (g := g2) (lim r3) (lim r4) l3 l4 (by decide)
  have LX : (limbs (val (rt (vq (g1, N1, D1))).2.1 * val (rt (vq (g2, N2, D2))).2.1)).length ≤ 1073741824 := Nat.le_trans (prod_lim (limbs_of rfl k1) (limbs_of rfl k3)) (by decide)
  have LY : (limbs (val (rt (vq (g1, N1, D1))).2.2 * val (rt (vq (g2, N2, D2))).2.2)).length ≤ 1073741824 := Nat.le_trans (prod_lim (limbs_of rfl k2) (limbs_of rfl k4)) (by decide)
  refine j_nf [.o [0] 0, .c [1]] rfl ?_
  refine j_step rfl (x_box_agg rfl fun b1 => ?_)
  refine j_step rfl (x_box_agg rfl fun b2 => ?_)
  refine j_step rfl (x_alloc zo35 fun b3 => ?_)
  refine j_nf [.o [1, 0] 0, .c [1, 1]] rfl ?_
  refine j_step rfl (x_bld_all 2 rfl rfl ld35 rfl ?_)
  refine j_step rfl (x_call [0, 1] rfl (S_codewrightref02_Trim (by first | omega | exact side _ (by assumption) | assumption | rfl | (simp; done) | (simp; omega)) (by first | omega | exact side _ (by assumption) | assumption | rfl | (simp; done) | (simp; omega))) rfl ?_)
  rintro _ _ _ ⟨pn3, cn3, pd3, cd3, rfl, rfl, rfl⟩
  simp only [List.cons_append, List.nil_append]
  refine j_step rfl (x_bst_all 2 rfl rfl rfl ld35 rfl rfl (by simp [Value.oneCell']) ?_)
  refine j_nf [.o [1, 1, 0] 0, .c [1, 1, 1]] rfl ?_
  refine j_step rfl (x_bld_all 1 rfl rfl ld35 rfl ?_)
  refine j_step rfl (x_call [4, 5] rfl (S_codewrightref02_Trim (by first | omega | exact side _ (by assumption) | assumption | rfl | (simp; done) | (simp; omega)) (by first | omega | exact side _ (by assumption) | assumption | rfl | (simp; done) | (simp; omega))) rfl ?_)
  rintro _ _ _ ⟨pn4, cn4, pd4, cd4, rfl, rfl, rfl⟩
  simp only [List.cons_append, List.nil_append]
  refine j_step rfl (x_bst_all 1 rfl rfl rfl ld35 rfl rfl (by simp [Value.oneCell']) ?_)
  refine j_nf [.c [1, 1, 1, 0], .c [1, 1, 1, 1]] rfl ?_
  (apply j_drawK it mx 16; (· rfl); (· rfl))
  (apply lxk_eq; (· rfl); (· exact d_x fun _ => x_field rfl fd35_0 dk_eq))
  (apply lxk_eq; (· rfl); (· exact d_bld 2 rfl rfl ld4 rfl))
  (apply lxk_eq; (· rfl); (· exact d_x fun _ => x_field rfl fd35_0 dk_eq))
  (apply lxk_eq; (· rfl); (· exact d_bld 1 rfl rfl ld4 rfl))
  (apply lxk_eq; (· rfl); (· exact d_x fun _ => x_neb ub rfl rfl dk_eq))
  (apply lxk_eq; (· rfl); (· exact d_x fun _ => x_field rfl fd35_1 dk_eq))
  (apply lxk_eq; (· rfl); (· exact d_bld 2 rfl rfl ld33 rfl))
  (apply lxk_eq; (· rfl); (· exact d_x fun _ => x_field rfl fd35_1 dk_eq))
  (apply lxk_eq; (· rfl); (· exact d_bld 1 rfl rfl ld33 rfl))
  (apply lxk_sl; (· rfl); (· exact d_x fun _ => x_call [2, 0] rfl (S_codewrightref01_Mul (by first | omega | exact side _ (by assumption) | assumption | rfl | (simp; done) | (simp; omega)) (by first | omega | exact side _ (by assumption) | assumption | rfl | (simp; done) | (simp; omega))) rfl (by rintro _ _ _ ⟨pa1, ca1, rfl, rfl, rfl⟩; exact (dk_sl 0 rfl))); intro pa1 ca1)
  (apply lxk_eq; (· rfl); (· exact d_x fun _ => x_field rfl fd35_2 dk_eq))
  (apply lxk_eq; (· rfl); (· exact d_bld 2 rfl rfl ld33 rfl))
  (apply lxk_eq; (· rfl); (· exact d_x fun _ => x_field rfl fd35_2 dk_eq))
  (apply lxk_eq; (· rfl); (· exact d_bld 1 rfl rfl ld33 rfl))
  (apply lxk_sl; (· rfl); (· exact d_x fun _ => x_call [4, 2] rfl (S_codewrightref01_Mul (by first | omega | exact side _ (by assumption) | assumption | rfl | (simp; done) | (simp; omega)) (by first | omega | exact side _ (by assumption) | assumption | rfl | (simp; done) | (simp; omega))) rfl (by rintro _ _ _ ⟨pa2, ca2, rfl, rfl, rfl⟩; exact (dk_sl 0 rfl))); intro pa2 ca2)
  (apply lxk_rq; (· rfl); (· exact d_x fun _ => x_call [1, 0] rfl (S_codewrightref02_Make (by first | omega | exact side _ (by assumption) | assumption | rfl | (simp; done) | (simp; omega)) (by first | omega | exact side _ (by assumption) | assumption | rfl | (simp; done) | (simp; omega))) rfl (by rintro _ _ _ ⟨pn5, cn5, pd5, cd5, rfl, rfl, rfl⟩; exact (dk_rq 0 1 rfl rfl))); intro pn5 cn5 pd5 cd5)
  simp only [vq_rt']
  refine lxk_end rfl ?_
  simp only [List.map_cons, List.map_nil, List.cons_append, List.nil_append]
  refine j_step rfl (x_bst_all 0 rfl rfl rfl ld35 rfl rfl (by simp [Value.oneCell']) ?_)
  refine j_nf [.c [1, 1, 1, 1]] rfl ?_
  rw [mul_rt]
  refine j_givC [0, 1] rfl (.agg 0 rfl rfl ld35 rfl .nil) rfl ⟨_, _, _, _, rfl, rfl, rfl⟩
end Go.Proofs.Ytlhgkefaflpgeaa

namespace Go.Proofs.Ytlhgkefaflpgeaa
open Go Go.Fw
set_option maxRecDepth 100000
set_option linter.unusedVariables false
set_option linter.unusedSimpArgs false
set_option maxHeartbeats 2000000
theorem lenN {p : Rat} {k : Nat} (h : (rt p).2.1.length ≤ k) : (limbs (val (rt p).2.1)).length ≤ k := limbs_of (l := (rt p).2.1) rfl h
theorem lenD {p : Rat} {k : Nat} (h : (rt p).2.2.length ≤ k) : (limbs (val (rt p).2.2)).length ≤ k := limbs_of (l := (rt p).2.2) rfl h
theorem S_codewrightref02_Add {g1 g2 : Bool} {pn1 pd1 pn2 pd2 : Option Addr} {n1 m1 n2 m2 cn1 cd1 cn2 cd2 : Nat} {N1 D1 N2 D2 : List Nat}
    (l1 : N1.length ≤ 134217728) (l2 : D1.length ≤ 134217728) (l3 : N2.length ≤ 134217728) (l4 : D2.length ≤ 134217728) :
    Ctr Try.prog 15 [.agg #[.bool g1, .slice pn1 n1 cn1, .slice pd1 m1 cd1], .agg #[.bool g2, .slice pn2 n2 cn2, .slice pd2 m2 cd2]] [] [slF U32 pn1 n1 cn1 N1, slF U32 pd1 m1 cd1 D1, slF U32 pn2 n2 cn2 N2, slF U32 pd2 m2 cd2 D2] (RtV (rt (vq (g1, N1, D1) + vq (g2, N2, D2)))) := by
  refine Ctr_of_j' (F := F_codewrightref02_Add) rfl fun C => ?_
  refine j_range 0 rfl fun r1 => ?_
  refine j_range 1 rfl fun r2 => ?_
  refine j_range 2 rfl fun r3 => ?_
  refine j_range 3 rfl fun r4 => ?_
  obtain ⟨k1, k2⟩ := rt_len (g := g1) (lim r1) (lim r2) l1 l2 (by decide)
  obtain ⟨k3, k4⟩ := rt_len (g := g2) (lim r3) (lim r4) l3 l4 (by decide)
  have LX := prod_lim (lenN k1) (lenD k4)
  have LY := prod_lim (lenN k3) (lenD k2)
  have LD := prod_lim (lenD k2) (lenD k4)
  have LS := sum_lim LX LY
  have hR : ∀ p q : Rat, (rt p).1 = (rt q).1 → vq ((rt p).1, limbs (val (limbs (val (rt p).2.1 * val (rt q).2.2)) + val (limbs (val (rt q).2.1 * val (rt p).2.2))), limbs (val (rt p).2.2 * val (rt q).2.2)) = p + q := by
    intro p q h
    rw [vq_eq]
    simp only [val_limbs, num_rt, den_rt, neg_rt] at h ⊢
    exact add_same h
  have hG : ∀ p q : Rat, (rt p).1 ≠ (rt q).1 → val (limbs (val (rt q).2.1 * val (rt p).2.2)) ≤ val (limbs (val (rt p).2.1 * val (rt q).2.2)) → vq ((rt p).1, limbs (val (limbs (val (rt p).2.1 * val (rt q).2.2)) - val (limbs (val (rt q).2.1 * val (rt p).2.2))), limbs (val (rt p).2.2 * val (rt q).2.2)) = p + q := by
    intro p q h hle
    rw [vq_eq]
    simp only [val_limbs, num_rt, den_rt, neg_rt] at h hle ⊢
    exact add_diff h hle
  refine j_nf [.o [0] 0, .c [1]] rfl ?_
  refine j_step rfl (x_box_agg rfl fun b1 => ?_)
  refine j_step rfl (x_box_agg rfl fun b2 => ?_)
  refine j_step rfl (x_alloc zo35 fun b3 => ?_)
  refine j_nf [.o [1, 0] 0, .c [1, 1]] rfl ?_
  refine j_step rfl (x_bld_all 2 rfl rfl ld35 rfl ?_)
  refine j_step rfl (x_call [0, 1] rfl (S_codewrightref02_Trim (by first | omega | exact side _ (by assumption) | assumption | rfl | (simp; done) | (simp; omega)) (by first | omega | exact side _ (by assumption) | assumption | rfl | (simp; done) | (simp; omega))) rfl ?_)
  rintro _ _ _ ⟨pn3, cn3, pd3, cd3, rfl, rfl, rfl⟩
  simp only [List.cons_append, List.nil_append]
  refine j_step rfl (x_bst_all 2 rfl rfl rfl ld35 rfl rfl (by simp [Value.oneCell']) ?_)
  refine j_nf [.o [1, 1, 0] 0, .c [1, 1, 1]] rfl ?_
  refine j_step rfl (x_bld_all 1 rfl rfl ld35 rfl ?_)
  refine j_step rfl (x_call [4, 5] rfl (S_codewrightref02_Trim (by first | omega | exact side _ (by assumption) | assumption | rfl | (simp; done) | (simp; omega)) (by first | omega | exact side _ (by assumption) | assumption | rfl | (simp; done) | (simp; omega))) rfl ?_)
  rintro _ _ _ ⟨pn4, cn4, pd4, cd4, rfl, rfl, rfl⟩
  simp only [List.cons_append, List.nil_append]
  refine j_step rfl (x_bst_all 1 rfl rfl rfl ld35 rfl rfl (by simp [Value.oneCell']) ?_)
  refine j_nf [.o [1, 1, 1, 0] 0, .c [1, 1, 1, 1]] rfl ?_
  refine j_step rfl (x_field rfl fd35_1 ?_)
  refine j_step rfl (x_bld 2 rfl rfl ld33 rfl ?_)
  refine j_step rfl (x_field rfl fd35_2 ?_)
  refine j_step rfl (x_bld 1 rfl rfl ld33 rfl ?_)
  refine j_step rfl (x_call [2, 1] rfl (S_codewrightref01_Mul (by first | omega | exact side _ (by assumption) | assumption | rfl | (simp; done) | (simp; omega)) (by first | omega | exact side _ (by assumption) | assumption | rfl | (simp; done) | (simp; omega))) rfl ?_)
  rintro _ _ _ ⟨pa1, ca1, rfl, rfl, rfl⟩
  simp only [List.cons_append, List.nil_append]
  refine j_run it 1 rfl (by simp) ?_
  refine j_nf [.o [1, 1, 1, 1, 0] 0, .c [1, 1, 1, 1, 1]] rfl ?_
  refine j_step rfl (x_field rfl fd35_1 ?_)
  refine j_step rfl (x_bld 1 rfl rfl ld33 rfl ?_)
  refine j_step rfl (x_field rfl fd35_2 ?_)
  refine j_step rfl (x_bld 2 rfl rfl ld33 rfl ?_)
  refine j_step rfl (x_call [1, 4] rfl (S_codewrightref01_Mul (by first | omega | exact side _ (by assumption) | assumption | rfl | (simp; done) | (simp; omega)) (by first | omega | exact side _ (by assumption) | assumption | rfl | (simp; done) | (simp; omega))) rfl ?_)
  rintro _ _ _ ⟨pa2, ca2, rfl, rfl, rfl⟩
  simp only [List.cons_append, List.nil_append]
  refine j_run it 1 rfl (by simp) ?_
  refine j_nf [.o [1, 1, 1, 1, 1, 0] 0, .c [1, 1, 1, 1, 1, 1]] rfl ?_
  refine j_step rfl (x_field rfl fd35_2 ?_)
  refine j_step rfl (x_bld 2 rfl rfl ld33 rfl ?_)
  refine j_step rfl (x_field rfl fd35_2 ?_)
  refine j_step rfl (x_bld 1 rfl rfl ld33 rfl ?_)
  refine j_step rfl (x_call [5, 3] rfl (S_codewrightref01_Mul (by first | omega | exact side _ (by assumption) | assumption | rfl | (simp; done) | (simp; omega)) (by first | omega | exact side _ (by assumption) | assumption | rfl | (simp; done) | (simp; omega))) rfl ?_)
  rintro _ _ _ ⟨pa3, ca3, rfl, rfl, rfl⟩
  simp only [List.cons_append, List.nil_append]
  refine j_run it 1 rfl (by simp) ?_
  refine j_nf [.o [1, 1, 1, 1, 1, 1, 0, 0] 0, .c [1, 1, 1, 1, 1, 1, 0, 1], .c [1, 1, 1, 1, 1, 1, 1]] rfl ?_
  refine j_step rfl (x_field rfl fd35_0 ?_)
  refine j_step rfl (x_bld 2 rfl rfl ld4 rfl ?_)
  refine j_step rfl (x_field rfl fd35_0 ?_)
  refine j_step rfl (x_bld 1 rfl rfl ld4 rfl ?_)
  refine j_step rfl (x_eqb ub rfl rfl ?_)
  refine j_nf [.c [1, 1, 1, 1, 1, 1, 0, 1], .c [1, 1, 1, 1, 1, 1, 1]] rfl ?_
  refine j_cond rfl rfl (fun h1 => ?_) (fun h1 => ?_)
  · have hs : (rt (vq (g1, N1, D1))).1 = (rt (vq (g2, N2, D2))).1 := by simpa using h1
    have LS' : (limbs (val (limbs (val (rt (vq (g1, N1, D1))).2.1 * val (rt (vq (g2, N2, D2))).2.2)) + val (limbs (val (rt (vq (g2, N2, D2))).2.1 * val (rt (vq (g1, N1, D1))).2.2)))).length ≤ 1073741824 := by
      rw [val_limbs, val_limbs]; exact Nat.le_trans LS (by decide)
    refine j_nf [.c [1, 1, 1, 1, 1, 1, 0, 1, 0, 0], .c [1, 1, 1, 1, 1, 1, 0, 1, 0, 1], .c [1, 1, 1, 1, 1, 1, 1]] rfl ?_
    (apply j_drawK it mx 7; (· rfl); (· rfl))
    (apply lxk_eq; (· rfl); (· exact d_x fun _ => x_field rfl fd35_0 dk_eq))
    (apply lxk_eq; (· rfl); (· exact d_bld 2 rfl rfl ld4 rfl))
    (apply lxk_run 2; (· rfl); (· simp))
    (apply lxk_sl; (· rfl); (· exact d_x fun _ => x_call [2, 1] rfl (S_codewrightref01_Add (by first | omega | exact side _ (by assumption) | assumption | rfl | (simp; done) | (simp; omega)) (by first | omega | exact side _ (by assumption) | assumption | rfl | (simp; done) | (simp; omega))) rfl (by rintro _ _ _ ⟨pa4, ca4, rfl, rfl, rfl⟩; exact (dk_sl 0 rfl))); intro pa4 ca4)
    (apply lxk_run 1; (· rfl); (· simp))
    (apply lxk_rq; (· rfl); (· exact d_x fun _ => x_call [0, 1] rfl (S_codewrightref02_Make (by first | omega | exact side _ (by assumption) | assumption | rfl | (simp; done) | (simp; omega)) (by first | omega | exact side _ (by assumption) | assumption | rfl | (simp; done) | (simp; omega))) rfl (by rintro _ _ _ ⟨pn5, cn5, pd5, cd5, rfl, rfl, rfl⟩; exact (dk_rq 0 1 rfl rfl))); intro pn5 cn5 pd5 cd5)
    simp only [vq_rt']
    refine lxk_end rfl ?_
    simp only [List.map_cons, List.map_nil, List.cons_append, List.nil_append]
    refine j_step rfl (x_bst_all 0 rfl rfl rfl ld35 rfl rfl (by simp [Value.oneCell']) ?_)
    refine j_nf [.c [1, 1, 1, 1, 1, 1, 0, 1, 0, 1], .c [1, 1, 1, 1, 1, 1, 1]] rfl ?_
    rw [hR _ _ hs]
    refine j_givC [0, 1] rfl (.agg 0 rfl rfl ld35 rfl .nil) rfl ⟨_, _, _, _, rfl, rfl, rfl⟩
  · have hs : (rt (vq (g1, N1, D1))).1 ≠ (rt (vq (g2, N2, D2))).1 := by simpa using h1
    by_cases hle : val (limbs (val (rt (vq (g2, N2, D2))).2.1 * val (rt (vq (g1, N1, D1))).2.2)) ≤ val (limbs (val (rt (vq (g1, N1, D1))).2.1 * val (rt (vq (g2, N2, D2))).2.2))
    · have hc : 0 ≤ cmpN (val (limbs (val (rt (vq (g1, N1, D1))).2.1 * val (rt (vq (g2, N2, D2))).2.2))) (val (limbs (val (rt (vq (g2, N2, D2))).2.1 * val (rt (vq (g1, N1, D1))).2.2))) := by unfold cmpN; split <;> (try split) <;> omega
      have LB : (limbs (val (limbs (val (rt (vq (g1, N1, D1))).2.1 * val (rt (vq (g2, N2, D2))).2.2)) - val (limbs (val (rt (vq (g2, N2, D2))).2.1 * val (rt (vq (g1, N1, D1))).2.2)))).length ≤ 1073741824 := limbs_mono (Nat.le_trans LX (by decide)) (by rw [val_limbs]; exact Nat.sub_le _ _)
      refine j_nf [.o [1, 1, 1, 1, 1, 1, 1, 0, 0] 0, .c [1, 1, 1, 1, 1, 1, 1, 0, 1], .c [1, 1, 1, 1, 1, 1, 1, 1]] rfl ?_
      refine j_run it 2 rfl (by simp) ?_
      refine j_step rfl (x_call [2, 1] rfl (S_codewrightref01_Cmp) rfl ?_)
      rintro _ _ _ ⟨rfl, rfl, rfl⟩
      simp only [List.cons_append, List.nil_append]
      refine j_run it 1 rfl (by simp) ?_
      refine j_nf [.c [1, 1, 1, 1, 1, 1, 1, 0, 1], .c [1, 1, 1, 1, 1, 1, 1, 1]] rfl ?_
      refine j_if rfl rfl (fun h2 => ?_) (fun h2 => by exfalso; omega)
      refine j_nf [.c [1, 1, 1, 1, 1, 1, 1, 0, 1, 0, 0], .c [1, 1, 1, 1, 1, 1, 1, 0, 1, 0, 1], .c [1, 1, 1, 1, 1, 1, 1, 1]] rfl ?_
      (apply j_drawK it mx 7; (· rfl); (· rfl))
      (apply lxk_eq; (· rfl); (· exact d_x fun _ => x_field rfl fd35_0 dk_eq))
      (apply lxk_eq; (· rfl); (· exact d_bld 2 rfl rfl ld4 rfl))
      (apply lxk_run 2; (· rfl); (· simp))
      (apply lxk_sl; (· rfl); (· exact d_x fun _ => x_call [2, 1] rfl (S_codewrightref01_Sub (by first | omega | exact side _ (by assumption) | assumption | rfl | (simp; done) | (simp; omega))) rfl (by rintro _ _ _ ⟨pa4, ca4, rfl, rfl, rfl⟩; exact (dk_sl 0 rfl))); intro pa4 ca4)
      (apply lxk_run 1; (· rfl); (· simp))
      (apply lxk_rq; (· rfl); (· exact d_x fun _ => x_call [0, 1] rfl (S_codewrightref02_Make (by first | omega | exact side _ (by assumption) | assumption | rfl | (simp; done) | (simp; omega)) (by first | omega | exact side _ (by assumption) | assumption | rfl | (simp; done) | (simp; omega))) rfl (by rintro _ _ _ ⟨pn5, cn5, pd5, cd5, rfl, rfl, rfl⟩; exact (dk_rq 0 1 rfl rfl))); intro pn5 cn5 pd5 cd5)
      simp only [vq_rt']
      refine lxk_end rfl ?_
      simp only [List.map_cons, List.map_nil, List.cons_append, List.nil_append]
      refine j_step rfl (x_bst_all 0 rfl rfl rfl ld35 rfl rfl (by simp [Value.oneCell']) ?_)
      refine j_nf [.c [1, 1, 1, 1, 1, 1, 1, 0, 1, 0, 1], .c [1, 1, 1, 1, 1, 1, 1, 1]] rfl ?_
      rw [hG _ _ hs hle]
      refine j_givC [0, 1] rfl (.agg 0 rfl rfl ld35 rfl .nil) rfl ⟨_, _, _, _, rfl, rfl, rfl⟩
    · have hc : ¬ 0 ≤ cmpN (val (limbs (val (rt (vq (g1, N1, D1))).2.1 * val (rt (vq (g2, N2, D2))).2.2))) (val (limbs (val (rt (vq (g2, N2, D2))).2.1 * val (rt (vq (g1, N1, D1))).2.2))) := by rw [cmpN_lt (by omega)]; decide
      have hle2 : val (limbs (val (rt (vq (g1, N1, D1))).2.1 * val (rt (vq (g2, N2, D2))).2.2)) ≤ val (limbs (val (rt (vq (g2, N2, D2))).2.1 * val (rt (vq (g1, N1, D1))).2.2)) := by omega
      have LB : (limbs (val (limbs (val (rt (vq (g2, N2, D2))).2.1 * val (rt (vq (g1, N1, D1))).2.2)) - val (limbs (val (rt (vq (g1, N1, D1))).2.1 * val (rt (vq (g2, N2, D2))).2.2)))).length ≤ 1073741824 := limbs_mono (Nat.le_trans LY (by decide)) (by rw [val_limbs]; exact Nat.sub_le _ _)
      refine j_nf [.o [1, 1, 1, 1, 1, 1, 1, 0, 0] 0, .c [1, 1, 1, 1, 1, 1, 1, 0, 1], .c [1, 1, 1, 1, 1, 1, 1, 1]] rfl ?_
      refine j_run it 2 rfl (by simp) ?_
      refine j_step rfl (x_call [2, 1] rfl (S_codewrightref01_Cmp) rfl ?_)
      rintro _ _ _ ⟨rfl, rfl, rfl⟩
      simp only [List.cons_append, List.nil_append]
      refine j_run it 1 rfl (by simp) ?_
      refine j_nf [.c [1, 1, 1, 1, 1, 1, 1, 0, 1], .c [1, 1, 1, 1, 1, 1, 1, 1]] rfl ?_
      refine j_if rfl rfl (fun h2 => by exfalso; omega) (fun h2 => ?_)
      refine j_nf [.c [1, 1, 1, 1, 1, 1, 1, 1, 0], .c [1, 1, 1, 1, 1, 1, 1, 1, 1]] rfl ?_
      (apply j_drawK it mx 7; (· rfl); (· rfl))
      (apply lxk_eq; (· rfl); (· exact d_x fun _ => x_field rfl fd35_0 dk_eq))
      (apply lxk_eq; (· rfl); (· exact d_bld 1 rfl rfl ld4 rfl))
      (apply lxk_run 2; (· rfl); (· simp))
      (apply lxk_sl; (· rfl); (· exact d_x fun _ => x_call [1, 2] rfl (S_codewrightref01_Sub (by first | omega | exact side _ (by assumption) | assumption | rfl | (simp; done) | (simp; omega))) rfl (by rintro _ _ _ ⟨pa4, ca4, rfl, rfl, rfl⟩; exact (dk_sl 0 rfl))); intro pa4 ca4)
      (apply lxk_run 1; (· rfl); (· simp))
      (apply lxk_rq; (· rfl); (· exact d_x fun _ => x_call [0, 1] rfl (S_codewrightref02_Make (by first | omega | exact side _ (by assumption) | assumption | rfl | (simp; done) | (simp; omega)) (by first | omega | exact side _ (by assumption) | assumption | rfl | (simp; done) | (simp; omega))) rfl (by rintro _ _ _ ⟨pn5, cn5, pd5, cd5, rfl, rfl, rfl⟩; exact (dk_rq 0 1 rfl rfl))); intro pn5 cn5 pd5 cd5)
      simp only [vq_rt']
      refine lxk_end rfl ?_
      simp only [List.map_cons, List.map_nil, List.cons_append, List.nil_append]
      refine j_step rfl (x_bst_all 0 rfl rfl rfl ld35 rfl rfl (by simp [Value.oneCell']) ?_)
      refine j_nf [.c [1, 1, 1, 1, 1, 1, 1, 1, 1]] rfl ?_
      rw [Nat.mul_comm (val (rt (vq (g1, N1, D1))).2.2) (val (rt (vq (g2, N2, D2))).2.2), hG _ _ (fun h => hs h.symm) hle2, Rat.add_comm]
      refine j_givC [0, 1] rfl (.agg 0 rfl rfl ld35 rfl .nil) rfl ⟨_, _, _, _, rfl, rfl, rfl⟩

theorem S_codewrightref02_Sub {g1 g2 : Bool} {pn1 pd1 pn2 pd2 : Option Addr} {n1 m1 n2 m2 cn1 cd1 cn2 cd2 : Nat} {N1 D1 N2 D2 : List Nat}
    (l1 : N1.length ≤ 134217728) (l2 : D1.length ≤ 134217728) (l3 : N2.length ≤ 134217728) (l4 : D2.length ≤ 134217728) :
    Ctr Try.prog 41 [.agg #[.bool g1, .slice pn1 n1 cn1, .slice pd1 m1 cd1], .agg #[.bool g2, .slice pn2 n2 cn2, .slice pd2 m2 cd2]] [] [slF U32 pn1 n1 cn1 N1, slF U32 pd1 m1 cd1 D1, slF U32 pn2 n2 cn2 N2, slF U32 pd2 m2 cd2 D2] (RtV (rt (vq (g1, N1, D1) - vq (g2, N2, D2)))) := by
  refine Ctr_of_j' (F := F_codewrightref02_Sub) rfl fun C => ?_
  refine j_range 2 rfl fun r3 => ?_
  refine j_range 3 rfl fun r4 => ?_
  obtain ⟨k3, k4⟩ := rt_len_neg (g := g2) (lim r3) (lim r4) l3 l4 (by decide)
  refine j_nf [.o [0] 0, .c [1]] rfl ?_
  refine j_step rfl (x_box_agg rfl fun b1 => ?_)
  refine j_step rfl (x_box_agg rfl fun b2 => ?_)
  refine j_step rfl (x_alloc zo35 fun b3 => ?_)
  refine j_nf [.c [1, 0], .c [1, 1]] rfl ?_
  (apply j_drawK it mx 4; (· rfl); (· rfl))
  (apply lxk_eq; (· rfl); (· exact d_bld_all 2 rfl rfl ld35 rfl))
  (apply lxk_eq; (· rfl); (· exact d_bld_all 1 rfl rfl ld35 rfl))
  (apply lxk_rq; (· rfl); (· exact d_x fun _ => x_call [2, 3] rfl (S_codewrightref02_Neg (by first | omega | exact side _ (by assumption) | assumption | rfl | (simp; done) | (simp; omega)) (by first | omega | exact side _ (by assumption) | assumption | rfl | (simp; done) | (simp; omega))) rfl (by rintro _ _ _ ⟨pn3, cn3, pd3, cd3, rfl, rfl, rfl⟩; exact (dk_rq 0 1 rfl rfl))); intro pn3 cn3 pd3 cd3)
  simp only [vq_rt']
  (apply lxk_rq; (· rfl); (· exact d_x fun _ => x_call [2, 3, 0, 1] rfl (S_codewrightref02_Add (by first | omega | exact side _ (by assumption) | assumption | rfl | (simp; done) | (simp; omega)) (by first | omega | exact side _ (by assumption) | assumption | rfl | (simp; done) | (simp; omega)) (by first | omega | exact side _ (by assumption) | assumption | rfl | (simp; done) | (simp; omega)) (by first | omega | exact side _ (by assumption) | assumption | rfl | (simp; done) | (simp; omega))) rfl (by rintro _ _ _ ⟨pn4, cn4, pd4, cd4, rfl, rfl, rfl⟩; exact (dk_rq 0 1 rfl rfl))); intro pn4 cn4 pd4 cd4)
  simp only [vq_rt']
  refine lxk_end rfl ?_
  simp only [List.map_cons, List.map_nil, List.cons_append, List.nil_append]
  refine j_step rfl (x_bst_all 0 rfl rfl rfl ld35 rfl rfl (by simp [Value.oneCell']) ?_)
  refine j_nf [.c [1, 1]] rfl ?_
  simp only [vq_rt', ← Rat.sub_eq_add_neg]
  refine j_givC [0, 1] rfl (.agg 0 rfl rfl ld35 rfl .nil) rfl ⟨_, _, _, _, rfl, rfl, rfl⟩

theorem S_codewrightref02_Cmp {g1 g2 : Bool} {pn1 pd1 pn2 pd2 : Option Addr} {n1 m1 n2 m2 cn1 cd1 cn2 cd2 : Nat} {N1 D1 N2 D2 : List Nat}
    (l1 : N1.length ≤ 134217728) (l2 : D1.length ≤ 134217728) (l3 : N2.length ≤ 134217728) (l4 : D2.length ≤ 134217728) :
    Ctr Try.prog 18 [.agg #[.bool g1, .slice pn1 n1 cn1, .slice pd1 m1 cd1], .agg #[.bool g2, .slice pn2 n2 cn2, .slice pd2 m2 cd2]] [] [slF U32 pn1 n1 cn1 N1, slF U32 pd1 m1 cd1 D1, slF U32 pn2 n2 cn2 N2, slF U32 pd2 m2 cd2 D2] (Rv (.int .i64 (vq (g1, N1, D1) - vq (g2, N2, D2)).num.sign) []) := by
  refine Ctr_of_j' (F := F_codewrightref02_Cmp) rfl fun C => ?_
  refine j_range 0 rfl fun r1 => ?_
  refine j_range 1 rfl fun r2 => ?_
  refine j_range 2 rfl fun r3 => ?_
  refine j_range 3 rfl fun r4 => ?_
  have hb := bd_add (bd_vq (r := (g1, N1, D1)) (lim r1) (lim r2) l1 l2 (by decide)) (bd_neg (bd_vq (r := (g2, N2, D2)) (lim r3) (lim r4) l3 l4 (by decide)))
  rw [← Rat.sub_eq_add_neg] at hb
  obtain ⟨k1, k2⟩ := bd_len hb
  refine j_nf [.o [0] 0, .c [1]] rfl ?_
  refine j_step rfl (x_box_agg rfl fun b1 => ?_)
  refine j_step rfl (x_box_agg rfl fun b2 => ?_)
  refine j_run it 1 rfl (by simp) ?_
  refine j_nf [.o [1, 0] 0, .c [1, 1]] rfl ?_
  refine j_step rfl (x_bld_all 1 rfl rfl ld35 rfl ?_)
  refine j_step rfl (x_bld_all 0 rfl rfl ld35 rfl ?_)
  refine j_step rfl (x_call [0, 1, 2, 3] rfl (S_codewrightref02_Sub (by first | omega | exact side _ (by assumption) | assumption | rfl | (simp; done) | (simp; omega)) (by first | omega | exact side _ (by assumption) | assumption | rfl | (simp; done) | (simp; omega)) (by first | omega | exact side _ (by assumption) | assumption | rfl | (simp; done) | (simp; omega)) (by first | omega | exact side _ (by assumption) | assumption | rfl | (simp; done) | (simp; omega))) rfl ?_)
  rintro _ _ _ ⟨pn3, cn3, pd3, cd3, rfl, rfl, rfl⟩
  simp only [List.cons_append, List.nil_append]
  refine j_step rfl (x_call [0, 1] rfl (S_codewrightref02_Sign (by first | omega | exact side _ (by assumption) | assumption | rfl | (simp; done) | (simp; omega)) (by first | omega | exact side _ (by assumption) | assumption | rfl | (simp; done) | (simp; omega))) rfl ?_)
  rintro _ _ _ ⟨rfl, rfl, rfl⟩
  simp only [List.cons_append, List.nil_append]
  simp only [vq_rt']
  refine j_run it 1 rfl (by simp) ?_
  refine j_nf [.c [1, 1]] rfl ?_
  refine j_giv [] rfl rfl rfl ⟨rfl, rfl, rfl⟩
end Go.Proofs.Ytlhgkefaflpgeaa

namespace Go.Proofs.Ytlhgkefaflpgeaa
open Go Go.Fw
set_option maxRecDepth 100000
set_option linter.unusedVariables false
set_option linter.unusedSimpArgs false
set_option maxHeartbeats 2000000
theorem take_eq_stepG {α : Type} [Inhabited α] {a b : List α} {k : Nat} (h : a.take k = b.take k) (ha : k < a.length) (hb : k < b.length) (e : a.getD k default = b.getD k default) : a.take (k + 1) = b.take (k + 1) := by
  rw [List.take_add_one, List.take_add_one, h, get_some (dflt := default) ha, get_some (dflt := default) hb, e]

theorem S_codewrightref02_Same {g1 g2 : Bool} {pn1 pd1 pn2 pd2 : Option Addr} {n1 m1 n2 m2 cn1 cd1 cn2 cd2 : Nat} {N1 D1 N2 D2 : List Nat} :
    Ctr Try.prog 17 [.agg #[.bool g1, .slice pn1 n1 cn1, .slice pd1 m1 cd1], .agg #[.bool g2, .slice pn2 n2 cn2, .slice pd2 m2 cd2]] [] [slF U32 pn1 n1 cn1 N1, slF U32 pd1 m1 cd1 D1, slF U32 pn2 n2 cn2 N2, slF U32 pd2 m2 cd2 D2] (Rv (.bool (decide ((g1, N1, D1) = (g2, N2, D2)))) []) := by
  refine Ctr_of_j' (F := F_codewrightref02_Same) rfl fun C => ?_
  refine j_nf [.o [0] 0, .c [1]] rfl ?_
  refine j_step rfl (x_box_agg rfl fun b1 => ?_)
  refine j_step rfl (x_box_agg rfl fun b2 => ?_)
  refine j_run it 1 rfl (by simp) ?_
  refine j_nf [.o [1, 0] 0, .c [1, 1]] rfl ?_
  refine j_step rfl (x_field rfl fd35_0 ?_)
  refine j_step rfl (x_bld 1 rfl rfl ld4 rfl ?_)
  refine j_step rfl (x_field rfl fd35_0 ?_)
  refine j_step rfl (x_bld 0 rfl rfl ld4 rfl ?_)
  refine j_step rfl (x_eqb ub rfl rfl ?_)
  refine j_run it 1 rfl (by simp) ?_
  refine j_split (t := 10) rfl (fun h1 => ?_) (fun h1 => ?_)
  · have hg : g1 = g2 := by simpa using h1
    refine j_gstep rfl rfl (x_field rfl fd35_1 ?_)
    refine j_gstep rfl rfl (x_bld 1 rfl rfl ld33 rfl ?_)
    refine j_gstep rfl rfl (x_field rfl fd35_1 ?_)
    refine j_gstep rfl rfl (x_bld 0 rfl rfl ld33 rfl ?_)
    refine j_gstep rfl rfl (x_call [0, 2] rfl (S_codewrightref01_Same) rfl ?_)
    rintro _ _ _ ⟨rfl, rfl, rfl⟩
    simp only [List.cons_append, List.nil_append]
    refine j_run it 2 rfl (by simp) ?_
    refine j_split_dec (t := 17) rfl (fun h2 => ?_) (fun h2 => ?_)
    · refine j_gstep rfl rfl (x_field rfl fd35_2 ?_)
      refine j_gstep rfl rfl (x_bld 1 rfl rfl ld33 rfl ?_)
      refine j_gstep rfl rfl (x_field rfl fd35_2 ?_)
      refine j_gstep rfl rfl (x_bld 0 rfl rfl ld33 rfl ?_)
      refine j_gstep rfl rfl (x_call [1, 3] rfl (S_codewrightref01_Same) rfl ?_)
      rintro _ _ _ ⟨rfl, rfl, rfl⟩
      simp only [List.cons_append, List.nil_append]
      refine j_run it 2 rfl (by simp) ?_
      refine j_nf [.c [1, 1]] rfl ?_
      refine j_giv [] rfl rfl rfl ⟨by subst hg; subst h2; simp [resVal], rfl, rfl⟩
    · refine j_run it 7 rfl (by simp) ?_
      refine j_nf [.c [1, 1]] rfl ?_
      refine j_giv [] rfl rfl rfl ⟨by rw [decide_eq_false (fun h => h2 (by injection h with _ h; injection h))]; rfl, rfl, rfl⟩
  · have hg : g1 ≠ g2 := by simpa using h1
    refine j_run it 14 rfl (by simp) ?_
    refine j_nf [.c [1, 1]] rfl ?_
    refine j_giv [] rfl rfl rfl ⟨by rw [decide_eq_false (fun h => hg (by injection h))]; rfl, rfl, rfl⟩

theorem S_codewrightref02_SameList {pa pb : Option Addr} {n m ca cb : Nat} {a b : List Rt} : Ctr Try.prog 12 [.slice pa n ca, .slice pb m cb] [] [slF RatE pa n ca a, slF RatE pb m cb b] (Rv (.bool (decide (a = b))) []) := by
  refine Ctr_of_j' (F := F_codewrightref02_SameList) rfl fun C => ?_
  refine j_len 0 rfl fun hn hba _ => ?_
  refine j_len 1 rfl fun hm _ _ => ?_
  subst hn; subst hm
  have hba' : a.length * 56 ≤ 140737488355328 := hba
  by_cases hl : a.length = b.length
  · refine j_nf [.o [0] 0, .c [1]] rfl ?_
    refine j_run it 1 rfl (by simp) ?_
    refine j_nf [.o [1, 0, 0] 0, .c [1, 0, 1], .c [1, 1]] rfl ?_
    refine j_run it 1 rfl (by simp) ?_
    refine j_step rfl (x_len sl23 rfl ?_)
    refine j_run it 1 rfl (by simp) ?_
    refine j_step rfl (x_len sl23 rfl ?_)
    refine j_run it 1 rfl (by simp) ?_
    refine j_nf [.c [1, 0, 1], .c [1, 1]] rfl ?_
    refine j_ifn rfl rfl (fun h1 => by exfalso; omega) (fun h1 => ?_)
    refine j_nf [.o [1, 1, 0, 0] 0, .c [1, 1, 0, 1], .c [1, 1, 1]] rfl ?_
    refine j_run it 1 rfl (by simp) ?_
    refine j_nf [.c [1, 1, 0, 1, 0], .blk 0, .c [1, 1, 1]] rfl ?_
    refine j_loopG (X := Nat) [0, 1] [0, 1] (fun k => [(5, .int .i64 k)]) (fun _ => []) (fun _ => []) (fun k => k ≤ a.length ∧ a.take k = b.take k) (fun k => a.length - k) 0 [] rfl rfl rfl ⟨Nat.zero_le _, by simp⟩ (by repeat (first | exact Fr.sub_nil _ | refine Fr.sub_cons rfl ?_)) rfl rfl ?_
    intro k ⟨hk, ht⟩ ih
    simp only [List.cons_append, List.nil_append] at ih ⊢
    by_cases hkl : k < a.length
    · have hx := get_some (l := a) (i := k) (dflt := default) hkl
      have hy := get_some (l := b) (i := k) (dflt := default) (by omega)
      refine j_nf [.o [1, 1, 0, 1, 0, 0, 0, 0] 0, .c [1, 1, 0, 1, 0, 0, 0, 1], .c [1, 1, 0, 1, 0, 0, 1], .lp [1, 1, 0, 1, 0, 0], .blk 0, .c [1, 1, 1]] rfl ?_
      refine j_run it 2 rfl (by simp) ?_
      refine j_step rfl (x_len sl23 rfl ?_)
      refine j_run it 1 rfl (by simp) ?_
      refine j_nf [.c [1, 1, 0, 1, 0, 0, 0, 1], .c [1, 1, 0, 1, 0, 0, 1], .lp [1, 1, 0, 1, 0, 0], .blk 0, .c [1, 1, 1]] rfl ?_
      refine j_if rfl rfl (fun h2 => ?_) (fun h2 => by exfalso; omega)
      refine j_nf [.c [1, 1, 0, 1, 0, 0, 1, 0, 0, 0], .c [1, 1, 0, 1, 0, 0, 1, 0, 0, 1], .blk 1, .c [1, 1, 0, 1, 0, 0, 1, 1], .lp [1, 1, 0, 1, 0, 0], .blk 0, .c [1, 1, 1]] rfl ?_
      (apply j_drawK it mx 10; (· rfl); (· rfl))
      (apply lxk_run 2; (· rfl); (· simp))
      (apply lxk_pt; (· rfl); (· exact d_x fun _ => x_idx 0 (k) rfl rfl rfl sl23 rfl (by omega) fun z1 hz1 b1 o1 => (dk_ptD default hz1 0 rfl)); intro b1 o1)
      (apply lxk_rq; (· rfl); (· exact d_x fun _ => x_ld_rt 0 rfl rfl ld35 fun pa1 ca1 pa2 ca2 => (dk_rq 0 1 rfl rfl)); intro pn1 cn1 pd1 cd1)
      (apply lxk_run 2; (· rfl); (· simp))
      (apply lxk_pt; (· rfl); (· exact d_x fun _ => x_idx 1 (k) rfl rfl rfl sl23 rfl (by omega) fun z1 hz1 b2 o2 => (dk_ptD default hz1 0 rfl)); intro b2 o2)
      (apply lxk_rq; (· rfl); (· exact d_x fun _ => x_ld_rt 0 rfl rfl ld35 fun pa1 ca1 pa2 ca2 => (dk_rq 0 1 rfl rfl)); intro pn2 cn2 pd2 cd2)
      (apply lxk_eq; (· rfl); (· exact d_x fun _ => x_call [3, 4, 0, 1] rfl (S_codewrightref02_Same) rfl (by rintro _ _ _ ⟨rfl, rfl, rfl⟩; exact dk_eq)))
      simp only [vq_rt']
      (apply lxk_run 1; (· rfl); (· simp))
      refine lxk_end rfl ?_
      simp only [List.map_cons, List.map_nil, List.cons_append, List.nil_append]
      refine j_nf [.c [1, 1, 0, 1, 0, 0, 1, 0, 0, 1], .blk 1, .c [1, 1, 0, 1, 0, 0, 1, 1], .lp [1, 1, 0, 1, 0, 0], .blk 0, .c [1, 1, 1]] rfl ?_
      refine j_ifn rfl rfl (fun h3 => ?_) (fun h3 => ?_)
      · refine j_nf [.o [1, 1, 0, 1, 0, 0, 1, 0, 0, 1, 0, 0] 0, .c [1, 1, 0, 1, 0, 0, 1, 0, 0, 1, 0, 1], .blk 1, .c [1, 1, 0, 1, 0, 0, 1, 1], .lp [1, 1, 0, 1, 0, 0], .blk 0, .c [1, 1, 1]] rfl ?_
        refine j_run it 1 rfl (by simp) ?_
        refine j_nf [.c [1, 1, 0, 1, 0, 0, 1, 0, 0, 1, 0, 1], .blk 1, .c [1, 1, 0, 1, 0, 0, 1, 1], .lp [1, 1, 0, 1, 0, 0], .blk 0, .c [1, 1, 1]] rfl ?_
        refine j_giv [] rfl rfl rfl ⟨by rw [decide_eq_false (fun e => by subst e; exact absurd rfl ‹¬ _›)]; rfl, rfl, rfl⟩
      · refine j_nf [.o [1, 1, 0, 1, 0, 0, 1, 1] 0, .lp [1, 1, 0, 1, 0, 0], .blk 0, .c [1, 1, 1]] rfl ?_
        refine j_run it 3 rfl (by repeat' first | exact trivial | apply And.intro | omega) ?_
        refine j_nfn 1 [.lp [1, 1, 0, 1, 0, 0], .blk 0, .c [1, 1, 1]] rfl ?_
        refine j_to [6, 7] (by repeat (first | exact Fr.sub_nil _ | refine Fr.sub_cons rfl ?_ | refine Fr.sub_consI rfl (by first | omega | (dsimp only; omega)) ?_ | refine Fr.sub_consS rfl (by first | omega | (dsimp only; omega)) (by first | omega | (dsimp only; omega)) ?_)) rfl rfl (ih (k + 1) (by omega) ⟨by omega, take_eq_stepG ht hkl (by omega) ‹_›⟩)
    · refine j_nf [.o [1, 1, 0, 1, 0, 0, 0, 0] 0, .c [1, 1, 0, 1, 0, 0, 0, 1], .c [1, 1, 0, 1, 0, 0, 1], .lp [1, 1, 0, 1, 0, 0], .blk 0, .c [1, 1, 1]] rfl ?_
      refine j_run it 2 rfl (by simp) ?_
      refine j_step rfl (x_len sl23 rfl ?_)
      refine j_run it 1 rfl (by simp) ?_
      refine j_nf [.c [1, 1, 0, 1, 0, 0, 0, 1], .c [1, 1, 0, 1, 0, 0, 1], .lp [1, 1, 0, 1, 0, 0], .blk 0, .c [1, 1, 1]] rfl ?_
      refine j_if rfl rfl (fun h2 => by exfalso; omega) (fun h2 => ?_)
      refine j_nf [.o [1, 1, 1, 0] 0, .c [1, 1, 1, 1]] rfl ?_
      refine j_run it 1 rfl (by simp) ?_
      refine j_nf [.c [1, 1, 1, 1]] rfl ?_
      have e : a = b := by
        have e1 : k = a.length := by omega
        rw [e1, List.take_length, hl, List.take_length] at ht
        exact ht
      refine j_giv [] rfl rfl rfl ⟨by rw [decide_eq_true e]; rfl, rfl, rfl⟩
  · refine j_nf [.o [0] 0, .c [1]] rfl ?_
    refine j_run it 1 rfl (by simp) ?_
    refine j_nf [.o [1, 0, 0] 0, .c [1, 0, 1], .c [1, 1]] rfl ?_
    refine j_run it 1 rfl (by simp) ?_
    refine j_step rfl (x_len sl23 rfl ?_)
    refine j_run it 1 rfl (by simp) ?_
    refine j_step rfl (x_len sl23 rfl ?_)
    refine j_run it 1 rfl (by simp) ?_
    refine j_nf [.c [1, 0, 1], .c [1, 1]] rfl ?_
    refine j_ifn rfl rfl (fun h1 => ?_) (fun h1 => by exfalso; omega)
    refine j_nf [.o [1, 0, 1, 0, 0] 0, .c [1, 0, 1, 0, 1], .c [1, 1]] rfl ?_
    refine j_run it 1 rfl (by simp) ?_
    refine j_nf [.c [1, 0, 1, 0, 1], .c [1, 1]] rfl ?_
    refine j_giv [] rfl rfl rfl ⟨by rw [decide_eq_false (fun e => hl (by rw [e]))]; rfl, rfl, rfl⟩
end Go.Proofs.Ytlhgkefaflpgeaa

namespace Go.Proofs.Ytlhgkefaflpgeaa
open Go Go.Fw
set_option maxRecDepth 100000
set_option linter.unusedVariables false
set_option linter.unusedSimpArgs false
set_option maxHeartbeats 2000000
theorem S_codewrightref02_abs {n : Int} (hn : InR .i64 n) : Ctr Try.prog 59 [.int .i64 n] [] [] (Sv U32 (limbs n.natAbs)) := by
  refine Ctr_of_j' (F := F_codewrightref02_abs) rfl fun C => ?_
  simp only [InR] at hn
  by_cases h : n < 0
  · have hl : (limbs (-(n + 1)).toNat).length ≤ 2 := limbs_length_le (by omega)
    refine j_nf [.o [0] 0, .c [1]] rfl ?_
    refine j_run it 1 rfl (by simp) ?_
    refine j_nf [.o [1, 0, 0] 0, .c [1, 0, 1], .c [1, 1]] rfl ?_
    refine j_run it 2 rfl (by simp) ?_
    refine j_nf [.c [1, 0, 1], .c [1, 1]] rfl ?_
    refine j_if rfl rfl (fun h1 => ?_) (fun h1 => by exfalso; omega)
    refine j_nf [.o [1, 0, 1, 0, 0] 0, .c [1, 0, 1, 0, 1], .c [1, 1]] rfl ?_
    refine j_run it 4 rfl (by repeat' first | exact trivial | apply And.intro | omega) ?_
    refine j_recast (t := 8) ((((-(n + 1) : Int).toNat) : Nat) : Int) rfl (by omega) ?_
    refine j_step rfl (x_call [] rfl (S_codewrightref01_Of (by first | omega | exact side _ (by assumption) | assumption | rfl | (simp; done) | (simp; omega))) rfl ?_)
    rintro _ _ _ ⟨pa1, ca1, rfl, rfl, rfl⟩
    simp only [List.cons_append, List.nil_append]
    refine j_step rfl (x_lit sl33 zo33e rfl rfl rfl rfl (by decide) (by decide) rfl fun b1 => ?_)
    refine j_pub_made (n := 1) (kd := IntKind.u32) 4 [1] 0 rfl rfl (by first | (simp [InR]; done) | (simp only [InR, List.mem_cons, List.not_mem_nil, or_false, forall_eq_or_imp, forall_eq]; omega)) (by decide) (by decide) ?_
    refine j_step rfl (x_call [1, 0] rfl (S_codewrightref01_Add (by first | omega | exact side _ (by assumption) | assumption | rfl | (simp; done) | (simp; omega)) (by first | omega | exact side _ (by assumption) | assumption | rfl | (simp; done) | (simp; omega))) rfl ?_)
    rintro _ _ _ ⟨pa2, ca2, rfl, rfl, rfl⟩
    simp only [List.cons_append, List.nil_append]
    refine j_run it 1 rfl (by simp) ?_
    refine j_nf [.c [1, 0, 1, 0, 1], .c [1, 1]] rfl ?_
    have e : val (limbs (-(n + 1)).toNat) + val [1] = n.natAbs := by rw [val_limbs]; simp [val]; omega
    rw [e]
    refine j_giv [0] rfl rfl rfl ⟨_, _, rfl, rfl, rfl⟩
  · refine j_nf [.o [0] 0, .c [1]] rfl ?_
    refine j_run it 1 rfl (by simp) ?_
    refine j_nf [.o [1, 0, 0] 0, .c [1, 0, 1], .c [1, 1]] rfl ?_
    refine j_run it 2 rfl (by simp) ?_
    refine j_nf [.c [1, 0, 1], .c [1, 1]] rfl ?_
    refine j_if rfl rfl (fun h1 => by exfalso; omega) (fun h1 => ?_)
    refine j_nf [.o [1, 1, 0] 0, .c [1, 1, 1]] rfl ?_
    refine j_run it 2 rfl (by repeat' first | exact trivial | apply And.intro | omega) ?_
    refine j_recast (t := 13) ((((n : Int).toNat) : Nat) : Int) rfl (by omega) ?_
    refine j_step rfl (x_call [] rfl (S_codewrightref01_Of (by first | omega | exact side _ (by assumption) | assumption | rfl | (simp; done) | (simp; omega))) rfl ?_)
    rintro _ _ _ ⟨pa1, ca1, rfl, rfl, rfl⟩
    simp only [List.cons_append, List.nil_append]
    refine j_run it 1 rfl (by simp) ?_
    refine j_nf [.c [1, 1, 1]] rfl ?_
    have e : n.toNat = n.natAbs := by omega
    rw [e]
    refine j_giv [0] rfl rfl rfl ⟨_, _, rfl, rfl, rfl⟩

/-- A fraction with a denominator above 0. -/
theorem S_codewrightref02_Of {n : Int} {d : Nat} (hn : InR .i64 n) (hd : 0 < d) (hd2 : d < 9223372036854775808) : Ctr Try.prog 33 [.int .i64 n, .int .i64 d] [] [] (RtV (rt (mkRat n d))) := by
  refine Ctr_of_j' (F := F_codewrightref02_Of) rfl fun C => ?_
  have hi : InR .i64 (d : Int) := by simp only [InR]; omega
  have hl : (limbs n.natAbs).length ≤ 2 := limbs_length_le (by simp only [InR] at hn; omega)
  have hl2 : (limbs d).length ≤ 2 := limbs_length_le (by omega)
  have e : vq (decide (n < 0) != decide ((d : Int) < 0), limbs n.natAbs, limbs (d : Int).natAbs) = mkRat n d := by
    rw [vq_eq, decide_eq_false (by omega : ¬ (d : Int) < 0)]
    simp only [val_limbs, Int.natAbs_natCast, Bool.bne_false, sg_int]
  refine j_nf [.o [0] 0, .c [1]] rfl ?_
  refine j_step rfl (x_alloc zo35 fun b1 => ?_)
  refine j_nf [.o [1, 0] 0, .c [1, 1]] rfl ?_
  refine j_run it 4 rfl (by simp) ?_
  refine j_step rfl (x_neb ub rfl rfl ?_)
  refine j_run it 1 rfl (by simp) ?_
  refine j_step rfl (x_call [] rfl (S_codewrightref02_abs (by first | omega | exact side _ (by assumption) | assumption | rfl | (simp; done) | (simp; omega))) rfl ?_)
  rintro _ _ _ ⟨pa1, ca1, rfl, rfl, rfl⟩
  simp only [List.cons_append, List.nil_append]
  refine j_run it 1 rfl (by simp) ?_
  refine j_step rfl (x_call [] rfl (S_codewrightref02_abs (by first | omega | exact side _ (by assumption) | assumption | rfl | (simp; done) | (simp; omega))) rfl ?_)
  rintro _ _ _ ⟨pa2, ca2, rfl, rfl, rfl⟩
  simp only [List.cons_append, List.nil_append]
  refine j_step rfl (x_call [1, 0] rfl (S_codewrightref02_Make (by first | omega | exact side _ (by assumption) | assumption | rfl | (simp; done) | (simp; omega)) (by first | omega | exact side _ (by assumption) | assumption | rfl | (simp; done) | (simp; omega))) rfl ?_)
  rintro _ _ _ ⟨pn1, cn1, pd1, cd1, rfl, rfl, rfl⟩
  simp only [List.cons_append, List.nil_append]
  refine j_step rfl (x_bst_all 0 rfl rfl rfl ld35 rfl rfl (by simp [Value.oneCell']) ?_)
  refine j_nf [.c [1, 1]] rfl ?_
  rw [e]
  refine j_givC [0, 1] rfl (.agg 0 rfl rfl ld35 rfl .nil) rfl ⟨_, _, _, _, rfl, rfl, rfl⟩

theorem S_codewrightref02_Int {n : Int} (hn : InR .i64 n) : Ctr Try.prog 14 [.int .i64 n] [] [] (RtV (rt (n : Rat))) := by
  refine Ctr_of_j' (F := F_codewrightref02_Int) rfl fun C => ?_
  refine j_nf [.o [0] 0, .c [1]] rfl ?_
  refine j_step rfl (x_alloc zo35 fun b1 => ?_)
  refine j_nf [.o [1, 0] 0, .c [1, 1]] rfl ?_
  refine j_run it 1 rfl (by simp) ?_
  refine j_step rfl (x_call [] rfl (S_codewrightref02_Of (by first | omega | exact side _ (by assumption) | assumption | rfl | (simp; done) | (simp; omega)) (by first | omega | exact side _ (by assumption) | assumption | rfl | (simp; done) | (simp; omega)) (by first | omega | exact side _ (by assumption) | assumption | rfl | (simp; done) | (simp; omega))) rfl ?_)
  rintro _ _ _ ⟨pn1, cn1, pd1, cd1, rfl, rfl, rfl⟩
  simp only [List.cons_append, List.nil_append]
  refine j_step rfl (x_bst_all 0 rfl rfl rfl ld35 rfl rfl (by simp [Value.oneCell']) ?_)
  refine j_nf [.c [1, 1]] rfl ?_
  rw [Rat.mkRat_one]
  refine j_givC [0, 1] rfl (.agg 0 rfl rfl ld35 rfl .nil) rfl ⟨_, _, _, _, rfl, rfl, rfl⟩

theorem S_codewrightref02_Nat {pn : Option Addr} {n cn : Nat} {N : List Nat} (hN : N.length ≤ 1073741824) : Ctr Try.prog 54 [.slice pn n cn] [] [slF U32 pn n cn N] (RtV (rt ((val N : Int) : Rat))) := by
  refine Ctr_of_j' (F := F_codewrightref02_Nat) rfl fun C => ?_
  have e : vq (false, N, [1]) = ((val N : Int) : Rat) := vq_one _ _
  refine j_nf [.o [0] 0, .c [1]] rfl ?_
  refine j_step rfl (x_alloc zo35 fun b1 => ?_)
  refine j_nf [.o [1, 0] 0, .c [1, 1]] rfl ?_
  refine j_run it 1 rfl (by simp) ?_
  refine j_step rfl (x_lit sl33 zo33e rfl rfl rfl rfl (by decide) (by decide) rfl fun b2 => ?_)
  refine j_pub_made (n := 1) (kd := IntKind.u32) 4 [1] 0 rfl rfl (by first | (simp [InR]; done) | (simp only [InR, List.mem_cons, List.not_mem_nil, or_false, forall_eq_or_imp, forall_eq]; omega)) (by decide) (by decide) ?_
  refine j_step rfl (x_call [1, 0] rfl (S_codewrightref02_Make (by first | omega | exact side _ (by assumption) | assumption | rfl | (simp; done) | (simp; omega)) (by first | omega | exact side _ (by assumption) | assumption | rfl | (simp; done) | (simp; omega))) rfl ?_)
  rintro _ _ _ ⟨pn1, cn1, pd1, cd1, rfl, rfl, rfl⟩
  simp only [List.cons_append, List.nil_append]
  refine j_step rfl (x_bst_all 0 rfl rfl rfl ld35 rfl rfl (by simp [Value.oneCell']) ?_)
  refine j_nf [.c [1, 1]] rfl ?_
  rw [e]
  refine j_givC [0, 1] rfl (.agg 0 rfl rfl ld35 rfl .nil) rfl ⟨_, _, _, _, rfl, rfl, rfl⟩

theorem S_codewrightref02_Nil {g : Bool} {pn pd : Option Addr} {n m cn cd : Nat} : Ctr Try.prog 23 [.agg #[.bool g, .slice pn n cn, .slice pd m cd]] [] [] (Rv (.bool (!g && decide (n = 0) && decide (m = 0))) []) := by
  refine Ctr_of_j' (F := F_codewrightref02_Nil) rfl fun C => ?_
  cases g with
  | true => refine j_nf [.o [0] 0, .c [1]] rfl ?_
            refine j_step rfl (x_box_agg rfl fun b1 => ?_)
            refine j_run it 1 rfl (by simp) ?_
            refine j_nf [.o [1, 0] 0, .c [1, 1]] rfl ?_
            refine j_step rfl (x_field rfl fd35_0 ?_)
            refine j_step rfl (x_bld 0 rfl rfl ld4 rfl ?_)
            refine j_run it 14 rfl (by simp) ?_
            refine j_nf [.c [1, 1]] rfl ?_; refine j_giv [] rfl rfl rfl ⟨rfl, rfl, rfl⟩
  | false =>
    by_cases h1 : n = 0
    · by_cases h2 : m = 0
      · rw [show (!false && decide (n = 0) && decide (m = 0)) = true by simp [h1, h2]]
        refine j_nf [.o [0] 0, .c [1]] rfl ?_
        refine j_step rfl (x_box_agg rfl fun b1 => ?_)
        refine j_run it 1 rfl (by simp) ?_
        refine j_nf [.o [1, 0] 0, .c [1, 1]] rfl ?_
        refine j_step rfl (x_field rfl fd35_0 ?_)
        refine j_step rfl (x_bld 0 rfl rfl ld4 rfl ?_)
        refine j_run it 2 rfl (by simp) ?_
        refine j_gstep rfl rfl (x_field rfl fd35_1 ?_)
        refine j_gstep rfl rfl (x_bld 0 rfl rfl ld33 rfl ?_)
        refine j_gstep rfl rfl (x_len sl33 rfl ?_)
        refine j_run it 3 rfl (by simp) ?_
        refine j_split_dec (t := 12) rfl (fun h3 => ?_) (fun h3 => by exfalso; omega)
        refine j_gstep rfl rfl (x_field rfl fd35_2 ?_)
        refine j_gstep rfl rfl (x_bld 0 rfl rfl ld33 rfl ?_)
        refine j_gstep rfl rfl (x_len sl33 rfl ?_)
        refine j_run it 3 rfl (by simp) ?_
        refine j_nf [.c [1, 1]] rfl ?_
        rw [decide_eq_true (show (m : Int) = 0 by omega)]
        refine j_giv [] rfl rfl rfl ⟨rfl, rfl, rfl⟩
      · rw [show (!false && decide (n = 0) && decide (m = 0)) = false by simp [h1, h2]]
        refine j_nf [.o [0] 0, .c [1]] rfl ?_
        refine j_step rfl (x_box_agg rfl fun b1 => ?_)
        refine j_run it 1 rfl (by simp) ?_
        refine j_nf [.o [1, 0] 0, .c [1, 1]] rfl ?_
        refine j_step rfl (x_field rfl fd35_0 ?_)
        refine j_step rfl (x_bld 0 rfl rfl ld4 rfl ?_)
        refine j_run it 2 rfl (by simp) ?_
        refine j_gstep rfl rfl (x_field rfl fd35_1 ?_)
        refine j_gstep rfl rfl (x_bld 0 rfl rfl ld33 rfl ?_)
        refine j_gstep rfl rfl (x_len sl33 rfl ?_)
        refine j_run it 3 rfl (by simp) ?_
        refine j_split_dec (t := 12) rfl (fun h3 => ?_) (fun h3 => by exfalso; omega)
        refine j_gstep rfl rfl (x_field rfl fd35_2 ?_)
        refine j_gstep rfl rfl (x_bld 0 rfl rfl ld33 rfl ?_)
        refine j_gstep rfl rfl (x_len sl33 rfl ?_)
        refine j_run it 3 rfl (by simp) ?_
        refine j_nf [.c [1, 1]] rfl ?_
        rw [decide_eq_false (show ¬ (m : Int) = 0 by omega)]
        refine j_giv [] rfl rfl rfl ⟨rfl, rfl, rfl⟩
    · rw [show (!false && decide (n = 0) && decide (m = 0)) = false by simp [h1]]
      refine j_nf [.o [0] 0, .c [1]] rfl ?_
      refine j_step rfl (x_box_agg rfl fun b1 => ?_)
      refine j_run it 1 rfl (by simp) ?_
      refine j_nf [.o [1, 0] 0, .c [1, 1]] rfl ?_
      refine j_step rfl (x_field rfl fd35_0 ?_)
      refine j_step rfl (x_bld 0 rfl rfl ld4 rfl ?_)
      refine j_run it 2 rfl (by simp) ?_
      refine j_gstep rfl rfl (x_field rfl fd35_1 ?_)
      refine j_gstep rfl rfl (x_bld 0 rfl rfl ld33 rfl ?_)
      refine j_gstep rfl rfl (x_len sl33 rfl ?_)
      refine j_run it 3 rfl (by simp) ?_
      refine j_split_dec (t := 12) rfl (fun h2 => by exfalso; omega) (fun h2 => ?_)
      refine j_run it 6 rfl (by simp) ?_
      refine j_nf [.c [1, 1]] rfl ?_
      refine j_giv [] rfl rfl rfl ⟨rfl, rfl, rfl⟩

def orderOf (q : Int) : Int := if q < 2 ∨ 256 < q then 6 else 0
end Go.Proofs.Ytlhgkefaflpgeaa

namespace Go.Proofs.Ytlhgkefaflpgeaa
open Go Go.Fw
set_option maxRecDepth 100000
set_option linter.unusedVariables false
set_option linter.unusedSimpArgs false
set_option maxHeartbeats 4000000
/-- q, n and d are in their ranges. -/
def rangeP (q n d : Int) : Prop := 2 ≤ q ∧ q ≤ 256 ∧ 1 ≤ n ∧ n ≤ 64 ∧ 1 ≤ d ∧ d ≤ n
instance (q n d : Int) : Decidable (rangeP q n d) := by unfold rangeP; infer_instance
theorem S_delsarte_wrong {q n d : Int} {res : Bool} (hres : decide (rangeP q n d) = !res) : Ctr Try.prog 44 [.int .i64 q, .int .i64 n, .int .i64 d] [] [] (Rv (.bool res) []) := by
  refine Ctr_of_j' (F := F_delsarte_wrong) rfl fun C => ?_
  have no : ¬ rangeP q n d → res = true := fun h => by rw [decide_eq_false h] at hres; simpa using hres
  by_cases h1 : q < 2
  · rw [no (by unfold rangeP; omega)]
    refine j_nf [.o [0] 0, .c [1]] rfl ?_
    refine j_run it 1 rfl (by simp) ?_
    refine j_nf [.o [1, 0] 0, .c [1, 1]] rfl ?_
    refine j_run it 3 rfl (by simp) ?_
    refine j_split_dec (t := 9) rfl (fun h2 => ?_) (fun h2 => by exfalso; omega)
    refine j_run it 21 rfl (by simp) ?_
    refine j_nf [.c [1, 1]] rfl ?_
    refine j_giv [] rfl rfl rfl ⟨rfl, rfl, rfl⟩
  by_cases h2 : 256 < q
  · rw [no (by unfold rangeP; omega)]
    refine j_nf [.o [0] 0, .c [1]] rfl ?_
    refine j_run it 1 rfl (by simp) ?_
    refine j_nf [.o [1, 0] 0, .c [1, 1]] rfl ?_
    refine j_run it 3 rfl (by simp) ?_
    refine j_split_dec (t := 9) rfl (fun h3 => by exfalso; omega) (fun h3 => ?_)
    refine j_run it 4 rfl (by simp) ?_
    refine j_split_dec (t := 13) rfl (fun h4 => ?_) (fun h4 => by exfalso; omega)
    refine j_run it 17 rfl (by simp) ?_
    refine j_nf [.c [1, 1]] rfl ?_
    refine j_giv [] rfl rfl rfl ⟨rfl, rfl, rfl⟩
  by_cases h3 : n < 1
  · rw [no (by unfold rangeP; omega)]
    refine j_nf [.o [0] 0, .c [1]] rfl ?_
    refine j_run it 1 rfl (by simp) ?_
    refine j_nf [.o [1, 0] 0, .c [1, 1]] rfl ?_
    refine j_run it 3 rfl (by simp) ?_
    refine j_split_dec (t := 9) rfl (fun h4 => by exfalso; omega) (fun h4 => ?_)
    refine j_run it 4 rfl (by simp) ?_
    refine j_split_dec (t := 13) rfl (fun h5 => by exfalso; omega) (fun h5 => ?_)
    refine j_run it 4 rfl (by simp) ?_
    refine j_split_dec (t := 17) rfl (fun h6 => ?_) (fun h6 => by exfalso; omega)
    refine j_run it 13 rfl (by simp) ?_
    refine j_nf [.c [1, 1]] rfl ?_
    refine j_giv [] rfl rfl rfl ⟨rfl, rfl, rfl⟩
  by_cases h4 : 64 < n
  · rw [no (by unfold rangeP; omega)]
    refine j_nf [.o [0] 0, .c [1]] rfl ?_
    refine j_run it 1 rfl (by simp) ?_
    refine j_nf [.o [1, 0] 0, .c [1, 1]] rfl ?_
    refine j_run it 3 rfl (by simp) ?_
    refine j_split_dec (t := 9) rfl (fun h5 => by exfalso; omega) (fun h5 => ?_)
    refine j_run it 4 rfl (by simp) ?_
    refine j_split_dec (t := 13) rfl (fun h6 => by exfalso; omega) (fun h6 => ?_)
    refine j_run it 4 rfl (by simp) ?_
    refine j_split_dec (t := 17) rfl (fun h7 => by exfalso; omega) (fun h7 => ?_)
    refine j_run it 4 rfl (by simp) ?_
    refine j_split_dec (t := 21) rfl (fun h8 => ?_) (fun h8 => by exfalso; omega)
    refine j_run it 9 rfl (by simp) ?_
    refine j_nf [.c [1, 1]] rfl ?_
    refine j_giv [] rfl rfl rfl ⟨rfl, rfl, rfl⟩
  by_cases h5 : d < 1
  · rw [no (by unfold rangeP; omega)]
    refine j_nf [.o [0] 0, .c [1]] rfl ?_
    refine j_run it 1 rfl (by simp) ?_
    refine j_nf [.o [1, 0] 0, .c [1, 1]] rfl ?_
    refine j_run it 3 rfl (by simp) ?_
    refine j_split_dec (t := 9) rfl (fun h6 => by exfalso; omega) (fun h6 => ?_)
    refine j_run it 4 rfl (by simp) ?_
    refine j_split_dec (t := 13) rfl (fun h7 => by exfalso; omega) (fun h7 => ?_)
    refine j_run it 4 rfl (by simp) ?_
    refine j_split_dec (t := 17) rfl (fun h8 => by exfalso; omega) (fun h8 => ?_)
    refine j_run it 4 rfl (by simp) ?_
    refine j_split_dec (t := 21) rfl (fun h9 => by exfalso; omega) (fun h9 => ?_)
    refine j_run it 4 rfl (by simp) ?_
    refine j_split_dec (t := 25) rfl (fun h10 => ?_) (fun h10 => by exfalso; omega)
    refine j_run it 5 rfl (by simp) ?_
    refine j_nf [.c [1, 1]] rfl ?_
    refine j_giv [] rfl rfl rfl ⟨rfl, rfl, rfl⟩
  have e : res = decide (n < d) := by
    by_cases h6 : n < d
    · rw [no (by unfold rangeP; omega), decide_eq_true h6]
    · rw [decide_eq_true (show rangeP q n d by unfold rangeP; omega)] at hres
      rw [decide_eq_false h6]; simpa using hres
  rw [e]
  refine j_nf [.o [0] 0, .c [1]] rfl ?_
  refine j_run it 1 rfl (by simp) ?_
  refine j_nf [.o [1, 0] 0, .c [1, 1]] rfl ?_
  refine j_run it 3 rfl (by simp) ?_
  refine j_split_dec (t := 9) rfl (fun h6 => by exfalso; omega) (fun h6 => ?_)
  refine j_run it 4 rfl (by simp) ?_
  refine j_split_dec (t := 13) rfl (fun h7 => by exfalso; omega) (fun h7 => ?_)
  refine j_run it 4 rfl (by simp) ?_
  refine j_split_dec (t := 17) rfl (fun h8 => by exfalso; omega) (fun h8 => ?_)
  refine j_run it 4 rfl (by simp) ?_
  refine j_split_dec (t := 21) rfl (fun h9 => by exfalso; omega) (fun h9 => ?_)
  refine j_run it 4 rfl (by simp) ?_
  refine j_split_dec (t := 25) rfl (fun h10 => by exfalso; omega) (fun h10 => ?_)
  refine j_run it 5 rfl (by simp) ?_
  refine j_nf [.c [1, 1]] rfl ?_
  refine j_giv [] rfl rfl rfl ⟨rfl, rfl, rfl⟩

theorem S_codewrightref34_Range {q n d : Int} {res : Bool} (hres : decide (rangeP q n d) = res) : Ctr Try.prog 20 [.int .i64 q, .int .i64 n, .int .i64 d] [] [] (Rv (.bool res) []) := by
  refine Ctr_of_j' (F := F_codewrightref34_Range) rfl fun C => ?_
  have no : ¬ rangeP q n d → res = false := fun h => by rw [decide_eq_false h] at hres; exact hres.symm
  by_cases h1 : 2 ≤ q
  · by_cases h2 : q ≤ 256
    · by_cases h3 : 1 ≤ n
      · by_cases h4 : n ≤ 64
        · by_cases h5 : 1 ≤ d
          · have e : res = decide (d ≤ n) := by
              by_cases h6 : d ≤ n
              · rw [decide_eq_true (show rangeP q n d from ⟨h1, h2, h3, h4, h5, h6⟩)] at hres
                rw [decide_eq_true h6]; exact hres.symm
              · rw [no (by unfold rangeP; omega), decide_eq_false h6]
            rw [e]
            refine j_nf [.o [0] 0, .c [1]] rfl ?_
            refine j_run it 1 rfl (by simp) ?_
            refine j_nf [.o [1, 0] 0, .c [1, 1]] rfl ?_
            refine j_run it 3 rfl (by simp) ?_
            refine j_split_dec (t := 9) rfl (fun h6 => ?_) (fun h6 => by exfalso; omega)
            refine j_run it 4 rfl (by simp) ?_
            refine j_split_dec (t := 13) rfl (fun h7 => ?_) (fun h7 => by exfalso; omega)
            refine j_run it 4 rfl (by simp) ?_
            refine j_split_dec (t := 17) rfl (fun h8 => ?_) (fun h8 => by exfalso; omega)
            refine j_run it 4 rfl (by simp) ?_
            refine j_split_dec (t := 21) rfl (fun h9 => ?_) (fun h9 => by exfalso; omega)
            refine j_run it 4 rfl (by simp) ?_
            refine j_split_dec (t := 25) rfl (fun h10 => ?_) (fun h10 => by exfalso; omega)
            refine j_run it 5 rfl (by simp) ?_
            refine j_nf [.c [1, 1]] rfl ?_
            refine j_giv [] rfl rfl rfl ⟨rfl, rfl, rfl⟩
          · rw [no (by unfold rangeP; omega)]
            refine j_nf [.o [0] 0, .c [1]] rfl ?_
            refine j_run it 1 rfl (by simp) ?_
            refine j_nf [.o [1, 0] 0, .c [1, 1]] rfl ?_
            refine j_run it 3 rfl (by simp) ?_
            refine j_split_dec (t := 9) rfl (fun h6 => ?_) (fun h6 => by exfalso; omega)
            refine j_run it 4 rfl (by simp) ?_
            refine j_split_dec (t := 13) rfl (fun h7 => ?_) (fun h7 => by exfalso; omega)
            refine j_run it 4 rfl (by simp) ?_
            refine j_split_dec (t := 17) rfl (fun h8 => ?_) (fun h8 => by exfalso; omega)
            refine j_run it 4 rfl (by simp) ?_
            refine j_split_dec (t := 21) rfl (fun h9 => ?_) (fun h9 => by exfalso; omega)
            refine j_run it 4 rfl (by simp) ?_
            refine j_split_dec (t := 25) rfl (fun h10 => by exfalso; omega) (fun h10 => ?_)
            refine j_run it 5 rfl (by simp) ?_
            refine j_nf [.c [1, 1]] rfl ?_
            refine j_giv [] rfl rfl rfl ⟨rfl, rfl, rfl⟩
        · rw [no (by unfold rangeP; omega)]
          refine j_nf [.o [0] 0, .c [1]] rfl ?_
          refine j_run it 1 rfl (by simp) ?_
          refine j_nf [.o [1, 0] 0, .c [1, 1]] rfl ?_
          refine j_run it 3 rfl (by simp) ?_
          refine j_split_dec (t := 9) rfl (fun h5 => ?_) (fun h5 => by exfalso; omega)
          refine j_run it 4 rfl (by simp) ?_
          refine j_split_dec (t := 13) rfl (fun h6 => ?_) (fun h6 => by exfalso; omega)
          refine j_run it 4 rfl (by simp) ?_
          refine j_split_dec (t := 17) rfl (fun h7 => ?_) (fun h7 => by exfalso; omega)
          refine j_run it 4 rfl (by simp) ?_
          refine j_split_dec (t := 21) rfl (fun h8 => by exfalso; omega) (fun h8 => ?_)
          refine j_run it 9 rfl (by simp) ?_
          refine j_nf [.c [1, 1]] rfl ?_
          refine j_giv [] rfl rfl rfl ⟨rfl, rfl, rfl⟩
      · rw [no (by unfold rangeP; omega)]
        refine j_nf [.o [0] 0, .c [1]] rfl ?_
        refine j_run it 1 rfl (by simp) ?_
        refine j_nf [.o [1, 0] 0, .c [1, 1]] rfl ?_
        refine j_run it 3 rfl (by simp) ?_
        refine j_split_dec (t := 9) rfl (fun h4 => ?_) (fun h4 => by exfalso; omega)
        refine j_run it 4 rfl (by simp) ?_
        refine j_split_dec (t := 13) rfl (fun h5 => ?_) (fun h5 => by exfalso; omega)
        refine j_run it 4 rfl (by simp) ?_
        refine j_split_dec (t := 17) rfl (fun h6 => by exfalso; omega) (fun h6 => ?_)
        refine j_run it 13 rfl (by simp) ?_
        refine j_nf [.c [1, 1]] rfl ?_
        refine j_giv [] rfl rfl rfl ⟨rfl, rfl, rfl⟩
    · rw [no (by unfold rangeP; omega)]
      refine j_nf [.o [0] 0, .c [1]] rfl ?_
      refine j_run it 1 rfl (by simp) ?_
      refine j_nf [.o [1, 0] 0, .c [1, 1]] rfl ?_
      refine j_run it 3 rfl (by simp) ?_
      refine j_split_dec (t := 9) rfl (fun h3 => ?_) (fun h3 => by exfalso; omega)
      refine j_run it 4 rfl (by simp) ?_
      refine j_split_dec (t := 13) rfl (fun h4 => by exfalso; omega) (fun h4 => ?_)
      refine j_run it 17 rfl (by simp) ?_
      refine j_nf [.c [1, 1]] rfl ?_
      refine j_giv [] rfl rfl rfl ⟨rfl, rfl, rfl⟩
  · rw [no (by unfold rangeP; omega)]
    refine j_nf [.o [0] 0, .c [1]] rfl ?_
    refine j_run it 1 rfl (by simp) ?_
    refine j_nf [.o [1, 0] 0, .c [1, 1]] rfl ?_
    refine j_run it 3 rfl (by simp) ?_
    refine j_split_dec (t := 9) rfl (fun h2 => by exfalso; omega) (fun h2 => ?_)
    refine j_run it 21 rfl (by simp) ?_
    refine j_nf [.c [1, 1]] rfl ?_
    refine j_giv [] rfl rfl rfl ⟨rfl, rfl, rfl⟩

theorem S_codewrightref34_Words {q : Int} {pa : Option Addr} {n ca : Nat} {W : List (List Int)} {e : Int} (he : wordsE q W = e) : Ctr Try.prog 11 [.int .i64 q, .slice pa n ca] [] [slF (encSl I64) pa n ca W] (Rv (.int .i64 e) []) := by
  subst he
  refine Ctr_of_j' (F := F_codewrightref34_Words) rfl fun C => ?_
  refine j_len 0 rfl fun hn hb _ => ?_
  have hb' : W.length * 24 ≤ 140737488355328 := hb
  subst hn
  by_cases h1 : q < 2 ∨ 256 < q
  · rw [wordsE, if_pos h1]
    by_cases h2 : q < 2
    · refine j_nf [.o [0] 0, .c [1]] rfl ?_
      refine j_run it 1 rfl (by simp) ?_
      refine j_nf [.o [1, 0, 0] 0, .c [1, 0, 1], .c [1, 1]] rfl ?_
      refine j_run it 3 rfl (by simp) ?_
      refine j_split_dec (t := 9) rfl (fun h3 => ?_) (fun h3 => by exfalso; omega)
      refine j_run it 3 rfl (by simp) ?_
      refine j_nf [.c [1, 0, 1], .c [1, 1]] rfl ?_
      refine j_true rfl rfl ?_
      refine j_nf [.o [1, 0, 1, 0, 0] 0, .c [1, 0, 1, 0, 1], .c [1, 1]] rfl ?_
      refine j_run it 1 rfl (by simp) ?_
      refine j_nf [.c [1, 0, 1, 0, 1], .c [1, 1]] rfl ?_
      refine j_giv [] rfl rfl rfl ⟨rfl, rfl, rfl⟩
    · refine j_nf [.o [0] 0, .c [1]] rfl ?_
      refine j_run it 1 rfl (by simp) ?_
      refine j_nf [.o [1, 0, 0] 0, .c [1, 0, 1], .c [1, 1]] rfl ?_
      refine j_run it 3 rfl (by simp) ?_
      refine j_split_dec (t := 9) rfl (fun h3 => by exfalso; omega) (fun h3 => ?_)
      refine j_run it 3 rfl (by simp) ?_
      refine j_nf [.c [1, 0, 1], .c [1, 1]] rfl ?_
      refine j_if rfl rfl (fun h4 => ?_) (fun h4 => by exfalso; omega)
      refine j_nf [.o [1, 0, 1, 0, 0] 0, .c [1, 0, 1, 0, 1], .c [1, 1]] rfl ?_
      refine j_run it 1 rfl (by simp) ?_
      refine j_nf [.c [1, 0, 1, 0, 1], .c [1, 1]] rfl ?_
      refine j_giv [] rfl rfl rfl ⟨rfl, rfl, rfl⟩
  by_cases h2 : W.length = 0
  · rw [wordsE, if_neg h1, if_pos h2]
    refine j_nf [.o [0] 0, .c [1]] rfl ?_
    refine j_run it 1 rfl (by simp) ?_
    refine j_nf [.o [1, 0, 0] 0, .c [1, 0, 1], .c [1, 1]] rfl ?_
    refine j_run it 3 rfl (by simp) ?_
    refine j_split_dec (t := 9) rfl (fun h3 => by exfalso; omega) (fun h3 => ?_)
    refine j_run it 3 rfl (by simp) ?_
    refine j_nf [.c [1, 0, 1], .c [1, 1]] rfl ?_
    refine j_if rfl rfl (fun h4 => by exfalso; omega) (fun h4 => ?_)
    refine j_nf [.o [1, 1, 0, 0] 0, .c [1, 1, 0, 1], .c [1, 1, 1]] rfl ?_
    refine j_run it 1 rfl (by simp) ?_
    refine j_step rfl (x_len sl22 rfl ?_)
    refine j_run it 1 rfl (by simp) ?_
    refine j_nf [.c [1, 1, 0, 1], .c [1, 1, 1]] rfl ?_
    refine j_if rfl rfl (fun h5 => ?_) (fun h5 => by exfalso; omega)
    refine j_nf [.o [1, 1, 0, 1, 0, 0] 0, .c [1, 1, 0, 1, 0, 1], .c [1, 1, 1]] rfl ?_
    refine j_run it 1 rfl (by simp) ?_
    refine j_nf [.c [1, 1, 0, 1, 0, 1], .c [1, 1, 1]] rfl ?_
    refine j_giv [] rfl rfl rfl ⟨rfl, rfl, rfl⟩
  have h0 : 0 < W.length := by omega
  have hz0 : W[0]? = some (W.getD 0 default) := getD_at h0
  rw [wordsE, if_neg h1, if_neg h2]
  refine j_nf [.o [0] 0, .c [1]] rfl ?_
  refine j_run it 1 rfl (by simp) ?_
  refine j_nf [.o [1, 0, 0] 0, .c [1, 0, 1], .c [1, 1]] rfl ?_
  refine j_run it 3 rfl (by simp) ?_
  refine j_split_dec (t := 9) rfl (fun h3 => by exfalso; omega) (fun h3 => ?_)
  refine j_run it 3 rfl (by simp) ?_
  refine j_nf [.c [1, 0, 1], .c [1, 1]] rfl ?_
  refine j_if rfl rfl (fun h4 => by exfalso; omega) (fun h4 => ?_)
  refine j_nf [.o [1, 1, 0, 0] 0, .c [1, 1, 0, 1], .c [1, 1, 1]] rfl ?_
  refine j_run it 1 rfl (by simp) ?_
  refine j_step rfl (x_len sl22 rfl ?_)
  refine j_run it 1 rfl (by simp) ?_
  refine j_nf [.c [1, 1, 0, 1], .c [1, 1, 1]] rfl ?_
  refine j_if rfl rfl (fun h5 => by exfalso; omega) (fun h5 => ?_)
  refine j_nf [.o [1, 1, 1, 0, 0] 0, .c [1, 1, 1, 0, 1], .c [1, 1, 1, 1]] rfl ?_
  refine j_run it 1 rfl (by simp) ?_
  refine j_step rfl (x_idx 0 0 rfl rfl rfl sl22 (by omega) (by omega) fun z1 hz1 b1 o1 => ?_)
  refine j_step rfl (x_ld_sl 0 rfl rfl ld31 fun pa1 ca1 => ?_)
  refine j_step rfl (x_len sl31 rfl ?_)
  refine j_run it 2 rfl (by simp) ?_
  refine j_split_dec (t := 21) rfl (fun h6 => ?_) (fun h6 => ?_)
  · obtain rfl : z1 = W.getD 0 default := Option.some.inj (hz1.symm.trans hz0)
    rw [if_pos (.inl (by omega))]
    refine j_run it 6 rfl (by simp) ?_
    refine j_nf [.c [1, 1, 1, 0, 1], .c [1, 1, 1, 1]] rfl ?_
    refine j_true rfl rfl ?_
    refine j_nf [.o [1, 1, 1, 0, 1, 0, 0] 0, .c [1, 1, 1, 0, 1, 0, 1], .c [1, 1, 1, 1]] rfl ?_
    refine j_run it 1 rfl (by simp) ?_
    refine j_nf [.c [1, 1, 1, 0, 1, 0, 1], .c [1, 1, 1, 1]] rfl ?_
    refine j_giv [] rfl rfl rfl ⟨rfl, rfl, rfl⟩
  · obtain rfl : z1 = W.getD 0 default := Option.some.inj (hz1.symm.trans hz0)
    refine j_run it 1 rfl (by simp) ?_
    refine j_gstep rfl rfl (x_idx 2 0 rfl rfl rfl sl22 (by omega) (by omega) fun z1 hz2 b2 o2 => ?_)
    refine j_gstep rfl rfl (x_ld_sl 0 rfl rfl ld31 fun pa2 ca2 => ?_)
    refine j_gstep rfl rfl (x_len sl31 rfl ?_)
    refine j_run it 2 rfl (by simp) ?_
    refine j_nf [.c [1, 1, 1, 0, 1], .c [1, 1, 1, 1]] rfl ?_
    refine j_if rfl rfl (fun h7 => ?_) (fun h7 => ?_)
    · obtain rfl : z1 = W.getD 0 default := Option.some.inj (hz2.symm.trans hz0)
      rw [if_pos (.inr (by omega))]
      refine j_nf [.o [1, 1, 1, 0, 1, 0, 0] 0, .c [1, 1, 1, 0, 1, 0, 1], .c [1, 1, 1, 1]] rfl ?_
      refine j_run it 1 rfl (by simp) ?_
      refine j_nf [.c [1, 1, 1, 0, 1, 0, 1], .c [1, 1, 1, 1]] rfl ?_
      refine j_giv [] rfl rfl rfl ⟨rfl, rfl, rfl⟩
    · obtain rfl : z1 = W.getD 0 default := Option.some.inj (hz2.symm.trans hz0)
      rw [if_neg (by omega)]
      refine j_nf [.o [1, 1, 1, 1, 0, 0] 0, .c [1, 1, 1, 1, 0, 1], .c [1, 1, 1, 1, 1]] rfl ?_
      refine j_run it 1 rfl (by simp) ?_
      refine j_nf [.c [1, 1, 1, 1, 0, 1, 0], .blk 0, .c [1, 1, 1, 1, 1]] rfl ?_
      refine j_loopG (X := Nat) [0, 1] [0, 1, 2, 3, 4] (fun k => [(5, .int .i64 k)]) (fun _ => []) (fun _ => []) (fun k => k ≤ W.length ∧ scanW q (W.getD 0 default).length (W.take k) = 0) (fun k => W.length - k) 0 [] rfl rfl rfl ⟨Nat.zero_le _, rfl⟩ (by repeat (first | exact Fr.sub_nil _ | refine Fr.sub_cons rfl ?_)) rfl rfl ?_
      rintro k ⟨hk, hp⟩ ih
      simp only [List.cons_append, List.nil_append] at hk hp ih ⊢
      by_cases hkl : k < W.length
      · have hzk := getD_at hkl
        by_cases hl : (W.getD k default).length = (W.getD 0 default).length
        · refine j_nf [.o [1, 1, 1, 1, 0, 1, 0, 0, 0, 0] 0, .c [1, 1, 1, 1, 0, 1, 0, 0, 0, 1], .c [1, 1, 1, 1, 0, 1, 0, 0, 1], .lp [1, 1, 1, 1, 0, 1, 0, 0], .blk 0, .c [1, 1, 1, 1, 1]] rfl ?_
          refine j_run it 2 rfl (by simp) ?_
          refine j_step rfl (x_len sl22 rfl ?_)
          refine j_run it 1 rfl (by simp) ?_
          refine j_nf [.c [1, 1, 1, 1, 0, 1, 0, 0, 0, 1], .c [1, 1, 1, 1, 0, 1, 0, 0, 1], .lp [1, 1, 1, 1, 0, 1, 0, 0], .blk 0, .c [1, 1, 1, 1, 1]] rfl ?_
          refine j_if rfl rfl (fun h8 => ?_) (fun h8 => by exfalso; omega)
          refine j_nf [.c [1, 1, 1, 1, 0, 1, 0, 0, 1, 0, 0, 0, 0], .c [1, 1, 1, 1, 0, 1, 0, 0, 1, 0, 0, 0, 1], .c [1, 1, 1, 1, 0, 1, 0, 0, 1, 0, 0, 1], .blk 1, .c [1, 1, 1, 1, 0, 1, 0, 0, 1, 1], .lp [1, 1, 1, 1, 0, 1, 0, 0], .blk 0, .c [1, 1, 1, 1, 1]] rfl ?_
          (apply j_drawK it mx 10; (· rfl); (· rfl))
          (apply lxk_run 2; (· rfl); (· simp))
          (apply lxk_pt; (· rfl); (· exact d_x fun _ => x_idx 4 (k) rfl rfl rfl sl22 rfl (by omega) fun z1 hz3 b3 o3 => (dk_ptD default hz3 0 rfl)); intro b3 o3)
          (apply lxk_sl; (· rfl); (· exact d_x fun _ => x_ld_sl 0 rfl rfl ld31 fun pa3 ca3 => (dk_sl 0 rfl)); intro pa3 ca3)
          (apply lxk_eq; (· rfl); (· exact d_x fun _ => x_len sl31 rfl dk_eq))
          (apply lxk_run 1; (· rfl); (· simp))
          (apply lxk_pt; (· rfl); (· exact d_x fun _ => x_idx 4 0 rfl rfl rfl sl22 (by omega) (by omega) fun z1 hz3 b4 o4 => (dk_ptD default hz3 0 rfl)); intro b4 o4)
          (apply lxk_sl; (· rfl); (· exact d_x fun _ => x_ld_sl 0 rfl rfl ld31 fun pa4 ca4 => (dk_sl 0 rfl)); intro pa4 ca4)
          (apply lxk_eq; (· rfl); (· exact d_x fun _ => x_len sl31 rfl dk_eq))
          (apply lxk_run 1; (· rfl); (· simp))
          refine lxk_end rfl ?_
          simp only [List.map_cons, List.map_nil, List.cons_append, List.nil_append]
          refine j_nf [.c [1, 1, 1, 1, 0, 1, 0, 0, 1, 0, 0, 0, 1], .c [1, 1, 1, 1, 0, 1, 0, 0, 1, 0, 0, 1], .blk 1, .c [1, 1, 1, 1, 0, 1, 0, 0, 1, 1], .lp [1, 1, 1, 1, 0, 1, 0, 0], .blk 0, .c [1, 1, 1, 1, 1]] rfl ?_
          refine j_ifn rfl rfl (fun h9 => by exfalso; omega) (fun h9 => ?_)
          refine j_nf [.o [1, 1, 1, 1, 0, 1, 0, 0, 1, 0, 0, 1, 0] 0, .c [1, 1, 1, 1, 0, 1, 0, 0, 1, 0, 0, 1, 1], .blk 1, .c [1, 1, 1, 1, 0, 1, 0, 0, 1, 1], .lp [1, 1, 1, 1, 0, 1, 0, 0], .blk 0, .c [1, 1, 1, 1, 1]] rfl ?_
          refine j_run it 1 rfl (by simp) ?_
          refine j_nf [.c [1, 1, 1, 1, 0, 1, 0, 0, 1, 0, 0, 1, 1, 0], .blk 2, .blk 1, .c [1, 1, 1, 1, 0, 1, 0, 0, 1, 1], .lp [1, 1, 1, 1, 0, 1, 0, 0], .blk 0, .c [1, 1, 1, 1, 1]] rfl ?_
          refine j_loopG (X := Nat) [0, 1, 5, 28, 29, 30, 31, 34, 35, 36, 37, 38, 39, 40, 41, 42, 43] [0, 1, 2, 3, 4, 5, 6, 7, 8] (fun j => [(6, .int .i64 j)]) (fun _ => []) (fun _ => []) (fun j => j ≤ (W.getD k default).length ∧ okW q ((W.getD k default).take j) = true) (fun j => (W.getD k default).length - j) 0 [] rfl rfl rfl ⟨Nat.zero_le _, rfl⟩ (by repeat (first | exact Fr.sub_nil _ | refine Fr.sub_cons rfl ?_)) rfl rfl ?_
          rintro j ⟨hj, hq⟩ ihj
          simp only [List.cons_append, List.nil_append] at hj hq ihj ⊢
          have hnext : ∀ {j}, j = (W.getD k default).length → okW q ((W.getD k default).take j) = true → scanW q (W.getD 0 default).length (W.take (k + 1)) = 0 := fun hj hq => by
            subst hj
            rw [List.take_length] at hq
            exact scan_step hzk hp hl hq
          by_cases hjl : j < (W.getD k default).length
          · refine j_nf [.o [1, 1, 1, 1, 0, 1, 0, 0, 1, 0, 0, 1, 1, 0, 0, 0, 0] 0, .c [1, 1, 1, 1, 0, 1, 0, 0, 1, 0, 0, 1, 1, 0, 0, 0, 1], .c [1, 1, 1, 1, 0, 1, 0, 0, 1, 0, 0, 1, 1, 0, 0, 1], .lp [1, 1, 1, 1, 0, 1, 0, 0, 1, 0, 0, 1, 1, 0, 0], .blk 2, .blk 1, .c [1, 1, 1, 1, 0, 1, 0, 0, 1, 1], .lp [1, 1, 1, 1, 0, 1, 0, 0], .blk 0, .c [1, 1, 1, 1, 1]] rfl ?_
            refine j_run it 3 rfl (by simp) ?_
            refine j_step rfl (x_idx 8 (k) rfl rfl rfl sl22 rfl (by omega) fun z1 hz3 b5 o5 => ?_)
            refine j_step rfl (x_ld_sl 0 rfl rfl ld31 fun pa5 ca5 => ?_)
            refine j_step rfl (x_len sl31 rfl ?_)
            refine j_run it 1 rfl (by simp) ?_
            refine j_nf [.c [1, 1, 1, 1, 0, 1, 0, 0, 1, 0, 0, 1, 1, 0, 0, 0, 1], .c [1, 1, 1, 1, 0, 1, 0, 0, 1, 0, 0, 1, 1, 0, 0, 1], .lp [1, 1, 1, 1, 0, 1, 0, 0, 1, 0, 0, 1, 1, 0, 0], .blk 2, .blk 1, .c [1, 1, 1, 1, 0, 1, 0, 0, 1, 1], .lp [1, 1, 1, 1, 0, 1, 0, 0], .blk 0, .c [1, 1, 1, 1, 1]] rfl ?_
            refine j_if rfl rfl (fun h10 => ?_) (fun h10 => ?_)
            · obtain rfl : z1 = W.getD k default := Option.some.inj (hz3.symm.trans hzk)
              refine j_nf [.o [1, 1, 1, 1, 0, 1, 0, 0, 1, 0, 0, 1, 1, 0, 0, 1, 0, 0, 0] 0, .c [1, 1, 1, 1, 0, 1, 0, 0, 1, 0, 0, 1, 1, 0, 0, 1, 0, 0, 1], .blk 3, .c [1, 1, 1, 1, 0, 1, 0, 0, 1, 0, 0, 1, 1, 0, 0, 1, 1], .lp [1, 1, 1, 1, 0, 1, 0, 0, 1, 0, 0, 1, 1, 0, 0], .blk 2, .blk 1, .c [1, 1, 1, 1, 0, 1, 0, 0, 1, 1], .lp [1, 1, 1, 1, 0, 1, 0, 0], .blk 0, .c [1, 1, 1, 1, 1]] rfl ?_
              refine j_run it 2 rfl (by simp) ?_
              refine j_step rfl (x_idx 10 (k) rfl rfl rfl sl22 rfl (by omega) fun z1 hz4 b6 o6 => ?_)
              refine j_step rfl (x_ld_sl 0 rfl rfl ld31 fun pa6 ca6 => ?_)
              refine j_run it 1 rfl (by simp) ?_
              refine j_step rfl (x_idx 0 (j) rfl rfl rfl sl31 (by omega) ?_ fun z2 hz5 b7 o7 => ?_)
              · rw [Option.some.inj (hz4.symm.trans hzk)]; exact hjl
              obtain rfl : z1 = W.getD k default := Option.some.inj (hz4.symm.trans hzk)
              refine j_step rfl (x_ld_int 0 rfl rfl ld3 fun ⟨r1, r2⟩ => ?_)
              refine j_run it 2 rfl (by simp) ?_
              refine j_split_dec (t := 61) rfl (fun h11 => ?_) (fun h11 => ?_)
              · rw [scan_elem hzk hp hl (okW_stop hz5 (by omega))]
                refine j_run it 10 rfl (by simp) ?_
                refine j_nf [.c [1, 1, 1, 1, 0, 1, 0, 0, 1, 0, 0, 1, 1, 0, 0, 1, 0, 0, 1], .blk 3, .c [1, 1, 1, 1, 0, 1, 0, 0, 1, 0, 0, 1, 1, 0, 0, 1, 1], .lp [1, 1, 1, 1, 0, 1, 0, 0, 1, 0, 0, 1, 1, 0, 0], .blk 2, .blk 1, .c [1, 1, 1, 1, 0, 1, 0, 0, 1, 1], .lp [1, 1, 1, 1, 0, 1, 0, 0], .blk 0, .c [1, 1, 1, 1, 1]] rfl ?_
                refine j_true rfl rfl ?_
                refine j_nf [.o [1, 1, 1, 1, 0, 1, 0, 0, 1, 0, 0, 1, 1, 0, 0, 1, 0, 0, 1, 0, 0] 0, .c [1, 1, 1, 1, 0, 1, 0, 0, 1, 0, 0, 1, 1, 0, 0, 1, 0, 0, 1, 0, 1], .blk 3, .c [1, 1, 1, 1, 0, 1, 0, 0, 1, 0, 0, 1, 1, 0, 0, 1, 1], .lp [1, 1, 1, 1, 0, 1, 0, 0, 1, 0, 0, 1, 1, 0, 0], .blk 2, .blk 1, .c [1, 1, 1, 1, 0, 1, 0, 0, 1, 1], .lp [1, 1, 1, 1, 0, 1, 0, 0], .blk 0, .c [1, 1, 1, 1, 1]] rfl ?_
                refine j_run it 1 rfl (by simp) ?_
                refine j_nf [.c [1, 1, 1, 1, 0, 1, 0, 0, 1, 0, 0, 1, 1, 0, 0, 1, 0, 0, 1, 0, 1], .blk 3, .c [1, 1, 1, 1, 0, 1, 0, 0, 1, 0, 0, 1, 1, 0, 0, 1, 1], .lp [1, 1, 1, 1, 0, 1, 0, 0, 1, 0, 0, 1, 1, 0, 0], .blk 2, .blk 1, .c [1, 1, 1, 1, 0, 1, 0, 0, 1, 1], .lp [1, 1, 1, 1, 0, 1, 0, 0], .blk 0, .c [1, 1, 1, 1, 1]] rfl ?_
                refine j_giv [] rfl rfl rfl ⟨rfl, rfl, rfl⟩
              · refine j_run it 2 rfl (by simp) ?_
                refine j_gstep rfl rfl (x_idx 13 (k) rfl rfl rfl sl22 rfl (by omega) fun z1 hz6 b8 o8 => ?_)
                refine j_gstep rfl rfl (x_ld_sl 0 rfl rfl ld31 fun pa7 ca7 => ?_)
                refine j_run it 1 rfl (by simp) ?_
                refine j_gstep rfl rfl (x_idx 0 (j) rfl rfl rfl sl31 (by omega) ?_ fun z3 hz7 b9 o9 => ?_)
                · rw [Option.some.inj (hz6.symm.trans hzk)]; exact hjl
                obtain rfl : z1 = W.getD k default := Option.some.inj (hz6.symm.trans hzk)
                refine j_gstep rfl rfl (x_ld_int 0 rfl rfl ld3 fun ⟨r3, r4⟩ => ?_)
                refine j_run it 3 rfl (by simp) ?_
                refine j_nf [.c [1, 1, 1, 1, 0, 1, 0, 0, 1, 0, 0, 1, 1, 0, 0, 1, 0, 0, 1], .blk 3, .c [1, 1, 1, 1, 0, 1, 0, 0, 1, 0, 0, 1, 1, 0, 0, 1, 1], .lp [1, 1, 1, 1, 0, 1, 0, 0, 1, 0, 0, 1, 1, 0, 0], .blk 2, .blk 1, .c [1, 1, 1, 1, 0, 1, 0, 0, 1, 1], .lp [1, 1, 1, 1, 0, 1, 0, 0], .blk 0, .c [1, 1, 1, 1, 1]] rfl ?_
                refine j_if rfl rfl (fun h12 => ?_) (fun h12 => ?_)
                all_goals obtain rfl : z3 = z2 := Option.some.inj (hz7.symm.trans hz5)
                · rw [scan_elem hzk hp hl (okW_stop hz5 (by omega))]
                  refine j_nf [.o [1, 1, 1, 1, 0, 1, 0, 0, 1, 0, 0, 1, 1, 0, 0, 1, 0, 0, 1, 0, 0] 0, .c [1, 1, 1, 1, 0, 1, 0, 0, 1, 0, 0, 1, 1, 0, 0, 1, 0, 0, 1, 0, 1], .blk 3, .c [1, 1, 1, 1, 0, 1, 0, 0, 1, 0, 0, 1, 1, 0, 0, 1, 1], .lp [1, 1, 1, 1, 0, 1, 0, 0, 1, 0, 0, 1, 1, 0, 0], .blk 2, .blk 1, .c [1, 1, 1, 1, 0, 1, 0, 0, 1, 1], .lp [1, 1, 1, 1, 0, 1, 0, 0], .blk 0, .c [1, 1, 1, 1, 1]] rfl ?_
                  refine j_run it 1 rfl (by simp) ?_
                  refine j_nf [.c [1, 1, 1, 1, 0, 1, 0, 0, 1, 0, 0, 1, 1, 0, 0, 1, 0, 0, 1, 0, 1], .blk 3, .c [1, 1, 1, 1, 0, 1, 0, 0, 1, 0, 0, 1, 1, 0, 0, 1, 1], .lp [1, 1, 1, 1, 0, 1, 0, 0, 1, 0, 0, 1, 1, 0, 0], .blk 2, .blk 1, .c [1, 1, 1, 1, 0, 1, 0, 0, 1, 1], .lp [1, 1, 1, 1, 0, 1, 0, 0], .blk 0, .c [1, 1, 1, 1, 1]] rfl ?_
                  refine j_giv [] rfl rfl rfl ⟨rfl, rfl, rfl⟩
                · refine j_nf [.o [1, 1, 1, 1, 0, 1, 0, 0, 1, 0, 0, 1, 1, 0, 0, 1, 1] 0, .lp [1, 1, 1, 1, 0, 1, 0, 0, 1, 0, 0, 1, 1, 0, 0], .blk 2, .blk 1, .c [1, 1, 1, 1, 0, 1, 0, 0, 1, 1], .lp [1, 1, 1, 1, 0, 1, 0, 0], .blk 0, .c [1, 1, 1, 1, 1]] rfl ?_
                  refine j_run it 3 rfl (by repeat' first | exact trivial | apply And.intro | omega) ?_
                  refine j_nfn 1 [.lp [1, 1, 1, 1, 0, 1, 0, 0, 1, 0, 0, 1, 1, 0, 0], .blk 2, .blk 1, .c [1, 1, 1, 1, 0, 1, 0, 0, 1, 1], .lp [1, 1, 1, 1, 0, 1, 0, 0], .blk 0, .c [1, 1, 1, 1, 1]] rfl ?_
                  refine j_to [8, 9, 10, 11, 12, 13, 14, 15, 16] (by repeat (first | exact Fr.sub_nil _ | refine Fr.sub_cons rfl ?_ | refine Fr.sub_consI rfl (by first | omega | (dsimp only; omega)) ?_ | refine Fr.sub_consS rfl (by first | omega | (dsimp only; omega)) (by first | omega | (dsimp only; omega)) ?_)) rfl rfl (ihj (j + 1) (by omega) ⟨by omega, okW_step hz5 hq (by omega)⟩)
            · obtain rfl : z1 = W.getD k default := Option.some.inj (hz3.symm.trans hzk)
              omega
          · have ej : j = (W.getD k default).length := by omega
            have hn := hnext ej hq
            refine j_nf [.o [1, 1, 1, 1, 0, 1, 0, 0, 1, 0, 0, 1, 1, 0, 0, 0, 0] 0, .c [1, 1, 1, 1, 0, 1, 0, 0, 1, 0, 0, 1, 1, 0, 0, 0, 1], .c [1, 1, 1, 1, 0, 1, 0, 0, 1, 0, 0, 1, 1, 0, 0, 1], .lp [1, 1, 1, 1, 0, 1, 0, 0, 1, 0, 0, 1, 1, 0, 0], .blk 2, .blk 1, .c [1, 1, 1, 1, 0, 1, 0, 0, 1, 1], .lp [1, 1, 1, 1, 0, 1, 0, 0], .blk 0, .c [1, 1, 1, 1, 1]] rfl ?_
            refine j_run it 3 rfl (by simp) ?_
            refine j_step rfl (x_idx 8 (k) rfl rfl rfl sl22 rfl (by omega) fun z1 hz3 b5 o5 => ?_)
            refine j_step rfl (x_ld_sl 0 rfl rfl ld31 fun pa5 ca5 => ?_)
            refine j_step rfl (x_len sl31 rfl ?_)
            refine j_run it 1 rfl (by simp) ?_
            refine j_nf [.c [1, 1, 1, 1, 0, 1, 0, 0, 1, 0, 0, 1, 1, 0, 0, 0, 1], .c [1, 1, 1, 1, 0, 1, 0, 0, 1, 0, 0, 1, 1, 0, 0, 1], .lp [1, 1, 1, 1, 0, 1, 0, 0, 1, 0, 0, 1, 1, 0, 0], .blk 2, .blk 1, .c [1, 1, 1, 1, 0, 1, 0, 0, 1, 1], .lp [1, 1, 1, 1, 0, 1, 0, 0], .blk 0, .c [1, 1, 1, 1, 1]] rfl ?_
            refine j_if rfl rfl (fun h10 => ?_) (fun h10 => ?_)
            · obtain rfl : z1 = W.getD k default := Option.some.inj (hz3.symm.trans hzk)
              omega
            · refine j_nf [.o [1, 1, 1, 1, 0, 1, 0, 0, 1, 1] 0, .lp [1, 1, 1, 1, 0, 1, 0, 0], .blk 0, .c [1, 1, 1, 1, 1]] rfl ?_
              refine j_run it 3 rfl (by repeat' first | exact trivial | apply And.intro | omega) ?_
              refine j_nfn 1 [.lp [1, 1, 1, 1, 0, 1, 0, 0], .blk 0, .c [1, 1, 1, 1, 1]] rfl ?_
              refine j_to [6, 7, 8, 9, 10] (by repeat (first | exact Fr.sub_nil _ | refine Fr.sub_cons rfl ?_ | refine Fr.sub_consI rfl (by first | omega | (dsimp only; omega)) ?_ | refine Fr.sub_consS rfl (by first | omega | (dsimp only; omega)) (by first | omega | (dsimp only; omega)) ?_)) rfl rfl (ih (k + 1) (by omega) ⟨by omega, hn⟩)
        · rw [scan_shape hzk hp hl]
          refine j_nf [.o [1, 1, 1, 1, 0, 1, 0, 0, 0, 0] 0, .c [1, 1, 1, 1, 0, 1, 0, 0, 0, 1], .c [1, 1, 1, 1, 0, 1, 0, 0, 1], .lp [1, 1, 1, 1, 0, 1, 0, 0], .blk 0, .c [1, 1, 1, 1, 1]] rfl ?_
          refine j_run it 2 rfl (by simp) ?_
          refine j_step rfl (x_len sl22 rfl ?_)
          refine j_run it 1 rfl (by simp) ?_
          refine j_nf [.c [1, 1, 1, 1, 0, 1, 0, 0, 0, 1], .c [1, 1, 1, 1, 0, 1, 0, 0, 1], .lp [1, 1, 1, 1, 0, 1, 0, 0], .blk 0, .c [1, 1, 1, 1, 1]] rfl ?_
          refine j_if rfl rfl (fun h8 => ?_) (fun h8 => by exfalso; omega)
          refine j_nf [.c [1, 1, 1, 1, 0, 1, 0, 0, 1, 0, 0, 0, 0], .c [1, 1, 1, 1, 0, 1, 0, 0, 1, 0, 0, 0, 1], .c [1, 1, 1, 1, 0, 1, 0, 0, 1, 0, 0, 1], .blk 1, .c [1, 1, 1, 1, 0, 1, 0, 0, 1, 1], .lp [1, 1, 1, 1, 0, 1, 0, 0], .blk 0, .c [1, 1, 1, 1, 1]] rfl ?_
          (apply j_drawK it mx 10; (· rfl); (· rfl))
          (apply lxk_run 2; (· rfl); (· simp))
          (apply lxk_pt; (· rfl); (· exact d_x fun _ => x_idx 4 (k) rfl rfl rfl sl22 rfl (by omega) fun z1 hz3 b3 o3 => (dk_ptD default hz3 0 rfl)); intro b3 o3)
          (apply lxk_sl; (· rfl); (· exact d_x fun _ => x_ld_sl 0 rfl rfl ld31 fun pa3 ca3 => (dk_sl 0 rfl)); intro pa3 ca3)
          (apply lxk_eq; (· rfl); (· exact d_x fun _ => x_len sl31 rfl dk_eq))
          (apply lxk_run 1; (· rfl); (· simp))
          (apply lxk_pt; (· rfl); (· exact d_x fun _ => x_idx 4 0 rfl rfl rfl sl22 (by omega) (by omega) fun z1 hz3 b4 o4 => (dk_ptD default hz3 0 rfl)); intro b4 o4)
          (apply lxk_sl; (· rfl); (· exact d_x fun _ => x_ld_sl 0 rfl rfl ld31 fun pa4 ca4 => (dk_sl 0 rfl)); intro pa4 ca4)
          (apply lxk_eq; (· rfl); (· exact d_x fun _ => x_len sl31 rfl dk_eq))
          (apply lxk_run 1; (· rfl); (· simp))
          refine lxk_end rfl ?_
          simp only [List.map_cons, List.map_nil, List.cons_append, List.nil_append]
          refine j_nf [.c [1, 1, 1, 1, 0, 1, 0, 0, 1, 0, 0, 0, 1], .c [1, 1, 1, 1, 0, 1, 0, 0, 1, 0, 0, 1], .blk 1, .c [1, 1, 1, 1, 0, 1, 0, 0, 1, 1], .lp [1, 1, 1, 1, 0, 1, 0, 0], .blk 0, .c [1, 1, 1, 1, 1]] rfl ?_
          refine j_ifn rfl rfl (fun h9 => ?_) (fun h9 => by exfalso; omega)
          refine j_nf [.o [1, 1, 1, 1, 0, 1, 0, 0, 1, 0, 0, 0, 1, 0, 0] 0, .c [1, 1, 1, 1, 0, 1, 0, 0, 1, 0, 0, 0, 1, 0, 1], .c [1, 1, 1, 1, 0, 1, 0, 0, 1, 0, 0, 1], .blk 1, .c [1, 1, 1, 1, 0, 1, 0, 0, 1, 1], .lp [1, 1, 1, 1, 0, 1, 0, 0], .blk 0, .c [1, 1, 1, 1, 1]] rfl ?_
          refine j_run it 1 rfl (by simp) ?_
          refine j_nf [.c [1, 1, 1, 1, 0, 1, 0, 0, 1, 0, 0, 0, 1, 0, 1], .c [1, 1, 1, 1, 0, 1, 0, 0, 1, 0, 0, 1], .blk 1, .c [1, 1, 1, 1, 0, 1, 0, 0, 1, 1], .lp [1, 1, 1, 1, 0, 1, 0, 0], .blk 0, .c [1, 1, 1, 1, 1]] rfl ?_
          refine j_giv [] rfl rfl rfl ⟨rfl, rfl, rfl⟩
      · obtain rfl : W.length = k := by omega
        rw [List.take_length] at hp
        rw [hp]
        refine j_nf [.o [1, 1, 1, 1, 0, 1, 0, 0, 0, 0] 0, .c [1, 1, 1, 1, 0, 1, 0, 0, 0, 1], .c [1, 1, 1, 1, 0, 1, 0, 0, 1], .lp [1, 1, 1, 1, 0, 1, 0, 0], .blk 0, .c [1, 1, 1, 1, 1]] rfl ?_
        refine j_run it 2 rfl (by simp) ?_
        refine j_step rfl (x_len sl22 rfl ?_)
        refine j_run it 1 rfl (by simp) ?_
        refine j_nf [.c [1, 1, 1, 1, 0, 1, 0, 0, 0, 1], .c [1, 1, 1, 1, 0, 1, 0, 0, 1], .lp [1, 1, 1, 1, 0, 1, 0, 0], .blk 0, .c [1, 1, 1, 1, 1]] rfl ?_
        refine j_if rfl rfl (fun h8 => by exfalso; omega) (fun h8 => ?_)
        refine j_nf [.o [1, 1, 1, 1, 1, 0] 0, .c [1, 1, 1, 1, 1, 1]] rfl ?_
        refine j_run it 1 rfl (by simp) ?_
        refine j_nf [.c [1, 1, 1, 1, 1, 1]] rfl ?_
        refine j_giv [] rfl rfl rfl ⟨rfl, rfl, rfl⟩

theorem S_codewrightref24_Distance {pa pb : Option Addr} {n m ca cb : Nat} {u v : List Int} (hnm : n = m) : Ctr Try.prog 32 [.slice pa n ca, .slice pb m cb] [] [slF I64 pa n ca u, slF I64 pb m cb v] (Rv (.int .i64 ((dist u v : Nat) : Int)) []) := by
  refine Ctr_of_j' (F := F_codewrightref24_Distance) rfl fun C => ?_
  refine j_len 0 rfl fun hn hb _ => ?_
  refine j_len 1 rfl fun hm _ _ => ?_
  have hb' : u.length * 8 ≤ 140737488355328 := hb
  subst hn
  refine j_nf [.o [0] 0, .c [1]] rfl ?_
  refine j_run it 1 rfl (by simp) ?_
  refine j_nf [.o [1, 0] 0, .c [1, 1]] rfl ?_
  refine j_run it 1 rfl (by simp) ?_
  refine j_nf [.o [1, 1, 0, 0] 0, .c [1, 1, 0, 1], .c [1, 1, 1]] rfl ?_
  refine j_run it 1 rfl (by simp) ?_
  refine j_nf [.c [1, 1, 0, 1, 0], .blk 0, .c [1, 1, 1]] rfl ?_
  refine j_loopG (X := Nat) [0, 1, 4] [0, 1] (fun k => [(6, .int .i64 k), (5, .int .i64 ((distP u v k : Nat) : Int))]) (fun _ => []) (fun _ => []) (fun k => k ≤ u.length) (fun k => u.length - k) 0 [] rfl rfl rfl (Nat.zero_le _) (by repeat (first | exact Fr.sub_nil _ | refine Fr.sub_cons rfl ?_)) rfl rfl ?_
  intro k hk ih
  simp only [List.cons_append, List.nil_append] at ih ⊢
  have hd := distP_le u v k
  by_cases hkl : k < u.length
  · have hkm : k < v.length := by omega
    by_cases he : u.getD k default = v.getD k default
    · have e : distP u v (k + 1) = distP u v k := by rw [distP, if_pos he]; rfl
      refine j_nf [.o [1, 1, 0, 1, 0, 0, 0, 0] 0, .c [1, 1, 0, 1, 0, 0, 0, 1], .c [1, 1, 0, 1, 0, 0, 1], .lp [1, 1, 0, 1, 0, 0], .blk 0, .c [1, 1, 1]] rfl ?_
      refine j_run it 2 rfl (by simp) ?_
      refine j_step rfl (x_len sl31 rfl ?_)
      refine j_run it 1 rfl (by simp) ?_
      refine j_nf [.c [1, 1, 0, 1, 0, 0, 0, 1], .c [1, 1, 0, 1, 0, 0, 1], .lp [1, 1, 0, 1, 0, 0], .blk 0, .c [1, 1, 1]] rfl ?_
      refine j_if rfl rfl (fun h1 => ?_) (fun h1 => by exfalso; omega)
      refine j_nf [.c [1, 1, 0, 1, 0, 0, 1, 0, 0, 0], .c [1, 1, 0, 1, 0, 0, 1, 0, 0, 1], .blk 1, .c [1, 1, 0, 1, 0, 0, 1, 1], .lp [1, 1, 0, 1, 0, 0], .blk 0, .c [1, 1, 1]] rfl ?_
      (apply j_drawK it mx 9; (· rfl); (· rfl))
      (apply lxk_run 2; (· rfl); (· simp))
      (apply lxk_pt; (· rfl); (· exact d_x fun _ => x_idx 0 (k) rfl rfl rfl sl31 rfl (by omega) fun z1 hz1 b1 o1 => (dk_ptD default hz1 0 rfl)); intro b1 o1)
      (apply lxk_eq; (· rfl); (· exact d_x fun _ => x_ld_int 0 rfl rfl ld3 fun ⟨r1, r2⟩ => dk_eq))
      (apply lxk_run 2; (· rfl); (· simp))
      (apply lxk_pt; (· rfl); (· exact d_x fun _ => x_idx 1 (k) rfl rfl rfl sl31 rfl (by omega) fun z1 hz1 b2 o2 => (dk_ptD default hz1 0 rfl)); intro b2 o2)
      (apply lxk_eq; (· rfl); (· exact d_x fun _ => x_ld_int 0 rfl rfl ld3 fun ⟨r1, r2⟩ => dk_eq))
      (apply lxk_run 1; (· rfl); (· simp))
      refine lxk_end rfl ?_
      simp only [List.map_cons, List.map_nil, List.cons_append, List.nil_append]
      refine j_nf [.c [1, 1, 0, 1, 0, 0, 1, 0, 0, 1], .blk 1, .c [1, 1, 0, 1, 0, 0, 1, 1], .lp [1, 1, 0, 1, 0, 0], .blk 0, .c [1, 1, 1]] rfl ?_
      refine j_ifn rfl rfl (fun h2 => by exfalso; omega) (fun h2 => ?_)
      refine j_nf [.o [1, 1, 0, 1, 0, 0, 1, 1] 0, .lp [1, 1, 0, 1, 0, 0], .blk 0, .c [1, 1, 1]] rfl ?_
      refine j_run it 3 rfl (by repeat' first | exact trivial | apply And.intro | omega) ?_
      refine j_nfn 1 [.lp [1, 1, 0, 1, 0, 0], .blk 0, .c [1, 1, 1]] rfl ?_
      have ih' := ih (k + 1) (by omega) (by omega)
      rw [e] at ih'
      refine j_to [2, 3] (by repeat (first | exact Fr.sub_nil _ | refine Fr.sub_cons rfl ?_ | refine Fr.sub_consI rfl (by first | omega | (dsimp only; omega)) ?_ | refine Fr.sub_consS rfl (by first | omega | (dsimp only; omega)) (by first | omega | (dsimp only; omega)) ?_)) rfl rfl (ih')
    · have e : distP u v (k + 1) = distP u v k + 1 := by rw [distP, if_neg he]
      refine j_nf [.o [1, 1, 0, 1, 0, 0, 0, 0] 0, .c [1, 1, 0, 1, 0, 0, 0, 1], .c [1, 1, 0, 1, 0, 0, 1], .lp [1, 1, 0, 1, 0, 0], .blk 0, .c [1, 1, 1]] rfl ?_
      refine j_run it 2 rfl (by simp) ?_
      refine j_step rfl (x_len sl31 rfl ?_)
      refine j_run it 1 rfl (by simp) ?_
      refine j_nf [.c [1, 1, 0, 1, 0, 0, 0, 1], .c [1, 1, 0, 1, 0, 0, 1], .lp [1, 1, 0, 1, 0, 0], .blk 0, .c [1, 1, 1]] rfl ?_
      refine j_if rfl rfl (fun h1 => ?_) (fun h1 => by exfalso; omega)
      refine j_nf [.c [1, 1, 0, 1, 0, 0, 1, 0, 0, 0], .c [1, 1, 0, 1, 0, 0, 1, 0, 0, 1], .blk 1, .c [1, 1, 0, 1, 0, 0, 1, 1], .lp [1, 1, 0, 1, 0, 0], .blk 0, .c [1, 1, 1]] rfl ?_
      (apply j_drawK it mx 9; (· rfl); (· rfl))
      (apply lxk_run 2; (· rfl); (· simp))
      (apply lxk_pt; (· rfl); (· exact d_x fun _ => x_idx 0 (k) rfl rfl rfl sl31 rfl (by omega) fun z1 hz1 b1 o1 => (dk_ptD default hz1 0 rfl)); intro b1 o1)
      (apply lxk_eq; (· rfl); (· exact d_x fun _ => x_ld_int 0 rfl rfl ld3 fun ⟨r1, r2⟩ => dk_eq))
      (apply lxk_run 2; (· rfl); (· simp))
      (apply lxk_pt; (· rfl); (· exact d_x fun _ => x_idx 1 (k) rfl rfl rfl sl31 rfl (by omega) fun z1 hz1 b2 o2 => (dk_ptD default hz1 0 rfl)); intro b2 o2)
      (apply lxk_eq; (· rfl); (· exact d_x fun _ => x_ld_int 0 rfl rfl ld3 fun ⟨r1, r2⟩ => dk_eq))
      (apply lxk_run 1; (· rfl); (· simp))
      refine lxk_end rfl ?_
      simp only [List.map_cons, List.map_nil, List.cons_append, List.nil_append]
      refine j_nf [.c [1, 1, 0, 1, 0, 0, 1, 0, 0, 1], .blk 1, .c [1, 1, 0, 1, 0, 0, 1, 1], .lp [1, 1, 0, 1, 0, 0], .blk 0, .c [1, 1, 1]] rfl ?_
      refine j_ifn rfl rfl (fun h2 => ?_) (fun h2 => by exfalso; omega)
      refine j_nf [.o [1, 1, 0, 1, 0, 0, 1, 0, 0, 1, 0] 0, .blk 1, .c [1, 1, 0, 1, 0, 0, 1, 1], .lp [1, 1, 0, 1, 0, 0], .blk 0, .c [1, 1, 1]] rfl ?_
      refine j_run it 3 rfl (by repeat' first | exact trivial | apply And.intro | omega) ?_
      refine j_nf [.o [1, 1, 0, 1, 0, 0, 1, 1] 0, .lp [1, 1, 0, 1, 0, 0], .blk 0, .c [1, 1, 1]] rfl ?_
      refine j_run it 3 rfl (by repeat' first | exact trivial | apply And.intro | omega) ?_
      refine j_nfn 1 [.lp [1, 1, 0, 1, 0, 0], .blk 0, .c [1, 1, 1]] rfl ?_
      have ih' := ih (k + 1) (by omega) (by omega)
      rw [e] at ih'
      refine j_to [2, 3] (by repeat (first | exact Fr.sub_nil _ | refine Fr.sub_cons rfl ?_ | refine Fr.sub_consI rfl (by first | omega | (dsimp only; omega)) ?_ | refine Fr.sub_consS rfl (by first | omega | (dsimp only; omega)) (by first | omega | (dsimp only; omega)) ?_)) rfl rfl (ih')
  · obtain rfl : u.length = k := by omega
    rw [← distP_all u v (by omega)]
    refine j_nf [.o [1, 1, 0, 1, 0, 0, 0, 0] 0, .c [1, 1, 0, 1, 0, 0, 0, 1], .c [1, 1, 0, 1, 0, 0, 1], .lp [1, 1, 0, 1, 0, 0], .blk 0, .c [1, 1, 1]] rfl ?_
    refine j_run it 2 rfl (by simp) ?_
    refine j_step rfl (x_len sl31 rfl ?_)
    refine j_run it 1 rfl (by simp) ?_
    refine j_nf [.c [1, 1, 0, 1, 0, 0, 0, 1], .c [1, 1, 0, 1, 0, 0, 1], .lp [1, 1, 0, 1, 0, 0], .blk 0, .c [1, 1, 1]] rfl ?_
    refine j_if rfl rfl (fun h1 => by exfalso; omega) (fun h1 => ?_)
    refine j_nf [.o [1, 1, 1, 0] 0, .c [1, 1, 1, 1]] rfl ?_
    refine j_run it 2 rfl (by simp) ?_
    refine j_nf [.c [1, 1, 1, 1]] rfl ?_
    refine j_giv [] rfl rfl rfl ⟨rfl, rfl, rfl⟩

/-- Any two words are far apart. -/
def apartP (W : List (List Int)) (d : Int) : Prop := ∀ i j, i < W.length → j < i → d ≤ (dist (W.getD i default) (W.getD j default) : Nat)
end Go.Proofs.Ytlhgkefaflpgeaa

namespace Go.Proofs.Ytlhgkefaflpgeaa
open Go Go.Fw
set_option maxRecDepth 100000
set_option linter.unusedVariables false
set_option linter.unusedSimpArgs false
def shapeOf (n : Nat) : Int := if n < 1 ∨ 65 < n then 3 else 0

theorem S_macwilliams_shape {n : Nat} : Ctr Try.prog 92 [.int .i64 n] [] [] (Rv (.int .i64 (shapeOf n)) []) := by
  refine Ctr_of_j' (F := F_macwilliams_shape) rfl fun C => ?_
  by_cases h1 : n < 1
  · refine j_nf [.o [0] 0, .c [1]] rfl ?_
    refine j_run it 1 rfl (by simp) ?_
    refine j_nf [.o [1, 0, 0] 0, .c [1, 0, 1], .c [1, 1]] rfl ?_
    refine j_run it 3 rfl (by simp) ?_
    refine j_split_dec (t := 5) rfl (fun h2 => ?_) (fun h2 => by exfalso; omega)
    refine j_run it 3 rfl (by simp) ?_
    refine j_nf [.c [1, 0, 1], .c [1, 1]] rfl ?_
    refine j_true rfl rfl ?_
    refine j_nf [.o [1, 0, 1, 0, 0] 0, .c [1, 0, 1, 0, 1], .c [1, 1]] rfl ?_
    refine j_run it 1 rfl (by simp) ?_
    refine j_nf [.c [1, 0, 1, 0, 1], .c [1, 1]] rfl ?_
    refine j_giv [] rfl rfl rfl ⟨by rw [shapeOf, if_pos (.inl h1)]; rfl, rfl, rfl⟩
  by_cases h2 : 65 < n
  · refine j_nf [.o [0] 0, .c [1]] rfl ?_
    refine j_run it 1 rfl (by simp) ?_
    refine j_nf [.o [1, 0, 0] 0, .c [1, 0, 1], .c [1, 1]] rfl ?_
    refine j_run it 3 rfl (by simp) ?_
    refine j_split_dec (t := 5) rfl (fun h3 => by exfalso; omega) (fun h3 => ?_)
    refine j_run it 3 rfl (by simp) ?_
    refine j_nf [.c [1, 0, 1], .c [1, 1]] rfl ?_
    refine j_if rfl rfl (fun h4 => ?_) (fun h4 => by exfalso; omega)
    refine j_nf [.o [1, 0, 1, 0, 0] 0, .c [1, 0, 1, 0, 1], .c [1, 1]] rfl ?_
    refine j_run it 1 rfl (by simp) ?_
    refine j_nf [.c [1, 0, 1, 0, 1], .c [1, 1]] rfl ?_
    refine j_giv [] rfl rfl rfl ⟨by rw [shapeOf, if_pos (.inr h2)]; rfl, rfl, rfl⟩
  · refine j_nf [.o [0] 0, .c [1]] rfl ?_
    refine j_run it 1 rfl (by simp) ?_
    refine j_nf [.o [1, 0, 0] 0, .c [1, 0, 1], .c [1, 1]] rfl ?_
    refine j_run it 3 rfl (by simp) ?_
    refine j_split_dec (t := 5) rfl (fun h3 => by exfalso; omega) (fun h3 => ?_)
    refine j_run it 3 rfl (by simp) ?_
    refine j_nf [.c [1, 0, 1], .c [1, 1]] rfl ?_
    refine j_if rfl rfl (fun h4 => by exfalso; omega) (fun h4 => ?_)
    refine j_nf [.o [1, 1, 0] 0, .c [1, 1, 1]] rfl ?_
    refine j_run it 1 rfl (by simp) ?_
    refine j_nf [.c [1, 1, 1]] rfl ?_
    refine j_giv [] rfl rfl rfl ⟨by rw [shapeOf, if_neg (by omega)]; rfl, rfl, rfl⟩

/-- A row longer than that. -/
def longL (m : Nat) (ls : List (List Nat)) : Bool := ls.any fun l => decide (m < l.length)
end Go.Proofs.Ytlhgkefaflpgeaa

namespace Go.Proofs.Ytlhgkefaflpgeaa
open Go Go.Fw
set_option maxRecDepth 100000
set_option linter.unusedVariables false
set_option linter.unusedSimpArgs false
set_option maxHeartbeats 2000000
/-- A number with a sign is given. -/
abbrev ZV (z : Zs) : Value → List Fact → List Blk → Prop := fun v Φ β => ∃ pa ca, v = .agg #[.bool z.1, .slice pa (limbs z.2).length ca] ∧ Φ = [slF U32 pa (limbs z.2).length ca (limbs z.2)] ∧ β = []

theorem S_macwilliams_plus {g1 g2 : Bool} {p1 p2 : Option Addr} {n1 n2 c1 c2 : Nat} {N1 N2 : List Nat} (l1 : N1.length ≤ 536870912) (l2 : N2.length ≤ 536870912) :
    Ctr Try.prog 94 [.agg #[.bool g1, .slice p1 n1 c1], .agg #[.bool g2, .slice p2 n2 c2]] [] [slF U32 p1 n1 c1 N1, slF U32 p2 n2 c2 N2] (ZV (plusZ (g1, val N1) (g2, val N2))) := by
  refine Ctr_of_j' (F := F_macwilliams_plus) rfl fun C => ?_
  refine j_len 0 rfl fun hn hba _ => ?_
  refine j_len 1 rfl fun hm hbb _ => ?_
  subst hn; subst hm
  refine j_range 0 rfl fun hra => ?_
  refine j_range 1 rfl fun hrb => ?_
  refine j_nf [.o [0] 0, .c [1]] rfl ?_
  refine j_step rfl (x_box_agg rfl fun b1 => ?_)
  refine j_step rfl (x_box_agg rfl fun b2 => ?_)
  refine j_step rfl (x_alloc zo98 fun b3 => ?_)
  refine j_nf [.o [1, 0, 0] 0, .c [1, 0, 1], .c [1, 1]] rfl ?_
  refine j_step rfl (x_field rfl fd98_0 ?_)
  refine j_step rfl (x_bld 2 rfl rfl ld4 rfl ?_)
  refine j_step rfl (x_field rfl fd98_0 ?_)
  refine j_step rfl (x_bld 1 rfl rfl ld4 rfl ?_)
  refine j_step rfl (x_eqb ub rfl rfl ?_)
  refine j_nf [.c [1, 0, 1], .c [1, 1]] rfl ?_
  refine j_cond rfl rfl (fun h1 => ?_) (fun h1 => ?_)
  · have hg : g1 = g2 := by simpa using h1
    subst hg
    have e : plusZ (g1, val N1) (g1, val N2) = (g1, val N1 + val N2) := by simp [plusZ]
    have hL : ∀ l ∈ [N1, N2], l.length ≤ 1073741824 := fun l hl => by
      rcases List.mem_cons.1 hl with rfl | hl
      · omega
      · rw [List.mem_singleton.1 hl]; omega
    have es : sumV [N1, N2] = val N1 + val N2 := by simp [sumV]
    rw [e]
    refine j_nf [.c [1, 0, 1, 0, 0], .c [1, 0, 1, 0, 1], .c [1, 1]] rfl ?_
    (apply j_drawK it mx 9; (· rfl); (· rfl))
    (apply lxk_eq; (· rfl); (· exact d_x fun _ => x_field rfl fd98_0 dk_eq))
    (apply lxk_eq; (· rfl); (· exact d_bld 2 rfl rfl ld4 rfl))
    (apply lxk_eq; (· rfl); (· exact d_x fun _ => x_field rfl fd98_1 dk_eq))
    (apply lxk_eq; (· rfl); (· exact d_bld 2 rfl rfl ld33 rfl))
    (apply lxk_eq; (· rfl); (· exact d_x fun _ => x_field rfl fd98_1 dk_eq))
    (apply lxk_eq; (· rfl); (· exact d_bld 1 rfl rfl ld33 rfl))
    (apply lxk_sl; (· rfl); (· exact d_x fun _ => x_lit sl104 zo104e rfl rfl rfl rfl (by decide) (by decide) rfl fun b4 => dk_all (E := (encSl U32)) [[Value.slice p1 N1.length c1], [Value.slice p2 N2.length c2]] [N1, N2] (fun w A hG => (allrd_cons (rd_of_slF (hG _ (fact_mem (n := 0) rfl))) (allrd_cons (rd_of_slF (hG _ (fact_mem (n := 1) rfl))) allrd_nil))) rfl rfl rfl (by decide)); intro pa1 ca1)
    (apply lxk_sl; (· rfl); (· exact d_x fun _ => x_call [0] rfl (S_nat_Add (by first | omega | exact side _ (by assumption) | assumption | rfl | (simp; done) | (simp; omega)) (by first | omega | exact side _ (by assumption) | assumption | rfl | (simp; done) | (simp; omega))) rfl (by rintro _ _ _ ⟨pa2, ca2, rfl, rfl, rfl⟩; exact (dk_sl 0 rfl))); intro pa2 ca2)
    (apply lxk_fa (val := fun g => Value.agg #[Value.bool g1, Value.slice (g 1).1 ((limbs (sumV [N1, N2])).length) (g 1).2.1]) (f := fun g => [slF (U32) (g 1).1 ((limbs (sumV [N1, N2])).length) (g 1).2.1 (limbs (sumV [N1, N2]))]); (· rfl); (· exact d_x fun _ => x_build (cs := [Value.bool g1, Value.slice pa2 (limbs (sumV [N1, N2])).length ca2]) st98 zo98 rfl rfl (fun _ _ _ hG => ⟨(fun | 1 => (pa2, ca2, 0) | _ => default), rfl, fun g hg => by (simp only [List.mem_cons, List.not_mem_nil, or_false] at hg; rcases hg with rfl; (· exact drop_own (hG _ (fact_mem (n := 0) rfl))))⟩)); intro g2; dsimp only [List.map_cons, List.map_nil])
    refine lxk_end rfl ?_
    simp only [List.map_cons, List.map_nil, List.cons_append, List.nil_append]
    refine j_step rfl (x_bst_all 0 rfl rfl rfl ld98 rfl rfl (by simp [Value.oneCell']) ?_)
    refine j_nf [.c [1, 0, 1, 0, 1], .c [1, 1]] rfl ?_
    rw [es]
    refine j_givC [0] rfl (.agg 0 rfl rfl ld98 rfl .nil) rfl ⟨_, _, rfl, rfl, rfl⟩
  · have hg : g1 ≠ g2 := by simpa using h1
    by_cases hlt : val N1 < val N2
    · have hc := cmpN_lt hlt
      have hle : val N1 ≤ val N2 := by omega
      have e : plusZ (g1, val N1) (g2, val N2) = (g2, val N2 - val N1) := by simp [plusZ, hg, hlt]
      rw [e]
      refine j_nf [.o [1, 1, 0, 0] 0, .c [1, 1, 0, 1], .c [1, 1, 1]] rfl ?_
      refine j_step rfl (x_field rfl fd98_1 ?_)
      refine j_step rfl (x_bld 2 rfl rfl ld33 rfl ?_)
      refine j_step rfl (x_field rfl fd98_1 ?_)
      refine j_step rfl (x_bld 1 rfl rfl ld33 rfl ?_)
      refine j_step rfl (x_call [0, 1] rfl (S_nat_Cmp) rfl ?_)
      rintro _ _ _ ⟨rfl, rfl, rfl⟩
      simp only [List.cons_append, List.nil_append]
      refine j_run it 1 rfl (by simp) ?_
      refine j_nf [.c [1, 1, 0, 1], .c [1, 1, 1]] rfl ?_
      refine j_if rfl rfl (fun h2 => ?_) (fun h2 => by exfalso; omega)
      refine j_nf [.o [1, 1, 0, 1, 0] 0, .c [1, 1, 1]] rfl ?_
      refine j_step rfl (x_bld_all 1 rfl rfl ld98 rfl ?_)
      refine j_step rfl (x_bld_all 2 rfl rfl ld98 rfl ?_)
      refine j_step rfl (x_bst_all 2 rfl rfl rfl ld98 rfl rfl (by simp [Value.oneCell']) ?_)
      refine j_step rfl (x_bst_all 1 rfl rfl rfl ld98 rfl rfl (by simp [Value.oneCell']) ?_)
      refine j_nf [.o [1, 1, 1, 0] 0, .c [1, 1, 1, 1]] rfl ?_
      refine j_step rfl (x_field rfl fd98_1 ?_)
      refine j_step rfl (x_bld 2 rfl rfl ld33 rfl ?_)
      refine j_step rfl (x_field rfl fd98_1 ?_)
      refine j_step rfl (x_bld 1 rfl rfl ld33 rfl ?_)
      refine j_step rfl (x_call [1, 0] rfl (S_nat_Sub (by first | omega | exact side _ (by assumption) | assumption | rfl | (simp; done) | (simp; omega))) rfl ?_)
      rintro _ _ _ ⟨pa1, ca1, rfl, rfl, rfl⟩
      simp only [List.cons_append, List.nil_append]
      refine j_run it 5 rfl (by simp) ?_
      refine j_nf [.o [1, 1, 1, 1, 0] 0, .c [1, 1, 1, 1, 1]] rfl ?_
      refine j_step rfl (x_field rfl fd98_0 ?_)
      refine j_step rfl (x_bld 2 rfl rfl ld4 rfl ?_)
      refine j_run it 1 rfl (by simp) ?_
      refine j_step rfl (x_build (cs := [Value.bool g2, Value.slice pa1 (limbs (val N2 - val N1)).length ca1]) st98 zo98 rfl rfl ?_)
      refine j_step rfl (x_bst_all 0 rfl rfl rfl ld98 rfl rfl (by simp [Value.oneCell']) ?_)
      refine j_nf [.c [1, 1, 1, 1, 1]] rfl ?_
      refine j_givC [0] rfl (.agg 0 rfl rfl ld98 rfl .nil) rfl ⟨_, _, rfl, rfl, rfl⟩
    · have hc : ¬ cmpN (val N1) (val N2) < 0 := by unfold cmpN; split <;> (try split) <;> omega
      have hle : val N2 ≤ val N1 := by omega
      have e : plusZ (g1, val N1) (g2, val N2) = (g1, val N1 - val N2) := by simp [plusZ, hg, hlt]
      rw [e]
      refine j_nf [.o [1, 1, 0, 0] 0, .c [1, 1, 0, 1], .c [1, 1, 1]] rfl ?_
      refine j_step rfl (x_field rfl fd98_1 ?_)
      refine j_step rfl (x_bld 2 rfl rfl ld33 rfl ?_)
      refine j_step rfl (x_field rfl fd98_1 ?_)
      refine j_step rfl (x_bld 1 rfl rfl ld33 rfl ?_)
      refine j_step rfl (x_call [0, 1] rfl (S_nat_Cmp) rfl ?_)
      rintro _ _ _ ⟨rfl, rfl, rfl⟩
      simp only [List.cons_append, List.nil_append]
      refine j_run it 1 rfl (by simp) ?_
      refine j_nf [.c [1, 1, 0, 1], .c [1, 1, 1]] rfl ?_
      refine j_if rfl rfl (fun h2 => by exfalso; omega) (fun h2 => ?_)
      refine j_nf [.o [1, 1, 1, 0] 0, .c [1, 1, 1, 1]] rfl ?_
      refine j_step rfl (x_field rfl fd98_1 ?_)
      refine j_step rfl (x_bld 2 rfl rfl ld33 rfl ?_)
      refine j_step rfl (x_field rfl fd98_1 ?_)
      refine j_step rfl (x_bld 1 rfl rfl ld33 rfl ?_)
      refine j_step rfl (x_call [0, 1] rfl (S_nat_Sub (by first | omega | exact side _ (by assumption) | assumption | rfl | (simp; done) | (simp; omega))) rfl ?_)
      rintro _ _ _ ⟨pa1, ca1, rfl, rfl, rfl⟩
      simp only [List.cons_append, List.nil_append]
      refine j_run it 5 rfl (by simp) ?_
      refine j_nf [.o [1, 1, 1, 1, 0] 0, .c [1, 1, 1, 1, 1]] rfl ?_
      refine j_step rfl (x_field rfl fd98_0 ?_)
      refine j_step rfl (x_bld 2 rfl rfl ld4 rfl ?_)
      refine j_run it 1 rfl (by simp) ?_
      refine j_step rfl (x_build (cs := [Value.bool g1, Value.slice pa1 (limbs (val N1 - val N2)).length ca1]) st98 zo98 rfl rfl ?_)
      refine j_step rfl (x_bst_all 0 rfl rfl rfl ld98 rfl rfl (by simp [Value.oneCell']) ?_)
      refine j_nf [.c [1, 1, 1, 1, 1]] rfl ?_
      refine j_givC [0] rfl (.agg 0 rfl rfl ld98 rfl .nil) rfl ⟨_, _, rfl, rfl, rfl⟩

theorem S_macwilliams_minus {g1 g2 : Bool} {p1 p2 : Option Addr} {n1 n2 c1 c2 : Nat} {N1 N2 : List Nat} (l1 : N1.length ≤ 536870912) (l2 : N2.length ≤ 536870912) :
    Ctr Try.prog 102 [.agg #[.bool g1, .slice p1 n1 c1], .agg #[.bool g2, .slice p2 n2 c2]] [] [slF U32 p1 n1 c1 N1, slF U32 p2 n2 c2 N2] (ZV (minusZ (g1, val N1) (g2, val N2))) := by
  refine Ctr_of_j' (F := F_macwilliams_minus) rfl fun C => ?_
  refine j_nf [.o [0] 0, .c [1]] rfl ?_
  refine j_step rfl (x_box_agg rfl fun b1 => ?_)
  refine j_step rfl (x_box_agg rfl fun b2 => ?_)
  refine j_step rfl (x_alloc zo98 fun b3 => ?_)
  refine j_nf [.o [1, 0] 0, .c [1, 1]] rfl ?_
  refine j_step rfl (x_bld_all 2 rfl rfl ld98 rfl ?_)
  refine j_step rfl (x_field rfl fd98_0 ?_)
  refine j_step rfl (x_bld 1 rfl rfl ld4 rfl ?_)
  refine j_run it 1 rfl (by simp) ?_
  refine j_step rfl (x_field rfl fd98_1 ?_)
  refine j_step rfl (x_bld 1 rfl rfl ld33 rfl ?_)
  refine j_step rfl (x_build (cs := [Value.bool !g2, Value.slice p2 n2 c2]) st98 zo98 rfl rfl ?_)
  refine j_step rfl (x_call [0, 1] rfl (S_macwilliams_plus (by first | omega | exact side _ (by assumption) | assumption | rfl | (simp; done) | (simp; omega)) (by first | omega | exact side _ (by assumption) | assumption | rfl | (simp; done) | (simp; omega))) rfl ?_)
  rintro _ _ _ ⟨pa1, ca1, rfl, rfl, rfl⟩
  simp only [List.cons_append, List.nil_append]
  refine j_step rfl (x_bst_all 0 rfl rfl rfl ld98 rfl rfl (by simp [Value.oneCell']) ?_)
  refine j_nf [.c [1, 1]] rfl ?_
  refine j_givC [0] rfl (.agg 0 rfl rfl ld98 rfl .nil) rfl ⟨_, _, rfl, rfl, rfl⟩

theorem S_macwilliams_times {g1 g2 : Bool} {p1 p2 : Option Addr} {n1 n2 c1 c2 : Nat} {N1 N2 : List Nat} (l1 : N1.length ≤ 536870912) (l2 : N2.length ≤ 536870912) :
    Ctr Try.prog 95 [.agg #[.bool g1, .slice p1 n1 c1], .agg #[.bool g2, .slice p2 n2 c2]] [] [slF U32 p1 n1 c1 N1, slF U32 p2 n2 c2 N2] (ZV (timesZ (g1, val N1) (g2, val N2))) := by
  refine Ctr_of_j' (F := F_macwilliams_times) rfl fun C => ?_
  have hL : lenS [N1, N2] ≤ 1073741824 := by simp [lenS]; omega
  have es : prodV [N1, N2] = val N1 * val N2 := by simp [prodV]
  have e : timesZ (g1, val N1) (g2, val N2) = (g1 != g2, val N1 * val N2) := rfl
  rw [e]
  refine j_nf [.o [0] 0, .c [1]] rfl ?_
  refine j_step rfl (x_box_agg rfl fun b1 => ?_)
  refine j_step rfl (x_box_agg rfl fun b2 => ?_)
  refine j_step rfl (x_alloc zo98 fun b3 => ?_)
  refine j_nf [.c [1, 0], .c [1, 1]] rfl ?_
  (apply j_drawK it mx 12; (· rfl); (· rfl))
  (apply lxk_eq; (· rfl); (· exact d_x fun _ => x_field rfl fd98_0 dk_eq))
  (apply lxk_eq; (· rfl); (· exact d_bld 2 rfl rfl ld4 rfl))
  (apply lxk_eq; (· rfl); (· exact d_x fun _ => x_field rfl fd98_0 dk_eq))
  (apply lxk_eq; (· rfl); (· exact d_bld 1 rfl rfl ld4 rfl))
  (apply lxk_eq; (· rfl); (· exact d_x fun _ => x_neb ub rfl rfl dk_eq))
  (apply lxk_eq; (· rfl); (· exact d_x fun _ => x_field rfl fd98_1 dk_eq))
  (apply lxk_eq; (· rfl); (· exact d_bld 2 rfl rfl ld33 rfl))
  (apply lxk_eq; (· rfl); (· exact d_x fun _ => x_field rfl fd98_1 dk_eq))
  (apply lxk_eq; (· rfl); (· exact d_bld 1 rfl rfl ld33 rfl))
  (apply lxk_sl; (· rfl); (· exact d_x fun _ => x_lit sl104 zo104e rfl rfl rfl rfl (by decide) (by decide) rfl fun b4 => dk_all (E := (encSl U32)) [[Value.slice p1 n1 c1], [Value.slice p2 n2 c2]] [N1, N2] (fun w A hG => (allrd_cons (rd_of_slF (hG _ (fact_mem (n := 0) rfl))) (allrd_cons (rd_of_slF (hG _ (fact_mem (n := 1) rfl))) allrd_nil))) rfl rfl rfl (by decide)); intro pa1 ca1)
  (apply lxk_sl; (· rfl); (· exact d_x fun _ => x_call [0] rfl (S_nat_Mul (by first | omega | exact side _ (by assumption) | assumption | rfl | (simp; done) | (simp; omega))) rfl (by rintro _ _ _ ⟨pa2, ca2, rfl, rfl, rfl⟩; exact (dk_sl 0 rfl))); intro pa2 ca2)
  (apply lxk_fa (val := fun g => Value.agg #[Value.bool (g1 != g2), Value.slice (g 1).1 ((limbs (prodV [N1, N2])).length) (g 1).2.1]) (f := fun g => [slF (U32) (g 1).1 ((limbs (prodV [N1, N2])).length) (g 1).2.1 (limbs (prodV [N1, N2]))]); (· rfl); (· exact d_x fun _ => x_build (cs := [Value.bool (g1 != g2), Value.slice pa2 (limbs (prodV [N1, N2])).length ca2]) st98 zo98 rfl rfl (fun _ _ _ hG => ⟨(fun | 1 => (pa2, ca2, 0) | _ => default), rfl, fun g hg => by (simp only [List.mem_cons, List.not_mem_nil, or_false] at hg; rcases hg with rfl; (· exact drop_own (hG _ (fact_mem (n := 0) rfl))))⟩)); intro g3; dsimp only [List.map_cons, List.map_nil])
  refine lxk_end rfl ?_
  simp only [List.map_cons, List.map_nil, List.cons_append, List.nil_append]
  refine j_step rfl (x_bst_all 0 rfl rfl rfl ld98 rfl rfl (by simp [Value.oneCell']) ?_)
  refine j_nf [.c [1, 1]] rfl ?_
  rw [es]
  refine j_givC [0] rfl (.agg 0 rfl rfl ld98 rfl .nil) rfl ⟨_, _, rfl, rfl, rfl⟩

theorem S_macwilliams_small {n : Nat} (hn : n < 9223372036854775808) : Ctr Try.prog 101 [.int .i64 n] [] [] (ZV (false, n)) := by
  refine Ctr_of_j' (F := F_macwilliams_small) rfl fun C => ?_
  refine j_nf [.o [0] 0, .c [1]] rfl ?_
  refine j_step rfl (x_alloc zo98 fun b1 => ?_)
  refine j_nf [.o [1, 0] 0, .c [1, 1]] rfl ?_
  refine j_run it 2 rfl (by repeat' first | exact trivial | apply And.intro | omega) ?_
  refine j_step rfl (x_call [] rfl (S_nat_Of (by first | omega | exact side _ (by assumption) | assumption | rfl | (simp; done) | (simp; omega))) rfl ?_)
  rintro _ _ _ ⟨pa1, ca1, rfl, rfl, rfl⟩
  simp only [List.cons_append, List.nil_append]
  refine j_step rfl (x_build (cs := [Value.bool false, Value.slice pa1 (limbs n).length ca1]) st98 zo98 rfl rfl ?_)
  refine j_step rfl (x_bst_all 0 rfl rfl rfl ld98 rfl rfl (by simp [Value.oneCell']) ?_)
  refine j_nf [.c [1, 1]] rfl ?_
  refine j_givC [0] rfl (.agg 0 rfl rfl ld98 rfl .nil) rfl ⟨_, _, rfl, rfl, rfl⟩

theorem S_macwilliams_ratio {g : Bool} {pn pd : Option Addr} {n m cn cd : Nat} {N D : List Nat} (hN : N.length ≤ 1073741824) (hD : D.length ≤ 1073741824) :
    Ctr Try.prog 86 [.agg #[.bool g, .slice pn n cn], .slice pd m cd] [] [slF U32 pn n cn N, slF U32 pd m cd D] (RtV (rt (vq (g, N, D)))) := by
  refine Ctr_of_j' (F := F_macwilliams_ratio) rfl fun C => ?_
  refine j_nf [.o [0] 0, .c [1]] rfl ?_
  refine j_step rfl (x_box_agg rfl fun b1 => ?_)
  refine j_step rfl (x_alloc zo35 fun b2 => ?_)
  refine j_nf [.o [1, 0] 0, .c [1, 1]] rfl ?_
  refine j_step rfl (x_field rfl fd98_0 ?_)
  refine j_step rfl (x_bld 1 rfl rfl ld4 rfl ?_)
  refine j_step rfl (x_field rfl fd98_1 ?_)
  refine j_step rfl (x_bld 1 rfl rfl ld33 rfl ?_)
  refine j_run it 1 rfl (by simp) ?_
  refine j_step rfl (x_build (cs := [Value.bool g, Value.slice pn n cn, Value.slice pd m cd]) st35 zo35 rfl rfl ?_)
  refine j_step rfl (x_call [0, 1] rfl (S_rational_Trim (by first | omega | exact side _ (by assumption) | assumption | rfl | (simp; done) | (simp; omega)) (by first | omega | exact side _ (by assumption) | assumption | rfl | (simp; done) | (simp; omega))) rfl ?_)
  rintro _ _ _ ⟨pn1, cn1, pd1, cd1, rfl, rfl, rfl⟩
  simp only [List.cons_append, List.nil_append]
  refine j_step rfl (x_bst_all 0 rfl rfl rfl ld35 rfl rfl (by simp [Value.oneCell']) ?_)
  refine j_nf [.c [1, 1]] rfl ?_
  refine j_givC [0, 1] rfl (.agg 0 rfl rfl ld35 rfl .nil) rfl ⟨_, _, _, _, rfl, rfl, rfl⟩
end Go.Proofs.Ytlhgkefaflpgeaa

namespace Go.Proofs.Ytlhgkefaflpgeaa
open Go Go.Fw
set_option maxRecDepth 100000
set_option linter.unusedVariables false
set_option linter.unusedSimpArgs false
set_option maxHeartbeats 1000000
theorem S_nat_Binomial {n k : Nat} (hn : n ≤ 4096) : Ctr Try.prog 99 [.int .i64 n, .int .i64 k] [] [] (S2 U32 (limbs (binom n k)) 0) := by
  refine Ctr_of_j' (F := F_nat_Binomial) rfl fun C => ?_
  have e1 : limbs (binom n 0) = [1] := by rw [binom_zero, limbs_one]
  by_cases hkn : n < k
  · have hz : limbs (binom n k) = [] := by rw [binom_gt n k hkn, limbs_zero]
    refine j_nf [.o [0] 0, .c [1]] rfl ?_
    refine j_run it 2 rfl (by simp) ?_
    refine j_nf [.o [1, 0, 0] 0, .c [1, 0, 1], .c [1, 1]] rfl ?_
    refine j_run it 6 rfl (by simp) ?_
    refine j_nf [.c [1, 0, 1], .c [1, 1]] rfl ?_
    refine j_if rfl rfl (fun h1 => by exfalso; omega) (fun h1 => ?_)
    refine j_nf [.o [1, 1, 0, 0] 0, .c [1, 1, 0, 1], .c [1, 1, 1]] rfl ?_
    refine j_run it 7 rfl (by simp) ?_
    refine j_nf [.c [1, 1, 0, 1], .c [1, 1, 1]] rfl ?_
    refine j_if rfl rfl (fun h2 => ?_) (fun h2 => by exfalso; omega)
    refine j_nf [.o [1, 1, 0, 1, 0, 0] 0, .c [1, 1, 0, 1, 0, 1], .c [1, 1, 1]] rfl ?_
    refine j_run it 2 rfl (by simp) ?_
    refine j_nf [.c [1, 1, 0, 1, 0, 1], .c [1, 1, 1]] rfl ?_
    refine j_add (slF U32 none 0 0 []) (fun w A _ => slF_nil _ _ _ _ _) ?_
    refine j_giv [0] rfl rfl rfl ⟨_, _, by rw [hz]; rfl, by rw [hz]; rfl, rfl⟩
  have hk : k ≤ n := by omega
  refine j_nf [.o [0] 0, .c [1]] rfl ?_
  refine j_run it 2 rfl (by simp) ?_
  refine j_nf [.o [1, 0, 0] 0, .c [1, 0, 1], .c [1, 1]] rfl ?_
  refine j_run it 6 rfl (by simp) ?_
  refine j_nf [.c [1, 0, 1], .c [1, 1]] rfl ?_
  refine j_if rfl rfl (fun h1 => by exfalso; omega) (fun h1 => ?_)
  refine j_nf [.o [1, 1, 0, 0] 0, .c [1, 1, 0, 1], .c [1, 1, 1]] rfl ?_
  refine j_run it 7 rfl (by simp) ?_
  refine j_nf [.c [1, 1, 0, 1], .c [1, 1, 1]] rfl ?_
  refine j_if rfl rfl (fun h2 => by exfalso; omega) (fun h2 => ?_)
  refine j_nf [.o [1, 1, 1, 0] 0, .c [1, 1, 1, 1]] rfl ?_
  refine j_step rfl (x_lit sl33 zo33e rfl rfl rfl rfl (by decide) (by decide) rfl fun b1 => ?_)
  refine j_run it 1 rfl (by simp) ?_
  refine j_nf [.o [1, 1, 1, 1, 0, 0] 0, .c [1, 1, 1, 1, 0, 1], .c [1, 1, 1, 1, 1]] rfl ?_
  refine j_pub_made (n := 1) (kd := .u32) 4 [1] 0 rfl rfl (by simp [InR]) (by decide) (by decide) ?_
  obtain ⟨M, hM, hMk, hMb⟩ : ∃ M : Nat, (if ((n : Int) - k) < k then ((n : Int) - k) else (k : Int)) = M ∧ M ≤ n ∧ binom n M = binom n k := by
    refine ⟨if n - k < k then n - k else k, ?_, ?_, binom_min hk⟩
    · split <;> split <;> omega
    · split <;> omega
  refine j_run it 4 rfl (by repeat' first | exact trivial | apply And.intro | omega) ?_
  refine j_step rfl (x_min rfl rfl ?_)
  refine j_run it 1 rfl (by simp) ?_
  refine j_nf [.c [1, 1, 1, 1, 0, 1, 0], .blk 0, .c [1, 1, 1, 1, 1]] rfl ?_
  refine j_loopN (X := Nat × Option Addr × Nat) (fun x => [(0, .int .i64 n), (6, .slice x.2.1 (limbs (binom n x.1)).length x.2.2), (26, .int .i64 M), (27, .int .i64 x.1)])
    (fun _ => []) (fun x => [slF U32 x.2.1 (limbs (binom n x.1)).length x.2.2 (limbs (binom n x.1))])
    (fun x => x.1 ≤ M) (fun x => M - x.1) (0, some ⟨b1, 0, none⟩, 1) [0] rfl (Nat.zero_le _) (by simp only [e1]; repeat (first | exact Fr.sub_nil _ | refine Fr.sub_cons rfl ?_ | refine Fr.sub_consI rfl (by first | omega | exact hM) ?_)) rfl (by simp only [e1]; rfl) ?_
  rintro ⟨i, pa, ca⟩ hi ih
  simp only at hi ih ⊢
  have hlen := binom_len hn i
  by_cases hiM : i < M
  · refine j_nf [.o [1, 1, 1, 1, 0, 1, 0, 0, 0] 0, .c [1, 1, 1, 1, 0, 1, 0, 0, 1], .lp [1, 1, 1, 1, 0, 1, 0, 0], .blk 0, .c [1, 1, 1, 1, 1]] rfl ?_
    refine j_run it 1 rfl (by simp) ?_
    refine j_nf [.c [1, 1, 1, 1, 0, 1, 0, 0, 1, 0], .c [1, 1, 1, 1, 0, 1, 0, 0, 1, 1], .lp [1, 1, 1, 1, 0, 1, 0, 0], .blk 0, .c [1, 1, 1, 1, 1]] rfl ?_
    refine j_if rfl rfl (fun h3 => ?_) (fun h3 => by exfalso; omega)
    refine j_nf [.o [1, 1, 1, 1, 0, 1, 0, 0, 1, 1, 0, 0, 0] 0, .c [1, 1, 1, 1, 0, 1, 0, 0, 1, 1, 0, 0, 1], .blk 1, .c [1, 1, 1, 1, 0, 1, 0, 0, 1, 1, 1], .lp [1, 1, 1, 1, 0, 1, 0, 0], .blk 0, .c [1, 1, 1, 1, 1]] rfl ?_
    refine j_run it 2 rfl (by simp) ?_
    refine j_nf [.o [1, 1, 1, 1, 0, 1, 0, 0, 1, 1, 0, 0, 1] 0, .blk 1, .c [1, 1, 1, 1, 0, 1, 0, 0, 1, 1, 1], .lp [1, 1, 1, 1, 0, 1, 0, 0], .blk 0, .c [1, 1, 1, 1, 1]] rfl ?_
    refine j_run it 5 rfl (by repeat' first | exact trivial | apply And.intro | omega) ?_
    refine j_step rfl (x_lit sl33 zo33e rfl rfl rfl rfl (by decide) (by decide) rfl fun b2 => ?_) --ok
    rw [show ((n : Int) - i) = ((n - i : Nat) : Int) by omega]
    refine j_pub_made (n := 1) (kd := .u32) 4 [n - i] 0 rfl rfl (by simp [InR]; omega) (by decide) (by decide) ?_
    have v1 : val (limbs (binom n i)) * val [n - i] = binom n i * (n - i) := by rw [val_limbs]; simp [val]
    refine j_step rfl (x_call [1, 0] rfl (S_nat_times (by first | omega | exact side _ (by assumption) | assumption | rfl | (simp; done) | (simp; omega)) (by first | omega | exact side _ (by assumption) | assumption | rfl | (simp; done) | (simp; omega))) rfl ?_)
    rintro _ _ _ ⟨pa1, ca1, rfl, rfl, rfl⟩
    simp only [List.cons_append, List.nil_append]
    refine j_run it 3 rfl (by repeat' first | exact trivial | apply And.intro | omega) ?_
    refine j_recast (t := 40) ((((i) + 1) : Nat) : Int) rfl (by omega) ?_
    refine j_step rfl (x_call [0] rfl (S_nat_digit (by first | omega | exact side _ (by assumption) | assumption | rfl | (simp; done) | (simp; omega)) (by first | omega | exact side _ (by assumption) | assumption | rfl | (simp; done) | (simp; omega))) rfl ?_)
    rintro _ _ _ ⟨pa2, ca2, rfl, rfl, rfl⟩
    simp only [List.cons_append, List.nil_append]
    refine j_run it 4 rfl (by simp) ?_
    refine j_nf [.o [1, 1, 1, 1, 0, 1, 0, 0, 1, 1, 1] 0, .lp [1, 1, 1, 1, 0, 1, 0, 0], .blk 0, .c [1, 1, 1, 1, 1]] rfl ?_
    refine j_run it 2 rfl (by repeat' first | exact trivial | apply And.intro | omega) ?_
    refine j_nfn 1 [.lp [1, 1, 1, 1, 0, 1, 0, 0], .blk 0, .c [1, 1, 1, 1, 1]] rfl ?_ --ok
    rw [v1, show ((i : Int) + 1) = ((i + 1 : Nat) : Int) by omega]
    skip
    simp only [val_limbs, binom_next (show i ≤ n by omega)]
    refine j_to [0] (by repeat (first | exact Fr.sub_nil _ | refine Fr.sub_cons rfl ?_ | refine Fr.sub_consI rfl (by first | omega | (dsimp only; omega)) ?_ | refine Fr.sub_consS rfl (by first | omega | (dsimp only; omega)) (by first | omega | (dsimp only; omega)) ?_)) rfl rfl (ih (i + 1, pa2, ca2) (by simp only; omega) (by simp only; omega))
  · refine j_nf [.o [1, 1, 1, 1, 0, 1, 0, 0, 0] 0, .c [1, 1, 1, 1, 0, 1, 0, 0, 1], .lp [1, 1, 1, 1, 0, 1, 0, 0], .blk 0, .c [1, 1, 1, 1, 1]] rfl ?_
    refine j_run it 1 rfl (by simp) ?_
    refine j_nf [.c [1, 1, 1, 1, 0, 1, 0, 0, 1, 0], .c [1, 1, 1, 1, 0, 1, 0, 0, 1, 1], .lp [1, 1, 1, 1, 0, 1, 0, 0], .blk 0, .c [1, 1, 1, 1, 1]] rfl ?_
    refine j_if rfl rfl (fun h3 => by exfalso; omega) (fun h3 => ?_)
    refine j_nf [.o [1, 1, 1, 1, 1, 0] 0, .c [1, 1, 1, 1, 1, 1]] rfl ?_
    refine j_run it 1 rfl (by simp) ?_
    refine j_step rfl (x_call [0] rfl (S_nat_Trim) rfl ?_)
    rintro _ _ _ ⟨pa1, ca1, rfl, rfl, rfl⟩
    simp only [List.cons_append, List.nil_append]
    refine j_run it 2 rfl (by simp) ?_
    refine j_nf [.c [1, 1, 1, 1, 1, 1]] rfl ?_
    have e : i = M := by omega
    rw [trim_limbs, e, hMb]
    refine j_giv [0] rfl rfl rfl ⟨_, _, rfl, rfl, rfl⟩
end Go.Proofs.Ytlhgkefaflpgeaa
