/-
The document's binomial coefficient.
-/
import Derived.Test.YtonjgeikppiodaaFuns
import Derived.Test.YtonjgeikppiodaaNatMath
import Derived.Test.YtonjgeikppiodaaNatMath2
import Derived.Test.YtonjgeikppiodaaNatMath3
import Derived.Test.YtonjgeikppiodaaNatMath4
import Derived.Test.YtonjgeikppiodaaA1
import Derived.Test.YtonjgeikppiodaaA2
import Derived.Test.YtonjgeikppiodaaA3
import Derived.Test.YtonjgeikppiodaaA4
import Derived.Test.YtonjgeikppiodaaB1
import Derived.Test.YtonjgeikppiodaaB2
import Derived.Test.YtonjgeikppiodaaB3
namespace Go.Proofs.Ytonjgeikppiodaa
open Go Go.Fw
set_option maxRecDepth 100000
set_option linter.unusedVariables false
set_option maxHeartbeats 400000
theorem limbs_two {n : Nat} (h : n < 18446744073709551616) : (limbs n).length ≤ 2 := limbs_length_le (by simpa using h)

theorem mul_len {x y L K : Nat} (hx : x < 4294967296 ^ L) (hy : y < 4294967296 ^ K) : (limbs (x * y)).length ≤ L + K := by
  refine limbs_length_le ?_
  rw [Nat.pow_add]
  rcases Nat.eq_zero_or_pos y with h0 | h0
  · subst h0; rw [Nat.mul_zero]; exact Nat.mul_pos (Nat.pow_pos (by decide)) (Nat.pow_pos (by decide))
  · exact Nat.lt_of_lt_of_le (Nat.mul_lt_mul_of_pos_right hx h0) (Nat.mul_le_mul_left _ (Nat.le_of_lt hy))

theorem S_codewrightref01_small {pa : Option Addr} {m ca : Nat} {a : List Nat} {n d : Nat} (ha : a.length ≤ 1073741824) (hn : n < 4294967296) (hd : 0 < d) (hdB : d < 4294967296) :
    Ctr Try.prog 31 [.slice pa m ca, .int .i64 n, .int .i64 d] [] [slF U32 pa m ca a] (Sv U32 (limbs (val a * n / d))) := by
  refine Ctr_of_j' (F := F_codewrightref01_small) rfl fun C => ?_
  refine j_len 0 rfl fun hm _ _ => ?_
  subst hm
  refine j_range 0 rfl fun hra => ?_
  have hra' : ∀ x ∈ a, x < 4294967296 := fun x hx => by have := hra x hx; simp only [InR] at this; omega
  have h2 := limbs_two (show n < 18446744073709551616 by omega)
  have hlen : (limbs (val a * val (limbs n))).length ≤ a.length + 2 := mul_len (val_lt hra') (limbs_le_length (by rw [val_limbs]; exact h2))
  have hpr := limbs_lt (val a * val (limbs n))
  have hpv : val (limbs (val a * val (limbs n))) = val a * n := by rw [val_limbs, val_limbs]
  clear hra
  refine j_nf [.o [0] 0, .c [1]] rfl ?_
  refine j_run it 1 rfl (by simp) ?_
  refine j_nf [.o [1, 0] 0, .c [1, 1]] rfl ?_
  refine j_run it 3 rfl (by repeat' first | exact trivial | apply And.intro | omega) ?_
  refine j_step rfl (x_call [] rfl (S_codewrightref01_Of (by first | omega | exact side _ (by assumption) | assumption | (simp; done) | (simp; omega))) rfl ?_)
  rintro _ _ _ ⟨pa1, ca1, rfl, rfl, rfl⟩
  simp only [List.cons_append, List.nil_append]
  refine j_step rfl (x_call [1, 0] rfl (S_codewrightref01_Mul (by first | omega | exact side _ (by assumption) | assumption | (simp; done) | (simp; omega)) (by first | omega | exact side _ (by assumption) | assumption | (simp; done) | (simp; omega))) rfl ?_)
  rintro _ _ _ ⟨pa2, ca2, rfl, rfl, rfl⟩
  simp only [List.cons_append, List.nil_append]
  refine j_run it 1 rfl (by simp) ?_
  refine j_nf [.o [1, 1, 0] 0, .c [1, 1, 1]] rfl ?_
  refine j_run it 1 rfl (by simp) ?_
  refine j_step rfl (x_len sl25 rfl ?_)
  refine j_step rfl (x_make_nat ((limbs (val a * val (limbs n))).length) _ rfl rfl sl25 zo25e by25e (by omega) (by omega) (by omega) fun b1 => ?_)
  refine j_run it 1 rfl (by simp) ?_
  refine j_nf [.o [1, 1, 1, 0] 0, .c [1, 1, 1, 1]] rfl ?_
  refine j_run it 1 rfl (by simp) ?_
  refine j_nf [.o [1, 1, 1, 1, 0, 0] 0, .c [1, 1, 1, 1, 0, 1], .c [1, 1, 1, 1, 1]] rfl ?_
  refine j_run it 1 rfl (by simp) ?_
  refine j_step rfl (x_len sl25 rfl ?_)
  refine j_run it 2 rfl (by repeat' first | exact trivial | apply And.intro | omega) ?_
  refine j_nf [.c [1, 1, 1, 1, 0, 1, 0], .blk 0, .c [1, 1, 1, 1, 1]] rfl ?_
  generalize limbs (val a * val (limbs n)) = p at hlen hpr hpv ⊢
  refine j_loopN (X := Nat × Nat × List Nat) (fun x => [(0, .slice pa2 p.length ca2), (2, .int .i64 d), (7, .slice (some ⟨b1, 0, none⟩) p.length p.length), (8, .int .u64 x.2.1), (9, .int .i64 ((x.1 : Int) - 1))])
    (fun x => [(some b1, 38, natCells .u32 x.2.2)]) (fun _ => [slF U32 pa2 p.length ca2 p])
    (fun x => x.1 ≤ p.length ∧ x.2.2.length = p.length ∧ x.2.1 < d ∧ (∀ y ∈ x.2.2, y < 4294967296) ∧ val (p.drop x.1) = val (x.2.2.drop x.1) * d + x.2.1)
    (fun x => x.1) (p.length, 0, List.replicate p.length 0) [0] rfl ⟨Nat.le_refl _, by simp, hd, rep_lt (by decide), by simp [val]⟩ (by repeat (first | exact Fr.sub_nil _ | refine Fr.sub_cons rfl ?_)) rfl rfl ?_
  rintro ⟨k, r, out⟩ ⟨hk, hl, hr, ho, hv⟩ ih
  simp only at hk hl hr ho hv ih ⊢
  by_cases hk0 : 0 < k
  · refine j_nf [.o [1, 1, 1, 1, 0, 1, 0, 0, 0, 0] 0, .c [1, 1, 1, 1, 0, 1, 0, 0, 0, 1], .c [1, 1, 1, 1, 0, 1, 0, 0, 1], .lp [1, 1, 1, 1, 0, 1, 0, 0], .blk 0, .c [1, 1, 1, 1, 1]] rfl ?_
    refine j_run it 2 rfl (by simp) ?_
    refine j_nf [.c [1, 1, 1, 1, 0, 1, 0, 0, 0, 1], .c [1, 1, 1, 1, 0, 1, 0, 0, 1], .lp [1, 1, 1, 1, 0, 1, 0, 0], .blk 0, .c [1, 1, 1, 1, 1]] rfl ?_
    refine j_if rfl rfl (fun h1 => ?_) (fun h1 => by exfalso; omega)
    refine j_nf [.o [1, 1, 1, 1, 0, 1, 0, 0, 1, 0, 0, 0] 0, .c [1, 1, 1, 1, 0, 1, 0, 0, 1, 0, 0, 1], .blk 1, .c [1, 1, 1, 1, 0, 1, 0, 0, 1, 1], .lp [1, 1, 1, 1, 0, 1, 0, 0], .blk 0, .c [1, 1, 1, 1, 1]] rfl ?_
    refine j_run it 4 rfl (by repeat' first | exact trivial | apply And.intro | omega) ?_
    refine j_step rfl (x_idx 0 ((k) - 1) rfl rfl rfl sl25 (by omega) (by omega) fun z1 hz1 b2 o1 => ?_)
    refine j_step rfl (x_ld_nat 0 rfl rfl ld38 fun ⟨r1, r2⟩ => ?_)
    refine j_run it 3 rfl (by repeat' first | exact trivial | apply And.intro | omega) ?_
    refine j_nf [.o [1, 1, 1, 1, 0, 1, 0, 0, 1, 0, 0, 1, 0] 0, .c [1, 1, 1, 1, 0, 1, 0, 0, 1, 0, 0, 1, 1], .blk 1, .c [1, 1, 1, 1, 0, 1, 0, 0, 1, 1], .lp [1, 1, 1, 1, 0, 1, 0, 0], .blk 0, .c [1, 1, 1, 1, 1]] rfl ?_
    refine j_run it 6 rfl (by repeat' first | exact trivial | apply And.intro | omega) ?_
    refine j_step rfl (x_conv_u32 it rfl rfl rfl ?_)
    refine j_step rfl (x_idx_own ((k) - 1) ((k) - 1) rfl rfl sl25 (by omega) (by omega) (Nat.mul_one _) ?_)
    refine j_step rfl (x_bst_nat 0 (((((r) * 4294967296) + (z1)) / (d)) % 4294967296) rfl rfl rfl ld38 (by first | rfl | omega) (by first | omega | (simp; omega)) ?_)
    refine j_nf [.o [1, 1, 1, 1, 0, 1, 0, 0, 1, 0, 0, 1, 1] 0, .blk 1, .c [1, 1, 1, 1, 0, 1, 0, 0, 1, 1], .lp [1, 1, 1, 1, 0, 1, 0, 0], .blk 0, .c [1, 1, 1, 1, 1]] rfl ?_
    refine j_run it 5 rfl (by repeat' first | exact trivial | apply And.intro | omega) ?_
    refine j_nf [.o [1, 1, 1, 1, 0, 1, 0, 0, 1, 1] 0, .lp [1, 1, 1, 1, 0, 1, 0, 0], .blk 0, .c [1, 1, 1, 1, 1]] rfl ?_
    refine j_run it 3 rfl (by repeat' first | exact trivial | apply And.intro | omega) ?_
    refine j_nfn 1 [.lp [1, 1, 1, 1, 0, 1, 0, 0], .blk 0, .c [1, 1, 1, 1, 1]] rfl ?_
    have hz : z1 < 4294967296 := hpr z1 (List.mem_of_getElem? hz1)
    have hq := div_lt' (x := z1) hr hz
    refine j_to [1] (by repeat (first | exact Fr.sub_nil _ | refine Fr.sub_cons rfl ?_ | refine Fr.sub_consI rfl (by omega) ?_ | refine Fr.sub_consS rfl (by omega) (by omega) ?_)) rfl rfl (ih (k - 1, (r * 4294967296 + z1) % d, out.set (k - 1) ((r * 4294967296 + z1) / d % 4294967296)) (by simp only; omega) ⟨by simp only; omega, by simpa using hl, Nat.mod_lt _ hd, set_lt ho (by omega), by
      simp only
      rw [Nat.mod_eq_of_lt hq]
      have e : k - 1 + 1 = k := by omega
      have hz1' : p[k - 1]? = some z1 := by first | exact hz1 | simpa using hz1
      rw [val_drop hz1', val_set_drop (by omega), e]
      exact div_step hv hd⟩)
  · refine j_nf [.o [1, 1, 1, 1, 0, 1, 0, 0, 0, 0] 0, .c [1, 1, 1, 1, 0, 1, 0, 0, 0, 1], .c [1, 1, 1, 1, 0, 1, 0, 0, 1], .lp [1, 1, 1, 1, 0, 1, 0, 0], .blk 0, .c [1, 1, 1, 1, 1]] rfl ?_
    refine j_run it 2 rfl (by simp) ?_
    refine j_nf [.c [1, 1, 1, 1, 0, 1, 0, 0, 0, 1], .c [1, 1, 1, 1, 0, 1, 0, 0, 1], .lp [1, 1, 1, 1, 0, 1, 0, 0], .blk 0, .c [1, 1, 1, 1, 1]] rfl ?_
    refine j_if rfl rfl (fun h1 => by exfalso; omega) (fun h1 => ?_)
    refine j_nf [.o [1, 1, 1, 1, 1, 0] 0, .c [1, 1, 1, 1, 1, 1]] rfl ?_
    refine j_run it 1 rfl (by simp) ?_
    refine j_pub32 (n := p.length) 0 rfl (by simp [*]) (by first | assumption | exact set_all (by assumption) (by omega) | (simp; omega)) (by omega) ?_
    refine j_step rfl (x_call [0] rfl (S_codewrightref01_Trim) rfl ?_)
    rintro _ _ _ ⟨pa3, ca3, rfl, rfl, rfl⟩
    simp only [List.cons_append, List.nil_append]
    refine j_run it 1 rfl (by simp) ?_
    refine j_nf [.c [1, 1, 1, 1, 1, 1]] rfl ?_
    have e : k = 0 := by omega
    subst e
    simp only [List.drop_zero] at hv
    have h1 : val p / d = val out := by rw [hv, Nat.mul_comm, Nat.mul_add_div hd, Nat.div_eq_of_lt hr, Nat.add_zero]
    rw [trim_eq ho, ← h1, hpv]
    refine j_giv [0] rfl rfl rfl ⟨_, _, rfl, rfl, rfl⟩
end Go.Proofs.Ytonjgeikppiodaa
