/-
The negatives of a row of fractions, the program's and the document's.
-/
import Derived.Test.YtpoonnjaobjdgaaFuns
import Derived.Test.YtpoonnjaobjdgaaNatMath
import Derived.Test.YtpoonnjaobjdgaaNatMath5
import Derived.Test.YtpoonnjaobjdgaaRatMath
import Derived.Test.YtpoonnjaobjdgaaA1
import Derived.Test.YtpoonnjaobjdgaaD1
import Derived.Test.YtpoonnjaobjdgaaD3
import Derived.Test.YtpoonnjaobjdgaaE1
namespace Go.Proofs.Ytpoonnjaobjdgaa
open Go Go.Fw
set_option maxRecDepth 100000
set_option linter.unusedVariables false
set_option maxHeartbeats 2000000
/-- The canonical negative. -/
def negR (r : Rt) : Rt := rt (-vq r)

theorem allrd_snoc {α : Type} {E : Enc α} {w : World} {A : Nat → Prop} {vss : List (List Value)} {l : List α} {vs : List Value} {x : α} (h : AllRd E vss l w A) (hx : E.rd w A vs x) : AllRd E (vss ++ [vs]) (l ++ [x]) w A := by
  refine ⟨by simp [h.1], fun i us y hu hy => ?_⟩
  by_cases hi : i < l.length
  · rw [List.getElem?_append_left (by rw [h.1]; exact hi)] at hu
    rw [List.getElem?_append_left hi] at hy
    exact h.2 i us y hu hy
  · have hi2 : i < (l ++ [x]).length := (List.getElem?_eq_some_iff.1 hy).1
    have e : i = l.length := by simp at hi2; omega
    subst e
    rw [List.getElem?_append_right (by rw [h.1]; omega), h.1, Nat.sub_self] at hu
    rw [List.getElem?_append_right (by omega), Nat.sub_self] at hy
    simp at hu hy
    subst hu; subst hy
    exact hx

theorem S_simplex_negative {pa : Option Addr} {n ca : Nat} {L : List Rt} (hL : ∀ r ∈ L, r.2.1.length ≤ 1073741824 ∧ r.2.2.length ≤ 1073741824) (hn : L.length ≤ 1073741824) :
    Ctr Try.prog 12 [.slice pa n ca] [] [slF RatE pa n ca L] (Sv RatE (L.map negR)) := by
  refine Ctr_of_j' (F := F_simplex_negative) rfl fun C => ?_
  refine j_len 0 rfl fun e1 hba _ => ?_
  subst e1
  refine j_nf [.o [0] 0, .c [1]] rfl ?_
  refine j_run it 1 rfl (by simp) ?_
  refine j_nf [.o [1, 0] 0, .c [1, 1]] rfl ?_
  refine j_run it 1 rfl (by simp) ?_
  refine j_nf [.o [1, 1, 0, 0] 0, .c [1, 1, 0, 1], .c [1, 1, 1]] rfl ?_
  refine j_run it 1 rfl (by simp) ?_
  refine j_step rfl (x_len sl22 rfl ?_)
  refine j_run it 1 rfl (by simp) ?_
  refine j_nf [.c [1, 1, 0, 1, 0], .blk 0, .c [1, 1, 1]] rfl ?_
  refine j_nil 37 ?_
  refine j_add (allF RatE [] []) (fun w A _ => allrd_nil) ?_
  refine j_loopG (X := Nat × List (List Value) × Option Nat × Nat × List Value) [2, 6, 7] [1] (fun x => [(3, .slice (ad x.2.2.1) x.1 x.2.2.2.1), (8, .int .i64 x.1)]) (fun x => [(x.2.2.1, 37, x.2.2.2.2)]) (fun x => [allF RatE x.2.1 ((L.take x.1).map negR)])
    (fun x => x.1 ≤ L.length ∧ GrOk x.2.2.1 x.1 x.2.2.2.1 3 x.2.2.2.2 ∧ x.2.2.2.2.take (x.1 * 3) = x.2.1.flatten) (fun x => L.length - x.1) (0, [], none, 0, []) [0] rfl rfl rfl ⟨Nat.zero_le _, GrOk.nil _, by simp⟩ (by repeat (first | exact Fr.sub_nil _ | refine Fr.sub_cons rfl ?_)) rfl rfl ?_
  rintro ⟨k, vss, bo, cap, cs⟩ ⟨hk, hg, ht⟩ ih
  simp only [List.cons_append, List.nil_append] at hk hg ht ih ⊢
  by_cases hkl : k < L.length
  · refine j_nf [.o [1, 1, 0, 1, 0, 0, 0] 0, .c [1, 1, 0, 1, 0, 0, 1], .lp [1, 1, 0, 1, 0, 0], .blk 0, .c [1, 1, 1]] rfl ?_
    refine j_run it 1 rfl (by simp) ?_
    refine j_nf [.c [1, 1, 0, 1, 0, 0, 1, 0], .c [1, 1, 0, 1, 0, 0, 1, 1], .lp [1, 1, 0, 1, 0, 0], .blk 0, .c [1, 1, 1]] rfl ?_
    refine j_if rfl rfl (fun h1 => ?_) (fun h1 => by exfalso; omega)
    refine j_nf [.o [1, 1, 0, 1, 0, 0, 1, 1, 0, 0, 0] 0, .c [1, 1, 0, 1, 0, 0, 1, 1, 0, 0, 1], .blk 1, .c [1, 1, 0, 1, 0, 0, 1, 1, 1], .lp [1, 1, 0, 1, 0, 0], .blk 0, .c [1, 1, 1]] rfl ?_
    refine j_step rfl (x_idx 1 (k) rfl rfl rfl sl22 rfl (by omega) fun z1 hz1 b1 o1 => ?_)
    refine j_step rfl (x_ld_rt 0 rfl rfl ld37 fun pa1 ca1 pa2 ca2 => ?_)
    refine j_step rfl (x_alloc zo37 fun b2 => ?_)
    refine j_step rfl (x_bst_all 0 rfl rfl rfl ld37 rfl rfl (by simp [Value.oneCell']) ?_)
    refine j_nf [.o [1, 1, 0, 1, 0, 0, 1, 1, 0, 0, 1] 0, .blk 1, .c [1, 1, 0, 1, 0, 0, 1, 1, 1], .lp [1, 1, 0, 1, 0, 0], .blk 0, .c [1, 1, 1]] rfl ?_
    refine j_run it 1 rfl (by simp) ?_
    refine j_step rfl (x_bld_all 0 rfl rfl ld37 rfl ?_) --ok
    have hz := hL z1 (List.mem_of_getElem? hz1)
    obtain ⟨hz2, hz3⟩ := hz
    refine j_step rfl (x_call [0, 1] rfl (S_rational_Neg (by first | omega | exact side _ (by assumption) | assumption | rfl | (simp; done) | (simp; omega)) (by first | omega | exact side _ (by assumption) | assumption | rfl | (simp; done) | (simp; omega))) rfl ?_)
    rintro _ _ _ ⟨pn1, cn1, pd1, cd1, rfl, rfl, rfl⟩
    simp only [List.cons_append, List.nil_append]
    refine j_step rfl (x_lit sl22 zo22e rfl rfl rfl rfl (by decide) (by decide) rfl fun b3 => ?_)
    refine j_step rfl (x_app 2 0 rfl rfl rfl rfl sl22 zo22e rfl (by first | exact GrOk.nil _ | assumption | exact .inr ⟨_, rfl, Nat.le_refl _, by omega, rfl⟩) rfl rfl (by first | (simp [Value.oneCell']; done) | (simp [Value.oneCell', cellsL]; done) | (intro u hu; rcases List.mem_singleton.1 hu with rfl; rfl)) (by omega) _ by22e (by omega) fun bo1 cap1 cs1 hg1 ht1 => ?_)
    refine j_run it 1 rfl (by simp) ?_
    refine j_nf [.o [1, 1, 0, 1, 0, 0, 1, 1, 1] 0, .lp [1, 1, 0, 1, 0, 0], .blk 0, .c [1, 1, 1]] rfl ?_
    refine j_run it 2 rfl (by repeat' first | exact trivial | apply And.intro | omega) ?_
    refine j_nfn 1 [.lp [1, 1, 0, 1, 0, 0], .blk 0, .c [1, 1, 1]] rfl ?_
    have em : (L.take (k + 1)).map negR = (L.take k).map negR ++ [negR z1] := by rw [List.take_add_one, hz1]; simp
    refine j_add (allF RatE (vss ++ [[Value.bool (negR z1).1, Value.slice pn1 (negR z1).2.1.length cn1, Value.slice pd1 (negR z1).2.2.length cd1]]) ((L.take (k + 1)).map negR)) (fun w A hG => by
      rw [em]
      exact allrd_snoc (hG _ (fact_mem (n := 5) rfl)) (rd_rt (hG _ (fact_mem (n := 0) rfl)) (hG _ (fact_mem (n := 1) rfl)))) ?_
    refine j_toM [true, false, false] [0, 7] (by repeat (first | exact Fr.sub_nil _ | refine Fr.sub_cons rfl ?_ | refine Fr.sub_consI rfl (by first | omega | (dsimp only; omega)) ?_ | refine Fr.sub_consS rfl (by first | omega | (dsimp only; omega)) (by first | omega | (dsimp only; omega)) ?_)) rfl rfl (ih (k + 1, vss ++ [[Value.bool (negR z1).1, Value.slice pn1 (negR z1).2.1.length cn1, Value.slice pd1 (negR z1).2.2.length cd1]], bo1, cap1, cs1) (by dsimp only; omega) ⟨by dsimp only; omega, hg1, by dsimp only; rw [ht1, ht, List.flatten_append]; rfl⟩)
  · have ek : k = L.length := by omega
    subst ek
    rw [List.take_length]
    refine j_nf [.o [1, 1, 0, 1, 0, 0, 0] 0, .c [1, 1, 0, 1, 0, 0, 1], .lp [1, 1, 0, 1, 0, 0], .blk 0, .c [1, 1, 1]] rfl ?_
    refine j_run it 1 rfl (by simp) ?_
    refine j_nf [.c [1, 1, 0, 1, 0, 0, 1, 0], .c [1, 1, 0, 1, 0, 0, 1, 1], .lp [1, 1, 0, 1, 0, 0], .blk 0, .c [1, 1, 1]] rfl ?_
    refine j_if rfl rfl (fun h1 => by exfalso; omega) (fun h1 => ?_)
    refine j_nf [.o [1, 1, 1, 0] 0, .c [1, 1, 1, 1]] rfl ?_
    refine j_run it 2 rfl (by simp) ?_
    refine j_nf [.c [1, 1, 1, 1]] rfl ?_
    refine j_pub (E := RatE) (n := L.length) 0 0 rfl rfl hg ht (by simp) (by show L.length * 56 ≤ _; omega) ?_
    refine j_giv [0] rfl rfl rfl ⟨_, _, by rw [List.length_map]; rfl, by rw [List.length_map], rfl⟩

theorem S_codewrightref35_negative {pa : Option Addr} {n ca : Nat} {L : List Rt} (hL : ∀ r ∈ L, r.2.1.length ≤ 1073741824 ∧ r.2.2.length ≤ 1073741824) (hn : L.length ≤ 1073741824) :
    Ctr Try.prog 15 [.slice pa n ca] [] [slF RatE pa n ca L] (Sv RatE (L.map negR)) := by
  refine Ctr_of_j' (F := F_codewrightref35_negative) rfl fun C => ?_
  refine j_len 0 rfl fun e1 hba _ => ?_
  subst e1
  refine j_nf [.o [0] 0, .c [1]] rfl ?_
  refine j_run it 1 rfl (by simp) ?_
  refine j_nf [.o [1, 0] 0, .c [1, 1]] rfl ?_
  refine j_run it 1 rfl (by simp) ?_
  refine j_nf [.o [1, 1, 0, 0] 0, .c [1, 1, 0, 1], .c [1, 1, 1]] rfl ?_
  refine j_run it 1 rfl (by simp) ?_
  refine j_nf [.c [1, 1, 0, 1, 0], .blk 0, .c [1, 1, 1]] rfl ?_
  refine j_nil 37 ?_
  refine j_add (allF RatE [] []) (fun w A _ => allrd_nil) ?_
  refine j_loopG (X := Nat × List (List Value) × Option Nat × Nat × List Value) [0, 2] [1] (fun x => [(3, .slice (ad x.2.2.1) x.1 x.2.2.2.1), (4, .int .i64 x.1)]) (fun x => [(x.2.2.1, 37, x.2.2.2.2)]) (fun x => [allF RatE x.2.1 ((L.take x.1).map negR)])
    (fun x => x.1 ≤ L.length ∧ GrOk x.2.2.1 x.1 x.2.2.2.1 3 x.2.2.2.2 ∧ x.2.2.2.2.take (x.1 * 3) = x.2.1.flatten) (fun x => L.length - x.1) (0, [], none, 0, []) [0] rfl rfl rfl ⟨Nat.zero_le _, GrOk.nil _, by simp⟩ (by repeat (first | exact Fr.sub_nil _ | refine Fr.sub_cons rfl ?_)) rfl rfl ?_
  rintro ⟨k, vss, bo, cap, cs⟩ ⟨hk, hg, ht⟩ ih
  simp only [List.cons_append, List.nil_append] at hk hg ht ih ⊢
  by_cases hkl : k < L.length
  · refine j_nf [.o [1, 1, 0, 1, 0, 0, 0, 0] 0, .c [1, 1, 0, 1, 0, 0, 0, 1], .c [1, 1, 0, 1, 0, 0, 1], .lp [1, 1, 0, 1, 0, 0], .blk 0, .c [1, 1, 1]] rfl ?_
    refine j_run it 2 rfl (by simp) ?_
    refine j_step rfl (x_len sl22 rfl ?_)
    refine j_run it 1 rfl (by simp) ?_
    refine j_nf [.c [1, 1, 0, 1, 0, 0, 0, 1], .c [1, 1, 0, 1, 0, 0, 1], .lp [1, 1, 0, 1, 0, 0], .blk 0, .c [1, 1, 1]] rfl ?_
    refine j_if rfl rfl (fun h1 => ?_) (fun h1 => by exfalso; omega)
    refine j_nf [.o [1, 1, 0, 1, 0, 0, 1, 0, 0] 0, .blk 1, .c [1, 1, 0, 1, 0, 0, 1, 1], .lp [1, 1, 0, 1, 0, 0], .blk 0, .c [1, 1, 1]] rfl ?_
    refine j_run it 3 rfl (by simp) ?_
    refine j_step rfl (x_idx 1 (k) rfl rfl rfl sl22 rfl (by omega) fun z1 hz1 b1 o1 => ?_)
    refine j_step rfl (x_ld_rt 0 rfl rfl ld37 fun pa1 ca1 pa2 ca2 => ?_) --ok
    have hz := hL z1 (List.mem_of_getElem? hz1)
    obtain ⟨hz2, hz3⟩ := hz
    refine j_step rfl (x_call [0, 1] rfl (S_codewrightref02_Neg (by first | omega | exact side _ (by assumption) | assumption | rfl | (simp; done) | (simp; omega)) (by first | omega | exact side _ (by assumption) | assumption | rfl | (simp; done) | (simp; omega))) rfl ?_)
    rintro _ _ _ ⟨pn1, cn1, pd1, cd1, rfl, rfl, rfl⟩
    simp only [List.cons_append, List.nil_append]
    refine j_step rfl (x_lit sl22 zo22e rfl rfl rfl rfl (by decide) (by decide) rfl fun b2 => ?_)
    refine j_step rfl (x_app 1 0 rfl rfl rfl rfl sl22 zo22e rfl (by first | exact GrOk.nil _ | assumption | exact .inr ⟨_, rfl, Nat.le_refl _, by omega, rfl⟩) rfl rfl (by first | (simp [Value.oneCell']; done) | (simp [Value.oneCell', cellsL]; done) | (intro u hu; rcases List.mem_singleton.1 hu with rfl; rfl)) (by omega) _ by22e (by omega) fun bo1 cap1 cs1 hg1 ht1 => ?_)
    refine j_run it 1 rfl (by simp) ?_
    refine j_nf [.o [1, 1, 0, 1, 0, 0, 1, 1] 0, .lp [1, 1, 0, 1, 0, 0], .blk 0, .c [1, 1, 1]] rfl ?_
    refine j_run it 3 rfl (by repeat' first | exact trivial | apply And.intro | omega) ?_
    refine j_nfn 1 [.lp [1, 1, 0, 1, 0, 0], .blk 0, .c [1, 1, 1]] rfl ?_
    have em : (L.take (k + 1)).map negR = (L.take k).map negR ++ [negR z1] := by rw [List.take_add_one, hz1]; simp
    refine j_add (allF RatE (vss ++ [[Value.bool (negR z1).1, Value.slice pn1 (negR z1).2.1.length cn1, Value.slice pd1 (negR z1).2.2.length cd1]]) ((L.take (k + 1)).map negR)) (fun w A hG => by
      rw [em]
      exact allrd_snoc (hG _ (fact_mem (n := 5) rfl)) (rd_rt (hG _ (fact_mem (n := 0) rfl)) (hG _ (fact_mem (n := 1) rfl)))) ?_
    refine j_toM [true, false] [0, 7] (by repeat (first | exact Fr.sub_nil _ | refine Fr.sub_cons rfl ?_ | refine Fr.sub_consI rfl (by first | omega | (dsimp only; omega)) ?_ | refine Fr.sub_consS rfl (by first | omega | (dsimp only; omega)) (by first | omega | (dsimp only; omega)) ?_)) rfl rfl (ih (k + 1, vss ++ [[Value.bool (negR z1).1, Value.slice pn1 (negR z1).2.1.length cn1, Value.slice pd1 (negR z1).2.2.length cd1]], bo1, cap1, cs1) (by dsimp only; omega) ⟨by dsimp only; omega, hg1, by dsimp only; rw [ht1, ht, List.flatten_append]; rfl⟩)
  · have ek : k = L.length := by omega
    subst ek
    rw [List.take_length]
    refine j_nf [.o [1, 1, 0, 1, 0, 0, 0, 0] 0, .c [1, 1, 0, 1, 0, 0, 0, 1], .c [1, 1, 0, 1, 0, 0, 1], .lp [1, 1, 0, 1, 0, 0], .blk 0, .c [1, 1, 1]] rfl ?_
    refine j_run it 2 rfl (by simp) ?_
    refine j_step rfl (x_len sl22 rfl ?_)
    refine j_run it 1 rfl (by simp) ?_
    refine j_nf [.c [1, 1, 0, 1, 0, 0, 0, 1], .c [1, 1, 0, 1, 0, 0, 1], .lp [1, 1, 0, 1, 0, 0], .blk 0, .c [1, 1, 1]] rfl ?_
    refine j_if rfl rfl (fun h1 => by exfalso; omega) (fun h1 => ?_)
    refine j_nf [.o [1, 1, 1, 0] 0, .c [1, 1, 1, 1]] rfl ?_
    refine j_run it 2 rfl (by simp) ?_
    refine j_nf [.c [1, 1, 1, 1]] rfl ?_
    refine j_pub (E := RatE) (n := L.length) 0 0 rfl rfl hg ht (by simp) (by show L.length * 56 ≤ _; omega) ?_
    refine j_giv [0] rfl rfl rfl ⟨_, _, by rw [List.length_map]; rfl, by rw [List.length_map], rfl⟩
end Go.Proofs.Ytpoonnjaobjdgaa
