/-
The document's fractions compared as data.
-/
import Derived.Test.YtpoonnjaobjdgaaFuns
import Derived.Test.YtpoonnjaobjdgaaNatMath
import Derived.Test.YtpoonnjaobjdgaaNatMath5
import Derived.Test.YtpoonnjaobjdgaaRatMath
import Derived.Test.YtpoonnjaobjdgaaA1
import Derived.Test.YtpoonnjaobjdgaaB1
import Derived.Test.YtpoonnjaobjdgaaD3
namespace Go.Proofs.Ytpoonnjaobjdgaa
open Go Go.Fw
set_option maxRecDepth 100000
set_option linter.unusedVariables false
set_option maxHeartbeats 2000000
theorem take_eq_stepG {α : Type} [Inhabited α] {a b : List α} {k : Nat} (h : a.take k = b.take k) (ha : k < a.length) (hb : k < b.length) (e : a.getD k default = b.getD k default) : a.take (k + 1) = b.take (k + 1) := by
  rw [List.take_add_one, List.take_add_one, h, get_some (dflt := default) ha, get_some (dflt := default) hb, e]

theorem S_codewrightref02_Same {g1 g2 : Bool} {pn1 pd1 pn2 pd2 : Option Addr} {n1 m1 n2 m2 cn1 cd1 cn2 cd2 : Nat} {N1 D1 N2 D2 : List Nat} :
    Ctr Try.prog 19 [.agg #[.bool g1, .slice pn1 n1 cn1, .slice pd1 m1 cd1], .agg #[.bool g2, .slice pn2 n2 cn2, .slice pd2 m2 cd2]] [] [slF U32 pn1 n1 cn1 N1, slF U32 pd1 m1 cd1 D1, slF U32 pn2 n2 cn2 N2, slF U32 pd2 m2 cd2 D2] (Rv (.bool (decide ((g1, N1, D1) = (g2, N2, D2)))) []) := by
  refine Ctr_of_j' (F := F_codewrightref02_Same) rfl fun C => ?_
  refine j_nf [.o [0] 0, .c [1]] rfl ?_
  refine j_step rfl (x_box_agg rfl fun b1 => ?_)
  refine j_step rfl (x_box_agg rfl fun b2 => ?_)
  refine j_run it 1 rfl (by simp) ?_
  refine j_nf [.o [1, 0] 0, .c [1, 1]] rfl ?_
  refine j_step rfl (x_field rfl fd37_0 ?_)
  refine j_step rfl (x_bld 1 rfl rfl ld4 rfl ?_)
  refine j_step rfl (x_field rfl fd37_0 ?_)
  refine j_step rfl (x_bld 0 rfl rfl ld4 rfl ?_)
  refine j_step rfl (x_eqb ub rfl rfl ?_)
  refine j_run it 1 rfl (by simp) ?_
  refine j_split (t := 10) rfl (fun h1 => ?_) (fun h1 => ?_)
  · have hg : g1 = g2 := by simpa using h1
    refine j_gstep rfl rfl (x_field rfl fd37_1 ?_)
    refine j_gstep rfl rfl (x_bld 1 rfl rfl ld35 rfl ?_)
    refine j_gstep rfl rfl (x_field rfl fd37_1 ?_)
    refine j_gstep rfl rfl (x_bld 0 rfl rfl ld35 rfl ?_)
    refine j_gstep rfl rfl (x_call [0, 2] rfl (S_codewrightref01_Same) rfl ?_)
    rintro _ _ _ ⟨rfl, rfl, rfl⟩
    simp only [List.cons_append, List.nil_append]
    refine j_run it 2 rfl (by simp) ?_
    refine j_split_dec (t := 17) rfl (fun h2 => ?_) (fun h2 => ?_)
    · refine j_gstep rfl rfl (x_field rfl fd37_2 ?_)
      refine j_gstep rfl rfl (x_bld 1 rfl rfl ld35 rfl ?_)
      refine j_gstep rfl rfl (x_field rfl fd37_2 ?_)
      refine j_gstep rfl rfl (x_bld 0 rfl rfl ld35 rfl ?_)
      refine j_gstep rfl rfl (x_call [1, 3] rfl (S_codewrightref01_Same) rfl ?_)
      rintro _ _ _ ⟨rfl, rfl, rfl⟩
      simp only [List.cons_append, List.nil_append]
      refine j_run it 2 rfl (by simp) ?_
      refine j_nf [.c [1, 1]] rfl ?_
      refine j_giv [] rfl rfl rfl ⟨by subst hg; subst h2; simp [resVal], rfl, rfl⟩
    · refine j_run it 7 rfl (by simp) ?_
      refine j_nf [.c [1, 1]] rfl ?_
      refine j_giv [] rfl rfl rfl ⟨by rw [decide_eq_false (fun h => h2 (by injection h with _ h; injection h))]; rfl, rfl, rfl⟩
  · have hg : g1 ≠ g2 := by simpa using h1
    refine j_run it 14 rfl (by simp) ?_
    refine j_nf [.c [1, 1]] rfl ?_
    refine j_giv [] rfl rfl rfl ⟨by rw [decide_eq_false (fun h => hg (by injection h))]; rfl, rfl, rfl⟩

theorem S_codewrightref02_SameList {pa pb : Option Addr} {n m ca cb : Nat} {a b : List Rt} : Ctr Try.prog 14 [.slice pa n ca, .slice pb m cb] [] [slF RatE pa n ca a, slF RatE pb m cb b] (Rv (.bool (decide (a = b))) []) := by
  refine Ctr_of_j' (F := F_codewrightref02_SameList) rfl fun C => ?_
  refine j_len 0 rfl fun hn hba _ => ?_
  refine j_len 1 rfl fun hm _ _ => ?_
  subst hn; subst hm
  have hba' : a.length * 56 ≤ 140737488355328 := hba
  by_cases hl : a.length = b.length
  · refine j_nf [.o [0] 0, .c [1]] rfl ?_
    refine j_run it 1 rfl (by simp) ?_
    refine j_nf [.o [1, 0, 0] 0, .c [1, 0, 1], .c [1, 1]] rfl ?_
    refine j_run it 1 rfl (by simp) ?_
    refine j_step rfl (x_len sl22 rfl ?_)
    refine j_run it 1 rfl (by simp) ?_
    refine j_step rfl (x_len sl22 rfl ?_)
    refine j_run it 1 rfl (by simp) ?_
    refine j_nf [.c [1, 0, 1], .c [1, 1]] rfl ?_
    refine j_ifn rfl rfl (fun h1 => by exfalso; omega) (fun h1 => ?_)
    refine j_nf [.o [1, 1, 0, 0] 0, .c [1, 1, 0, 1], .c [1, 1, 1]] rfl ?_
    refine j_run it 1 rfl (by simp) ?_
    refine j_nf [.c [1, 1, 0, 1, 0], .blk 0, .c [1, 1, 1]] rfl ?_
    refine j_loopG (X := Nat) [0, 1] [0, 1] (fun k => [(5, .int .i64 k)]) (fun _ => []) (fun _ => []) (fun k => k ≤ a.length ∧ a.take k = b.take k) (fun k => a.length - k) 0 [] rfl rfl rfl ⟨Nat.zero_le _, by simp⟩ (by repeat (first | exact Fr.sub_nil _ | refine Fr.sub_cons rfl ?_)) rfl rfl ?_
    intro k ⟨hk, ht⟩ ih
    simp only [List.cons_append, List.nil_append] at ih ⊢
    by_cases hkl : k < a.length
    · have hx := get_some (l := a) (i := k) (dflt := default) hkl
      have hy := get_some (l := b) (i := k) (dflt := default) (by omega)
      refine j_nf [.o [1, 1, 0, 1, 0, 0, 0, 0] 0, .c [1, 1, 0, 1, 0, 0, 0, 1], .c [1, 1, 0, 1, 0, 0, 1], .lp [1, 1, 0, 1, 0, 0], .blk 0, .c [1, 1, 1]] rfl ?_
      refine j_run it 2 rfl (by simp) ?_
      refine j_step rfl (x_len sl22 rfl ?_)
      refine j_run it 1 rfl (by simp) ?_
      refine j_nf [.c [1, 1, 0, 1, 0, 0, 0, 1], .c [1, 1, 0, 1, 0, 0, 1], .lp [1, 1, 0, 1, 0, 0], .blk 0, .c [1, 1, 1]] rfl ?_
      refine j_if rfl rfl (fun h2 => ?_) (fun h2 => by exfalso; omega)
      refine j_nf [.c [1, 1, 0, 1, 0, 0, 1, 0, 0, 0], .c [1, 1, 0, 1, 0, 0, 1, 0, 0, 1], .blk 1, .c [1, 1, 0, 1, 0, 0, 1, 1], .lp [1, 1, 0, 1, 0, 0], .blk 0, .c [1, 1, 1]] rfl ?_
      (apply j_drawK it mx 10; (· rfl); (· rfl))
      (apply lxk_run 2; (· rfl); (· simp))
      (apply lxk_pt; (· rfl); (· exact d_x fun _ => x_idx 0 (k) rfl rfl rfl sl22 rfl (by omega) fun z1 hz1 b1 o1 => (dk_ptD default hz1 0 rfl)); intro b1 o1)
      (apply lxk_rq; (· rfl); (· exact d_x fun _ => x_ld_rt 0 rfl rfl ld37 fun pa1 ca1 pa2 ca2 => (dk_rq 0 1 rfl rfl)); intro pn1 cn1 pd1 cd1)
      (apply lxk_run 2; (· rfl); (· simp))
      (apply lxk_pt; (· rfl); (· exact d_x fun _ => x_idx 1 (k) rfl rfl rfl sl22 rfl (by omega) fun z1 hz1 b2 o2 => (dk_ptD default hz1 0 rfl)); intro b2 o2)
      (apply lxk_rq; (· rfl); (· exact d_x fun _ => x_ld_rt 0 rfl rfl ld37 fun pa1 ca1 pa2 ca2 => (dk_rq 0 1 rfl rfl)); intro pn2 cn2 pd2 cd2)
      (apply lxk_eq; (· rfl); (· exact d_x fun _ => x_call [3, 4, 0, 1] rfl (S_codewrightref02_Same) rfl (by rintro _ _ _ ⟨rfl, rfl, rfl⟩; exact dk_eq)))
      (apply lxk_run 1; (· rfl); (· simp))
      refine lxk_end rfl ?_
      simp only [List.map_cons, List.map_nil, List.cons_append, List.nil_append]
      refine j_nf [.c [1, 1, 0, 1, 0, 0, 1, 0, 0, 1], .blk 1, .c [1, 1, 0, 1, 0, 0, 1, 1], .lp [1, 1, 0, 1, 0, 0], .blk 0, .c [1, 1, 1]] rfl ?_
      refine j_ifn rfl rfl (fun h3 => ?_) (fun h3 => ?_)
      · refine j_nf [.o [1, 1, 0, 1, 0, 0, 1, 0, 0, 1, 0, 0] 0, .c [1, 1, 0, 1, 0, 0, 1, 0, 0, 1, 0, 1], .blk 1, .c [1, 1, 0, 1, 0, 0, 1, 1], .lp [1, 1, 0, 1, 0, 0], .blk 0, .c [1, 1, 1]] rfl ?_
        refine j_run it 1 rfl (by simp) ?_
        refine j_nf [.c [1, 1, 0, 1, 0, 0, 1, 0, 0, 1, 0, 1], .blk 1, .c [1, 1, 0, 1, 0, 0, 1, 1], .lp [1, 1, 0, 1, 0, 0], .blk 0, .c [1, 1, 1]] rfl ?_
        refine j_giv [] rfl rfl rfl ⟨by rw [decide_eq_false (fun e => by subst e; exact absurd rfl ‹¬ _›)]; rfl, rfl, rfl⟩
      · refine j_nf [.o [1, 1, 0, 1, 0, 0, 1, 1] 0, .lp [1, 1, 0, 1, 0, 0], .blk 0, .c [1, 1, 1]] rfl ?_
        refine j_run it 3 rfl (by repeat' first | exact trivial | apply And.intro | omega) ?_
        refine j_nfn 1 [.lp [1, 1, 0, 1, 0, 0], .blk 0, .c [1, 1, 1]] rfl ?_
        refine j_to [6, 7] (by repeat (first | exact Fr.sub_nil _ | refine Fr.sub_cons rfl ?_ | refine Fr.sub_consI rfl (by first | omega | (dsimp only; omega)) ?_ | refine Fr.sub_consS rfl (by first | omega | (dsimp only; omega)) (by first | omega | (dsimp only; omega)) ?_)) rfl rfl (ih (k + 1) (by omega) ⟨by omega, take_eq_stepG ht hkl (by omega) ‹_›⟩)
    · refine j_nf [.o [1, 1, 0, 1, 0, 0, 0, 0] 0, .c [1, 1, 0, 1, 0, 0, 0, 1], .c [1, 1, 0, 1, 0, 0, 1], .lp [1, 1, 0, 1, 0, 0], .blk 0, .c [1, 1, 1]] rfl ?_
      refine j_run it 2 rfl (by simp) ?_
      refine j_step rfl (x_len sl22 rfl ?_)
      refine j_run it 1 rfl (by simp) ?_
      refine j_nf [.c [1, 1, 0, 1, 0, 0, 0, 1], .c [1, 1, 0, 1, 0, 0, 1], .lp [1, 1, 0, 1, 0, 0], .blk 0, .c [1, 1, 1]] rfl ?_
      refine j_if rfl rfl (fun h2 => by exfalso; omega) (fun h2 => ?_)
      refine j_nf [.o [1, 1, 1, 0] 0, .c [1, 1, 1, 1]] rfl ?_
      refine j_run it 1 rfl (by simp) ?_
      refine j_nf [.c [1, 1, 1, 1]] rfl ?_
      have e : a = b := by
        have e1 : k = a.length := by omega
        rw [e1, List.take_length, hl, List.take_length] at ht
        exact ht
      refine j_giv [] rfl rfl rfl ⟨by rw [decide_eq_true e]; rfl, rfl, rfl⟩
  · refine j_nf [.o [0] 0, .c [1]] rfl ?_
    refine j_run it 1 rfl (by simp) ?_
    refine j_nf [.o [1, 0, 0] 0, .c [1, 0, 1], .c [1, 1]] rfl ?_
    refine j_run it 1 rfl (by simp) ?_
    refine j_step rfl (x_len sl22 rfl ?_)
    refine j_run it 1 rfl (by simp) ?_
    refine j_step rfl (x_len sl22 rfl ?_)
    refine j_run it 1 rfl (by simp) ?_
    refine j_nf [.c [1, 0, 1], .c [1, 1]] rfl ?_
    refine j_ifn rfl rfl (fun h1 => ?_) (fun h1 => by exfalso; omega)
    refine j_nf [.o [1, 0, 1, 0, 0] 0, .c [1, 0, 1, 0, 1], .c [1, 1]] rfl ?_
    refine j_run it 1 rfl (by simp) ?_
    refine j_nf [.c [1, 0, 1, 0, 1], .c [1, 1]] rfl ?_
    refine j_giv [] rfl rfl rfl ⟨by rw [decide_eq_false (fun e => hl (by rw [e]))]; rfl, rfl, rfl⟩
end Go.Proofs.Ytpoonnjaobjdgaa
