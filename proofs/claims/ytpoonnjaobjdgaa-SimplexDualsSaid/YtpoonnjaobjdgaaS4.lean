/-
The sizes that a statement looks at: short, Small, fits.
-/
import Derived.Test.YtpoonnjaobjdgaaFuns
import Derived.Test.YtpoonnjaobjdgaaNatMath
import Derived.Test.YtpoonnjaobjdgaaNatMath5
import Derived.Test.YtpoonnjaobjdgaaRatMath
import Derived.Test.YtpoonnjaobjdgaaA1
import Derived.Test.YtpoonnjaobjdgaaD1
import Derived.Test.YtpoonnjaobjdgaaD3
import Derived.Test.YtpoonnjaobjdgaaE1
import Derived.Test.YtpoonnjaobjdgaaE3
import Derived.Test.YtpoonnjaobjdgaaS1
import Derived.Test.YtpoonnjaobjdgaaSChecks
import Derived.Test.YtpoonnjaobjdgaaS2
import Derived.Test.YtpoonnjaobjdgaaS3
namespace Go.Proofs.Ytpoonnjaobjdgaa
open Go Go.Fw
set_option maxRecDepth 100000
set_option linter.unusedVariables false
set_option maxHeartbeats 2000000
def shortB (L : List Rt) : Bool := L.all fun r => decide (r.2.1.length ≤ 2) && decide (r.2.2.length ≤ 2)
def smallB (m : Nat) (C : List Rt) (A : List (List Rt)) (B : List Rt) : Bool := decide (C.length ≤ m) && decide (B.length ≤ m) && decide (A.length ≤ m) && shortB C && shortB B && A.all fun row => decide (row.length ≤ m) && shortB row

theorem all_take_succ {α : Type} {L : List α} {k : Nat} {z : α} {f : α → Bool} (hz : L[k]? = some z) (h : (L.take k).all f = true) (hf : f z = true) : (L.take (k + 1)).all f = true := by
  rw [List.take_add_one, hz, List.all_append, h]; simp [hf]

theorem S_codewrightref35_short {pa : Option Addr} {n ca : Nat} {L : List Rt} : Ctr Try.prog 17 [.slice pa n ca] [] [slF RatE pa n ca L] (Rv (.bool (shortB L)) []) := by
  refine Ctr_of_j' (F := F_codewrightref35_short) rfl fun C => ?_
  refine j_len 0 rfl fun hn hba _ => ?_
  subst hn
  have hba' : L.length * 56 ≤ 140737488355328 := hba
  refine j_nf [.o [0] 0, .c [1]] rfl ?_
  refine j_run it 1 rfl (by simp) ?_
  refine j_nf [.o [1, 0, 0] 0, .c [1, 0, 1], .c [1, 1]] rfl ?_
  refine j_run it 1 rfl (by simp) ?_
  refine j_nf [.c [1, 0, 1, 0], .blk 0, .c [1, 1]] rfl ?_
  refine j_loopG (X := Nat) [0] [0] (fun k => [(3, .int .i64 k)]) (fun _ => []) (fun _ => []) (fun k => k ≤ L.length ∧ shortB (L.take k) = true) (fun k => L.length - k) 0 [] rfl rfl rfl ⟨Nat.zero_le _, rfl⟩ (by repeat (first | exact Fr.sub_nil _ | refine Fr.sub_cons rfl ?_)) rfl rfl ?_
  intro k ⟨hk, hs⟩ ih
  simp only [List.cons_append, List.nil_append] at ih ⊢
  by_cases hkl : k < L.length
  · have bad : ∀ z, L[k]? = some z → (2 < z.2.1.length ∨ 2 < z.2.2.length) → shortB L = false := fun z hz h => by
      rw [shortB, List.all_eq_false]
      exact ⟨z, List.mem_of_getElem? hz, by simp; omega⟩
    refine j_nf [.o [1, 0, 1, 0, 0, 0, 0] 0, .c [1, 0, 1, 0, 0, 0, 1], .c [1, 0, 1, 0, 0, 1], .lp [1, 0, 1, 0, 0], .blk 0, .c [1, 1]] rfl ?_
    refine j_run it 2 rfl (by simp) ?_
    refine j_step rfl (x_len sl22 rfl ?_)
    refine j_run it 1 rfl (by simp) ?_
    refine j_nf [.c [1, 0, 1, 0, 0, 0, 1], .c [1, 0, 1, 0, 0, 1], .lp [1, 0, 1, 0, 0], .blk 0, .c [1, 1]] rfl ?_
    refine j_if rfl rfl (fun h1 => ?_) (fun h1 => by exfalso; omega)
    refine j_nf [.o [1, 0, 1, 0, 0, 1, 0, 0, 0] 0, .c [1, 0, 1, 0, 0, 1, 0, 0, 1], .blk 1, .c [1, 0, 1, 0, 0, 1, 1], .lp [1, 0, 1, 0, 0], .blk 0, .c [1, 1]] rfl ?_
    refine j_run it 2 rfl (by simp) ?_
    refine j_step rfl (x_idx 0 (k) rfl rfl rfl sl22 rfl (by omega) fun z1 hz1 b1 o1 => ?_)
    refine j_step rfl (x_field_rt rfl fd37_1 (fun w A hG => rt_f1 (hG _ (fact_mem (n := 0) rfl))) ?_)
    refine j_step rfl (x_ld_sl 0 rfl rfl ld35 fun pa1 ca1 => ?_)
    refine j_step rfl (x_len sl35 rfl ?_)
    refine j_run it 2 rfl (by simp) ?_
    refine j_split_dec (t := 17) rfl (fun h2 => ?_) (fun h2 => ?_)
    · refine j_run it 8 rfl (by simp) ?_
      refine j_nf [.c [1, 0, 1, 0, 0, 1, 0, 0, 1], .blk 1, .c [1, 0, 1, 0, 0, 1, 1], .lp [1, 0, 1, 0, 0], .blk 0, .c [1, 1]] rfl ?_
      refine j_true rfl rfl ?_
      refine j_nf [.o [1, 0, 1, 0, 0, 1, 0, 0, 1, 0, 0] 0, .c [1, 0, 1, 0, 0, 1, 0, 0, 1, 0, 1], .blk 1, .c [1, 0, 1, 0, 0, 1, 1], .lp [1, 0, 1, 0, 0], .blk 0, .c [1, 1]] rfl ?_
      refine j_run it 1 rfl (by simp) ?_
      refine j_nf [.c [1, 0, 1, 0, 0, 1, 0, 0, 1, 0, 1], .blk 1, .c [1, 0, 1, 0, 0, 1, 1], .lp [1, 0, 1, 0, 0], .blk 0, .c [1, 1]] rfl ?_
      rw [bad z1 hz1 (.inl (by omega))]
      refine j_giv [] rfl rfl rfl ⟨rfl, rfl, rfl⟩
    · refine j_run it 2 rfl (by simp) ?_
      refine j_gstep rfl rfl (x_idx 3 (k) rfl rfl rfl sl22 rfl (by omega) fun z2 hz2 b2 o2 => ?_)
      refine j_gstep rfl rfl (x_field_rt rfl fd37_2 (fun w A hG => rt_f2 (hG _ (fact_mem (n := 0) rfl))) ?_)
      refine j_gstep rfl rfl (x_ld_sl 0 rfl rfl ld35 fun pa2 ca2 => ?_)
      refine j_gstep rfl rfl (x_len sl35 rfl ?_)
      refine j_run it 2 rfl (by simp) ?_
      refine j_nf [.c [1, 0, 1, 0, 0, 1, 0, 0, 1], .blk 1, .c [1, 0, 1, 0, 0, 1, 1], .lp [1, 0, 1, 0, 0], .blk 0, .c [1, 1]] rfl ?_
      refine j_if rfl rfl (fun h3 => ?_) (fun h3 => ?_)
      · obtain rfl : z2 = z1 := Option.some.inj (hz2.symm.trans hz1)
        refine j_nf [.o [1, 0, 1, 0, 0, 1, 0, 0, 1, 0, 0] 0, .c [1, 0, 1, 0, 0, 1, 0, 0, 1, 0, 1], .blk 1, .c [1, 0, 1, 0, 0, 1, 1], .lp [1, 0, 1, 0, 0], .blk 0, .c [1, 1]] rfl ?_
        refine j_run it 1 rfl (by simp) ?_
        refine j_nf [.c [1, 0, 1, 0, 0, 1, 0, 0, 1, 0, 1], .blk 1, .c [1, 0, 1, 0, 0, 1, 1], .lp [1, 0, 1, 0, 0], .blk 0, .c [1, 1]] rfl ?_
        rw [bad _ hz1 (.inr (by omega))]
        refine j_giv [] rfl rfl rfl ⟨rfl, rfl, rfl⟩
      · obtain rfl : z2 = z1 := Option.some.inj (hz2.symm.trans hz1)
        refine j_nf [.o [1, 0, 1, 0, 0, 1, 1] 0, .lp [1, 0, 1, 0, 0], .blk 0, .c [1, 1]] rfl ?_
        refine j_run it 3 rfl (by repeat' first | exact trivial | apply And.intro | omega) ?_
        refine j_nfn 1 [.lp [1, 0, 1, 0, 0], .blk 0, .c [1, 1]] rfl ?_
        refine j_to [6] (by repeat (first | exact Fr.sub_nil _ | refine Fr.sub_cons rfl ?_ | refine Fr.sub_consI rfl (by first | omega | (dsimp only; omega)) ?_ | refine Fr.sub_consS rfl (by first | omega | (dsimp only; omega)) (by first | omega | (dsimp only; omega)) ?_)) rfl rfl (ih (k + 1) (by omega) ⟨by omega, all_take_succ hz1 hs (by simp; omega)⟩)
  · have ek : k = L.length := by omega
    subst ek
    rw [List.take_length] at hs
    refine j_nf [.o [1, 0, 1, 0, 0, 0, 0] 0, .c [1, 0, 1, 0, 0, 0, 1], .c [1, 0, 1, 0, 0, 1], .lp [1, 0, 1, 0, 0], .blk 0, .c [1, 1]] rfl ?_
    refine j_run it 2 rfl (by simp) ?_
    refine j_step rfl (x_len sl22 rfl ?_)
    refine j_run it 1 rfl (by simp) ?_
    refine j_nf [.c [1, 0, 1, 0, 0, 0, 1], .c [1, 0, 1, 0, 0, 1], .lp [1, 0, 1, 0, 0], .blk 0, .c [1, 1]] rfl ?_
    refine j_if rfl rfl (fun h1 => by exfalso; omega) (fun h1 => ?_)
    refine j_nf [.o [1, 1, 0] 0, .c [1, 1, 1]] rfl ?_
    refine j_run it 1 rfl (by simp) ?_
    refine j_nf [.c [1, 1, 1]] rfl ?_
    rw [hs]
    refine j_giv [] rfl rfl rfl ⟨rfl, rfl, rfl⟩

theorem S_codewrightref35_Small {p1 p2 p3 : Option Addr} {c1 c2 c3 m : Nat} {C B : List Rt} {A : List (List Rt)} (hm : m ≤ 1000) :
    Ctr Try.prog 10 [.agg #[.slice p1 C.length c1, .slice p2 A.length c2, .slice p3 B.length c3], .int .i64 m] [] [slF RatE p1 C.length c1 C, slF (encSl RatE) p2 A.length c2 A, slF RatE p3 B.length c3 B] (Rv (.bool (smallB m C A B)) []) := by
  refine Ctr_of_j' (F := F_codewrightref35_Small) rfl fun Cx => ?_
  refine j_len 1 rfl fun _ hba _ => ?_
  have hba' : A.length * 24 ≤ 140737488355328 := hba
  by_cases h1 : m < C.length
  · have e : smallB m C A B = false := by simp [smallB]; omega
    rw [e]
    refine j_nf [.o [0] 0, .c [1]] rfl ?_
    refine j_step rfl (x_box_agg rfl fun b1 => ?_)
    refine j_run it 1 rfl (by simp) ?_
    refine j_nf [.o [1, 0, 0] 0, .c [1, 0, 1], .c [1, 1]] rfl ?_
    refine j_step rfl (x_field rfl fd25_0 ?_)
    refine j_step rfl (x_bld 0 rfl rfl ld22 rfl ?_)
    refine j_step rfl (x_len sl22 rfl ?_)
    refine j_run it 3 rfl (by simp) ?_
    refine j_split_dec (t := 12) rfl (fun h2 => ?_) (fun h2 => by exfalso; omega)
    refine j_run it 13 rfl (by simp) ?_
    refine j_nf [.c [1, 0, 1], .c [1, 1]] rfl ?_
    refine j_true rfl rfl ?_
    refine j_nf [.o [1, 0, 1, 0, 0] 0, .c [1, 0, 1, 0, 1], .c [1, 1]] rfl ?_
    refine j_run it 1 rfl (by simp) ?_
    refine j_nf [.c [1, 0, 1, 0, 1], .c [1, 1]] rfl ?_
    refine j_giv [] rfl rfl rfl ⟨rfl, rfl, rfl⟩
  by_cases h2 : m < B.length
  · have e : smallB m C A B = false := by simp [smallB]; omega
    rw [e]
    refine j_nf [.o [0] 0, .c [1]] rfl ?_
    refine j_step rfl (x_box_agg rfl fun b1 => ?_)
    refine j_run it 1 rfl (by simp) ?_
    refine j_nf [.o [1, 0, 0] 0, .c [1, 0, 1], .c [1, 1]] rfl ?_
    refine j_step rfl (x_field rfl fd25_0 ?_)
    refine j_step rfl (x_bld 0 rfl rfl ld22 rfl ?_)
    refine j_step rfl (x_len sl22 rfl ?_)
    refine j_run it 3 rfl (by simp) ?_
    refine j_split_dec (t := 12) rfl (fun h3 => by exfalso; omega) (fun h3 => ?_)
    refine j_gstep rfl rfl (x_field rfl fd25_2 ?_)
    refine j_gstep rfl rfl (x_bld 0 rfl rfl ld22 rfl ?_)
    refine j_gstep rfl rfl (x_len sl22 rfl ?_)
    refine j_run it 4 rfl (by simp) ?_
    refine j_split_dec (t := 19) rfl (fun h4 => ?_) (fun h4 => by exfalso; omega)
    refine j_run it 6 rfl (by simp) ?_
    refine j_nf [.c [1, 0, 1], .c [1, 1]] rfl ?_
    refine j_true rfl rfl ?_
    refine j_nf [.o [1, 0, 1, 0, 0] 0, .c [1, 0, 1, 0, 1], .c [1, 1]] rfl ?_
    refine j_run it 1 rfl (by simp) ?_
    refine j_nf [.c [1, 0, 1, 0, 1], .c [1, 1]] rfl ?_
    refine j_giv [] rfl rfl rfl ⟨rfl, rfl, rfl⟩
  by_cases h3 : m < A.length
  · have e : smallB m C A B = false := by simp [smallB]; omega
    rw [e]
    refine j_nf [.o [0] 0, .c [1]] rfl ?_
    refine j_step rfl (x_box_agg rfl fun b1 => ?_)
    refine j_run it 1 rfl (by simp) ?_
    refine j_nf [.o [1, 0, 0] 0, .c [1, 0, 1], .c [1, 1]] rfl ?_
    refine j_step rfl (x_field rfl fd25_0 ?_)
    refine j_step rfl (x_bld 0 rfl rfl ld22 rfl ?_)
    refine j_step rfl (x_len sl22 rfl ?_)
    refine j_run it 3 rfl (by simp) ?_
    refine j_split_dec (t := 12) rfl (fun h4 => by exfalso; omega) (fun h4 => ?_)
    refine j_gstep rfl rfl (x_field rfl fd25_2 ?_)
    refine j_gstep rfl rfl (x_bld 0 rfl rfl ld22 rfl ?_)
    refine j_gstep rfl rfl (x_len sl22 rfl ?_)
    refine j_run it 4 rfl (by simp) ?_
    refine j_split_dec (t := 19) rfl (fun h5 => by exfalso; omega) (fun h5 => ?_)
    refine j_gstep rfl rfl (x_field rfl fd25_1 ?_)
    refine j_gstep rfl rfl (x_bld 0 rfl rfl ld23 rfl ?_)
    refine j_gstep rfl rfl (x_len sl23 rfl ?_)
    refine j_run it 3 rfl (by simp) ?_
    refine j_nf [.c [1, 0, 1], .c [1, 1]] rfl ?_
    refine j_if rfl rfl (fun h6 => ?_) (fun h6 => by exfalso; omega)
    refine j_nf [.o [1, 0, 1, 0, 0] 0, .c [1, 0, 1, 0, 1], .c [1, 1]] rfl ?_
    refine j_run it 1 rfl (by simp) ?_
    refine j_nf [.c [1, 0, 1, 0, 1], .c [1, 1]] rfl ?_
    refine j_giv [] rfl rfl rfl ⟨rfl, rfl, rfl⟩
  have e : smallB m C A B = (shortB C && shortB B && A.all fun row => decide (row.length ≤ m) && shortB row) := by
    rw [smallB, decide_eq_true (by omega : C.length ≤ m), decide_eq_true (by omega : B.length ≤ m), decide_eq_true (by omega : A.length ≤ m)]; simp
  rw [e]
  have core : ∀ (b1 : Nat) (b : Bool), J F_codewrightref35_Small Cx [.c [1, 1, 1]] [(1, .int .i64 m), (2, .pointer (some ⟨b1, 0, none⟩)), (4, .bool false), (5, .bool b)] [(some b1, 25, [.slice p1 C.length c1, .slice p2 A.length c2, .slice p3 B.length c3])] [slF RatE p1 C.length c1 C, slF (encSl RatE) p2 A.length c2 A, slF RatE p3 B.length c3 B] (Gives Cx (Rv (.bool (b && A.all fun row => decide (row.length ≤ m) && shortB row)) [])) := by
    intro b1 b
    refine j_nf [.o [1, 1, 1, 0, 0] 0, .c [1, 1, 1, 0, 1], .c [1, 1, 1, 1]] rfl ?_
    refine j_run it 1 rfl (by simp) ?_
    refine j_nf [.c [1, 1, 1, 0, 1, 0], .blk 0, .c [1, 1, 1, 1]] rfl ?_
    refine j_loopG (X := Nat) [1, 2, 4] [0, 1, 2] (fun k => [(5, .bool (b && (A.take k).all fun row => decide (row.length ≤ m) && shortB row)), (6, .int .i64 k)]) (fun _ => [(some b1, 25, [.slice p1 C.length c1, .slice p2 A.length c2, .slice p3 B.length c3])]) (fun _ => []) (fun k => k ≤ A.length) (fun k => A.length - k) 0 [] rfl rfl rfl (Nat.zero_le _) (by simp only [List.take_zero, List.all_nil, Bool.and_true]; repeat (first | exact Fr.sub_nil _ | refine Fr.sub_cons rfl ?_)) rfl rfl ?_
    intro k hk ih
    simp only [List.cons_append, List.nil_append] at ih ⊢
    by_cases hkl : k < A.length
    · have hz := get_some (l := A) (i := k) (dflt := default) hkl
      have nxt : (b && (A.take (k + 1)).all fun row => decide (row.length ≤ m) && shortB row) = ((b && (A.take k).all fun row => decide (row.length ≤ m) && shortB row) && (decide ((A.getD k default).length ≤ m) && shortB (A.getD k default))) := by
        rw [List.take_add_one, hz, List.all_append]; simp [Bool.and_assoc]
      generalize (b && (A.take k).all fun row => decide (row.length ≤ m) && shortB row) = f at nxt ⊢
      cases f with
      | false =>
        refine j_nf [.o [1, 1, 1, 0, 1, 0, 0, 0, 0] 0, .c [1, 1, 1, 0, 1, 0, 0, 0, 1], .c [1, 1, 1, 0, 1, 0, 0, 1], .lp [1, 1, 1, 0, 1, 0, 0], .blk 0, .c [1, 1, 1, 1]] rfl ?_
        refine j_run it 1 rfl (by simp) ?_
        refine j_step rfl (x_field rfl fd25_1 ?_)
        refine j_step rfl (x_bld 0 rfl rfl ld23 rfl ?_)
        refine j_step rfl (x_len sl23 rfl ?_)
        refine j_run it 1 rfl (by simp) ?_
        refine j_nf [.c [1, 1, 1, 0, 1, 0, 0, 0, 1], .c [1, 1, 1, 0, 1, 0, 0, 1], .lp [1, 1, 1, 0, 1, 0, 0], .blk 0, .c [1, 1, 1, 1]] rfl ?_
        refine j_if rfl rfl (fun h4 => ?_) (fun h4 => by exfalso; omega)
        refine j_nf [.o [1, 1, 1, 0, 1, 0, 0, 1, 0, 0] 0, .blk 1, .c [1, 1, 1, 0, 1, 0, 0, 1, 1], .lp [1, 1, 1, 0, 1, 0, 0], .blk 0, .c [1, 1, 1, 1]] rfl ?_
        refine j_run it 20 rfl (by simp) ?_
        refine j_nf [.o [1, 1, 1, 0, 1, 0, 0, 1, 1] 0, .lp [1, 1, 1, 0, 1, 0, 0], .blk 0, .c [1, 1, 1, 1]] rfl ?_
        refine j_run it 3 rfl (by repeat' first | exact trivial | apply And.intro | omega) ?_
        refine j_nfn 1 [.lp [1, 1, 1, 0, 1, 0, 0], .blk 0, .c [1, 1, 1, 1]] rfl ?_
        have ih' := ih (k + 1) (by omega) (by omega)
        rw [nxt, Bool.false_and] at ih'
        refine j_to [0, 1, 2] (by repeat (first | exact Fr.sub_nil _ | refine Fr.sub_cons rfl ?_ | refine Fr.sub_consI rfl (by first | omega | (dsimp only; omega)) ?_ | refine Fr.sub_consS rfl (by first | omega | (dsimp only; omega)) (by first | omega | (dsimp only; omega)) ?_)) rfl rfl (ih')
      | true =>
        refine j_nf [.o [1, 1, 1, 0, 1, 0, 0, 0, 0] 0, .c [1, 1, 1, 0, 1, 0, 0, 0, 1], .c [1, 1, 1, 0, 1, 0, 0, 1], .lp [1, 1, 1, 0, 1, 0, 0], .blk 0, .c [1, 1, 1, 1]] rfl ?_
        refine j_run it 1 rfl (by simp) ?_
        refine j_step rfl (x_field rfl fd25_1 ?_)
        refine j_step rfl (x_bld 0 rfl rfl ld23 rfl ?_)
        refine j_step rfl (x_len sl23 rfl ?_)
        refine j_run it 1 rfl (by simp) ?_
        refine j_nf [.c [1, 1, 1, 0, 1, 0, 0, 0, 1], .c [1, 1, 1, 0, 1, 0, 0, 1], .lp [1, 1, 1, 0, 1, 0, 0], .blk 0, .c [1, 1, 1, 1]] rfl ?_
        refine j_if rfl rfl (fun h4 => ?_) (fun h4 => by exfalso; omega)
        refine j_nf [.o [1, 1, 1, 0, 1, 0, 0, 1, 0, 0] 0, .blk 1, .c [1, 1, 1, 0, 1, 0, 0, 1, 1], .lp [1, 1, 1, 0, 1, 0, 0], .blk 0, .c [1, 1, 1, 1]] rfl ?_
        refine j_run it 2 rfl (by simp) ?_
        refine j_gstep rfl rfl (x_field rfl fd25_1 ?_)
        refine j_gstep rfl rfl (x_bld 0 rfl rfl ld23 rfl ?_)
        refine j_run it 1 rfl (by simp) ?_
        refine j_gstep rfl rfl (x_idx 1 (k) rfl rfl rfl sl23 rfl (by omega) fun z1 hz1 b2 o1 => ?_)
        refine j_gstep rfl rfl (x_ld_sl 0 rfl rfl ld22 fun pa1 ca1 => ?_)
        refine j_gstep rfl rfl (x_len sl22 rfl ?_)
        refine j_run it 4 rfl (by simp) ?_
        refine j_split_dec (t := 52) rfl (fun h5 => ?_) (fun h5 => ?_)
        · obtain hgd : A.getD k default = z1 := by rw [List.getD, hz1]; rfl
          have ih' := ih (k + 1) (by omega) (by omega)
          rw [nxt, hgd, decide_eq_true (by omega : z1.length ≤ m), Bool.true_and, Bool.true_and] at ih'
          refine j_gstep rfl rfl (x_field rfl fd25_1 ?_)
          refine j_gstep rfl rfl (x_bld 0 rfl rfl ld23 rfl ?_)
          refine j_run it 1 rfl (by simp) ?_
          refine j_gstep rfl rfl (x_idx 3 (k) rfl rfl rfl sl23 rfl (by omega) fun z2 hz2 b3 o2 => ?_)
          refine j_gstep rfl rfl (x_ld_sl 0 rfl rfl ld22 fun pa2 ca2 => ?_)
          refine j_gstep rfl rfl (x_call [0] rfl (S_codewrightref35_short) rfl ?_)
          rintro _ _ _ ⟨rfl, rfl, rfl⟩
          simp only [List.cons_append, List.nil_append]
          refine j_run it 2 rfl (by simp) ?_
          refine j_nf [.o [1, 1, 1, 0, 1, 0, 0, 1, 1] 0, .lp [1, 1, 1, 0, 1, 0, 0], .blk 0, .c [1, 1, 1, 1]] rfl ?_
          refine j_run it 3 rfl (by repeat' first | exact trivial | apply And.intro | omega) ?_
          refine j_nfn 1 [.lp [1, 1, 1, 0, 1, 0, 0], .blk 0, .c [1, 1, 1, 1]] rfl ?_
          obtain rfl : z2 = z1 := Option.some.inj (hz2.symm.trans hz1)
          refine j_to [4, 5, 6] (by repeat (first | exact Fr.sub_nil _ | refine Fr.sub_cons rfl ?_ | refine Fr.sub_consI rfl (by first | omega | (dsimp only; omega)) ?_ | refine Fr.sub_consS rfl (by first | omega | (dsimp only; omega)) (by first | omega | (dsimp only; omega)) ?_)) rfl rfl (ih')
        · obtain hgd : A.getD k default = z1 := by rw [List.getD, hz1]; rfl
          have ih' := ih (k + 1) (by omega) (by omega)
          rw [nxt, hgd, decide_eq_false (by omega : ¬ z1.length ≤ m), Bool.false_and, Bool.and_false] at ih'
          refine j_run it 8 rfl (by simp) ?_
          refine j_nf [.o [1, 1, 1, 0, 1, 0, 0, 1, 1] 0, .lp [1, 1, 1, 0, 1, 0, 0], .blk 0, .c [1, 1, 1, 1]] rfl ?_
          refine j_run it 3 rfl (by repeat' first | exact trivial | apply And.intro | omega) ?_
          refine j_nfn 1 [.lp [1, 1, 1, 0, 1, 0, 0], .blk 0, .c [1, 1, 1, 1]] rfl ?_
          refine j_to [2, 3, 4] (by repeat (first | exact Fr.sub_nil _ | refine Fr.sub_cons rfl ?_ | refine Fr.sub_consI rfl (by first | omega | (dsimp only; omega)) ?_ | refine Fr.sub_consS rfl (by first | omega | (dsimp only; omega)) (by first | omega | (dsimp only; omega)) ?_)) rfl rfl (ih')
    · have ek : k = A.length := by omega
      subst ek
      rw [List.take_length]
      refine j_nf [.o [1, 1, 1, 0, 1, 0, 0, 0, 0] 0, .c [1, 1, 1, 0, 1, 0, 0, 0, 1], .c [1, 1, 1, 0, 1, 0, 0, 1], .lp [1, 1, 1, 0, 1, 0, 0], .blk 0, .c [1, 1, 1, 1]] rfl ?_
      refine j_run it 1 rfl (by simp) ?_
      refine j_step rfl (x_field rfl fd25_1 ?_)
      refine j_step rfl (x_bld 0 rfl rfl ld23 rfl ?_)
      refine j_step rfl (x_len sl23 rfl ?_)
      refine j_run it 1 rfl (by simp) ?_
      refine j_nf [.c [1, 1, 1, 0, 1, 0, 0, 0, 1], .c [1, 1, 1, 0, 1, 0, 0, 1], .lp [1, 1, 1, 0, 1, 0, 0], .blk 0, .c [1, 1, 1, 1]] rfl ?_
      refine j_if rfl rfl (fun h4 => by exfalso; omega) (fun h4 => ?_)
      refine j_nf [.o [1, 1, 1, 1, 0] 0, .c [1, 1, 1, 1, 1]] rfl ?_
      refine j_run it 2 rfl (by simp) ?_
      refine j_nf [.c [1, 1, 1, 1, 1]] rfl ?_
      refine j_giv [] rfl rfl rfl ⟨rfl, rfl, rfl⟩
  refine j_nf [.o [0] 0, .c [1]] rfl ?_
  refine j_step rfl (x_box_agg rfl fun b1 => ?_)
  refine j_run it 1 rfl (by simp) ?_
  refine j_nf [.o [1, 0, 0] 0, .c [1, 0, 1], .c [1, 1]] rfl ?_
  refine j_step rfl (x_field rfl fd25_0 ?_)
  refine j_step rfl (x_bld 0 rfl rfl ld22 rfl ?_)
  refine j_step rfl (x_len sl22 rfl ?_)
  refine j_run it 3 rfl (by simp) ?_
  refine j_split_dec (t := 12) rfl (fun h4 => by exfalso; omega) (fun h4 => ?_)
  refine j_gstep rfl rfl (x_field rfl fd25_2 ?_)
  refine j_gstep rfl rfl (x_bld 0 rfl rfl ld22 rfl ?_)
  refine j_gstep rfl rfl (x_len sl22 rfl ?_)
  refine j_run it 4 rfl (by simp) ?_
  refine j_split_dec (t := 19) rfl (fun h5 => by exfalso; omega) (fun h5 => ?_)
  refine j_gstep rfl rfl (x_field rfl fd25_1 ?_)
  refine j_gstep rfl rfl (x_bld 0 rfl rfl ld23 rfl ?_)
  refine j_gstep rfl rfl (x_len sl23 rfl ?_)
  refine j_run it 3 rfl (by simp) ?_
  refine j_nf [.c [1, 0, 1], .c [1, 1]] rfl ?_
  refine j_if rfl rfl (fun h6 => by exfalso; omega) (fun h6 => ?_)
  refine j_nf [.o [1, 1, 0] 0, .c [1, 1, 1]] rfl ?_
  refine j_step rfl (x_field rfl fd25_0 ?_)
  refine j_step rfl (x_bld 0 rfl rfl ld22 rfl ?_)
  refine j_step rfl (x_call [0] rfl (S_codewrightref35_short) rfl ?_)
  rintro _ _ _ ⟨rfl, rfl, rfl⟩
  simp only [List.cons_append, List.nil_append]
  refine j_run it 1 rfl (by simp) ?_
  refine j_split (t := 29) rfl (fun h7 => ?_) (fun h7 => ?_)
  · refine j_gstep rfl rfl (x_field rfl fd25_2 ?_)
    refine j_gstep rfl rfl (x_bld 0 rfl rfl ld22 rfl ?_)
    refine j_gstep rfl rfl (x_call [2] rfl (S_codewrightref35_short) rfl ?_)
    rintro _ _ _ ⟨rfl, rfl, rfl⟩
    simp only [List.cons_append, List.nil_append]
    refine j_run it 2 rfl (by simp) ?_
    refine j_nfn 1 [.c [1, 1, 1]] rfl ?_
    rw [‹shortB C = true›, Bool.true_and]
    refine j_to [0, 1, 2] (by repeat (first | exact Fr.sub_nil _ | refine Fr.sub_cons rfl ?_ | refine Fr.sub_consI rfl (by first | omega | (dsimp only; omega)) ?_ | refine Fr.sub_consS rfl (by first | omega | (dsimp only; omega)) (by first | omega | (dsimp only; omega)) ?_)) rfl rfl (core b1 (shortB B))
  · refine j_run it 5 rfl (by simp) ?_
    refine j_nfn 1 [.c [1, 1, 1]] rfl ?_
    rw [‹shortB C = false›, Bool.false_and]
    refine j_to [0, 1, 2] (by repeat (first | exact Fr.sub_nil _ | refine Fr.sub_cons rfl ?_ | refine Fr.sub_consI rfl (by first | omega | (dsimp only; omega)) ?_ | refine Fr.sub_consS rfl (by first | omega | (dsimp only; omega)) (by first | omega | (dsimp only; omega)) ?_)) rfl rfl (core b1 false)
end Go.Proofs.Ytpoonnjaobjdgaa
