/-
Check of a linear program, the program's and the document's: the contracts.
-/
import Derived.Test.YtpoonnjaobjdgaaFuns
import Derived.Test.YtpoonnjaobjdgaaFwL
namespace Go.Proofs.Ytpoonnjaobjdgaa
open Go Go.Fw
set_option maxRecDepth 100000
set_option linter.unusedVariables false
abbrev LinE := encPair (encSl RatE) (encPair (encSl (encSl RatE)) (encSl RatE) 48) 72
/-- What Check answers. -/
def checkOf (l : List Rt × List (List Rt) × List Rt) : Int :=
  if 80 < l.1.length ∨ 80 < l.2.1.length ∨ 80 < l.2.2.length then 8 else if l.2.1.length ≠ l.2.2.length then 3 else if l.2.1.all (fun r => r.length == l.1.length) then 0 else 3

theorem getD_some {α : Type} {l : List α} {i : Nat} {x d : α} (h : l[i]? = some x) : l.getD i d = x := by rw [List.getD, h]; rfl

theorem lin_open {w : World} {A : Nat → Prop} {vs : List Value} {x : List Rt × List (List Rt) × List Rt} (h : LinE.rd w A vs x) :
    ∃ p1 c1 p2 c2 p3 c3, vs = [.slice p1 x.1.length c1, .slice p2 x.2.1.length c2, .slice p3 x.2.2.length c3] ∧ SlRd RatE w A p1 c1 x.1 ∧ SlRd (encSl RatE) w A p2 c2 x.2.1 ∧ SlRd RatE w A p3 c3 x.2.2 := by
  obtain ⟨_, _, rfl, ⟨p1, c1, rfl, h1⟩, _, _, rfl, ⟨p2, c2, rfl, h2⟩, ⟨p3, c3, rfl, h3⟩⟩ := h
  exact ⟨p1, c1, p2, c2, p3, c3, rfl, h1, h2, h3⟩

theorem S_codewrightref35_Check {p1 p2 p3 : Option Addr} {c1 c2 c3 : Nat} {C A B} : Ctr Try.prog 4 [.agg [.slice p1 C.length c1, .slice p2 A.length c2, .slice p3 B.length c3].toArray] [] [slF RatE p1 C.length c1 C, slF (encSl RatE) p2 A.length c2 A, slF RatE p3 B.length c3 B]
    (Rv (.int .i64 (checkOf (C, A, B))) []) := by
  refine Ctr_of_j' (F := F_codewrightref35_Check) rfl fun Cx => ?_
  refine j_len 0 rfl fun _ _ _ => ?_
  refine j_len 1 rfl fun _ hb2 _ => ?_
  refine j_len 2 rfl fun _ _ _ => ?_
  have hb2' : A.length * 24 ≤ 140737488355328 := hb2
  have big : (80 < C.length ∨ 80 < A.length ∨ 80 < B.length) → Value.int .i64 8 = .int .i64 (checkOf (C, A, B)) := fun h => by rw [checkOf, if_pos h]
  by_cases h1 : 80 < C.length
  · refine j_nf [.o [0] 0, .c [1]] rfl ?_
    refine j_step rfl (x_box_agg rfl fun b1 => ?_)
    refine j_run it 1 rfl (by simp) ?_
    refine j_nf [.o [1, 0, 0] 0, .c [1, 0, 1], .c [1, 1]] rfl ?_
    refine j_step rfl (x_field rfl fd25_0 ?_)
    refine j_step rfl (x_bld 0 rfl rfl ld22 rfl ?_)
    refine j_step rfl (x_len sl22 rfl ?_)
    refine j_run it 2 rfl (by simp) ?_
    refine j_split_dec (t := 8) rfl (fun h2 => ?_) (fun h2 => by exfalso; omega)
    refine j_run it 11 rfl (by simp) ?_
    refine j_nf [.c [1, 0, 1], .c [1, 1]] rfl ?_
    refine j_true rfl rfl ?_
    refine j_nf [.o [1, 0, 1, 0, 0] 0, .c [1, 0, 1, 0, 1], .c [1, 1]] rfl ?_
    refine j_run it 1 rfl (by simp) ?_
    refine j_nf [.c [1, 0, 1, 0, 1], .c [1, 1]] rfl ?_
    refine j_giv [] rfl rfl rfl ⟨big (.inl h1), rfl, rfl⟩
  by_cases h2 : 80 < A.length
  · refine j_nf [.o [0] 0, .c [1]] rfl ?_
    refine j_step rfl (x_box_agg rfl fun b1 => ?_)
    refine j_run it 1 rfl (by simp) ?_
    refine j_nf [.o [1, 0, 0] 0, .c [1, 0, 1], .c [1, 1]] rfl ?_
    refine j_step rfl (x_field rfl fd25_0 ?_)
    refine j_step rfl (x_bld 0 rfl rfl ld22 rfl ?_)
    refine j_step rfl (x_len sl22 rfl ?_)
    refine j_run it 2 rfl (by simp) ?_
    refine j_split_dec (t := 8) rfl (fun h3 => by exfalso; omega) (fun h3 => ?_)
    refine j_gstep rfl rfl (x_field rfl fd25_1 ?_)
    refine j_gstep rfl rfl (x_bld 0 rfl rfl ld23 rfl ?_)
    refine j_gstep rfl rfl (x_len sl23 rfl ?_)
    refine j_run it 3 rfl (by simp) ?_
    refine j_split_dec (t := 14) rfl (fun h4 => ?_) (fun h4 => by exfalso; omega)
    refine j_run it 5 rfl (by simp) ?_
    refine j_nf [.c [1, 0, 1], .c [1, 1]] rfl ?_
    refine j_true rfl rfl ?_
    refine j_nf [.o [1, 0, 1, 0, 0] 0, .c [1, 0, 1, 0, 1], .c [1, 1]] rfl ?_
    refine j_run it 1 rfl (by simp) ?_
    refine j_nf [.c [1, 0, 1, 0, 1], .c [1, 1]] rfl ?_
    refine j_giv [] rfl rfl rfl ⟨big (.inr (.inl h2)), rfl, rfl⟩
  by_cases h3 : 80 < B.length
  · refine j_nf [.o [0] 0, .c [1]] rfl ?_
    refine j_step rfl (x_box_agg rfl fun b1 => ?_)
    refine j_run it 1 rfl (by simp) ?_
    refine j_nf [.o [1, 0, 0] 0, .c [1, 0, 1], .c [1, 1]] rfl ?_
    refine j_step rfl (x_field rfl fd25_0 ?_)
    refine j_step rfl (x_bld 0 rfl rfl ld22 rfl ?_)
    refine j_step rfl (x_len sl22 rfl ?_)
    refine j_run it 2 rfl (by simp) ?_
    refine j_split_dec (t := 8) rfl (fun h4 => by exfalso; omega) (fun h4 => ?_)
    refine j_gstep rfl rfl (x_field rfl fd25_1 ?_)
    refine j_gstep rfl rfl (x_bld 0 rfl rfl ld23 rfl ?_)
    refine j_gstep rfl rfl (x_len sl23 rfl ?_)
    refine j_run it 3 rfl (by simp) ?_
    refine j_split_dec (t := 14) rfl (fun h5 => by exfalso; omega) (fun h5 => ?_)
    refine j_gstep rfl rfl (x_field rfl fd25_2 ?_)
    refine j_gstep rfl rfl (x_bld 0 rfl rfl ld22 rfl ?_)
    refine j_gstep rfl rfl (x_len sl22 rfl ?_)
    refine j_run it 2 rfl (by simp) ?_
    refine j_nf [.c [1, 0, 1], .c [1, 1]] rfl ?_
    refine j_if rfl rfl (fun h6 => ?_) (fun h6 => by exfalso; omega)
    refine j_nf [.o [1, 0, 1, 0, 0] 0, .c [1, 0, 1, 0, 1], .c [1, 1]] rfl ?_
    refine j_run it 1 rfl (by simp) ?_
    refine j_nf [.c [1, 0, 1, 0, 1], .c [1, 1]] rfl ?_
    refine j_giv [] rfl rfl rfl ⟨big (.inr (.inr h3)), rfl, rfl⟩
  by_cases h4 : A.length = B.length
  · have good : (∀ i, i < A.length → (A.getD i default).length = C.length) → Value.int .i64 0 = .int .i64 (checkOf (C, A, B)) := fun h => by
      rw [checkOf, if_neg (by simp; omega), if_neg (by simpa using h4), if_pos (by
        simp only [List.all_eq_true, beq_iff_eq]
        intro r hr
        obtain ⟨i, hi, rfl⟩ := List.mem_iff_getElem.1 hr
        have := h i hi
        rwa [getD_some (List.getElem?_eq_getElem hi)] at this)]
    have bad : ∀ i, i < A.length → (A.getD i default).length ≠ C.length → Value.int .i64 3 = .int .i64 (checkOf (C, A, B)) := fun i hi h => by
      rw [checkOf, if_neg (by simp; omega), if_neg (by simpa using h4), if_neg (by
        simp only [List.all_eq_true, beq_iff_eq]
        intro hh
        rw [getD_some (List.getElem?_eq_getElem hi)] at h
        exact h (hh _ (List.getElem_mem hi)))]
    refine j_nf [.o [0] 0, .c [1]] rfl ?_
    refine j_step rfl (x_box_agg rfl fun b1 => ?_)
    refine j_run it 1 rfl (by simp) ?_
    refine j_nf [.o [1, 0, 0] 0, .c [1, 0, 1], .c [1, 1]] rfl ?_
    refine j_step rfl (x_field rfl fd25_0 ?_)
    refine j_step rfl (x_bld 0 rfl rfl ld22 rfl ?_)
    refine j_step rfl (x_len sl22 rfl ?_)
    refine j_run it 2 rfl (by simp) ?_
    refine j_split_dec (t := 8) rfl (fun h5 => by exfalso; omega) (fun h5 => ?_)
    refine j_gstep rfl rfl (x_field rfl fd25_1 ?_)
    refine j_gstep rfl rfl (x_bld 0 rfl rfl ld23 rfl ?_)
    refine j_gstep rfl rfl (x_len sl23 rfl ?_)
    refine j_run it 3 rfl (by simp) ?_
    refine j_split_dec (t := 14) rfl (fun h6 => by exfalso; omega) (fun h6 => ?_)
    refine j_gstep rfl rfl (x_field rfl fd25_2 ?_)
    refine j_gstep rfl rfl (x_bld 0 rfl rfl ld22 rfl ?_)
    refine j_gstep rfl rfl (x_len sl22 rfl ?_)
    refine j_run it 2 rfl (by simp) ?_
    refine j_nf [.c [1, 0, 1], .c [1, 1]] rfl ?_
    refine j_if rfl rfl (fun h7 => by exfalso; omega) (fun h7 => ?_)
    refine j_nf [.o [1, 1, 0, 0] 0, .c [1, 1, 0, 1], .c [1, 1, 1]] rfl ?_
    refine j_step rfl (x_field rfl fd25_1 ?_)
    refine j_step rfl (x_bld 0 rfl rfl ld23 rfl ?_)
    refine j_step rfl (x_len sl23 rfl ?_)
    refine j_step rfl (x_field rfl fd25_2 ?_)
    refine j_step rfl (x_bld 0 rfl rfl ld22 rfl ?_)
    refine j_step rfl (x_len sl22 rfl ?_)
    refine j_run it 1 rfl (by simp) ?_
    refine j_nf [.c [1, 1, 0, 1], .c [1, 1, 1]] rfl ?_
    refine j_ifn rfl rfl (fun h8 => by exfalso; omega) (fun h8 => ?_)
    refine j_nf [.o [1, 1, 1, 0, 0] 0, .c [1, 1, 1, 0, 1], .c [1, 1, 1, 1]] rfl ?_
    refine j_run it 1 rfl (by simp) ?_
    refine j_nf [.c [1, 1, 1, 0, 1, 0], .blk 0, .c [1, 1, 1, 1]] rfl ?_
    refine j_loopN (X := Nat) (fun k => [(1, .pointer (some ⟨b1, 0, none⟩)), (3, .int .i64 k)]) (fun _ => [(some b1, 25, [.slice p1 C.length c1, .slice p2 A.length c2, .slice p3 B.length c3])]) (fun _ => [slF RatE p1 C.length c1 C, slF (encSl RatE) p2 A.length c2 A, slF RatE p3 B.length c3 B])
      (fun k => k ≤ A.length ∧ ∀ i, i < k → (A.getD i default).length = C.length) (fun k => A.length - k) 0 [0, 1, 2] rfl ⟨Nat.zero_le _, fun i hi => by omega⟩ (by repeat (first | exact Fr.sub_nil _ | refine Fr.sub_cons rfl ?_)) rfl rfl ?_
    intro k ⟨hk, hall⟩ ih
    by_cases hkl : k < A.length
    · refine j_nf [.o [1, 1, 1, 0, 1, 0, 0, 0, 0] 0, .c [1, 1, 1, 0, 1, 0, 0, 0, 1], .c [1, 1, 1, 0, 1, 0, 0, 1], .lp [1, 1, 1, 0, 1, 0, 0], .blk 0, .c [1, 1, 1, 1]] rfl ?_
      refine j_run it 1 rfl (by simp) ?_
      refine j_step rfl (x_field rfl fd25_1 ?_)
      refine j_step rfl (x_bld 0 rfl rfl ld23 rfl ?_)
      refine j_step rfl (x_len sl23 rfl ?_)
      refine j_run it 1 rfl (by simp) ?_
      refine j_nf [.c [1, 1, 1, 0, 1, 0, 0, 0, 1], .c [1, 1, 1, 0, 1, 0, 0, 1], .lp [1, 1, 1, 0, 1, 0, 0], .blk 0, .c [1, 1, 1, 1]] rfl ?_
      refine j_if rfl rfl (fun h9 => ?_) (fun h9 => by exfalso; omega)
      refine j_nf [.c [1, 1, 1, 0, 1, 0, 0, 1, 0, 0, 0], .c [1, 1, 1, 0, 1, 0, 0, 1, 0, 0, 1], .blk 1, .c [1, 1, 1, 0, 1, 0, 0, 1, 1], .lp [1, 1, 1, 0, 1, 0, 0], .blk 0, .c [1, 1, 1, 1]] rfl ?_
      (apply j_drawK it mx 10; (· rfl); (· rfl))
      (apply lxk_eq; (· rfl); (· exact d_x fun _ => x_field rfl fd25_1 dk_eq))
      (apply lxk_eq; (· rfl); (· exact d_bld 0 rfl rfl ld23 rfl))
      (apply lxk_run 1; (· rfl); (· simp))
      (apply lxk_pt; (· rfl); (· exact d_x fun _ => x_idx 1 (k) rfl rfl rfl sl23 rfl (by omega) fun z1 hz1 b2 o1 => (dk_ptD default hz1 0 rfl)); intro b2 o1)
      (apply lxk_sl; (· rfl); (· exact d_x fun _ => x_ld_sl 0 rfl rfl ld22 fun pa1 ca1 => (dk_sl 0 rfl)); intro pa1 ca1)
      (apply lxk_eq; (· rfl); (· exact d_x fun _ => x_len sl22 rfl dk_eq))
      (apply lxk_eq; (· rfl); (· exact d_x fun _ => x_field rfl fd25_0 dk_eq))
      (apply lxk_eq; (· rfl); (· exact d_bld 0 rfl rfl ld22 rfl))
      (apply lxk_eq; (· rfl); (· exact d_x fun _ => x_len sl22 rfl dk_eq))
      (apply lxk_run 1; (· rfl); (· simp))
      refine lxk_end rfl ?_
      simp only [List.map_cons, List.map_nil, List.cons_append, List.nil_append]
      refine j_nf [.c [1, 1, 1, 0, 1, 0, 0, 1, 0, 0, 1], .blk 1, .c [1, 1, 1, 0, 1, 0, 0, 1, 1], .lp [1, 1, 1, 0, 1, 0, 0], .blk 0, .c [1, 1, 1, 1]] rfl ?_
      refine j_ifn rfl rfl (fun h10 => ?_) (fun h10 => ?_)
      · refine j_nf [.o [1, 1, 1, 0, 1, 0, 0, 1, 0, 0, 1, 0, 0] 0, .c [1, 1, 1, 0, 1, 0, 0, 1, 0, 0, 1, 0, 1], .blk 1, .c [1, 1, 1, 0, 1, 0, 0, 1, 1], .lp [1, 1, 1, 0, 1, 0, 0], .blk 0, .c [1, 1, 1, 1]] rfl ?_
        refine j_run it 1 rfl (by simp) ?_
        refine j_nf [.c [1, 1, 1, 0, 1, 0, 0, 1, 0, 0, 1, 0, 1], .blk 1, .c [1, 1, 1, 0, 1, 0, 0, 1, 1], .lp [1, 1, 1, 0, 1, 0, 0], .blk 0, .c [1, 1, 1, 1]] rfl ?_
        refine j_giv [] rfl rfl rfl ⟨bad k hkl (by omega), rfl, rfl⟩
      · refine j_nf [.o [1, 1, 1, 0, 1, 0, 0, 1, 1] 0, .lp [1, 1, 1, 0, 1, 0, 0], .blk 0, .c [1, 1, 1, 1]] rfl ?_
        refine j_run it 3 rfl (by repeat' first | exact trivial | apply And.intro | omega) ?_
        refine j_nfn 1 [.lp [1, 1, 1, 0, 1, 0, 0], .blk 0, .c [1, 1, 1, 1]] rfl ?_
        refine j_to [2, 3, 4] (by repeat (first | exact Fr.sub_nil _ | refine Fr.sub_cons rfl ?_ | refine Fr.sub_consI rfl (by first | omega | (dsimp only; omega)) ?_ | refine Fr.sub_consS rfl (by first | omega | (dsimp only; omega)) (by first | omega | (dsimp only; omega)) ?_)) rfl rfl (ih (k + 1) (by omega) ⟨by omega, fun i hi => by rcases Nat.lt_succ_iff_lt_or_eq.1 hi with h | rfl; exact hall i h; omega⟩)
    · refine j_nf [.o [1, 1, 1, 0, 1, 0, 0, 0, 0] 0, .c [1, 1, 1, 0, 1, 0, 0, 0, 1], .c [1, 1, 1, 0, 1, 0, 0, 1], .lp [1, 1, 1, 0, 1, 0, 0], .blk 0, .c [1, 1, 1, 1]] rfl ?_
      refine j_run it 1 rfl (by simp) ?_
      refine j_step rfl (x_field rfl fd25_1 ?_)
      refine j_step rfl (x_bld 0 rfl rfl ld23 rfl ?_)
      refine j_step rfl (x_len sl23 rfl ?_)
      refine j_run it 1 rfl (by simp) ?_
      refine j_nf [.c [1, 1, 1, 0, 1, 0, 0, 0, 1], .c [1, 1, 1, 0, 1, 0, 0, 1], .lp [1, 1, 1, 0, 1, 0, 0], .blk 0, .c [1, 1, 1, 1]] rfl ?_
      refine j_if rfl rfl (fun h9 => by exfalso; omega) (fun h9 => ?_)
      refine j_nf [.o [1, 1, 1, 1, 0] 0, .c [1, 1, 1, 1, 1]] rfl ?_
      refine j_run it 1 rfl (by simp) ?_
      refine j_nf [.c [1, 1, 1, 1, 1]] rfl ?_
      refine j_giv [] rfl rfl rfl ⟨good (fun i hi => hall i (by omega)), rfl, rfl⟩
  · refine j_nf [.o [0] 0, .c [1]] rfl ?_
    refine j_step rfl (x_box_agg rfl fun b1 => ?_)
    refine j_run it 1 rfl (by simp) ?_
    refine j_nf [.o [1, 0, 0] 0, .c [1, 0, 1], .c [1, 1]] rfl ?_
    refine j_step rfl (x_field rfl fd25_0 ?_)
    refine j_step rfl (x_bld 0 rfl rfl ld22 rfl ?_)
    refine j_step rfl (x_len sl22 rfl ?_)
    refine j_run it 2 rfl (by simp) ?_
    refine j_split_dec (t := 8) rfl (fun h5 => by exfalso; omega) (fun h5 => ?_)
    refine j_gstep rfl rfl (x_field rfl fd25_1 ?_)
    refine j_gstep rfl rfl (x_bld 0 rfl rfl ld23 rfl ?_)
    refine j_gstep rfl rfl (x_len sl23 rfl ?_)
    refine j_run it 3 rfl (by simp) ?_
    refine j_split_dec (t := 14) rfl (fun h6 => by exfalso; omega) (fun h6 => ?_)
    refine j_gstep rfl rfl (x_field rfl fd25_2 ?_)
    refine j_gstep rfl rfl (x_bld 0 rfl rfl ld22 rfl ?_)
    refine j_gstep rfl rfl (x_len sl22 rfl ?_)
    refine j_run it 2 rfl (by simp) ?_
    refine j_nf [.c [1, 0, 1], .c [1, 1]] rfl ?_
    refine j_if rfl rfl (fun h7 => by exfalso; omega) (fun h7 => ?_)
    refine j_nf [.o [1, 1, 0, 0] 0, .c [1, 1, 0, 1], .c [1, 1, 1]] rfl ?_
    refine j_step rfl (x_field rfl fd25_1 ?_)
    refine j_step rfl (x_bld 0 rfl rfl ld23 rfl ?_)
    refine j_step rfl (x_len sl23 rfl ?_)
    refine j_step rfl (x_field rfl fd25_2 ?_)
    refine j_step rfl (x_bld 0 rfl rfl ld22 rfl ?_)
    refine j_step rfl (x_len sl22 rfl ?_)
    refine j_run it 1 rfl (by simp) ?_
    refine j_nf [.c [1, 1, 0, 1], .c [1, 1, 1]] rfl ?_
    refine j_ifn rfl rfl (fun h8 => ?_) (fun h8 => by exfalso; omega)
    refine j_nf [.o [1, 1, 0, 1, 0, 0] 0, .c [1, 1, 0, 1, 0, 1], .c [1, 1, 1]] rfl ?_
    refine j_run it 1 rfl (by simp) ?_
    refine j_nf [.c [1, 1, 0, 1, 0, 1], .c [1, 1, 1]] rfl ?_
    refine j_giv [] rfl rfl rfl ⟨by rw [checkOf, if_neg (by simp; omega), if_pos h4]; rfl, rfl, rfl⟩

theorem S_simplex_Check {p1 p2 p3 : Option Addr} {c1 c2 c3 : Nat} {C A B} : Ctr Try.prog 11 [.agg [.slice p1 C.length c1, .slice p2 A.length c2, .slice p3 B.length c3].toArray] [] [slF RatE p1 C.length c1 C, slF (encSl RatE) p2 A.length c2 A, slF RatE p3 B.length c3 B]
    (Rv (.int .i64 (checkOf (C, A, B))) []) := by
  refine Ctr_of_j' (F := F_simplex_Check) rfl fun Cx => ?_
  refine j_len 0 rfl fun _ _ _ => ?_
  refine j_len 1 rfl fun _ hb2 _ => ?_
  refine j_len 2 rfl fun _ _ _ => ?_
  have hb2' : A.length * 24 ≤ 140737488355328 := hb2
  have big : (80 < C.length ∨ 80 < A.length ∨ 80 < B.length) → Value.int .i64 8 = .int .i64 (checkOf (C, A, B)) := fun h => by rw [checkOf, if_pos h]
  by_cases h1 : 80 < C.length
  · refine j_nf [.o [0] 0, .c [1]] rfl ?_
    refine j_step rfl (x_box_agg rfl fun b1 => ?_)
    refine j_run it 1 rfl (by simp) ?_
    refine j_nf [.o [1, 0, 0] 0, .c [1, 0, 1], .c [1, 1]] rfl ?_
    refine j_step rfl (x_field rfl fd25_0 ?_)
    refine j_step rfl (x_bld 0 rfl rfl ld22 rfl ?_)
    refine j_step rfl (x_len sl22 rfl ?_)
    refine j_run it 2 rfl (by simp) ?_
    refine j_split_dec (t := 9) rfl (fun h2 => ?_) (fun h2 => by exfalso; omega)
    refine j_run it 11 rfl (by simp) ?_
    refine j_nf [.c [1, 0, 1], .c [1, 1]] rfl ?_
    refine j_true rfl rfl ?_
    refine j_nf [.o [1, 0, 1, 0, 0] 0, .c [1, 0, 1, 0, 1], .c [1, 1]] rfl ?_
    refine j_run it 1 rfl (by simp) ?_
    refine j_nf [.c [1, 0, 1, 0, 1], .c [1, 1]] rfl ?_
    refine j_giv [] rfl rfl rfl ⟨big (.inl h1), rfl, rfl⟩
  by_cases h2 : 80 < A.length
  · refine j_nf [.o [0] 0, .c [1]] rfl ?_
    refine j_step rfl (x_box_agg rfl fun b1 => ?_)
    refine j_run it 1 rfl (by simp) ?_
    refine j_nf [.o [1, 0, 0] 0, .c [1, 0, 1], .c [1, 1]] rfl ?_
    refine j_step rfl (x_field rfl fd25_0 ?_)
    refine j_step rfl (x_bld 0 rfl rfl ld22 rfl ?_)
    refine j_step rfl (x_len sl22 rfl ?_)
    refine j_run it 2 rfl (by simp) ?_
    refine j_split_dec (t := 9) rfl (fun h3 => by exfalso; omega) (fun h3 => ?_)
    refine j_gstep rfl rfl (x_field rfl fd25_1 ?_)
    refine j_gstep rfl rfl (x_bld 0 rfl rfl ld23 rfl ?_)
    refine j_gstep rfl rfl (x_len sl23 rfl ?_)
    refine j_run it 3 rfl (by simp) ?_
    refine j_split_dec (t := 15) rfl (fun h4 => ?_) (fun h4 => by exfalso; omega)
    refine j_run it 5 rfl (by simp) ?_
    refine j_nf [.c [1, 0, 1], .c [1, 1]] rfl ?_
    refine j_true rfl rfl ?_
    refine j_nf [.o [1, 0, 1, 0, 0] 0, .c [1, 0, 1, 0, 1], .c [1, 1]] rfl ?_
    refine j_run it 1 rfl (by simp) ?_
    refine j_nf [.c [1, 0, 1, 0, 1], .c [1, 1]] rfl ?_
    refine j_giv [] rfl rfl rfl ⟨big (.inr (.inl h2)), rfl, rfl⟩
  by_cases h3 : 80 < B.length
  · refine j_nf [.o [0] 0, .c [1]] rfl ?_
    refine j_step rfl (x_box_agg rfl fun b1 => ?_)
    refine j_run it 1 rfl (by simp) ?_
    refine j_nf [.o [1, 0, 0] 0, .c [1, 0, 1], .c [1, 1]] rfl ?_
    refine j_step rfl (x_field rfl fd25_0 ?_)
    refine j_step rfl (x_bld 0 rfl rfl ld22 rfl ?_)
    refine j_step rfl (x_len sl22 rfl ?_)
    refine j_run it 2 rfl (by simp) ?_
    refine j_split_dec (t := 9) rfl (fun h4 => by exfalso; omega) (fun h4 => ?_)
    refine j_gstep rfl rfl (x_field rfl fd25_1 ?_)
    refine j_gstep rfl rfl (x_bld 0 rfl rfl ld23 rfl ?_)
    refine j_gstep rfl rfl (x_len sl23 rfl ?_)
    refine j_run it 3 rfl (by simp) ?_
    refine j_split_dec (t := 15) rfl (fun h5 => by exfalso; omega) (fun h5 => ?_)
    refine j_gstep rfl rfl (x_field rfl fd25_2 ?_)
    refine j_gstep rfl rfl (x_bld 0 rfl rfl ld22 rfl ?_)
    refine j_gstep rfl rfl (x_len sl22 rfl ?_)
    refine j_run it 2 rfl (by simp) ?_
    refine j_nf [.c [1, 0, 1], .c [1, 1]] rfl ?_
    refine j_if rfl rfl (fun h6 => ?_) (fun h6 => by exfalso; omega)
    refine j_nf [.o [1, 0, 1, 0, 0] 0, .c [1, 0, 1, 0, 1], .c [1, 1]] rfl ?_
    refine j_run it 1 rfl (by simp) ?_
    refine j_nf [.c [1, 0, 1, 0, 1], .c [1, 1]] rfl ?_
    refine j_giv [] rfl rfl rfl ⟨big (.inr (.inr h3)), rfl, rfl⟩
  by_cases h4 : A.length = B.length
  · have good : (∀ i, i < A.length → (A.getD i default).length = C.length) → Value.int .i64 0 = .int .i64 (checkOf (C, A, B)) := fun h => by
      rw [checkOf, if_neg (by simp; omega), if_neg (by simpa using h4), if_pos (by
        simp only [List.all_eq_true, beq_iff_eq]
        intro r hr
        obtain ⟨i, hi, rfl⟩ := List.mem_iff_getElem.1 hr
        have := h i hi
        rwa [getD_some (List.getElem?_eq_getElem hi)] at this)]
    have bad : ∀ i, i < A.length → (A.getD i default).length ≠ C.length → Value.int .i64 3 = .int .i64 (checkOf (C, A, B)) := fun i hi h => by
      rw [checkOf, if_neg (by simp; omega), if_neg (by simpa using h4), if_neg (by
        simp only [List.all_eq_true, beq_iff_eq]
        intro hh
        rw [getD_some (List.getElem?_eq_getElem hi)] at h
        exact h (hh _ (List.getElem_mem hi)))]
    refine j_nf [.o [0] 0, .c [1]] rfl ?_
    refine j_step rfl (x_box_agg rfl fun b1 => ?_)
    refine j_run it 1 rfl (by simp) ?_
    refine j_nf [.o [1, 0, 0] 0, .c [1, 0, 1], .c [1, 1]] rfl ?_
    refine j_step rfl (x_field rfl fd25_0 ?_)
    refine j_step rfl (x_bld 0 rfl rfl ld22 rfl ?_)
    refine j_step rfl (x_len sl22 rfl ?_)
    refine j_run it 2 rfl (by simp) ?_
    refine j_split_dec (t := 9) rfl (fun h5 => by exfalso; omega) (fun h5 => ?_)
    refine j_gstep rfl rfl (x_field rfl fd25_1 ?_)
    refine j_gstep rfl rfl (x_bld 0 rfl rfl ld23 rfl ?_)
    refine j_gstep rfl rfl (x_len sl23 rfl ?_)
    refine j_run it 3 rfl (by simp) ?_
    refine j_split_dec (t := 15) rfl (fun h6 => by exfalso; omega) (fun h6 => ?_)
    refine j_gstep rfl rfl (x_field rfl fd25_2 ?_)
    refine j_gstep rfl rfl (x_bld 0 rfl rfl ld22 rfl ?_)
    refine j_gstep rfl rfl (x_len sl22 rfl ?_)
    refine j_run it 2 rfl (by simp) ?_
    refine j_nf [.c [1, 0, 1], .c [1, 1]] rfl ?_
    refine j_if rfl rfl (fun h7 => by exfalso; omega) (fun h7 => ?_)
    refine j_nf [.o [1, 1, 0, 0] 0, .c [1, 1, 0, 1], .c [1, 1, 1]] rfl ?_
    refine j_step rfl (x_field rfl fd25_1 ?_)
    refine j_step rfl (x_bld 0 rfl rfl ld23 rfl ?_)
    refine j_step rfl (x_len sl23 rfl ?_)
    refine j_step rfl (x_field rfl fd25_2 ?_)
    refine j_step rfl (x_bld 0 rfl rfl ld22 rfl ?_)
    refine j_step rfl (x_len sl22 rfl ?_)
    refine j_run it 1 rfl (by simp) ?_
    refine j_nf [.c [1, 1, 0, 1], .c [1, 1, 1]] rfl ?_
    refine j_ifn rfl rfl (fun h8 => by exfalso; omega) (fun h8 => ?_)
    refine j_nf [.o [1, 1, 1, 0, 0] 0, .c [1, 1, 1, 0, 1], .c [1, 1, 1, 1]] rfl ?_
    refine j_step rfl (x_field rfl fd25_1 ?_)
    refine j_step rfl (x_bld 0 rfl rfl ld23 rfl ?_)
    refine j_step rfl (x_len sl23 rfl ?_)
    refine j_run it 1 rfl (by simp) ?_
    refine j_nf [.c [1, 1, 1, 0, 1, 0], .blk 0, .c [1, 1, 1, 1]] rfl ?_
    refine j_loopN (X := Nat) (fun k => [(1, .pointer (some ⟨b1, 0, none⟩)), (29, .slice p2 A.length c2), (30, .int .i64 A.length), (31, .int .i64 k)]) (fun _ => [(some b1, 25, [.slice p1 C.length c1, .slice p2 A.length c2, .slice p3 B.length c3])]) (fun _ => [slF RatE p1 C.length c1 C, slF (encSl RatE) p2 A.length c2 A, slF RatE p3 B.length c3 B])
      (fun k => k ≤ A.length ∧ ∀ i, i < k → (A.getD i default).length = C.length) (fun k => A.length - k) 0 [0, 1, 2] rfl ⟨Nat.zero_le _, fun i hi => by omega⟩ (by repeat (first | exact Fr.sub_nil _ | refine Fr.sub_cons rfl ?_)) rfl rfl ?_
    intro k ⟨hk, hall⟩ ih
    by_cases hkl : k < A.length
    · refine j_nf [.o [1, 1, 1, 0, 1, 0, 0, 0] 0, .c [1, 1, 1, 0, 1, 0, 0, 1], .lp [1, 1, 1, 0, 1, 0, 0], .blk 0, .c [1, 1, 1, 1]] rfl ?_
      refine j_run it 1 rfl (by simp) ?_
      refine j_nf [.c [1, 1, 1, 0, 1, 0, 0, 1, 0], .c [1, 1, 1, 0, 1, 0, 0, 1, 1], .lp [1, 1, 1, 0, 1, 0, 0], .blk 0, .c [1, 1, 1, 1]] rfl ?_
      refine j_if rfl rfl (fun h9 => ?_) (fun h9 => by exfalso; omega)
      refine j_nf [.o [1, 1, 1, 0, 1, 0, 0, 1, 1, 0, 0, 0] 0, .c [1, 1, 1, 0, 1, 0, 0, 1, 1, 0, 0, 1], .blk 1, .c [1, 1, 1, 0, 1, 0, 0, 1, 1, 1], .lp [1, 1, 1, 0, 1, 0, 0], .blk 0, .c [1, 1, 1, 1]] rfl ?_
      refine j_step rfl (x_idx 1 (k) rfl rfl rfl sl23 rfl (by omega) fun z1 hz1 b2 o1 => ?_)
      refine j_step rfl (x_ld_sl 0 rfl rfl ld22 fun pa1 ca1 => ?_)
      refine j_run it 1 rfl (by simp) ?_
      refine j_nf [.o [1, 1, 1, 0, 1, 0, 0, 1, 1, 0, 0, 1, 0] 0, .c [1, 1, 1, 0, 1, 0, 0, 1, 1, 0, 0, 1, 1], .blk 1, .c [1, 1, 1, 0, 1, 0, 0, 1, 1, 1], .lp [1, 1, 1, 0, 1, 0, 0], .blk 0, .c [1, 1, 1, 1]] rfl ?_
      refine j_run it 1 rfl (by simp) ?_
      refine j_step rfl (x_len sl22 rfl ?_)
      refine j_step rfl (x_field rfl fd25_0 ?_)
      refine j_step rfl (x_bld 0 rfl rfl ld22 rfl ?_)
      refine j_step rfl (x_len sl22 rfl ?_)
      refine j_run it 1 rfl (by simp) ?_
      refine j_nf [.c [1, 1, 1, 0, 1, 0, 0, 1, 1, 0, 0, 1, 1], .blk 1, .c [1, 1, 1, 0, 1, 0, 0, 1, 1, 1], .lp [1, 1, 1, 0, 1, 0, 0], .blk 0, .c [1, 1, 1, 1]] rfl ?_
      refine j_ifn rfl rfl (fun h10 => ?_) (fun h10 => ?_)
      · refine j_nf [.o [1, 1, 1, 0, 1, 0, 0, 1, 1, 0, 0, 1, 1, 0, 0] 0, .c [1, 1, 1, 0, 1, 0, 0, 1, 1, 0, 0, 1, 1, 0, 1], .blk 1, .c [1, 1, 1, 0, 1, 0, 0, 1, 1, 1], .lp [1, 1, 1, 0, 1, 0, 0], .blk 0, .c [1, 1, 1, 1]] rfl ?_
        refine j_run it 1 rfl (by simp) ?_
        refine j_nf [.c [1, 1, 1, 0, 1, 0, 0, 1, 1, 0, 0, 1, 1, 0, 1], .blk 1, .c [1, 1, 1, 0, 1, 0, 0, 1, 1, 1], .lp [1, 1, 1, 0, 1, 0, 0], .blk 0, .c [1, 1, 1, 1]] rfl ?_
        refine j_giv [] rfl rfl rfl ⟨bad k hkl (by rw [getD_some hz1]; omega), rfl, rfl⟩
      · refine j_nf [.o [1, 1, 1, 0, 1, 0, 0, 1, 1, 1] 0, .lp [1, 1, 1, 0, 1, 0, 0], .blk 0, .c [1, 1, 1, 1]] rfl ?_
        refine j_run it 2 rfl (by repeat' first | exact trivial | apply And.intro | omega) ?_
        refine j_nfn 1 [.lp [1, 1, 1, 0, 1, 0, 0], .blk 0, .c [1, 1, 1, 1]] rfl ?_
        refine j_to [2, 3, 4] (by repeat (first | exact Fr.sub_nil _ | refine Fr.sub_cons rfl ?_ | refine Fr.sub_consI rfl (by first | omega | (dsimp only; omega)) ?_ | refine Fr.sub_consS rfl (by first | omega | (dsimp only; omega)) (by first | omega | (dsimp only; omega)) ?_)) rfl rfl (ih (k + 1) (by omega) ⟨by omega, fun i hi => by rcases Nat.lt_succ_iff_lt_or_eq.1 hi with h | rfl; exact hall i h; rw [getD_some hz1]; omega⟩)
    · refine j_nf [.o [1, 1, 1, 0, 1, 0, 0, 0] 0, .c [1, 1, 1, 0, 1, 0, 0, 1], .lp [1, 1, 1, 0, 1, 0, 0], .blk 0, .c [1, 1, 1, 1]] rfl ?_
      refine j_run it 1 rfl (by simp) ?_
      refine j_nf [.c [1, 1, 1, 0, 1, 0, 0, 1, 0], .c [1, 1, 1, 0, 1, 0, 0, 1, 1], .lp [1, 1, 1, 0, 1, 0, 0], .blk 0, .c [1, 1, 1, 1]] rfl ?_
      refine j_if rfl rfl (fun h9 => by exfalso; omega) (fun h9 => ?_)
      refine j_nf [.o [1, 1, 1, 1, 0] 0, .c [1, 1, 1, 1, 1]] rfl ?_
      refine j_run it 1 rfl (by simp) ?_
      refine j_nf [.c [1, 1, 1, 1, 1]] rfl ?_
      refine j_giv [] rfl rfl rfl ⟨good (fun i hi => hall i (by omega)), rfl, rfl⟩
  · refine j_nf [.o [0] 0, .c [1]] rfl ?_
    refine j_step rfl (x_box_agg rfl fun b1 => ?_)
    refine j_run it 1 rfl (by simp) ?_
    refine j_nf [.o [1, 0, 0] 0, .c [1, 0, 1], .c [1, 1]] rfl ?_
    refine j_step rfl (x_field rfl fd25_0 ?_)
    refine j_step rfl (x_bld 0 rfl rfl ld22 rfl ?_)
    refine j_step rfl (x_len sl22 rfl ?_)
    refine j_run it 2 rfl (by simp) ?_
    refine j_split_dec (t := 9) rfl (fun h5 => by exfalso; omega) (fun h5 => ?_)
    refine j_gstep rfl rfl (x_field rfl fd25_1 ?_)
    refine j_gstep rfl rfl (x_bld 0 rfl rfl ld23 rfl ?_)
    refine j_gstep rfl rfl (x_len sl23 rfl ?_)
    refine j_run it 3 rfl (by simp) ?_
    refine j_split_dec (t := 15) rfl (fun h6 => by exfalso; omega) (fun h6 => ?_)
    refine j_gstep rfl rfl (x_field rfl fd25_2 ?_)
    refine j_gstep rfl rfl (x_bld 0 rfl rfl ld22 rfl ?_)
    refine j_gstep rfl rfl (x_len sl22 rfl ?_)
    refine j_run it 2 rfl (by simp) ?_
    refine j_nf [.c [1, 0, 1], .c [1, 1]] rfl ?_
    refine j_if rfl rfl (fun h7 => by exfalso; omega) (fun h7 => ?_)
    refine j_nf [.o [1, 1, 0, 0] 0, .c [1, 1, 0, 1], .c [1, 1, 1]] rfl ?_
    refine j_step rfl (x_field rfl fd25_1 ?_)
    refine j_step rfl (x_bld 0 rfl rfl ld23 rfl ?_)
    refine j_step rfl (x_len sl23 rfl ?_)
    refine j_step rfl (x_field rfl fd25_2 ?_)
    refine j_step rfl (x_bld 0 rfl rfl ld22 rfl ?_)
    refine j_step rfl (x_len sl22 rfl ?_)
    refine j_run it 1 rfl (by simp) ?_
    refine j_nf [.c [1, 1, 0, 1], .c [1, 1, 1]] rfl ?_
    refine j_ifn rfl rfl (fun h8 => ?_) (fun h8 => by exfalso; omega)
    refine j_nf [.o [1, 1, 0, 1, 0, 0] 0, .c [1, 1, 0, 1, 0, 1], .c [1, 1, 1]] rfl ?_
    refine j_run it 1 rfl (by simp) ?_
    refine j_nf [.c [1, 1, 0, 1, 0, 1], .c [1, 1, 1]] rfl ?_
    refine j_giv [] rfl rfl rfl ⟨by rw [checkOf, if_neg (by simp; omega), if_pos h4]; rfl, rfl, rfl⟩
end Go.Proofs.Ytpoonnjaobjdgaa
