/-
SimplexDuals, the walk: the dual of a linear program, and its dual again.
-/
import Derived.Test.YtpoonnjaobjdgaaFuns
import Derived.Test.YtpoonnjaobjdgaaNatMath
import Derived.Test.YtpoonnjaobjdgaaNatMath5
import Derived.Test.YtpoonnjaobjdgaaRatMath
import Derived.Test.YtpoonnjaobjdgaaA1
import Derived.Test.YtpoonnjaobjdgaaD1
import Derived.Test.YtpoonnjaobjdgaaD3
import Derived.Test.YtpoonnjaobjdgaaE1
import Derived.Test.YtpoonnjaobjdgaaE3
import Derived.Test.YtpoonnjaobjdgaaS1
import Derived.Test.YtpoonnjaobjdgaaSChecks
import Derived.Test.YtpoonnjaobjdgaaS2
import Derived.Test.YtpoonnjaobjdgaaS3
import Derived.Test.YtpoonnjaobjdgaaS4
namespace Go.Proofs.Ytpoonnjaobjdgaa
open Go Go.Fw
set_option maxRecDepth 100000
set_option linter.unusedVariables false
set_option maxHeartbeats 2000000
theorem sl_range {w : World} {A : Nat → Prop} {pa : Option Addr} {ca : Nat} {ls : List Rt} (hs : SlRd RatE w A pa ca ls) : ∀ r ∈ ls, (∀ x ∈ r.2.1, x < 4294967296) ∧ (∀ x ∈ r.2.2, x < 4294967296) := fun r hr => by
  obtain ⟨_, _, hs⟩ := hs
  rcases hs with rfl | ⟨b, o, _, _, hel⟩
  · cases hr
  · obtain ⟨i, hi⟩ := List.getElem?_of_mem hr
    obtain ⟨vs, _, hrd⟩ := hel i r hi
    obtain ⟨_, _, _, _, _, h1, h2⟩ := rt_open hrd
    have key : ∀ {pa ca} {l : List Nat}, SlRd U32 w A pa ca l → ∀ x ∈ l, x < 4294967296 := by
      intro pa ca l hs x hx
      obtain ⟨_, _, hs⟩ := hs
      rcases hs with rfl | ⟨b', o', _, _, hel'⟩
      · cases hx
      · obtain ⟨j, hj⟩ := List.getElem?_of_mem hx
        obtain ⟨vs, _, _, hR⟩ := hel' j x hj
        simp only [InR] at hR; omega
    exact ⟨key h1, key h2⟩

theorem rtss_range {P : Program} {F : Fun P} {C : Cx} {S : List It} {σ : Fr} {β : List Blk} {Γ : List Fact} {R : Value → World → Prop} {pa : Option Addr} {n ca : Nat} {ls : List (List Rt)} (k : Nat) (hk : nth Γ k = some (slF (encSl RatE) pa n ca ls))
    (h : (∀ row ∈ ls, ∀ r ∈ row, (∀ x ∈ r.2.1, x < 4294967296) ∧ (∀ x ∈ r.2.2, x < 4294967296)) → J F C S σ β Γ R) : J F C S σ β Γ R :=
  j_know (fun w A hG row hr => by
    obtain ⟨_, _, _, hs⟩ := hG _ (fact_mem hk)
    rcases hs with rfl | ⟨b, o, _, _, hel⟩
    · cases hr
    · obtain ⟨i, hi⟩ := List.getElem?_of_mem hr
      obtain ⟨vs, _, pa', ca', rfl, hrd⟩ := hel i row hi
      exact sl_range hrd) h

theorem S_codewrightlaw35_fits {p1 p2 p3 p4 : Option Addr} {c1 c2 c3 c4 : Nat} {C B : List Rt} {A : List (List Rt)} :
    Ctr Try.prog 5 [.agg #[.slice p1 C.length c1, .slice p2 A.length c2, .slice p3 B.length c3], .slice p4 0 c4] [] [slF RatE p1 C.length c1 C, slF (encSl RatE) p2 A.length c2 A, slF RatE p3 B.length c3 B] (Rv (.bool (smallB 8 C A B)) []) := by
  refine Ctr_of_j' (F := F_codewrightlaw35_fits) rfl fun Cx => ?_
  refine j_nf [.o [0] 0, .c [1]] rfl ?_
  refine j_step rfl (x_box_agg rfl fun b1 => ?_)
  refine j_run it 1 rfl (by simp) ?_
  refine j_nf [.o [1, 0, 0] 0, .c [1, 0, 1], .c [1, 1]] rfl ?_
  refine j_run it 1 rfl (by simp) ?_
  refine j_nf [.c [1, 0, 1, 0], .blk 0, .c [1, 1]] rfl ?_
  refine j_loopG (X := Unit) [1, 2] [0, 1, 2] (fun _ => [(5, .int .i64 0)]) (fun _ => [(some b1, 25, [.slice p1 C.length c1, .slice p2 A.length c2, .slice p3 B.length c3])]) (fun _ => []) (fun _ => True) (fun _ => 0) () [] rfl rfl rfl trivial (by repeat (first | exact Fr.sub_nil _ | refine Fr.sub_cons rfl ?_)) rfl rfl ?_
  intro _ _ ih
  simp only [List.cons_append, List.nil_append] at ih ⊢
  refine j_nf [.o [1, 0, 1, 0, 0, 0, 0] 0, .c [1, 0, 1, 0, 0, 0, 1], .c [1, 0, 1, 0, 0, 1], .lp [1, 0, 1, 0, 0], .blk 0, .c [1, 1]] rfl ?_
  refine j_run it 2 rfl (by simp) ?_
  refine j_step rfl (x_len sl23 rfl ?_)
  refine j_run it 1 rfl (by simp) ?_
  refine j_nf [.c [1, 0, 1, 0, 0, 0, 1], .c [1, 0, 1, 0, 0, 1], .lp [1, 0, 1, 0, 0], .blk 0, .c [1, 1]] rfl ?_
  refine j_if rfl rfl (fun h1 => by exfalso; omega) (fun h1 => ?_)
  refine j_nf [.o [1, 1, 0] 0, .c [1, 1, 1]] rfl ?_
  refine j_step rfl (x_bld_all 0 rfl rfl ld25 rfl ?_)
  refine j_step rfl (x_call [0, 1, 2] rfl (S_codewrightref35_Small (by first | omega | exact side _ (by assumption) | assumption | rfl | (simp; done) | (simp; omega))) rfl ?_)
  rintro _ _ _ ⟨rfl, rfl, rfl⟩
  simp only [List.cons_append, List.nil_append]
  refine j_run it 1 rfl (by simp) ?_
  refine j_nf [.c [1, 1, 1]] rfl ?_
  refine j_giv [] rfl rfl rfl ⟨rfl, rfl, rfl⟩

theorem ok_of {L : List Rt} (h : shortB L = true) (hr : ∀ r ∈ L, (∀ x ∈ r.2.1, x < 4294967296) ∧ (∀ x ∈ r.2.2, x < 4294967296)) : ∀ r ∈ L, okR 2 r := fun r hm => by
  have := List.all_eq_true.1 h r hm
  simp only [Bool.and_eq_true, decide_eq_true_eq] at this
  exact ⟨(hr r hm).1, (hr r hm).2, this.1, this.2⟩

theorem S_SimplexDuals {p1 p2 p3 : Option Addr} {c1 c2 c3 : Nat} {C A B} : Ctr Try.prog 3 [.agg [.slice p1 C.length c1, .slice p2 A.length c2, .slice p3 B.length c3].toArray] [] [slF RatE p1 C.length c1 C, slF (encSl RatE) p2 A.length c2 A, slF RatE p3 B.length c3 B]
    (Rv (.bool true) []) := by
  refine Ctr_of_j' (F := F_codewrightlaw35_SimplexDuals) rfl fun Cx => ?_
  refine rts_range 0 rfl fun rC => ?_
  refine rtss_range 1 rfl fun rA => ?_
  refine rts_range 2 rfl fun rB => ?_
  refine j_add (slF (encSl RatE) none 0 0 []) (fun w A _ => slF_nil _ _ _ _ _) ?_
  refine j_add (slF RatE none 0 0 []) (fun w A _ => slF_nil _ _ _ _ _) ?_
  by_cases hch : checkOf (C, A, B) = 0
  · by_cases hs : smallB 8 C A B = true
    · simp only [smallB, Bool.and_eq_true, decide_eq_true_eq] at hs
      obtain ⟨⟨⟨⟨⟨lC, lB⟩, lA⟩, sC⟩, sB⟩, sA⟩ := id hs
      have hAB : A.length = B.length ∧ ∀ row ∈ A, row.length = C.length := by
        rw [checkOf] at hch
        split at hch
        · simp at hch
        · split at hch
          · simp at hch
          · split at hch
            · rename_i h1 h2 h3
              exact ⟨by simpa using h2, by simpa using h3⟩
            · simp at hch
      have kC := ok_of sC rC
      have kB := ok_of sB rB
      have kA : ∀ row ∈ A, row.length = C.length ∧ ∀ r ∈ row, okR 2 r := fun row h => ⟨hAB.2 row h, ok_of (by have := List.all_eq_true.1 sA row h; simp only [Bool.and_eq_true] at this; exact this.2) (rA row h)⟩
      have a1 := smallL_of kC (by omega)
      have a2 := smallL_of kB (by omega)
      have a3 : ∀ row ∈ A, row.length = C.length ∧ smallL row := fun row h => ⟨(kA row h).1, smallL_of (kA row h).2 (by omega)⟩
      have a4 := smallL_of (map_ok kC (by omega)) (by omega)
      have a5 := smallL_of (map_ok kB (by omega)) (by omega)
      have a6 : ∀ row ∈ turned C.length A, row.length = (B.map negR).length ∧ smallL row := fun row h => ⟨by rw [List.length_map, ← hAB.1]; exact (turned_ok kA (by omega) row h).1, smallL_of (turned_ok kA (by omega) row h).2 (by omega)⟩
      have a7 : (turned C.length A).length ≤ 80 := by rw [turned_len]; omega
      have a8 : (B.map negR).length ≤ 80 := by rw [List.length_map]; omega
      have a9 : (C.map negR).length ≤ 80 := by rw [List.length_map]; omega
      have a10 : (turned C.length A).length = (C.map negR).length := by rw [turned_len, List.length_map]
      have lC80 : C.length ≤ 80 := by omega
      have lA80 : A.length ≤ 80 := by omega
      have lB80 : B.length ≤ 80 := by omega
      have hAB' := hAB.1
      have h8 : smallB 8 C A B = true := by simp only [smallB, Bool.and_eq_true, decide_eq_true_eq]; exact hs
      refine j_nf [.o [0] 0, .c [1]] rfl ?_
      refine j_step rfl (x_box_agg rfl fun b1 => ?_)
      refine j_run it 1 rfl (by simp) ?_
      refine j_nf [.o [1, 0, 0] 0, .c [1, 0, 1], .c [1, 1]] rfl ?_
      refine j_step rfl (x_bld_all 0 rfl rfl ld25 rfl ?_)
      refine j_step rfl (x_call [2, 3, 4] rfl (S_codewrightref35_Check) rfl ?_)
      rintro _ _ _ ⟨rfl, rfl, rfl⟩
      simp only [List.cons_append, List.nil_append]
      refine j_run it 2 rfl (by simp) ?_
      refine j_split_dec (t := 10) rfl (fun h1 => ?_) (fun h1 => by exfalso; omega)
      refine j_gstep rfl rfl (x_bld_all 0 rfl rfl ld25 rfl ?_)
      refine j_gstep rfl rfl (x_call [2, 3, 4] rfl (S_codewrightlaw35_fits) rfl ?_)
      rintro _ _ _ ⟨rfl, rfl, rfl⟩
      simp only [List.cons_append, List.nil_append]
      refine j_run it 2 rfl (by simp) ?_
      refine j_nf [.c [1, 0, 1], .c [1, 1]] rfl ?_
      refine j_cond rfl rfl (fun h2 => ?_) (fun h2 => ?_)
      · rw [h8] at h2
        exact absurd h2 (by decide)
      · refine j_nf [.o [1, 1, 0] 0, .c [1, 1, 1]] rfl ?_
        refine j_step rfl (x_bld_all 0 rfl rfl ld25 rfl ?_)
        refine j_step rfl (x_call [2, 3, 4] rfl (S_simplex_Dual (by first | omega | exact side _ (by assumption) | assumption | rfl | (simp; done) | (simp; omega)) (by first | omega | exact side _ (by assumption) | assumption | rfl | (simp; done) | (simp; omega)) (by first | omega | exact side _ (by assumption) | assumption | rfl | (simp; done) | (simp; omega)) (by first | omega | exact side _ (by assumption) | assumption | rfl | (simp; done) | (simp; omega)) (by first | omega | exact side _ (by assumption) | assumption | rfl | (simp; done) | (simp; omega)) (by first | omega | exact side _ (by assumption) | assumption | rfl | (simp; done) | (simp; omega)) (by first | omega | exact side _ (by assumption) | assumption | rfl | (simp; done) | (simp; omega))) rfl ?_)
        rintro _ _ _ ⟨p11, c11, p21, c21, p31, c31, rfl, rfl, rfl⟩
        simp only [List.cons_append, List.nil_append]
        refine j_run it 3 rfl (by simp) ?_
        refine j_step rfl (x_alloc zo25 fun b2 => ?_)
        refine j_step rfl (x_bst_all 0 rfl rfl rfl ld25 rfl rfl (by simp [Value.oneCell']) ?_)
        refine j_run it 1 rfl (by simp) ?_
        refine j_nf [.o [1, 1, 1, 0, 0] 0, .c [1, 1, 1, 0, 1], .c [1, 1, 1, 1]] rfl ?_
        refine j_step rfl (x_bld_all 1 rfl rfl ld25 rfl ?_)
        refine j_step rfl (x_call [5, 6, 7] rfl (S_codewrightref35_Check) rfl ?_)
        rintro _ _ _ ⟨rfl, rfl, rfl⟩
        simp only [List.cons_append, List.nil_append]
        refine j_run it 1 rfl (by simp) ?_
        refine j_nf [.c [1, 1, 1, 0, 1], .c [1, 1, 1, 1]] rfl ?_
        refine j_ifn rfl rfl (fun h3 => by exfalso; omega) (fun h3 => ?_)
        refine j_nf [.o [1, 1, 1, 1, 0] 0, .c [1, 1, 1, 1, 1]] rfl ?_
        refine j_step rfl (x_bld_all 0 rfl rfl ld25 rfl ?_)
        refine j_step rfl (x_call [0, 1, 2] rfl (S_simplex_Dual (by first | omega | exact side _ (by assumption) | assumption | rfl | (simp; done) | (simp; omega)) (by first | omega | exact side _ (by assumption) | assumption | rfl | (simp; done) | (simp; omega)) (by first | omega | exact side _ (by assumption) | assumption | rfl | (simp; done) | (simp; omega)) (by first | omega | exact side _ (by assumption) | assumption | rfl | (simp; done) | (simp; omega)) (by first | omega | exact side _ (by assumption) | assumption | rfl | (simp; done) | (simp; omega)) (by first | omega | exact side _ (by assumption) | assumption | rfl | (simp; done) | (simp; omega)) (by first | omega | exact side _ (by assumption) | assumption | rfl | (simp; done) | (simp; omega))) rfl ?_)
        rintro _ _ _ ⟨p12, c12, p22, c22, p32, c32, rfl, rfl, rfl⟩
        simp only [List.cons_append, List.nil_append]
        refine j_run it 3 rfl (by simp) ?_
        refine j_step rfl (x_alloc zo25 fun b3 => ?_)
        refine j_step rfl (x_bst_all 0 rfl rfl rfl ld25 rfl rfl (by simp [Value.oneCell']) ?_)
        refine j_run it 1 rfl (by simp) ?_
        refine j_nf [.c [1, 1, 1, 1, 1, 0], .c [1, 1, 1, 1, 1, 1]] rfl ?_
        (apply j_drawK it mx 18; (· rfl); (· rfl))
        (apply lxk_run 1; (· rfl); (· simp))
        (apply lxk_eq; (· rfl); (· exact d_x fun _ => x_true it rfl (by trivial) (by omega) dk_eq))
        (apply lxk_run 2; (· rfl); (· simp))
        (apply lxk_eq; (· rfl); (· exact d_x fun _ => x_true it rfl (by trivial) (by omega) dk_eq))
        (apply lxk_run 2; (· rfl); (· simp))
        (apply lxk_eq; (· rfl); (· exact d_bld_all 1 rfl rfl ld25 rfl))
        (apply lxk_eq; (· rfl); (· exact d_bld_all 2 rfl rfl ld25 rfl))
        (apply lxk_fa (val := (fun g => Value.agg #[Value.slice (g 0).fst (List.map negR B).length (g 1).snd.fst, Value.slice (g 2).fst (turned C.length A).length (g 3).snd.fst, Value.slice (g 4).fst (List.map negR C).length (g 5).snd.fst])) (f := (fun g => [slF RatE (g 0).fst (List.map negR B).length (g 1).snd.fst (List.map negR B), slF (encSl RatE) (g 2).fst (turned C.length A).length (g 3).snd.fst (turned C.length A), slF RatE (g 4).fst (List.map negR C).length (g 5).snd.fst (List.map negR C)])); (· rfl); (· exact d_x fun _ => x_call [8, 9, 10] rfl (S_codewrightref35_Dual (by first | omega | exact side _ (by assumption) | assumption | rfl | (simp; done) | (simp; omega)) (by first | omega | exact side _ (by assumption) | assumption | rfl | (simp; done) | (simp; omega)) (by first | omega | exact side _ (by assumption) | assumption | rfl | (simp; done) | (simp; omega)) (by first | omega | exact side _ (by assumption) | assumption | rfl | (simp; done) | (simp; omega)) (by first | omega | exact side _ (by assumption) | assumption | rfl | (simp; done) | (simp; omega)) (by first | omega | exact side _ (by assumption) | assumption | rfl | (simp; done) | (simp; omega))) rfl (by rintro _ _ _ ⟨p1g0, c1g1, p2g2, c2g3, p3g4, c3g5, rfl, rfl, rfl⟩; exact fun _ _ _ hG => ⟨(fun | 0 => (p1g0, 0, 0) | 1 => (none, c1g1, 0) | 2 => (p2g2, 0, 0) | 3 => (none, c2g3, 0) | 4 => (p3g4, 0, 0) | 5 => (none, c3g5, 0) | _ => default), rfl, fun g hg => drop_own (hG _ (List.mem_append_left _ hg))⟩)); intro g1; dsimp only [List.map_cons, List.map_nil])
        (apply lxk_eq; (· rfl); (· exact d_x fun _ => x_call [6, 7, 8, 0, 1, 2] rfl (S_codewrightref35_Same) rfl (by rintro _ _ _ ⟨rfl, rfl, rfl⟩; exact dk_eq)))
        (apply lxk_run 2; (· rfl); (· simp))
        (apply lxk_eq; (· rfl); (· exact d_bld_all 0 rfl rfl ld25 rfl))
        (apply lxk_eq; (· rfl); (· exact d_bld_all 2 rfl rfl ld25 rfl))
        (apply lxk_fa (val := (fun g => Value.agg #[Value.slice (g 0).fst (List.map negR (List.map negR C)).length (g 1).snd.fst, Value.slice (g 2).fst (turned (List.map negR B).length (turned C.length A)).length (g 3).snd.fst, Value.slice (g 4).fst (List.map negR (List.map negR B)).length (g 5).snd.fst])) (f := (fun g => [slF RatE (g 0).fst (List.map negR (List.map negR C)).length (g 1).snd.fst (List.map negR (List.map negR C)), slF (encSl RatE) (g 2).fst (turned (List.map negR B).length (turned C.length A)).length (g 3).snd.fst (turned (List.map negR B).length (turned C.length A)), slF RatE (g 4).fst (List.map negR (List.map negR B)).length (g 5).snd.fst (List.map negR (List.map negR B))])); (· rfl); (· exact d_x fun _ => x_call [11, 12, 13] rfl (S_codewrightref35_Canon (by first | omega | exact side _ (by assumption) | assumption | rfl | (simp; done) | (simp; omega)) (by first | omega | exact side _ (by assumption) | assumption | rfl | (simp; done) | (simp; omega)) (by first | omega | exact side _ (by assumption) | assumption | rfl | (simp; done) | (simp; omega)) (by first | omega | exact side _ (by assumption) | assumption | rfl | (simp; done) | (simp; omega)) (by first | omega | exact side _ (by assumption) | assumption | rfl | (simp; done) | (simp; omega)) (by first | omega | exact side _ (by assumption) | assumption | rfl | (simp; done) | (simp; omega))) rfl (by rintro _ _ _ ⟨p1g0, c1g1, p2g2, c2g3, p3g4, c3g5, rfl, rfl, rfl⟩; exact fun _ _ _ hG => ⟨(fun | 0 => (p1g0, 0, 0) | 1 => (none, c1g1, 0) | 2 => (p2g2, 0, 0) | 3 => (none, c2g3, 0) | 4 => (p3g4, 0, 0) | 5 => (none, c3g5, 0) | _ => default), rfl, fun g hg => drop_own (hG _ (List.mem_append_left _ hg))⟩)); intro g2; dsimp only [List.map_cons, List.map_nil])
        (apply lxk_eq; (· rfl); (· exact d_x fun _ => x_call [6, 7, 8, 0, 1, 2] rfl (S_codewrightref35_Same) rfl (by rintro _ _ _ ⟨rfl, rfl, rfl⟩; exact dk_eq)))
        (apply lxk_run 1; (· rfl); (· simp))
        refine lxk_end rfl ?_
        simp only [List.map_cons, List.map_nil, List.cons_append, List.nil_append]
        refine j_run it 1 rfl (by simp) ?_
        refine j_nf [.c [1, 1, 1, 1, 1, 1]] rfl ?_
        refine j_giv [] rfl rfl rfl ⟨rfl, rfl, rfl⟩
    · have h8 : smallB 8 C A B = false := by simpa using hs
      refine j_nf [.o [0] 0, .c [1]] rfl ?_
      refine j_step rfl (x_box_agg rfl fun b1 => ?_)
      refine j_run it 1 rfl (by simp) ?_
      refine j_nf [.o [1, 0, 0] 0, .c [1, 0, 1], .c [1, 1]] rfl ?_
      refine j_step rfl (x_bld_all 0 rfl rfl ld25 rfl ?_)
      refine j_step rfl (x_call [2, 3, 4] rfl (S_codewrightref35_Check) rfl ?_)
      rintro _ _ _ ⟨rfl, rfl, rfl⟩
      simp only [List.cons_append, List.nil_append]
      refine j_run it 2 rfl (by simp) ?_
      refine j_split_dec (t := 10) rfl (fun h1 => ?_) (fun h1 => by exfalso; omega)
      refine j_gstep rfl rfl (x_bld_all 0 rfl rfl ld25 rfl ?_)
      refine j_gstep rfl rfl (x_call [2, 3, 4] rfl (S_codewrightlaw35_fits) rfl ?_)
      rintro _ _ _ ⟨rfl, rfl, rfl⟩
      simp only [List.cons_append, List.nil_append]
      refine j_run it 2 rfl (by simp) ?_
      refine j_nf [.c [1, 0, 1], .c [1, 1]] rfl ?_
      refine j_cond rfl rfl (fun h2 => ?_) (fun h2 => ?_)
      · refine j_nf [.o [1, 0, 1, 0, 0] 0, .c [1, 0, 1, 0, 1], .c [1, 1]] rfl ?_
        refine j_run it 1 rfl (by simp) ?_
        refine j_nf [.c [1, 0, 1, 0, 1], .c [1, 1]] rfl ?_
        refine j_giv [] rfl rfl rfl ⟨rfl, rfl, rfl⟩
      · rw [h8] at h2
        exact absurd h2 (by decide)
  · refine j_nf [.o [0] 0, .c [1]] rfl ?_
    refine j_step rfl (x_box_agg rfl fun b1 => ?_)
    refine j_run it 1 rfl (by simp) ?_
    refine j_nf [.o [1, 0, 0] 0, .c [1, 0, 1], .c [1, 1]] rfl ?_
    refine j_step rfl (x_bld_all 0 rfl rfl ld25 rfl ?_)
    refine j_step rfl (x_call [2, 3, 4] rfl (S_codewrightref35_Check) rfl ?_)
    rintro _ _ _ ⟨rfl, rfl, rfl⟩
    simp only [List.cons_append, List.nil_append]
    refine j_run it 2 rfl (by simp) ?_
    refine j_split_dec (t := 10) rfl (fun h1 => by exfalso; omega) (fun h1 => ?_)
    refine j_run it 4 rfl (by simp) ?_
    refine j_nf [.c [1, 0, 1], .c [1, 1]] rfl ?_
    refine j_false rfl rfl ?_
    refine j_nf [.o [1, 1, 0] 0, .c [1, 1, 1]] rfl ?_
    refine j_step rfl (x_bld_all 0 rfl rfl ld25 rfl ?_) --ok
    refine j_step rfl (x_call [2, 3, 4] rfl (S_simplex_Dual_err hch) rfl ?_)
    rintro _ _ _ ⟨rfl, rfl, rfl⟩
    simp only [List.cons_append, List.nil_append]
    refine j_run it 3 rfl (by simp) ?_
    refine j_step rfl (x_alloc zo25 fun b2 => ?_)
    refine j_step rfl (x_bst_all 0 rfl rfl rfl ld25 rfl rfl (by simp [Value.oneCell']) ?_)
    refine j_run it 1 rfl (by simp) ?_
    refine j_nf [.o [1, 1, 1, 0, 0] 0, .c [1, 1, 1, 0, 1], .c [1, 1, 1, 1]] rfl ?_
    refine j_step rfl (x_bld_all 1 rfl rfl ld25 rfl ?_)
    refine j_step rfl (x_call [2, 3, 4] rfl (S_codewrightref35_Check) rfl ?_)
    rintro _ _ _ ⟨rfl, rfl, rfl⟩
    simp only [List.cons_append, List.nil_append]
    refine j_run it 1 rfl (by simp) ?_
    refine j_nf [.c [1, 1, 1, 0, 1], .c [1, 1, 1, 1]] rfl ?_
    refine j_ifn rfl rfl (fun h2 => ?_) (fun h2 => by exfalso; omega)
    refine j_nf [.o [1, 1, 1, 0, 1, 0, 0] 0, .c [1, 1, 1, 0, 1, 0, 1], .c [1, 1, 1, 1]] rfl ?_
    refine j_run it 1 rfl (by simp) ?_
    refine j_step rfl (x_bld_all 1 rfl rfl ld25 rfl ?_)
    refine j_step rfl (x_call [2, 3, 4] rfl (S_codewrightref35_Check) rfl ?_)
    rintro _ _ _ ⟨rfl, rfl, rfl⟩
    simp only [List.cons_append, List.nil_append]
    refine j_run it 2 rfl (by simp) ?_
    refine j_split_dec (t := 27) rfl (fun h3 => ?_) (fun h3 => by exfalso; omega)
    refine j_gstep rfl rfl (x_bld_all 0 rfl rfl ld25 rfl ?_)
    refine j_gstep rfl rfl (x_build (cs := [Value.slice none 0 0, Value.slice none 0 0, Value.slice none 0 0]) st25 zo25 rfl rfl ?_)
    refine j_gstep rfl rfl (x_call [0, 1, 0, 0, 1, 0] rfl (S_codewrightref35_Same) rfl ?_)
    rintro _ _ _ ⟨rfl, rfl, rfl⟩
    simp only [List.cons_append, List.nil_append]
    simp only [decide_true]
    refine j_run it 2 rfl (by simp) ?_
    refine j_nf [.c [1, 1, 1, 0, 1, 0, 1], .c [1, 1, 1, 1]] rfl ?_
    refine j_giv [] rfl rfl rfl ⟨rfl, rfl, rfl⟩
end Go.Proofs.Ytpoonnjaobjdgaa
