/-
Linear programs compared, made canonical, and looked at for their size.
-/
import Derived.Test.YtpoonnjaobjdgaaFuns
import Derived.Test.YtpoonnjaobjdgaaNatMath
import Derived.Test.YtpoonnjaobjdgaaNatMath5
import Derived.Test.YtpoonnjaobjdgaaRatMath
import Derived.Test.YtpoonnjaobjdgaaA1
import Derived.Test.YtpoonnjaobjdgaaD1
import Derived.Test.YtpoonnjaobjdgaaD3
import Derived.Test.YtpoonnjaobjdgaaE1
import Derived.Test.YtpoonnjaobjdgaaE3
import Derived.Test.YtpoonnjaobjdgaaS1
import Derived.Test.YtpoonnjaobjdgaaSChecks
import Derived.Test.YtpoonnjaobjdgaaS2
namespace Go.Proofs.Ytpoonnjaobjdgaa
open Go Go.Fw
set_option maxRecDepth 100000
set_option linter.unusedVariables false
set_option maxHeartbeats 2000000
/-- Two programs that read alike are the same. -/
theorem S_codewrightref35_Same {p1 p2 p3 q1 q2 q3 : Option Addr} {n1 n2 n3 m1 m2 m3 c1 c2 c3 d1 d2 d3 : Nat} {C B : List Rt} {A : List (List Rt)} : Ctr Try.prog 7 [.agg #[.slice p1 n1 c1, .slice p2 n2 c2, .slice p3 n3 c3], .agg #[.slice q1 m1 d1, .slice q2 m2 d2, .slice q3 m3 d3]] []
    [slF RatE p1 n1 c1 C, slF (encSl RatE) p2 n2 c2 A, slF RatE p3 n3 c3 B, slF RatE q1 m1 d1 C, slF (encSl RatE) q2 m2 d2 A, slF RatE q3 m3 d3 B] (Rv (.bool true) []) := by
  refine Ctr_of_j' (F := F_codewrightref35_Same) rfl fun Cx => ?_
  refine j_len 1 rfl fun hn hba _ => ?_
  refine j_len 4 rfl fun hm _ _ => ?_
  subst hn; subst hm
  have hba' : A.length * 24 ≤ 140737488355328 := hba
  refine j_nf [.o [0] 0, .c [1]] rfl ?_
  refine j_step rfl (x_box_agg rfl fun b1 => ?_)
  refine j_step rfl (x_box_agg rfl fun b2 => ?_)
  refine j_run it 1 rfl (by simp) ?_
  refine j_nf [.o [1, 0, 0] 0, .c [1, 0, 1], .c [1, 1]] rfl ?_
  refine j_step rfl (x_field rfl fd25_0 ?_)
  refine j_step rfl (x_bld 1 rfl rfl ld22 rfl ?_)
  refine j_step rfl (x_field rfl fd25_0 ?_)
  refine j_step rfl (x_bld 0 rfl rfl ld22 rfl ?_)
  refine j_step rfl (x_call [0, 3] rfl (S_codewrightref02_SameList) rfl ?_)
  rintro _ _ _ ⟨rfl, rfl, rfl⟩
  simp only [List.cons_append, List.nil_append]
  simp only [decide_true]
  refine j_run it 2 rfl (by simp) ?_
  refine j_gstep rfl rfl (x_field rfl fd25_2 ?_)
  refine j_gstep rfl rfl (x_bld 1 rfl rfl ld22 rfl ?_)
  refine j_gstep rfl rfl (x_field rfl fd25_2 ?_)
  refine j_gstep rfl rfl (x_bld 0 rfl rfl ld22 rfl ?_)
  refine j_gstep rfl rfl (x_call [2, 5] rfl (S_codewrightref02_SameList) rfl ?_)
  rintro _ _ _ ⟨rfl, rfl, rfl⟩
  simp only [List.cons_append, List.nil_append]
  simp only [decide_true]
  refine j_run it 3 rfl (by simp) ?_
  refine j_gstep rfl rfl (x_field rfl fd25_1 ?_)
  refine j_gstep rfl rfl (x_bld 1 rfl rfl ld23 rfl ?_)
  refine j_gstep rfl rfl (x_len sl23 rfl ?_)
  refine j_gstep rfl rfl (x_field rfl fd25_1 ?_)
  refine j_gstep rfl rfl (x_bld 0 rfl rfl ld23 rfl ?_)
  refine j_gstep rfl rfl (x_len sl23 rfl ?_)
  refine j_run it 2 rfl (by simp) ?_
  refine j_nf [.c [1, 0, 1], .c [1, 1]] rfl ?_
  refine j_ifn rfl rfl (fun h1 => by exfalso; omega) (fun h1 => ?_)
  refine j_nf [.o [1, 1, 0, 0] 0, .c [1, 1, 0, 1], .c [1, 1, 1]] rfl ?_
  refine j_run it 1 rfl (by simp) ?_
  refine j_nf [.c [1, 1, 0, 1, 0], .blk 0, .c [1, 1, 1]] rfl ?_
  refine j_loopG (X := Nat) [2, 3] [0, 1, 2, 3, 4, 5] (fun k => [(5, .int .i64 k)]) (fun _ => [(some b2, 25, [.slice q1 m1 d1, .slice q2 A.length d2, .slice q3 m3 d3]), (some b1, 25, [.slice p1 n1 c1, .slice p2 A.length c2, .slice p3 n3 c3])]) (fun _ => []) (fun k => k ≤ A.length) (fun k => A.length - k) 0 [] rfl rfl rfl (Nat.zero_le _) (by repeat (first | exact Fr.sub_nil _ | refine Fr.sub_cons rfl ?_)) rfl rfl ?_
  intro k hk ih
  simp only [List.cons_append, List.nil_append] at ih ⊢
  by_cases hkl : k < A.length
  · refine j_nf [.o [1, 1, 0, 1, 0, 0, 0, 0] 0, .c [1, 1, 0, 1, 0, 0, 0, 1], .c [1, 1, 0, 1, 0, 0, 1], .lp [1, 1, 0, 1, 0, 0], .blk 0, .c [1, 1, 1]] rfl ?_
    refine j_run it 1 rfl (by simp) ?_
    refine j_step rfl (x_field rfl fd25_1 ?_)
    refine j_step rfl (x_bld 1 rfl rfl ld23 rfl ?_)
    refine j_step rfl (x_len sl23 rfl ?_)
    refine j_run it 1 rfl (by simp) ?_
    refine j_nf [.c [1, 1, 0, 1, 0, 0, 0, 1], .c [1, 1, 0, 1, 0, 0, 1], .lp [1, 1, 0, 1, 0, 0], .blk 0, .c [1, 1, 1]] rfl ?_
    refine j_if rfl rfl (fun h2 => ?_) (fun h2 => by exfalso; omega)
    refine j_nf [.c [1, 1, 0, 1, 0, 0, 1, 0, 0, 0], .c [1, 1, 0, 1, 0, 0, 1, 0, 0, 1], .blk 1, .c [1, 1, 0, 1, 0, 0, 1, 1], .lp [1, 1, 0, 1, 0, 0], .blk 0, .c [1, 1, 1]] rfl ?_
    (apply j_drawK it mx 12; (· rfl); (· rfl))
    (apply lxk_eq; (· rfl); (· exact d_x fun _ => x_field rfl fd25_1 dk_eq))
    (apply lxk_eq; (· rfl); (· exact d_bld 1 rfl rfl ld23 rfl))
    (apply lxk_run 1; (· rfl); (· simp))
    (apply lxk_pt; (· rfl); (· exact d_x fun _ => x_idx 1 (k) rfl rfl rfl sl23 rfl (by omega) fun z1 hz1 b3 o1 => (dk_ptD default hz1 0 rfl)); intro b3 o1)
    (apply lxk_sl; (· rfl); (· exact d_x fun _ => x_ld_sl 0 rfl rfl ld22 fun pa1 ca1 => (dk_sl 0 rfl)); intro pa1 ca1)
    (apply lxk_eq; (· rfl); (· exact d_x fun _ => x_field rfl fd25_1 dk_eq))
    (apply lxk_eq; (· rfl); (· exact d_bld 0 rfl rfl ld23 rfl))
    (apply lxk_run 1; (· rfl); (· simp))
    (apply lxk_pt; (· rfl); (· exact d_x fun _ => x_idx 4 (k) rfl rfl rfl sl23 rfl (by omega) fun z1 hz1 b4 o2 => (dk_ptD default hz1 0 rfl)); intro b4 o2)
    (apply lxk_sl; (· rfl); (· exact d_x fun _ => x_ld_sl 0 rfl rfl ld22 fun pa2 ca2 => (dk_sl 0 rfl)); intro pa2 ca2)
    (apply lxk_eq; (· rfl); (· exact d_x fun _ => x_call [2, 0] rfl (S_codewrightref02_SameList) rfl (by rintro _ _ _ ⟨rfl, rfl, rfl⟩; exact dk_eq)))
    (apply lxk_run 1; (· rfl); (· simp))
    refine lxk_end rfl ?_
    simp only [List.map_cons, List.map_nil, List.cons_append, List.nil_append]
    refine j_nf [.c [1, 1, 0, 1, 0, 0, 1, 0, 0, 1], .blk 1, .c [1, 1, 0, 1, 0, 0, 1, 1], .lp [1, 1, 0, 1, 0, 0], .blk 0, .c [1, 1, 1]] rfl ?_
    refine j_ifn rfl rfl (fun h3 => ?_) (fun h3 => ?_)
    · exact absurd trivial ‹¬ True›
    · refine j_nf [.o [1, 1, 0, 1, 0, 0, 1, 1] 0, .lp [1, 1, 0, 1, 0, 0], .blk 0, .c [1, 1, 1]] rfl ?_
      refine j_run it 3 rfl (by repeat' first | exact trivial | apply And.intro | omega) ?_
      refine j_nfn 1 [.lp [1, 1, 0, 1, 0, 0], .blk 0, .c [1, 1, 1]] rfl ?_
      refine j_to [4, 5, 6, 7, 8, 9] (by repeat (first | exact Fr.sub_nil _ | refine Fr.sub_cons rfl ?_ | refine Fr.sub_consI rfl (by first | omega | (dsimp only; omega)) ?_ | refine Fr.sub_consS rfl (by first | omega | (dsimp only; omega)) (by first | omega | (dsimp only; omega)) ?_)) rfl rfl (ih (k + 1) (by omega) (by omega))
  · refine j_nf [.o [1, 1, 0, 1, 0, 0, 0, 0] 0, .c [1, 1, 0, 1, 0, 0, 0, 1], .c [1, 1, 0, 1, 0, 0, 1], .lp [1, 1, 0, 1, 0, 0], .blk 0, .c [1, 1, 1]] rfl ?_
    refine j_run it 1 rfl (by simp) ?_
    refine j_step rfl (x_field rfl fd25_1 ?_)
    refine j_step rfl (x_bld 1 rfl rfl ld23 rfl ?_)
    refine j_step rfl (x_len sl23 rfl ?_)
    refine j_run it 1 rfl (by simp) ?_
    refine j_nf [.c [1, 1, 0, 1, 0, 0, 0, 1], .c [1, 1, 0, 1, 0, 0, 1], .lp [1, 1, 0, 1, 0, 0], .blk 0, .c [1, 1, 1]] rfl ?_
    refine j_if rfl rfl (fun h2 => by exfalso; omega) (fun h2 => ?_)
    refine j_nf [.o [1, 1, 1, 0] 0, .c [1, 1, 1, 1]] rfl ?_
    refine j_run it 1 rfl (by simp) ?_
    refine j_nf [.c [1, 1, 1, 1]] rfl ?_
    refine j_giv [] rfl rfl rfl ⟨rfl, rfl, rfl⟩

theorem negR_ok {k : Nat} {r : Rt} (h : okR k r) (hk : 1 ≤ k) : okR k (negR r) :=
  ⟨limbs_lt _, limbs_lt _, (bd_len (bd_neg (okR_bd h hk))).1, (bd_len (bd_neg (okR_bd h hk))).2⟩

theorem smallL_of {L : List Rt} {k : Nat} (h : ∀ r ∈ L, okR k r) (hk : k ≤ 1073741824) : smallL L := fun r hr => ⟨Nat.le_trans (h r hr).2.2.1 hk, Nat.le_trans (h r hr).2.2.2 hk⟩

theorem map_ok {L : List Rt} {k : Nat} (h : ∀ r ∈ L, okR k r) (hk : 1 ≤ k) : ∀ r ∈ L.map negR, okR k r := fun r hr => by
  obtain ⟨x, hx, rfl⟩ := List.mem_map.1 hr
  exact negR_ok (h x hx) hk

theorem turned_ok {A : List (List Rt)} {m k : Nat} (h : ∀ row ∈ A, row.length = m ∧ ∀ r ∈ row, okR k r) (hk : 1 ≤ k) : ∀ row ∈ turned m A, row.length = A.length ∧ ∀ r ∈ row, okR k r := fun row hr => by
  simp only [turned, List.mem_map, List.mem_range] at hr
  obtain ⟨j, hj, rfl⟩ := hr
  refine ⟨by simp, fun r hr => ?_⟩
  obtain ⟨x, hx, rfl⟩ := List.mem_map.1 hr
  obtain ⟨h1, h2⟩ := h x hx
  refine negR_ok (h2 _ ?_) hk
  rw [List.getD, List.getElem?_eq_getElem (by omega)]
  exact List.getElem_mem _

theorem turned_len (m : Nat) (A : List (List Rt)) : (turned m A).length = m := by simp [turned]

theorem S_codewrightref35_Canon {p1 p2 p3 : Option Addr} {c1 c2 c3 : Nat} {C B : List Rt} {A : List (List Rt)} (hC : ∀ r ∈ C, okR 2 r) (hB : ∀ r ∈ B, okR 2 r) (hA : ∀ row ∈ A, row.length = C.length ∧ ∀ r ∈ row, okR 2 r) (lC : C.length ≤ 80) (lA : A.length ≤ 80) (hAB : A.length = B.length) :
    Ctr Try.prog 9 [.agg #[.slice p1 C.length c1, .slice p2 A.length c2, .slice p3 B.length c3]] [] [slF RatE p1 C.length c1 C, slF (encSl RatE) p2 A.length c2 A, slF RatE p3 B.length c3 B]
    (LinV ((C.map negR).map negR) (turned (B.map negR).length (turned C.length A)) ((B.map negR).map negR)) := by
  refine Ctr_of_j' (F := F_codewrightref35_Canon) rfl fun Cx => ?_
  have hk : 1 ≤ 2 := by omega
  have hk2 : 2 ≤ 1073741824 := by omega
  have a1 := smallL_of hC hk2
  have a2 := smallL_of hB hk2
  have a3 : ∀ row ∈ A, row.length = C.length ∧ smallL row := fun row h => ⟨(hA row h).1, smallL_of (hA row h).2 hk2⟩
  have a4 := smallL_of (map_ok hC hk) hk2
  have a5 := smallL_of (map_ok hB hk) hk2
  have a6 : ∀ row ∈ turned C.length A, row.length = (B.map negR).length ∧ smallL row := fun row h => ⟨by rw [List.length_map, ← hAB]; exact (turned_ok hA hk row h).1, smallL_of (turned_ok hA hk row h).2 hk2⟩
  have a7 : (turned C.length A).length ≤ 80 := by rw [turned_len]; exact lC
  have a8 : (B.map negR).length ≤ 80 := by rw [List.length_map]; omega
  have a9 : (C.map negR).length ≤ 80 := by rw [List.length_map]; omega
  refine j_nf [.o [0] 0, .c [1]] rfl ?_
  refine j_step rfl (x_box_agg rfl fun b1 => ?_)
  refine j_step rfl (x_alloc zo25 fun b2 => ?_)
  refine j_nf [.o [1, 0] 0, .c [1, 1]] rfl ?_
  refine j_step rfl (x_bld_all 1 rfl rfl ld25 rfl ?_)
  refine j_step rfl (x_call [0, 1, 2] rfl (S_codewrightref35_Dual (by first | omega | exact side _ (by assumption) | assumption | rfl | (simp; done) | (simp; omega)) (by first | omega | exact side _ (by assumption) | assumption | rfl | (simp; done) | (simp; omega)) (by first | omega | exact side _ (by assumption) | assumption | rfl | (simp; done) | (simp; omega)) (by first | omega | exact side _ (by assumption) | assumption | rfl | (simp; done) | (simp; omega)) (by first | omega | exact side _ (by assumption) | assumption | rfl | (simp; done) | (simp; omega)) (by first | omega | exact side _ (by assumption) | assumption | rfl | (simp; done) | (simp; omega))) rfl ?_)
  rintro _ _ _ ⟨p11, c11, p21, c21, p31, c31, rfl, rfl, rfl⟩
  simp only [List.cons_append, List.nil_append]
  refine j_step rfl (x_call [0, 1, 2] rfl (S_codewrightref35_Dual (by first | omega | exact side _ (by assumption) | assumption | rfl | (simp; done) | (simp; omega)) (by first | omega | exact side _ (by assumption) | assumption | rfl | (simp; done) | (simp; omega)) (by first | omega | exact side _ (by assumption) | assumption | rfl | (simp; done) | (simp; omega)) (by first | omega | exact side _ (by assumption) | assumption | rfl | (simp; done) | (simp; omega)) (by first | omega | exact side _ (by assumption) | assumption | rfl | (simp; done) | (simp; omega)) (by first | omega | exact side _ (by assumption) | assumption | rfl | (simp; done) | (simp; omega))) rfl ?_)
  rintro _ _ _ ⟨p12, c12, p22, c22, p32, c32, rfl, rfl, rfl⟩
  simp only [List.cons_append, List.nil_append]
  refine j_step rfl (x_bst_all 0 rfl rfl rfl ld25 rfl rfl (by simp [Value.oneCell']) ?_)
  refine j_nf [.c [1, 1]] rfl ?_
  refine j_givC [0, 1, 2] rfl (.agg 0 rfl rfl ld25 rfl .nil) rfl ⟨_, _, _, _, _, _, rfl, rfl, rfl⟩
end Go.Proofs.Ytpoonnjaobjdgaa
