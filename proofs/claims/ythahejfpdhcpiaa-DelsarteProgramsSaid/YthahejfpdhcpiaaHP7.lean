/-
The program's tests of linear programs: positive, feasible, column, covers. Apart; the columns of the layer delsarte; Of of the program. The document's binomial coefficient. The document's binomial coefficient; the program's for all places. The document's power. Krawtchouk, the program's and the document's. The program's Accept of certificates. The document's linear program of the bound. The program's own linear program of the bound.
-/
import Derived.Test.YthahejfpdhcpiaaHP6
set_option linter.unusedVariables false
set_option linter.unusedSimpArgs false

namespace Go.Proofs.Ythahejfpdhcpiaa
open Go Go.Fw
set_option maxRecDepth 100000
set_option linter.unusedVariables false
set_option linter.unusedSimpArgs false
set_option maxHeartbeats 4000000
theorem pos_step {x : List Rt} {k : Nat} {z : Rt} (hz : x[k]? = some z) (h : posB (x.take k) = true) (hs : ¬ (vq z).num.sign < 0) : posB (x.take (k + 1)) = true := by
  rw [posB, List.take_add_one, hz, List.all_append]
  have h1 : (x.take k).all (fun r => decide (0 ≤ vq r)) = true := h
  have h2 : 0 ≤ vq z := Rat.not_lt.1 fun h => hs (sign_neg.2 h)
  simp [h1, h2]
theorem pos_stop {x : List Rt} {k : Nat} {z : Rt} (hz : x[k]? = some z) (hs : (vq z).num.sign < 0) : posB x = false := by
  rw [posB, List.all_eq_false]
  exact ⟨z, List.mem_of_getElem? hz, by have := sign_neg.1 hs; simpa using Rat.not_le.2 this⟩

theorem S_simplex_positive {pa : Option Addr} {n ca : Nat} {x : List Rt} : Ctr Try.prog 39 [.slice pa n ca] [] [slF RatE pa n ca x] (Rv (.bool (posB x)) []) := by
  refine Ctr_of_j' (F := F_simplex_positive) rfl fun C => ?_
  refine j_len 0 rfl fun ea hb _ => ?_
  have hb' : x.length * 56 ≤ 140737488355328 := hb
  subst ea
  refine j_nf [.o [0] 0, .c [1]] rfl ?_
  refine j_run it 1 rfl (by simp) ?_
  refine j_nf [.o [1, 0, 0] 0, .c [1, 0, 1], .c [1, 1]] rfl ?_
  refine j_run it 1 rfl (by simp) ?_
  refine j_step rfl (x_len sl23 rfl ?_)
  refine j_run it 1 rfl (by simp) ?_
  refine j_nf [.c [1, 0, 1, 0], .blk 0, .c [1, 1]] rfl ?_
  refine j_loopG (X := Nat) [5, 6] [0] (fun k => [(7, .int .i64 k)]) (fun _ => []) (fun _ => []) (fun k => k ≤ x.length ∧ posB (x.take k) = true) (fun k => x.length - k) 0 [] rfl rfl rfl ⟨Nat.zero_le _, rfl⟩ (by repeat (first | exact Fr.sub_nil _ | refine Fr.sub_cons rfl ?_)) rfl rfl ?_
  rintro k ⟨hk, hp⟩ ih
  simp only [List.cons_append, List.nil_append] at hk hp ih ⊢
  by_cases hkl : k < x.length
  · have hz := get_some (l := x) (i := k) (dflt := default) hkl
    have hs : vq (x.getD k default) = vq (x.getD k default) := rfl
    refine j_nf [.o [1, 0, 1, 0, 0, 0] 0, .c [1, 0, 1, 0, 0, 1], .lp [1, 0, 1, 0, 0], .blk 0, .c [1, 1]] rfl ?_
    refine j_run it 1 rfl (by simp) ?_
    refine j_nf [.c [1, 0, 1, 0, 0, 1, 0], .c [1, 0, 1, 0, 0, 1, 1], .lp [1, 0, 1, 0, 0], .blk 0, .c [1, 1]] rfl ?_
    refine j_if rfl rfl (fun h1 => ?_) (fun h1 => by exfalso; omega)
    refine j_nf [.o [1, 0, 1, 0, 0, 1, 1, 0, 0, 0] 0, .c [1, 0, 1, 0, 0, 1, 1, 0, 0, 1], .blk 1, .c [1, 0, 1, 0, 0, 1, 1, 1], .lp [1, 0, 1, 0, 0], .blk 0, .c [1, 1]] rfl ?_
    refine j_step rfl (x_idx 0 (k) rfl rfl rfl sl23 rfl (by omega) fun z1 hz1 b1 o1 => ?_)
    refine j_step rfl (x_ld_rt 0 rfl rfl ld44 fun pa1 ca1 pa2 ca2 => ?_)
    refine j_step rfl (x_alloc zo44 fun b2 => ?_)
    refine j_step rfl (x_bst_all 0 rfl rfl rfl ld44 rfl rfl (by simp [Value.oneCell']) ?_)
    refine j_nf [.o [1, 0, 1, 0, 0, 1, 1, 0, 0, 1, 0] 0, .c [1, 0, 1, 0, 0, 1, 1, 0, 0, 1, 1], .blk 1, .c [1, 0, 1, 0, 0, 1, 1, 1], .lp [1, 0, 1, 0, 0], .blk 0, .c [1, 1]] rfl ?_
    refine j_step rfl (x_bld_all 0 rfl rfl ld44 rfl ?_)
    refine j_step rfl (x_call [0, 1] rfl (S_rational_Sign) rfl ?_)
    rintro _ _ _ ⟨rfl, rfl, rfl⟩
    simp only [List.cons_append, List.nil_append]
    refine j_run it 1 rfl (by simp) ?_
    refine j_nf [.c [1, 0, 1, 0, 0, 1, 1, 0, 0, 1, 1], .blk 1, .c [1, 0, 1, 0, 0, 1, 1, 1], .lp [1, 0, 1, 0, 0], .blk 0, .c [1, 1]] rfl ?_
    refine j_if rfl rfl (fun h2 => ?_) (fun h2 => ?_)
    · rw [pos_stop hz1 (by assumption)]
      refine j_nf [.o [1, 0, 1, 0, 0, 1, 1, 0, 0, 1, 1, 0, 0] 0, .c [1, 0, 1, 0, 0, 1, 1, 0, 0, 1, 1, 0, 1], .blk 1, .c [1, 0, 1, 0, 0, 1, 1, 1], .lp [1, 0, 1, 0, 0], .blk 0, .c [1, 1]] rfl ?_
      refine j_run it 1 rfl (by simp) ?_
      refine j_nf [.c [1, 0, 1, 0, 0, 1, 1, 0, 0, 1, 1, 0, 1], .blk 1, .c [1, 0, 1, 0, 0, 1, 1, 1], .lp [1, 0, 1, 0, 0], .blk 0, .c [1, 1]] rfl ?_
      refine j_giv [] rfl rfl rfl ⟨rfl, rfl, rfl⟩
    · refine j_nf [.o [1, 0, 1, 0, 0, 1, 1, 1] 0, .lp [1, 0, 1, 0, 0], .blk 0, .c [1, 1]] rfl ?_
      refine j_run it 2 rfl (by repeat' first | exact trivial | apply And.intro | omega) ?_
      refine j_nfn 1 [.lp [1, 0, 1, 0, 0], .blk 0, .c [1, 1]] rfl ?_
      refine j_toM [false] [3] (by repeat (first | exact Fr.sub_nil _ | refine Fr.sub_cons rfl ?_ | refine Fr.sub_consI rfl (by first | omega | (dsimp only; omega)) ?_ | refine Fr.sub_consS rfl (by first | omega | (dsimp only; omega)) (by first | omega | (dsimp only; omega)) ?_)) rfl rfl (ih (k + 1) (by omega) ⟨by omega, pos_step hz1 hp (by assumption)⟩)
  · obtain rfl : x.length = k := by omega
    rw [List.take_length] at hp
    rw [hp]
    refine j_nf [.o [1, 0, 1, 0, 0, 0] 0, .c [1, 0, 1, 0, 0, 1], .lp [1, 0, 1, 0, 0], .blk 0, .c [1, 1]] rfl ?_
    refine j_run it 1 rfl (by simp) ?_
    refine j_nf [.c [1, 0, 1, 0, 0, 1, 0], .c [1, 0, 1, 0, 0, 1, 1], .lp [1, 0, 1, 0, 0], .blk 0, .c [1, 1]] rfl ?_
    refine j_if rfl rfl (fun h1 => by exfalso; omega) (fun h1 => ?_)
    refine j_nf [.o [1, 1, 0] 0, .c [1, 1, 1]] rfl ?_
    refine j_run it 1 rfl (by simp) ?_
    refine j_nf [.c [1, 1, 1]] rfl ?_
    refine j_giv [] rfl rfl rfl ⟨rfl, rfl, rfl⟩

theorem le_step {M : List (List Rt)} {b x : List Rt} {k : Nat} (h : leB M b x k = true) (hs : ¬ 0 < (dotR (M.getD k default) x - vq (b.getD k default)).num.sign) : leB M b x (k + 1) = true := by
  rw [leB, range_all_succ]
  have h1 : (List.range k).all (fun i => decide (dotR (M.getD i default) x ≤ vq (b.getD i default))) = true := h
  have h2 : dotR (M.getD k default) x ≤ vq (b.getD k default) := Rat.not_lt.1 fun h => hs (cmp_pos.2 h)
  rw [h1, decide_eq_true h2]; rfl
theorem le_stop {M : List (List Rt)} {b x : List Rt} {k n : Nat} (hk : k < n) (hs : 0 < (dotR (M.getD k default) x - vq (b.getD k default)).num.sign) : leB M b x n = false :=
  range_all_false hk (decide_eq_false (Rat.not_le.2 (cmp_pos.1 hs)))

theorem S_simplex_feasible {p1 p2 p3 px : Option Addr} {nC nb c1 c2 c3 n cx K : Nat} {M : List (List Rt)} {b x : List Rt} (hK : 1 ≤ K) (hK2 : K ≤ 100000) (hA : ∀ row ∈ M, row.length = nC ∧ ∀ r ∈ row, okR K r) (hb : ∀ r ∈ b, okR K r) (hx : ∀ r ∈ x, okR K r) (hAB : M.length = b.length) (lC : nC ≤ 80) (lA : M.length ≤ 80) {res : Bool} (hres : feasB nC M b x = res) :
    Ctr Try.prog 61 [.agg #[.slice p1 nC c1, .slice p2 M.length c2, .slice p3 nb c3], .slice px n cx] [] [slF (encSl RatE) p2 M.length c2 M, slF RatE p3 nb c3 b, slF RatE px n cx x] (Rv (.bool res) []) := by
  subst hres
  refine Ctr_of_j' (F := F_simplex_feasible) rfl fun C => ?_
  refine j_len 2 rfl fun ex _ _ => ?_
  refine j_len 1 rfl fun eb _ _ => ?_
  subst ex
  by_cases hl : x.length = nC
  · refine j_nf [.o [0] 0, .c [1]] rfl ?_
    refine j_step rfl (x_box_agg rfl fun b1 => ?_)
    refine j_run it 1 rfl (by simp) ?_
    refine j_nf [.o [1, 0, 0] 0, .c [1, 0, 1], .c [1, 1]] rfl ?_
    refine j_run it 1 rfl (by simp) ?_
    refine j_step rfl (x_len sl23 rfl ?_)
    refine j_step rfl (x_field rfl fd26_0 ?_)
    refine j_step rfl (x_bld 0 rfl rfl ld23 rfl ?_)
    refine j_step rfl (x_len sl23 rfl ?_)
    refine j_run it 2 rfl (by simp) ?_
    refine j_split_ndec (t := 13) rfl (fun h1 => by exfalso; omega) (fun h1 => ?_)
    refine j_run it 1 rfl (by simp) ?_
    refine j_gstep rfl rfl (x_call [2] rfl (S_simplex_positive) rfl ?_)
    rintro _ _ _ ⟨rfl, rfl, rfl⟩
    simp only [List.cons_append, List.nil_append]
    refine j_run it 2 rfl (by simp) ?_
    refine j_nf [.c [1, 0, 1], .c [1, 1]] rfl ?_
    refine j_cond rfl rfl (fun h2 => ?_) (fun h2 => ?_)
    · rw [feasB, (by simpa using h2 : posB x = false), Bool.and_false, Bool.false_and]
      refine j_nf [.o [1, 0, 1, 0, 0] 0, .c [1, 0, 1, 0, 1], .c [1, 1]] rfl ?_
      refine j_run it 1 rfl (by simp) ?_
      refine j_nf [.c [1, 0, 1, 0, 1], .c [1, 1]] rfl ?_
      refine j_giv [] rfl rfl rfl ⟨rfl, rfl, rfl⟩
    · rw [feasB, (by simpa using h2 : posB x = true), decide_eq_true hl, Bool.true_and, Bool.true_and]
      refine j_nf [.o [1, 1, 0, 0] 0, .c [1, 1, 0, 1], .c [1, 1, 1]] rfl ?_
      refine j_step rfl (x_field rfl fd26_1 ?_)
      refine j_step rfl (x_bld 0 rfl rfl ld24 rfl ?_)
      refine j_step rfl (x_len sl24 rfl ?_)
      refine j_run it 1 rfl (by simp) ?_
      refine j_nf [.c [1, 1, 0, 1, 0], .blk 0, .c [1, 1, 1]] rfl ?_
      refine j_loopG (X := Nat) [1, 2, 19, 20] [0, 1, 2] (fun k => [(21, .int .i64 k)]) (fun _ => [(some b1, 26, [.slice p1 nC c1, .slice p2 M.length c2, .slice p3 nb c3])]) (fun _ => []) (fun k => k ≤ M.length ∧ leB M b x k = true) (fun k => M.length - k) 0 [] rfl rfl rfl ⟨Nat.zero_le _, rfl⟩ (by repeat (first | exact Fr.sub_nil _ | refine Fr.sub_cons rfl ?_)) rfl rfl ?_
      rintro k ⟨hk, hp⟩ ih
      simp only [List.cons_append, List.nil_append] at hk hp ih ⊢
      by_cases hkl : k < M.length
      · refine j_nf [.o [1, 1, 0, 1, 0, 0, 0] 0, .c [1, 1, 0, 1, 0, 0, 1], .lp [1, 1, 0, 1, 0, 0], .blk 0, .c [1, 1, 1]] rfl ?_
        refine j_run it 1 rfl (by simp) ?_
        refine j_nf [.c [1, 1, 0, 1, 0, 0, 1, 0], .c [1, 1, 0, 1, 0, 0, 1, 1], .lp [1, 1, 0, 1, 0, 0], .blk 0, .c [1, 1, 1]] rfl ?_
        refine j_if rfl rfl (fun h3 => ?_) (fun h3 => by exfalso; omega)
        refine j_nf [.o [1, 1, 0, 1, 0, 0, 1, 1, 0, 0, 0] 0, .c [1, 1, 0, 1, 0, 0, 1, 1, 0, 0, 1], .blk 1, .c [1, 1, 0, 1, 0, 0, 1, 1, 1], .lp [1, 1, 0, 1, 0, 0], .blk 0, .c [1, 1, 1]] rfl ?_
        refine j_run it 1 rfl (by simp) ?_
        refine j_step rfl (x_idx 0 (k) rfl rfl rfl sl24 rfl (by omega) fun z1 hz1 b2 o1 => ?_)
        refine j_step rfl (x_ld_sl 0 rfl rfl ld23 fun pa1 ca1 => ?_)
        refine j_run it 2 rfl (by simp) ?_
        refine j_nf [.c [1, 1, 0, 1, 0, 0, 1, 1, 0, 0, 1, 0], .c [1, 1, 0, 1, 0, 0, 1, 1, 0, 0, 1, 1], .blk 1, .c [1, 1, 0, 1, 0, 0, 1, 1, 1], .lp [1, 1, 0, 1, 0, 0], .blk 0, .c [1, 1, 1]] rfl ?_
        (apply j_drawK it mx 10; (· rfl); (· rfl))
        (apply lxk_run 2; (· rfl); (· simp)) --ok
        have ez : M.getD k default = z1 := getD_some hz1
        obtain ⟨y1, y2⟩ := hA _ (List.mem_of_getElem? hz1)
        have y3 := okR_at hb (show k < b.length by omega)
        obtain ⟨y4, y5⟩ := y3.2.2
        have y6 := dotR_bd hK y2 hx
        have y7 : (2 * K + 1) * z1.length + 1 ≤ 33554432 := by
          have h1 : z1.length ≤ 80 := by omega
          have := Nat.mul_le_mul (show 2 * K + 1 ≤ 200001 by omega) h1
          omega
        obtain ⟨y8, y9⟩ := bd_len (bd_mono y6 y7)
        (apply lxk_rq; (· rfl); (· exact d_x fun _ => x_call [0, 4] rfl (S_simplex_product (by first | omega | exact side _ (by assumption) | assumption | rfl | (simp; done) | (simp; omega)) (by first | omega | exact side _ (by assumption) | assumption | rfl | (simp; done) | (simp; omega)) (by first | omega | exact side _ (by assumption) | assumption | rfl | (simp; done) | (simp; omega)) (by first | omega | exact side _ (by assumption) | assumption | rfl | (simp; done) | (simp; omega)) (by first | omega | exact side _ (by assumption) | assumption | rfl | (simp; done) | (simp; omega)) (by first | omega | exact side _ (by assumption) | assumption | rfl | (simp; done) | (simp; omega))) rfl (by rintro _ _ _ ⟨pn1, cn1, pd1, cd1, rfl, rfl, rfl⟩; exact (dk_rq 0 1 rfl rfl))); intro pn1 cn1 pd1 cd1)
        (apply lxk_eq; (· rfl); (· exact d_x fun _ => x_field rfl fd26_2 dk_eq))
        (apply lxk_eq; (· rfl); (· exact d_bld 0 rfl rfl ld23 rfl))
        (apply lxk_run 1; (· rfl); (· simp))
        (apply lxk_pt; (· rfl); (· exact d_x fun _ => x_idx 3 (k) rfl rfl rfl sl23 rfl (by omega) fun z2 hz2 b3 o2 => (dk_ptD default hz2 0 rfl)); intro b3 o2)
        (apply lxk_rq; (· rfl); (· exact d_x fun _ => x_ld_rt 0 rfl rfl ld44 fun pa2 ca2 pa3 ca3 => (dk_rq 0 1 rfl rfl)); intro pn2 cn2 pd2 cd2)
        (apply lxk_eq; (· rfl); (· exact d_x fun _ => x_call [3, 4, 0, 1] rfl (S_rational_Cmp (by first | omega | exact side _ (by assumption) | assumption | rfl | (simp; done) | (simp; omega)) (by first | omega | exact side _ (by assumption) | assumption | rfl | (simp; done) | (simp; omega)) (by first | omega | exact side _ (by assumption) | assumption | rfl | (simp; done) | (simp; omega)) (by first | omega | exact side _ (by assumption) | assumption | rfl | (simp; done) | (simp; omega))) rfl (by rintro _ _ _ ⟨rfl, rfl, rfl⟩; exact dk_eq)))
        simp only [vq_rt']
        (apply lxk_run 1; (· rfl); (· simp))
        refine lxk_end rfl ?_
        simp only [List.map_cons, List.map_nil, List.cons_append, List.nil_append]
        refine j_nf [.c [1, 1, 0, 1, 0, 0, 1, 1, 0, 0, 1, 1], .blk 1, .c [1, 1, 0, 1, 0, 0, 1, 1, 1], .lp [1, 1, 0, 1, 0, 0], .blk 0, .c [1, 1, 1]] rfl ?_
        refine j_if rfl rfl (fun h4 => ?_) (fun h4 => ?_)
        · rw [le_stop (n := M.length) hkl (by rw [ez]; assumption)]
          refine j_nf [.o [1, 1, 0, 1, 0, 0, 1, 1, 0, 0, 1, 1, 0, 0] 0, .c [1, 1, 0, 1, 0, 0, 1, 1, 0, 0, 1, 1, 0, 1], .blk 1, .c [1, 1, 0, 1, 0, 0, 1, 1, 1], .lp [1, 1, 0, 1, 0, 0], .blk 0, .c [1, 1, 1]] rfl ?_
          refine j_run it 1 rfl (by simp) ?_
          refine j_nf [.c [1, 1, 0, 1, 0, 0, 1, 1, 0, 0, 1, 1, 0, 1], .blk 1, .c [1, 1, 0, 1, 0, 0, 1, 1, 1], .lp [1, 1, 0, 1, 0, 0], .blk 0, .c [1, 1, 1]] rfl ?_
          refine j_giv [] rfl rfl rfl ⟨rfl, rfl, rfl⟩
        · refine j_nf [.o [1, 1, 0, 1, 0, 0, 1, 1, 1] 0, .lp [1, 1, 0, 1, 0, 0], .blk 0, .c [1, 1, 1]] rfl ?_
          refine j_run it 2 rfl (by repeat' first | exact trivial | apply And.intro | omega) ?_
          refine j_nfn 1 [.lp [1, 1, 0, 1, 0, 0], .blk 0, .c [1, 1, 1]] rfl ?_
          refine j_to [7, 8, 9] (by repeat (first | exact Fr.sub_nil _ | refine Fr.sub_cons rfl ?_ | refine Fr.sub_consI rfl (by first | omega | (dsimp only; omega)) ?_ | refine Fr.sub_consS rfl (by first | omega | (dsimp only; omega)) (by first | omega | (dsimp only; omega)) ?_)) rfl rfl (ih (k + 1) (by omega) ⟨by omega, le_step hp (by rw [ez]; assumption)⟩)
      · obtain rfl : M.length = k := by omega
        rw [hp]
        refine j_nf [.o [1, 1, 0, 1, 0, 0, 0] 0, .c [1, 1, 0, 1, 0, 0, 1], .lp [1, 1, 0, 1, 0, 0], .blk 0, .c [1, 1, 1]] rfl ?_
        refine j_run it 1 rfl (by simp) ?_
        refine j_nf [.c [1, 1, 0, 1, 0, 0, 1, 0], .c [1, 1, 0, 1, 0, 0, 1, 1], .lp [1, 1, 0, 1, 0, 0], .blk 0, .c [1, 1, 1]] rfl ?_
        refine j_if rfl rfl (fun h3 => by exfalso; omega) (fun h3 => ?_)
        refine j_nf [.o [1, 1, 1, 0] 0, .c [1, 1, 1, 1]] rfl ?_
        refine j_run it 1 rfl (by simp) ?_
        refine j_nf [.c [1, 1, 1, 1]] rfl ?_
        refine j_giv [] rfl rfl rfl ⟨rfl, rfl, rfl⟩
  · rw [feasB, decide_eq_false hl, Bool.false_and, Bool.false_and]
    refine j_nf [.o [0] 0, .c [1]] rfl ?_
    refine j_step rfl (x_box_agg rfl fun b1 => ?_)
    refine j_run it 1 rfl (by simp) ?_
    refine j_nf [.o [1, 0, 0] 0, .c [1, 0, 1], .c [1, 1]] rfl ?_
    refine j_run it 1 rfl (by simp) ?_
    refine j_step rfl (x_len sl23 rfl ?_)
    refine j_step rfl (x_field rfl fd26_0 ?_)
    refine j_step rfl (x_bld 0 rfl rfl ld23 rfl ?_)
    refine j_step rfl (x_len sl23 rfl ?_)
    refine j_run it 2 rfl (by simp) ?_
    refine j_split_ndec (t := 13) rfl (fun h1 => ?_) (fun h1 => by exfalso; omega)
    refine j_run it 4 rfl (by simp) ?_
    refine j_nf [.c [1, 0, 1], .c [1, 1]] rfl ?_
    refine j_true rfl rfl ?_
    refine j_nf [.o [1, 0, 1, 0, 0] 0, .c [1, 0, 1, 0, 1], .c [1, 1]] rfl ?_
    refine j_run it 1 rfl (by simp) ?_
    refine j_nf [.c [1, 0, 1, 0, 1], .c [1, 1]] rfl ?_
    refine j_giv [] rfl rfl rfl ⟨rfl, rfl, rfl⟩

/-- A row of that length that reads so. -/
abbrev SvM {α : Type} (E : Enc α) (n : Nat) (l : List α) : Value → List Fact → List Blk → Prop := fun v Φ β => ∃ pa ca, v = .slice pa n ca ∧ Φ = [slF E pa n ca l] ∧ β = []

theorem map_take_all {α β : Type} [Inhabited α] (f : α → β) (d : β) (M : List α) : mapTo (fun i => f (M.getD i default)) d M.length M.length = M.map f := by
  rw [mapTo_all]
  refine List.ext_getElem (by simp) fun i h1 h2 => ?_
  have hi : i < M.length := by simpa using h2
  simp [List.getD, hi]

theorem S_simplex_column {p1 p2 p3 py : Option Addr} {nC nB c1 c2 c3 n cy K : Nat} {M : List (List Rt)} {y : List Rt} (hK : 1 ≤ K) (hK2 : K ≤ 100000) (hA : ∀ row ∈ M, row.length = nC ∧ ∀ r ∈ row, okR K r) (hy : ∀ r ∈ y, okR K r) (hyA : n = M.length) (lC : nC ≤ 80) (lA : M.length ≤ 80) :
    Ctr Try.prog 116 [.agg #[.slice p1 nC c1, .slice p2 M.length c2, .slice p3 nB c3], .slice py n cy] [] [slF (encSl RatE) p2 M.length c2 M, slF RatE py n cy y] (SvM RatE nC ((List.range nC).map fun j => rt (colR y M j))) := by
  refine Ctr_of_j' (F := F_simplex_column) rfl fun C => ?_
  refine j_len 1 rfl fun ey _ _ => ?_
  refine j_nf [.o [0] 0, .c [1]] rfl ?_
  refine j_step rfl (x_box_agg rfl fun b1 => ?_)
  refine j_run it 1 rfl (by simp) ?_
  refine j_nf [.o [1, 0] 0, .c [1, 1]] rfl ?_
  refine j_step rfl (x_field rfl fd26_0 ?_)
  refine j_step rfl (x_bld 0 rfl rfl ld23 rfl ?_)
  refine j_step rfl (x_len sl23 rfl ?_)
  refine j_step rfl (x_makeR RatE default (nC) _ rfl rfl sl23 zo23e rfl rfl by23e (by omega) (by omega) (by omega) rz44 fun b2 cs1 => ?_)
  refine j_run it 1 rfl (by simp) ?_
  refine j_nf [.o [1, 1, 0, 0] 0, .c [1, 1, 0, 1], .c [1, 1, 1]] rfl ?_
  refine j_run it 1 rfl (by simp) ?_
  refine j_step rfl (x_len sl23 rfl ?_)
  refine j_run it 1 rfl (by simp) ?_
  refine j_nf [.c [1, 1, 0, 1, 0], .blk 0, .c [1, 1, 1]] rfl ?_
  rw [← mapTo_zero (fun j => rt (colR y M j))]
  refine j_loopG (X := Nat × List Value) [1, 2, 4, 5, 15] [1, 2] (fun x => [(16, .int .i64 x.1)]) (fun x => [(some b2, 44, x.2), (some b1, 26, [.slice p1 nC c1, .slice p2 M.length c2, .slice p3 nB c3])]) (fun x => [rowF RatE ⟨some b2, nC, x.2⟩ nC (mapTo (fun j => rt (colR y M j)) default nC x.1)])
    (fun x => x.1 ≤ nC) (fun x => nC - x.1) (0, cs1) [0] rfl rfl rfl (Nat.zero_le _) (by repeat (first | exact Fr.sub_nil _ | refine Fr.sub_cons rfl ?_)) rfl rfl ?_
  rintro ⟨j, cs⟩ hj ih
  simp only [List.cons_append, List.nil_append] at hj ih ⊢
  by_cases hjl : j < nC
  · refine j_nf [.o [1, 1, 0, 1, 0, 0, 0] 0, .c [1, 1, 0, 1, 0, 0, 1], .lp [1, 1, 0, 1, 0, 0], .blk 0, .c [1, 1, 1]] rfl ?_
    refine j_run it 1 rfl (by simp) ?_
    refine j_nf [.c [1, 1, 0, 1, 0, 0, 1, 0], .c [1, 1, 0, 1, 0, 0, 1, 1], .lp [1, 1, 0, 1, 0, 0], .blk 0, .c [1, 1, 1]] rfl ?_
    refine j_if rfl rfl (fun h1 => ?_) (fun h1 => by exfalso; omega)
    refine j_nf [.o [1, 1, 0, 1, 0, 0, 1, 1, 0, 0, 0] 0, .c [1, 1, 0, 1, 0, 0, 1, 1, 0, 0, 1], .blk 1, .c [1, 1, 0, 1, 0, 0, 1, 1, 1], .lp [1, 1, 0, 1, 0, 0], .blk 0, .c [1, 1, 1]] rfl ?_
    refine j_run it 2 rfl (by simp) ?_
    refine j_nf [.o [1, 1, 0, 1, 0, 0, 1, 1, 0, 0, 1, 0] 0, .c [1, 1, 0, 1, 0, 0, 1, 1, 0, 0, 1, 1], .blk 1, .c [1, 1, 0, 1, 0, 0, 1, 1, 1], .lp [1, 1, 0, 1, 0, 0], .blk 0, .c [1, 1, 1]] rfl ?_
    refine j_step rfl (x_field rfl fd26_1 ?_)
    refine j_step rfl (x_bld 1 rfl rfl ld24 rfl ?_)
    refine j_step rfl (x_len sl24 rfl ?_)
    refine j_step rfl (x_makeR RatE default (M.length) _ rfl rfl sl23 zo23e rfl rfl by23e (by omega) (by omega) (by omega) rz44 fun b3 cs2 => ?_)
    refine j_run it 1 rfl (by simp) ?_
    refine j_nf [.o [1, 1, 0, 1, 0, 0, 1, 1, 0, 0, 1, 1, 0, 0] 0, .c [1, 1, 0, 1, 0, 0, 1, 1, 0, 0, 1, 1, 0, 1], .c [1, 1, 0, 1, 0, 0, 1, 1, 0, 0, 1, 1, 1], .blk 1, .c [1, 1, 0, 1, 0, 0, 1, 1, 1], .lp [1, 1, 0, 1, 0, 0], .blk 0, .c [1, 1, 1]] rfl ?_
    refine j_step rfl (x_field rfl fd26_1 ?_)
    refine j_step rfl (x_bld 2 rfl rfl ld24 rfl ?_)
    refine j_step rfl (x_len sl24 rfl ?_)
    refine j_run it 1 rfl (by simp) ?_
    refine j_nf [.c [1, 1, 0, 1, 0, 0, 1, 1, 0, 0, 1, 1, 0, 1, 0], .blk 2, .c [1, 1, 0, 1, 0, 0, 1, 1, 0, 0, 1, 1, 1], .blk 1, .c [1, 1, 0, 1, 0, 0, 1, 1, 1], .lp [1, 1, 0, 1, 0, 0], .blk 0, .c [1, 1, 1]] rfl ?_
    rw [← mapTo_zero (fun i => (M.getD i default).getD j default)]
    refine j_loopG (X := Nat × List Value) [1, 2, 4, 5, 6, 7, 15, 16, 17, 18, 19, 20, 21, 22, 23, 24, 25] [1, 2, 3] (fun x => [(26, .int .i64 x.1)]) (fun x => [(some b3, 44, x.2), (some b2, 44, cs), (some b1, 26, [.slice p1 nC c1, .slice p2 M.length c2, .slice p3 nB c3])]) (fun x => [rowF RatE ⟨some b3, M.length, x.2⟩ M.length (mapTo (fun i => (M.getD i default).getD j default) default M.length x.1)])
      (fun x => x.1 ≤ M.length) (fun x => M.length - x.1) (0, cs2) [0] rfl rfl rfl (Nat.zero_le _) (by repeat (first | exact Fr.sub_nil _ | refine Fr.sub_cons rfl ?_)) rfl rfl ?_
    rintro ⟨i, ds⟩ hi ihi
    simp only [List.cons_append, List.nil_append] at hi ihi ⊢
    by_cases hil : i < M.length
    · refine j_nf [.o [1, 1, 0, 1, 0, 0, 1, 1, 0, 0, 1, 1, 0, 1, 0, 0, 0] 0, .c [1, 1, 0, 1, 0, 0, 1, 1, 0, 0, 1, 1, 0, 1, 0, 0, 1], .lp [1, 1, 0, 1, 0, 0, 1, 1, 0, 0, 1, 1, 0, 1, 0, 0], .blk 2, .c [1, 1, 0, 1, 0, 0, 1, 1, 0, 0, 1, 1, 1], .blk 1, .c [1, 1, 0, 1, 0, 0, 1, 1, 1], .lp [1, 1, 0, 1, 0, 0], .blk 0, .c [1, 1, 1]] rfl ?_
      refine j_run it 1 rfl (by simp) ?_
      refine j_nf [.c [1, 1, 0, 1, 0, 0, 1, 1, 0, 0, 1, 1, 0, 1, 0, 0, 1, 0], .c [1, 1, 0, 1, 0, 0, 1, 1, 0, 0, 1, 1, 0, 1, 0, 0, 1, 1], .lp [1, 1, 0, 1, 0, 0, 1, 1, 0, 0, 1, 1, 0, 1, 0, 0], .blk 2, .c [1, 1, 0, 1, 0, 0, 1, 1, 0, 0, 1, 1, 1], .blk 1, .c [1, 1, 0, 1, 0, 0, 1, 1, 1], .lp [1, 1, 0, 1, 0, 0], .blk 0, .c [1, 1, 1]] rfl ?_
      refine j_if rfl rfl (fun h2 => ?_) (fun h2 => by exfalso; omega)
      refine j_nf [.o [1, 1, 0, 1, 0, 0, 1, 1, 0, 0, 1, 1, 0, 1, 0, 0, 1, 1, 0, 0, 0] 0, .c [1, 1, 0, 1, 0, 0, 1, 1, 0, 0, 1, 1, 0, 1, 0, 0, 1, 1, 0, 0, 1], .blk 3, .c [1, 1, 0, 1, 0, 0, 1, 1, 0, 0, 1, 1, 0, 1, 0, 0, 1, 1, 1], .lp [1, 1, 0, 1, 0, 0, 1, 1, 0, 0, 1, 1, 0, 1, 0, 0], .blk 2, .c [1, 1, 0, 1, 0, 0, 1, 1, 0, 0, 1, 1, 1], .blk 1, .c [1, 1, 0, 1, 0, 0, 1, 1, 1], .lp [1, 1, 0, 1, 0, 0], .blk 0, .c [1, 1, 1]] rfl ?_
      refine j_run it 1 rfl (by simp) ?_
      refine j_step rfl (x_idx 2 (i) rfl rfl rfl sl24 rfl (by omega) fun z1 hz1 b4 o1 => ?_)
      refine j_step rfl (x_ld_sl 0 rfl rfl ld23 fun pa1 ca1 => ?_)
      refine j_run it 2 rfl (by simp) ?_
      refine j_nf [.o [1, 1, 0, 1, 0, 0, 1, 1, 0, 0, 1, 1, 0, 1, 0, 0, 1, 1, 0, 0, 1] 0, .blk 3, .c [1, 1, 0, 1, 0, 0, 1, 1, 0, 0, 1, 1, 0, 1, 0, 0, 1, 1, 1], .lp [1, 1, 0, 1, 0, 0, 1, 1, 0, 0, 1, 1, 0, 1, 0, 0], .blk 2, .c [1, 1, 0, 1, 0, 0, 1, 1, 0, 0, 1, 1, 1], .blk 1, .c [1, 1, 0, 1, 0, 0, 1, 1, 1], .lp [1, 1, 0, 1, 0, 0], .blk 0, .c [1, 1, 1]] rfl ?_
      refine j_run it 4 rfl (by simp) ?_
      refine j_step rfl (x_idx 0 (j) rfl rfl rfl sl23 (by omega) ?_ fun z2 hz2 b5 o2 => ?_) --ok
      · have := (hA z1 (List.mem_of_getElem? hz1)).1
        omega
      have ez : (M.getD i default).getD j default = z2 := by rw [getD_some hz1, getD_some hz2]
      refine j_step rfl (x_ld_rt 0 rfl rfl ld44 fun pa2 ca2 pa3 ca3 => ?_)
      refine j_step rfl (x_idx_own (i) _ rfl rfl sl23 rfl (by omega) rfl ?_)
      refine j_step rfl (x_stR (vs := [Value.bool z2.fst, Value.slice pa2 z2.snd.fst.length ca2, Value.slice pa3 z2.snd.snd.length ca3]) (z := (z2.fst, (z2.snd.fst, z2.snd.snd))) 0 5 (i) rfl rfl rfl rfl rfl ld44 rfl (by omega) (fun w A hG => (rd_pair (v1 := [Value.bool z2.fst]) (rd_bool _) (rd_pair (v1 := [Value.slice pa2 z2.snd.fst.length ca2]) (rd_of_slF (hG _ (fact_mem (n := 0) rfl))) (rd_of_slF (hG _ (fact_mem (n := 1) rfl)))))) fun cs3 => ?_)
      refine j_nf [.o [1, 1, 0, 1, 0, 0, 1, 1, 0, 0, 1, 1, 0, 1, 0, 0, 1, 1, 1] 0, .lp [1, 1, 0, 1, 0, 0, 1, 1, 0, 0, 1, 1, 0, 1, 0, 0], .blk 2, .c [1, 1, 0, 1, 0, 0, 1, 1, 0, 0, 1, 1, 1], .blk 1, .c [1, 1, 0, 1, 0, 0, 1, 1, 1], .lp [1, 1, 0, 1, 0, 0], .blk 0, .c [1, 1, 1]] rfl ?_
      refine j_run it 2 rfl (by repeat' first | exact trivial | apply And.intro | omega) ?_
      refine j_nfn 1 [.lp [1, 1, 0, 1, 0, 0, 1, 1, 0, 0, 1, 1, 0, 1, 0, 0], .blk 2, .c [1, 1, 0, 1, 0, 0, 1, 1, 0, 0, 1, 1, 1], .blk 1, .c [1, 1, 0, 1, 0, 0, 1, 1, 1], .lp [1, 1, 0, 1, 0, 0], .blk 0, .c [1, 1, 1]] rfl ?_
      rw [← ez, mapTo_set (fun i => (M.getD i default).getD j default)]
      refine j_to [0, 7, 8, 9] (by repeat (first | exact Fr.sub_nil _ | refine Fr.sub_cons rfl ?_ | refine Fr.sub_consI rfl (by first | omega | (dsimp only; omega)) ?_ | refine Fr.sub_consS rfl (by first | omega | (dsimp only; omega)) (by first | omega | (dsimp only; omega)) ?_)) rfl rfl (ihi (i + 1, cs3) (by dsimp only; omega) (by dsimp only; omega))
    · obtain rfl : M.length = i := by omega
      rw [map_take_all (fun row : List Rt => row.getD j default)]
      have hcol : ∀ r ∈ M.map (fun row : List Rt => row.getD j default), okR K r := fun r hr => by
        obtain ⟨row, h1, rfl⟩ := List.mem_map.1 hr
        exact okR_at (hA row h1).2 (by rw [(hA row h1).1]; exact hjl)
      refine j_nf [.o [1, 1, 0, 1, 0, 0, 1, 1, 0, 0, 1, 1, 0, 1, 0, 0, 0] 0, .c [1, 1, 0, 1, 0, 0, 1, 1, 0, 0, 1, 1, 0, 1, 0, 0, 1], .lp [1, 1, 0, 1, 0, 0, 1, 1, 0, 0, 1, 1, 0, 1, 0, 0], .blk 2, .c [1, 1, 0, 1, 0, 0, 1, 1, 0, 0, 1, 1, 1], .blk 1, .c [1, 1, 0, 1, 0, 0, 1, 1, 1], .lp [1, 1, 0, 1, 0, 0], .blk 0, .c [1, 1, 1]] rfl ?_
      refine j_run it 1 rfl (by simp) ?_
      refine j_nf [.c [1, 1, 0, 1, 0, 0, 1, 1, 0, 0, 1, 1, 0, 1, 0, 0, 1, 0], .c [1, 1, 0, 1, 0, 0, 1, 1, 0, 0, 1, 1, 0, 1, 0, 0, 1, 1], .lp [1, 1, 0, 1, 0, 0, 1, 1, 0, 0, 1, 1, 0, 1, 0, 0], .blk 2, .c [1, 1, 0, 1, 0, 0, 1, 1, 0, 0, 1, 1, 1], .blk 1, .c [1, 1, 0, 1, 0, 0, 1, 1, 1], .lp [1, 1, 0, 1, 0, 0], .blk 0, .c [1, 1, 1]] rfl ?_
      refine j_if rfl rfl (fun h2 => by exfalso; omega) (fun h2 => ?_)
      refine j_nf [.o [1, 1, 0, 1, 0, 0, 1, 1, 0, 0, 1, 1, 1] 0, .blk 1, .c [1, 1, 0, 1, 0, 0, 1, 1, 1], .lp [1, 1, 0, 1, 0, 0], .blk 0, .c [1, 1, 1]] rfl ?_
      refine j_run it 4 rfl (by simp) ?_
      refine j_pubRb 0 0 rfl rfl (by show (M.length) * 56 ≤ 140737488355328; omega) ?_
      refine j_step rfl (x_call [4, 0] rfl (S_simplex_product (by first | omega | exact side _ (by assumption) | assumption | rfl | (simp; done) | (simp; omega)) (by first | omega | exact side _ (by assumption) | assumption | rfl | (simp; done) | (simp; omega)) (by first | omega | exact side _ (by assumption) | assumption | rfl | (simp; done) | (simp; omega)) (by first | omega | exact side _ (by assumption) | assumption | rfl | (simp; done) | (simp; omega)) (by first | omega | exact side _ (by assumption) | assumption | rfl | (simp; done) | (simp; omega)) (by first | omega | exact side _ (by assumption) | assumption | rfl | (simp; done) | (simp; omega))) rfl ?_)
      rintro _ _ _ ⟨pn1, cn1, pd1, cd1, rfl, rfl, rfl⟩
      simp only [List.cons_append, List.nil_append]
      refine j_step rfl (x_idx_own (j) _ rfl rfl sl23 rfl (by omega) rfl ?_)
      refine j_step rfl (x_stR (vs := [Value.bool (rt (dotR y (List.map (fun row => row.getD j default) M))).fst, Value.slice pn1 (rt (dotR y (List.map (fun row => row.getD j default) M))).snd.fst.length cn1, Value.slice pd1 (rt (dotR y (List.map (fun row => row.getD j default) M))).snd.snd.length cd1]) (z := ((rt (dotR y (List.map (fun row => row.getD j default) M))).fst, ((rt (dotR y (List.map (fun row => row.getD j default) M))).snd.fst, (rt (dotR y (List.map (fun row => row.getD j default) M))).snd.snd))) 0 4 (j) rfl rfl rfl rfl rfl ld44 rfl (by omega) (fun w A hG => (rd_pair (v1 := [Value.bool (rt (dotR y (List.map (fun row => row.getD j default) M))).fst]) (rd_bool _) (rd_pair (v1 := [Value.slice pn1 (rt (dotR y (List.map (fun row => row.getD j default) M))).snd.fst.length cn1]) (rd_of_slF (hG _ (fact_mem (n := 0) rfl))) (rd_of_slF (hG _ (fact_mem (n := 1) rfl)))))) fun cs3 => ?_)
      refine j_nf [.o [1, 1, 0, 1, 0, 0, 1, 1, 1] 0, .lp [1, 1, 0, 1, 0, 0], .blk 0, .c [1, 1, 1]] rfl ?_
      refine j_run it 2 rfl (by repeat' first | exact trivial | apply And.intro | omega) ?_
      refine j_nfn 1 [.lp [1, 1, 0, 1, 0, 0], .blk 0, .c [1, 1, 1]] rfl ?_
      rw [show dotR y (M.map fun row : List Rt => row.getD j default) = colR y M j from rfl, mapTo_set (fun j => rt (colR y M j))]
      refine j_to [0, 6, 7] (by repeat (first | exact Fr.sub_nil _ | refine Fr.sub_cons rfl ?_ | refine Fr.sub_consI rfl (by first | omega | (dsimp only; omega)) ?_ | refine Fr.sub_consS rfl (by first | omega | (dsimp only; omega)) (by first | omega | (dsimp only; omega)) ?_)) rfl rfl (ih (j + 1, cs3) (by dsimp only; omega) (by dsimp only; omega))
  · obtain rfl : nC = j := by omega
    rw [mapTo_all]
    refine j_nf [.o [1, 1, 0, 1, 0, 0, 0] 0, .c [1, 1, 0, 1, 0, 0, 1], .lp [1, 1, 0, 1, 0, 0], .blk 0, .c [1, 1, 1]] rfl ?_
    refine j_run it 1 rfl (by simp) ?_
    refine j_nf [.c [1, 1, 0, 1, 0, 0, 1, 0], .c [1, 1, 0, 1, 0, 0, 1, 1], .lp [1, 1, 0, 1, 0, 0], .blk 0, .c [1, 1, 1]] rfl ?_
    refine j_if rfl rfl (fun h1 => by exfalso; omega) (fun h1 => ?_)
    refine j_nf [.o [1, 1, 1, 0] 0, .c [1, 1, 1, 1]] rfl ?_
    refine j_run it 2 rfl (by simp) ?_
    refine j_nf [.c [1, 1, 1, 1]] rfl ?_
    refine j_pubR 0 0 rfl rfl (by show nC * 56 ≤ 140737488355328; omega) ?_
    refine j_giv [0] rfl rfl rfl ⟨_, _, rfl, rfl, rfl⟩

theorem ge_step {M : List (List Rt)} {y c : List Rt} {k : Nat} (h : geB y M c k = true) (hs : ¬ (colR y M k - vq (c.getD k default)).num.sign < 0) : geB y M c (k + 1) = true := by
  rw [geB, range_all_succ]
  have h1 : (List.range k).all (fun j => decide (vq (c.getD j default) ≤ colR y M j)) = true := h
  have h2 : vq (c.getD k default) ≤ colR y M k := Rat.not_lt.1 fun h => hs (cmp_neg.2 h)
  rw [h1, decide_eq_true h2]; rfl
theorem ge_stop {M : List (List Rt)} {y c : List Rt} {k n : Nat} (hk : k < n) (hs : (colR y M k - vq (c.getD k default)).num.sign < 0) : geB y M c n = false :=
  range_all_false hk (decide_eq_false (Rat.not_le.2 (cmp_neg.1 hs)))
theorem col_bd {K n : Nat} (hK : 1 ≤ K) {M : List (List Rt)} {y : List Rt} {j : Nat} (hM : ∀ row ∈ M, row.length = n ∧ ∀ r ∈ row, okR K r) (hy : ∀ r ∈ y, okR K r) (hj : j < n) : bd ((2 * K + 1) * y.length + 1) (colR y M j) :=
  dotR_bd hK hy fun r hr => by
    obtain ⟨row, h1, rfl⟩ := List.mem_map.1 hr
    exact okR_at (hM row h1).2 (by rw [(hM row h1).1]; exact hj)

theorem S_simplex_covers {p1 p2 p3 py pc : Option Addr} {nC nB nc c1 c2 c3 n cy cc K : Nat} {M : List (List Rt)} {y c : List Rt} (hK : 1 ≤ K) (hK2 : K ≤ 100000) (hM : ∀ row ∈ M, row.length = nC ∧ ∀ r ∈ row, okR K r) (hy : ∀ r ∈ y, okR K r) (hc : ∀ r ∈ c, okR K r) (hcl : c.length = nC) (lC : nC ≤ 80) (lM : M.length ≤ 80) {res : Bool} (hres : covB nC M y c = res) :
    Ctr Try.prog 91 [.agg #[.slice p1 nC c1, .slice p2 M.length c2, .slice p3 nB c3], .slice py n cy, .slice pc nc cc] [] [slF (encSl RatE) p2 M.length c2 M, slF RatE py n cy y, slF RatE pc nc cc c] (Rv (.bool res) []) := by
  subst hres
  refine Ctr_of_j' (F := F_simplex_covers) rfl fun C => ?_
  refine j_len 1 rfl fun ey _ _ => ?_
  refine j_len 2 rfl fun ec _ _ => ?_
  subst ey
  by_cases hl : y.length = M.length
  · refine j_nf [.o [0] 0, .c [1]] rfl ?_
    refine j_step rfl (x_box_agg rfl fun b1 => ?_)
    refine j_run it 1 rfl (by simp) ?_
    refine j_nf [.o [1, 0, 0] 0, .c [1, 0, 1], .c [1, 1]] rfl ?_
    refine j_run it 1 rfl (by simp) ?_
    refine j_step rfl (x_len sl23 rfl ?_)
    refine j_step rfl (x_field rfl fd26_1 ?_)
    refine j_step rfl (x_bld 0 rfl rfl ld24 rfl ?_)
    refine j_step rfl (x_len sl24 rfl ?_)
    refine j_run it 2 rfl (by simp) ?_
    refine j_split_ndec (t := 15) rfl (fun h1 => by exfalso; omega) (fun h1 => ?_)
    refine j_run it 1 rfl (by simp) ?_
    refine j_gstep rfl rfl (x_call [1] rfl (S_simplex_positive) rfl ?_)
    rintro _ _ _ ⟨rfl, rfl, rfl⟩
    simp only [List.cons_append, List.nil_append]
    refine j_run it 2 rfl (by simp) ?_
    refine j_nf [.c [1, 0, 1], .c [1, 1]] rfl ?_
    refine j_cond rfl rfl (fun h2 => ?_) (fun h2 => ?_)
    · rw [covB, (by simpa using h2 : posB y = false), Bool.and_false, Bool.false_and]
      refine j_nf [.o [1, 0, 1, 0, 0] 0, .c [1, 0, 1, 0, 1], .c [1, 1]] rfl ?_
      refine j_run it 1 rfl (by simp) ?_
      refine j_nf [.c [1, 0, 1, 0, 1], .c [1, 1]] rfl ?_
      refine j_giv [] rfl rfl rfl ⟨rfl, rfl, rfl⟩
    · rw [covB, (by simpa using h2 : posB y = true), decide_eq_true hl, Bool.true_and, Bool.true_and]
      refine j_nf [.o [1, 1, 0, 0] 0, .c [1, 1, 0, 1], .c [1, 1, 1]] rfl ?_
      refine j_step rfl (x_bld_all 0 rfl rfl ld26 rfl ?_)
      refine j_run it 1 rfl (by simp) ?_
      refine j_step rfl (x_call [0, 1] rfl (S_simplex_column (by first | omega | exact side _ (by assumption) | assumption | rfl | (simp; done) | (simp; omega)) (by first | omega | exact side _ (by assumption) | assumption | rfl | (simp; done) | (simp; omega)) (by first | omega | exact side _ (by assumption) | assumption | rfl | (simp; done) | (simp; omega)) (by first | omega | exact side _ (by assumption) | assumption | rfl | (simp; done) | (simp; omega)) (by first | omega | exact side _ (by assumption) | assumption | rfl | (simp; done) | (simp; omega)) (by first | omega | exact side _ (by assumption) | assumption | rfl | (simp; done) | (simp; omega)) (by first | omega | exact side _ (by assumption) | assumption | rfl | (simp; done) | (simp; omega))) rfl ?_)
      rintro _ _ _ ⟨pa1, ca1, rfl, rfl, rfl⟩
      simp only [List.cons_append, List.nil_append]
      refine j_step rfl (x_len sl23 rfl ?_)
      refine j_run it 1 rfl (by simp) ?_
      refine j_nf [.c [1, 1, 0, 1, 0], .blk 0, .c [1, 1, 1]] rfl ?_
      refine j_loopG (X := Nat) [2, 22, 23] [0, 1, 2, 3] (fun k => [(24, .int .i64 k)]) (fun _ => [(some b1, 26, [.slice p1 nC c1, .slice p2 M.length c2, .slice p3 nB c3])]) (fun _ => []) (fun k => k ≤ nC ∧ geB y M c k = true) (fun k => nC - k) 0 [] rfl rfl rfl ⟨Nat.zero_le _, rfl⟩ (by repeat (first | exact Fr.sub_nil _ | refine Fr.sub_cons rfl ?_)) rfl rfl ?_
      rintro k ⟨hk, hp⟩ ih
      simp only [List.cons_append, List.nil_append] at hk hp ih ⊢
      by_cases hkl : k < nC
      · refine j_nf [.o [1, 1, 0, 1, 0, 0, 0] 0, .c [1, 1, 0, 1, 0, 0, 1], .lp [1, 1, 0, 1, 0, 0], .blk 0, .c [1, 1, 1]] rfl ?_
        refine j_run it 1 rfl (by simp) ?_
        refine j_nf [.c [1, 1, 0, 1, 0, 0, 1, 0], .c [1, 1, 0, 1, 0, 0, 1, 1], .lp [1, 1, 0, 1, 0, 0], .blk 0, .c [1, 1, 1]] rfl ?_
        refine j_if rfl rfl (fun h3 => ?_) (fun h3 => by exfalso; omega)
        refine j_nf [.o [1, 1, 0, 1, 0, 0, 1, 1, 0, 0, 0] 0, .c [1, 1, 0, 1, 0, 0, 1, 1, 0, 0, 1], .blk 1, .c [1, 1, 0, 1, 0, 0, 1, 1, 1], .lp [1, 1, 0, 1, 0, 0], .blk 0, .c [1, 1, 1]] rfl ?_
        refine j_run it 1 rfl (by simp) ?_
        refine j_step rfl (x_idx 0 (k) rfl rfl rfl sl23 rfl (by omega) fun z1 hz1 b2 o1 => ?_)
        refine j_step rfl (x_ld_rt 0 rfl rfl ld44 fun pa2 ca2 pa3 ca3 => ?_)
        refine j_step rfl (x_alloc zo44 fun b3 => ?_)
        refine j_run it 1 rfl (by simp) ?_
        refine j_step rfl (x_bst_all 0 rfl rfl rfl ld44 rfl rfl (by simp [Value.oneCell']) ?_)
        refine j_nf [.c [1, 1, 0, 1, 0, 0, 1, 1, 0, 0, 1, 0], .c [1, 1, 0, 1, 0, 0, 1, 1, 0, 0, 1, 1], .blk 1, .c [1, 1, 0, 1, 0, 0, 1, 1, 1], .lp [1, 1, 0, 1, 0, 0], .blk 0, .c [1, 1, 1]] rfl ?_
        (apply j_drawK it mx 7; (· rfl); (· rfl))
        (apply lxk_eq; (· rfl); (· exact d_bld_all 0 rfl rfl ld44 rfl))
        (apply lxk_run 2; (· rfl); (· simp))
        (apply lxk_pt; (· rfl); (· exact d_x fun _ => x_idx 6 (k) rfl rfl rfl sl23 rfl (by omega) fun z2 hz2 b4 o2 => (dk_ptD default hz2 0 rfl)); intro b4 o2)
        (apply lxk_rq; (· rfl); (· exact d_x fun _ => x_ld_rt 0 rfl rfl ld44 fun pa4 ca4 pa5 ca5 => (dk_rq 0 1 rfl rfl)); intro pn1 cn1 pd1 cd1) --ok
        have ez : z1 = rt (colR y M k) := by
          rw [range_get _ hkl] at hz1
          exact (Option.some.inj hz1).symm
        subst ez
        have y3 := okR_at hc (show k < c.length by omega)
        obtain ⟨y4, y5⟩ := y3.2.2
        have y6 := col_bd hK hM hy hkl
        have y7 : (2 * K + 1) * y.length + 1 ≤ 33554432 := by
          have h1 : y.length ≤ 80 := by omega
          have := Nat.mul_le_mul (show 2 * K + 1 ≤ 200001 by omega) h1
          omega
        obtain ⟨y8, y9⟩ := bd_len (bd_mono y6 y7)
        (apply lxk_eq; (· rfl); (· exact d_x fun _ => x_call [3, 4, 0, 1] rfl (S_rational_Cmp (by first | omega | exact side _ (by assumption) | assumption | rfl | (simp; done) | (simp; omega)) (by first | omega | exact side _ (by assumption) | assumption | rfl | (simp; done) | (simp; omega)) (by first | omega | exact side _ (by assumption) | assumption | rfl | (simp; done) | (simp; omega)) (by first | omega | exact side _ (by assumption) | assumption | rfl | (simp; done) | (simp; omega))) rfl (by rintro _ _ _ ⟨rfl, rfl, rfl⟩; exact dk_eq)))
        simp only [vq_rt']
        (apply lxk_run 1; (· rfl); (· simp))
        refine lxk_end rfl ?_
        simp only [List.map_cons, List.map_nil, List.cons_append, List.nil_append]
        refine j_nf [.c [1, 1, 0, 1, 0, 0, 1, 1, 0, 0, 1, 1], .blk 1, .c [1, 1, 0, 1, 0, 0, 1, 1, 1], .lp [1, 1, 0, 1, 0, 0], .blk 0, .c [1, 1, 1]] rfl ?_
        refine j_if rfl rfl (fun h4 => ?_) (fun h4 => ?_)
        · rw [ge_stop (n := nC) hkl (by assumption)]
          refine j_nf [.o [1, 1, 0, 1, 0, 0, 1, 1, 0, 0, 1, 1, 0, 0] 0, .c [1, 1, 0, 1, 0, 0, 1, 1, 0, 0, 1, 1, 0, 1], .blk 1, .c [1, 1, 0, 1, 0, 0, 1, 1, 1], .lp [1, 1, 0, 1, 0, 0], .blk 0, .c [1, 1, 1]] rfl ?_
          refine j_run it 1 rfl (by simp) ?_
          refine j_nf [.c [1, 1, 0, 1, 0, 0, 1, 1, 0, 0, 1, 1, 0, 1], .blk 1, .c [1, 1, 0, 1, 0, 0, 1, 1, 1], .lp [1, 1, 0, 1, 0, 0], .blk 0, .c [1, 1, 1]] rfl ?_
          refine j_giv [] rfl rfl rfl ⟨rfl, rfl, rfl⟩
        · refine j_nf [.o [1, 1, 0, 1, 0, 0, 1, 1, 1] 0, .lp [1, 1, 0, 1, 0, 0], .blk 0, .c [1, 1, 1]] rfl ?_
          refine j_run it 2 rfl (by repeat' first | exact trivial | apply And.intro | omega) ?_
          refine j_nfn 1 [.lp [1, 1, 0, 1, 0, 0], .blk 0, .c [1, 1, 1]] rfl ?_
          refine j_toM [false, true] [6, 7, 8, 9] (by repeat (first | exact Fr.sub_nil _ | refine Fr.sub_cons rfl ?_ | refine Fr.sub_consI rfl (by first | omega | (dsimp only; omega)) ?_ | refine Fr.sub_consS rfl (by first | omega | (dsimp only; omega)) (by first | omega | (dsimp only; omega)) ?_)) rfl rfl (ih (k + 1) (by omega) ⟨by omega, ge_step hp (by assumption)⟩)
      · obtain rfl : nC = k := by omega
        rw [hp]
        refine j_nf [.o [1, 1, 0, 1, 0, 0, 0] 0, .c [1, 1, 0, 1, 0, 0, 1], .lp [1, 1, 0, 1, 0, 0], .blk 0, .c [1, 1, 1]] rfl ?_
        refine j_run it 1 rfl (by simp) ?_
        refine j_nf [.c [1, 1, 0, 1, 0, 0, 1, 0], .c [1, 1, 0, 1, 0, 0, 1, 1], .lp [1, 1, 0, 1, 0, 0], .blk 0, .c [1, 1, 1]] rfl ?_
        refine j_if rfl rfl (fun h3 => by exfalso; omega) (fun h3 => ?_)
        refine j_nf [.o [1, 1, 1, 0] 0, .c [1, 1, 1, 1]] rfl ?_
        refine j_run it 1 rfl (by simp) ?_
        refine j_nf [.c [1, 1, 1, 1]] rfl ?_
        refine j_giv [] rfl rfl rfl ⟨rfl, rfl, rfl⟩
  · rw [covB, decide_eq_false hl, Bool.false_and, Bool.false_and]
    refine j_nf [.o [0] 0, .c [1]] rfl ?_
    refine j_step rfl (x_box_agg rfl fun b1 => ?_)
    refine j_run it 1 rfl (by simp) ?_
    refine j_nf [.o [1, 0, 0] 0, .c [1, 0, 1], .c [1, 1]] rfl ?_
    refine j_run it 1 rfl (by simp) ?_
    refine j_step rfl (x_len sl23 rfl ?_)
    refine j_step rfl (x_field rfl fd26_1 ?_)
    refine j_step rfl (x_bld 0 rfl rfl ld24 rfl ?_)
    refine j_step rfl (x_len sl24 rfl ?_)
    refine j_run it 2 rfl (by simp) ?_
    refine j_split_ndec (t := 15) rfl (fun h1 => ?_) (fun h1 => by exfalso; omega)
    refine j_run it 4 rfl (by simp) ?_
    refine j_nf [.c [1, 0, 1], .c [1, 1]] rfl ?_
    refine j_true rfl rfl ?_
    refine j_nf [.o [1, 0, 1, 0, 0] 0, .c [1, 0, 1, 0, 1], .c [1, 1]] rfl ?_
    refine j_run it 1 rfl (by simp) ?_
    refine j_nf [.c [1, 0, 1, 0, 1], .c [1, 1]] rfl ?_
    refine j_giv [] rfl rfl rfl ⟨rfl, rfl, rfl⟩
end Go.Proofs.Ythahejfpdhcpiaa

namespace Go.Proofs.Ythahejfpdhcpiaa
open Go Go.Fw
set_option maxRecDepth 100000
set_option linter.unusedVariables false
set_option linter.unusedSimpArgs false
set_option maxHeartbeats 4000000
theorem S_delsarte_one : Ctr Try.prog 33 [] [] [] (RtV (false, [1], [1])) := by
  refine Ctr_of_j' (F := F_delsarte_one) rfl fun C => ?_
  refine j_nf [.o [0] 0, .c [1]] rfl ?_
  refine j_step rfl (x_alloc zo44 fun b1 => ?_)
  refine j_nf [.o [1, 0] 0, .c [1, 1]] rfl ?_
  refine j_step rfl (x_lit sl42 zo42e rfl rfl rfl rfl (by decide) (by decide) rfl fun b2 => ?_)
  refine j_step rfl (x_lit sl42 zo42e rfl rfl rfl rfl (by decide) (by decide) rfl fun b3 => ?_)
  refine j_step rfl (x_build (cs := [Value.bool false, Value.slice (some { block := b2, off := 0 }) 1 1, Value.slice (some { block := b3, off := 0 }) 1 1]) st44 zo44 rfl rfl ?_)
  refine j_step rfl (x_bst_all 2 rfl rfl rfl ld44 rfl rfl (by simp [Value.oneCell']) ?_)
  refine j_nf [.c [1, 1]] rfl ?_
  refine j_pub_made (n := 1) (kd := .u32) 4 [1] 0 rfl rfl (by simp [InR]) (by decide) (by decide) ?_
  refine j_pub_made (n := 1) (kd := .u32) 4 [1] 0 rfl rfl (by simp [InR]) (by decide) (by decide) ?_
  refine j_givC [0, 1] rfl (.agg 0 rfl rfl ld44 rfl .nil) rfl ⟨_, _, _, _, rfl, rfl, rfl⟩

theorem S_delsarte_column {q n i : Nat} (hq : 2 ≤ q) (hq2 : q ≤ 256) (hn : n ≤ 64) (hi : i ≤ n) : Ctr Try.prog 32 [.int .i64 q, .int .i64 n, .int .i64 i] [] [] (SvM RatE (n + 1) (colK q n i)) := by
  refine Ctr_of_j' (F := F_delsarte_column) rfl fun C => ?_
  have hul := unit_len n i
  have huo := unit_ok n i
  have h1 : (1 : Nat) ≤ 1 := Nat.le_refl 1
  have et : trL q n (unitL n i) = colK q n i := by
    rw [trL, colK]
    exact List.map_congr_left fun k _ => by rw [trP_unit (by omega)]
  refine j_nf [.o [0] 0, .c [1]] rfl ?_
  refine j_run it 1 rfl (by simp) ?_
  refine j_nf [.o [1, 0] 0, .c [1, 1]] rfl ?_
  refine j_run it 2 rfl (by repeat' first | exact trivial | apply And.intro | omega) ?_
  refine j_step rfl (x_makeR RatE default ((n) + 1) _ rfl rfl sl23 zo23e rfl rfl by23e (by omega) (by omega) (by omega) rz44 fun b1 cs1 => ?_)
  refine j_run it 1 rfl (by simp) ?_
  refine j_nf [.o [1, 1, 0] 0, .c [1, 1, 1]] rfl ?_
  refine j_run it 2 rfl (by simp) ?_
  refine j_step rfl (x_call [] rfl (S_delsarte_one) rfl ?_)
  rintro _ _ _ ⟨pn1, cn1, pd1, cd1, rfl, rfl, rfl⟩
  simp only [List.cons_append, List.nil_append]
  refine j_step rfl (x_idx_own (i) _ rfl rfl sl23 rfl (by omega) rfl ?_)
  refine j_step rfl (x_stR (vs := [Value.bool false, Value.slice pn1 [1].length cn1, Value.slice pd1 [1].length cd1]) (z := (false, ([1], [1]))) 0 2 (i) rfl rfl rfl rfl rfl ld44 rfl (by omega) (fun w A hG => (rd_pair (v1 := [Value.bool false]) (rd_bool _) (rd_pair (v1 := [Value.slice pn1 [1].length cn1]) (rd_of_slF (hG _ (fact_mem (n := 0) rfl))) (rd_of_slF (hG _ (fact_mem (n := 1) rfl)))))) fun cs2 => ?_)
  refine j_nf [.o [1, 1, 1, 0] 0, .c [1, 1, 1, 1]] rfl ?_
  refine j_run it 2 rfl (by simp) ?_
  refine j_pubRb 0 0 rfl rfl (by show (n + 1) * 56 ≤ 140737488355328; omega) ?_
  refine j_step rfl (x_call [0] rfl (S_macwilliams_Transform (by first | omega | exact side _ (by assumption) | assumption | rfl | (simp; done) | (simp; omega)) (by first | omega | exact side _ (by assumption) | assumption | rfl | (simp; done) | (simp; omega)) (by first | omega | exact side _ (by assumption) | assumption | rfl | (simp; done) | (simp; omega)) (by first | omega | exact side _ (by assumption) | assumption | rfl | (simp; done) | (simp; omega)) (by first | omega | exact side _ (by assumption) | assumption | rfl | (simp; done) | (simp; omega)) (by first | omega | exact side _ (by assumption) | assumption | rfl | (simp; done) | (simp; omega)) (by first | omega | exact side _ (by assumption) | assumption | rfl | (simp; done) | (simp; omega))) rfl ?_)
  rintro _ _ _ ⟨pa1, ca1, rfl, rfl, rfl⟩
  simp only [List.cons_append, List.nil_append]
  refine j_run it 5 rfl (by simp) ?_
  refine j_nf [.o [1, 1, 1, 1, 0] 0, .c [1, 1, 1, 1, 1]] rfl ?_
  refine j_run it 2 rfl (by simp) ?_
  refine j_nf [.c [1, 1, 1, 1, 1]] rfl ?_
  rw [show ((List.replicate (n + 1) (default : Rt)).set i (false, [1], [1])) = unitL n i from rfl, et]
  refine j_giv [0] rfl rfl rfl ⟨_, _, rfl, rfl, rfl⟩
end Go.Proofs.Ythahejfpdhcpiaa

namespace Go.Proofs.Ythahejfpdhcpiaa
open Go Go.Fw
set_option maxRecDepth 100000
set_option linter.unusedVariables false
set_option linter.unusedSimpArgs false
set_option maxHeartbeats 400000
theorem limbs_two {n : Nat} (h : n < 18446744073709551616) : (limbs n).length ≤ 2 := limbs_length_le (by simpa using h)

theorem mul_len {x y L K : Nat} (hx : x < 4294967296 ^ L) (hy : y < 4294967296 ^ K) : (limbs (x * y)).length ≤ L + K := by
  refine limbs_length_le ?_
  rw [Nat.pow_add]
  rcases Nat.eq_zero_or_pos y with h0 | h0
  · subst h0; rw [Nat.mul_zero]; exact Nat.mul_pos (Nat.pow_pos (by decide)) (Nat.pow_pos (by decide))
  · exact Nat.lt_of_lt_of_le (Nat.mul_lt_mul_of_pos_right hx h0) (Nat.mul_le_mul_left _ (Nat.le_of_lt hy))

theorem S_codewrightref01_small {pa : Option Addr} {m ca : Nat} {a : List Nat} {n d : Nat} (ha : a.length ≤ 1073741824) (hn : n < 4294967296) (hd : 0 < d) (hdB : d < 4294967296) :
    Ctr Try.prog 89 [.slice pa m ca, .int .i64 n, .int .i64 d] [] [slF U32 pa m ca a] (Sv U32 (limbs (val a * n / d))) := by
  refine Ctr_of_j' (F := F_codewrightref01_small) rfl fun C => ?_
  refine j_len 0 rfl fun hm _ _ => ?_
  subst hm
  refine j_range 0 rfl fun hra => ?_
  have hra' : ∀ x ∈ a, x < 4294967296 := fun x hx => by have := hra x hx; simp only [InR] at this; omega
  have h2 := limbs_two (show n < 18446744073709551616 by omega)
  have hlen : (limbs (val a * val (limbs n))).length ≤ a.length + 2 := mul_len (val_lt hra') (limbs_le_length (by rw [val_limbs]; exact h2))
  have hpr := limbs_lt (val a * val (limbs n))
  have hpv : val (limbs (val a * val (limbs n))) = val a * n := by rw [val_limbs, val_limbs]
  clear hra
  refine j_nf [.o [0] 0, .c [1]] rfl ?_
  refine j_run it 1 rfl (by simp) ?_
  refine j_nf [.o [1, 0] 0, .c [1, 1]] rfl ?_
  refine j_run it 3 rfl (by repeat' first | exact trivial | apply And.intro | omega) ?_
  refine j_step rfl (x_call [] rfl (S_codewrightref01_Of (by first | omega | exact side _ (by assumption) | assumption | rfl | (simp; done) | (simp; omega))) rfl ?_)
  rintro _ _ _ ⟨pa1, ca1, rfl, rfl, rfl⟩
  simp only [List.cons_append, List.nil_append]
  refine j_step rfl (x_call [1, 0] rfl (S_codewrightref01_Mul (by first | omega | exact side _ (by assumption) | assumption | rfl | (simp; done) | (simp; omega)) (by first | omega | exact side _ (by assumption) | assumption | rfl | (simp; done) | (simp; omega))) rfl ?_)
  rintro _ _ _ ⟨pa2, ca2, rfl, rfl, rfl⟩
  simp only [List.cons_append, List.nil_append]
  refine j_run it 1 rfl (by simp) ?_
  refine j_nf [.o [1, 1, 0] 0, .c [1, 1, 1]] rfl ?_
  refine j_run it 1 rfl (by simp) ?_
  refine j_step rfl (x_len sl42 rfl ?_)
  refine j_step rfl (x_make_nat ((limbs (val a * val (limbs n))).length) _ rfl rfl sl42 zo42e by42e (by omega) (by omega) (by omega) fun b1 => ?_)
  refine j_run it 1 rfl (by simp) ?_
  refine j_nf [.o [1, 1, 1, 0] 0, .c [1, 1, 1, 1]] rfl ?_
  refine j_run it 1 rfl (by simp) ?_
  refine j_nf [.o [1, 1, 1, 1, 0, 0] 0, .c [1, 1, 1, 1, 0, 1], .c [1, 1, 1, 1, 1]] rfl ?_
  refine j_run it 1 rfl (by simp) ?_
  refine j_step rfl (x_len sl42 rfl ?_)
  refine j_run it 2 rfl (by repeat' first | exact trivial | apply And.intro | omega) ?_
  refine j_nf [.c [1, 1, 1, 1, 0, 1, 0], .blk 0, .c [1, 1, 1, 1, 1]] rfl ?_
  generalize limbs (val a * val (limbs n)) = p at hlen hpr hpv ⊢
  refine j_loopN (X := Nat × Nat × List Nat) (fun x => [(0, .slice pa2 p.length ca2), (2, .int .i64 d), (7, .slice (some ⟨b1, 0, none⟩) p.length p.length), (8, .int .u64 x.2.1), (9, .int .i64 ((x.1 : Int) - 1))])
    (fun x => [(some b1, 94, natCells .u32 x.2.2)]) (fun _ => [slF U32 pa2 p.length ca2 p])
    (fun x => x.1 ≤ p.length ∧ x.2.2.length = p.length ∧ x.2.1 < d ∧ (∀ y ∈ x.2.2, y < 4294967296) ∧ val (p.drop x.1) = val (x.2.2.drop x.1) * d + x.2.1)
    (fun x => x.1) (p.length, 0, List.replicate p.length 0) [0] rfl ⟨Nat.le_refl _, by simp, hd, rep_lt (by decide), by simp [val]⟩ (by repeat (first | exact Fr.sub_nil _ | refine Fr.sub_cons rfl ?_)) rfl rfl ?_
  rintro ⟨k, r, out⟩ ⟨hk, hl, hr, ho, hv⟩ ih
  simp only at hk hl hr ho hv ih ⊢
  by_cases hk0 : 0 < k
  · refine j_nf [.o [1, 1, 1, 1, 0, 1, 0, 0, 0, 0] 0, .c [1, 1, 1, 1, 0, 1, 0, 0, 0, 1], .c [1, 1, 1, 1, 0, 1, 0, 0, 1], .lp [1, 1, 1, 1, 0, 1, 0, 0], .blk 0, .c [1, 1, 1, 1, 1]] rfl ?_
    refine j_run it 2 rfl (by simp) ?_
    refine j_nf [.c [1, 1, 1, 1, 0, 1, 0, 0, 0, 1], .c [1, 1, 1, 1, 0, 1, 0, 0, 1], .lp [1, 1, 1, 1, 0, 1, 0, 0], .blk 0, .c [1, 1, 1, 1, 1]] rfl ?_
    refine j_if rfl rfl (fun h1 => ?_) (fun h1 => by exfalso; omega)
    refine j_nf [.o [1, 1, 1, 1, 0, 1, 0, 0, 1, 0, 0, 0] 0, .c [1, 1, 1, 1, 0, 1, 0, 0, 1, 0, 0, 1], .blk 1, .c [1, 1, 1, 1, 0, 1, 0, 0, 1, 1], .lp [1, 1, 1, 1, 0, 1, 0, 0], .blk 0, .c [1, 1, 1, 1, 1]] rfl ?_
    refine j_run it 4 rfl (by repeat' first | exact trivial | apply And.intro | omega) ?_
    refine j_step rfl (x_idx 0 ((k) - 1) rfl rfl rfl sl42 (by omega) (by omega) fun z1 hz1 b2 o1 => ?_)
    refine j_step rfl (x_ld_nat 0 rfl rfl ld94 fun ⟨r1, r2⟩ => ?_)
    refine j_run it 3 rfl (by repeat' first | exact trivial | apply And.intro | omega) ?_
    refine j_nf [.o [1, 1, 1, 1, 0, 1, 0, 0, 1, 0, 0, 1, 0] 0, .c [1, 1, 1, 1, 0, 1, 0, 0, 1, 0, 0, 1, 1], .blk 1, .c [1, 1, 1, 1, 0, 1, 0, 0, 1, 1], .lp [1, 1, 1, 1, 0, 1, 0, 0], .blk 0, .c [1, 1, 1, 1, 1]] rfl ?_
    refine j_run it 6 rfl (by repeat' first | exact trivial | apply And.intro | omega) ?_
    refine j_step rfl (x_conv_u32 it rfl rfl rfl ?_)
    refine j_step rfl (x_idx_own ((k) - 1) ((k) - 1) rfl rfl sl42 (by omega) (by omega) (Nat.mul_one _) ?_)
    refine j_step rfl (x_bst_nat 0 (((((r) * 4294967296) + (z1)) / (d)) % 4294967296) rfl rfl rfl ld94 (by first | rfl | omega) (by first | omega | (simp; omega)) ?_)
    refine j_nf [.o [1, 1, 1, 1, 0, 1, 0, 0, 1, 0, 0, 1, 1] 0, .blk 1, .c [1, 1, 1, 1, 0, 1, 0, 0, 1, 1], .lp [1, 1, 1, 1, 0, 1, 0, 0], .blk 0, .c [1, 1, 1, 1, 1]] rfl ?_
    refine j_run it 5 rfl (by repeat' first | exact trivial | apply And.intro | omega) ?_
    refine j_nf [.o [1, 1, 1, 1, 0, 1, 0, 0, 1, 1] 0, .lp [1, 1, 1, 1, 0, 1, 0, 0], .blk 0, .c [1, 1, 1, 1, 1]] rfl ?_
    refine j_run it 3 rfl (by repeat' first | exact trivial | apply And.intro | omega) ?_
    refine j_nfn 1 [.lp [1, 1, 1, 1, 0, 1, 0, 0], .blk 0, .c [1, 1, 1, 1, 1]] rfl ?_
    have hz : z1 < 4294967296 := hpr z1 (List.mem_of_getElem? hz1)
    have hq := div_lt' (x := z1) hr hz
    refine j_to [1] (by repeat (first | exact Fr.sub_nil _ | refine Fr.sub_cons rfl ?_ | refine Fr.sub_consI rfl (by first | omega | (dsimp only; omega)) ?_ | refine Fr.sub_consS rfl (by first | omega | (dsimp only; omega)) (by first | omega | (dsimp only; omega)) ?_)) rfl rfl (ih (k - 1, (r * 4294967296 + z1) % d, out.set (k - 1) ((r * 4294967296 + z1) / d % 4294967296)) (by simp only; omega) ⟨by simp only; omega, by simpa using hl, Nat.mod_lt _ hd, set_lt ho (by omega), by
      simp only
      rw [Nat.mod_eq_of_lt hq]
      have e : k - 1 + 1 = k := by omega
      have hz1' : p[k - 1]? = some z1 := by first | exact hz1 | simpa using hz1
      rw [val_drop hz1', val_set_drop (by omega), e]
      exact div_step hv hd⟩)
  · refine j_nf [.o [1, 1, 1, 1, 0, 1, 0, 0, 0, 0] 0, .c [1, 1, 1, 1, 0, 1, 0, 0, 0, 1], .c [1, 1, 1, 1, 0, 1, 0, 0, 1], .lp [1, 1, 1, 1, 0, 1, 0, 0], .blk 0, .c [1, 1, 1, 1, 1]] rfl ?_
    refine j_run it 2 rfl (by simp) ?_
    refine j_nf [.c [1, 1, 1, 1, 0, 1, 0, 0, 0, 1], .c [1, 1, 1, 1, 0, 1, 0, 0, 1], .lp [1, 1, 1, 1, 0, 1, 0, 0], .blk 0, .c [1, 1, 1, 1, 1]] rfl ?_
    refine j_if rfl rfl (fun h1 => by exfalso; omega) (fun h1 => ?_)
    refine j_nf [.o [1, 1, 1, 1, 1, 0] 0, .c [1, 1, 1, 1, 1, 1]] rfl ?_
    refine j_run it 1 rfl (by simp) ?_
    refine j_pub32 (n := p.length) 0 rfl (by simp [*]) (by first | assumption | exact set_all (by assumption) (by omega) | (simp; omega)) (by omega) ?_
    refine j_step rfl (x_call [0] rfl (S_codewrightref01_Trim) rfl ?_)
    rintro _ _ _ ⟨pa3, ca3, rfl, rfl, rfl⟩
    simp only [List.cons_append, List.nil_append]
    refine j_run it 1 rfl (by simp) ?_
    refine j_nf [.c [1, 1, 1, 1, 1, 1]] rfl ?_
    have e : k = 0 := by omega
    subst e
    simp only [List.drop_zero] at hv
    have h1 : val p / d = val out := by rw [hv, Nat.mul_comm, Nat.mul_add_div hd, Nat.div_eq_of_lt hr, Nat.add_zero]
    rw [trim_eq ho, ← h1, hpv]
    refine j_giv [0] rfl rfl rfl ⟨_, _, rfl, rfl, rfl⟩
end Go.Proofs.Ythahejfpdhcpiaa

namespace Go.Proofs.Ythahejfpdhcpiaa
open Go Go.Fw
set_option maxRecDepth 100000
set_option linter.unusedVariables false
set_option linter.unusedSimpArgs false
set_option maxHeartbeats 400000
theorem S_codewrightref01_Choose {n k : Nat} (hn : n ≤ 4096) : Ctr Try.prog 52 [.int .i64 n, .int .i64 k] [] [] (Sv U32 (limbs (binom n k))) := by
  refine Ctr_of_j' (F := F_codewrightref01_Choose) rfl fun C => ?_
  have e1 : limbs (binom n 0) = [1] := by rw [binom_zero, limbs_one]
  by_cases hk : n < k
  · have hz : limbs (binom n k) = [] := by rw [binom_gt n k hk, limbs_zero]
    refine j_nf [.o [0] 0, .c [1]] rfl ?_
    refine j_run it 1 rfl (by simp) ?_
    refine j_nf [.o [1, 0, 0] 0, .c [1, 0, 1], .c [1, 1]] rfl ?_
    refine j_run it 7 rfl (by simp) ?_
    refine j_nf [.c [1, 0, 1], .c [1, 1]] rfl ?_
    refine j_if rfl rfl (fun h1 => ?_) (fun h1 => by exfalso; omega)
    refine j_nf [.o [1, 0, 1, 0, 0] 0, .c [1, 0, 1, 0, 1], .c [1, 1]] rfl ?_
    refine j_step rfl (x_lit0 sl42 fun b1 => ?_)
    refine j_run it 1 rfl (by simp) ?_
    refine j_nf [.c [1, 0, 1, 0, 1], .c [1, 1]] rfl ?_
    refine j_add (slF U32 (some ⟨b1, 0, none⟩) 0 0 []) (fun w A _ => slF_nil _ _ _ _ _) ?_
    refine j_giv [0] rfl rfl rfl ⟨_, _, by rw [hz]; rfl, by rw [hz]; rfl, rfl⟩
  · have hlen := fun i => binom_len hn i
    refine j_nf [.o [0] 0, .c [1]] rfl ?_
    refine j_run it 1 rfl (by simp) ?_
    refine j_nf [.o [1, 0, 0] 0, .c [1, 0, 1], .c [1, 1]] rfl ?_
    refine j_run it 7 rfl (by simp) ?_
    refine j_nf [.c [1, 0, 1], .c [1, 1]] rfl ?_
    refine j_if rfl rfl (fun h1 => by exfalso; omega) (fun h1 => ?_)
    refine j_nf [.o [1, 1, 0] 0, .c [1, 1, 1]] rfl ?_
    refine j_step rfl (x_lit sl42 zo42e rfl rfl rfl rfl (by decide) (by decide) rfl fun b1 => ?_)
    refine j_run it 1 rfl (by simp) ?_
    refine j_nf [.o [1, 1, 1, 0, 0] 0, .c [1, 1, 1, 0, 1], .c [1, 1, 1, 1]] rfl ?_
    refine j_run it 1 rfl (by simp) ?_
    refine j_nf [.c [1, 1, 1, 0, 1, 0], .blk 0, .c [1, 1, 1, 1]] rfl ?_
    refine j_pub_made (n := 1) (kd := .u32) 4 [1] 0 rfl rfl (by simp [InR]) (by decide) (by decide) ?_
    refine j_loopN (X := Nat × Option Addr × Nat) (fun x => [(0, .int .i64 n), (1, .int .i64 k), (5, .slice x.2.1 (limbs (binom n x.1)).length x.2.2), (6, .int .i64 x.1)])
      (fun _ => []) (fun x => [slF U32 x.2.1 (limbs (binom n x.1)).length x.2.2 (limbs (binom n x.1))])
      (fun x => x.1 ≤ k) (fun x => k - x.1) (0, some ⟨b1, 0, none⟩, 1) [0] rfl (Nat.zero_le _) (by simp only [e1]; repeat (first | exact Fr.sub_nil _ | refine Fr.sub_cons rfl ?_)) rfl (by simp only [e1]; rfl) ?_
    rintro ⟨i, pa, ca⟩ hi ih
    simp only at hi ih ⊢
    have hl := hlen i
    by_cases hik : i < k
    · refine j_nf [.o [1, 1, 1, 0, 1, 0, 0, 0, 0] 0, .c [1, 1, 1, 0, 1, 0, 0, 0, 1], .c [1, 1, 1, 0, 1, 0, 0, 1], .lp [1, 1, 1, 0, 1, 0, 0], .blk 0, .c [1, 1, 1, 1]] rfl ?_
      refine j_run it 3 rfl (by simp) ?_
      refine j_nf [.c [1, 1, 1, 0, 1, 0, 0, 0, 1], .c [1, 1, 1, 0, 1, 0, 0, 1], .lp [1, 1, 1, 0, 1, 0, 0], .blk 0, .c [1, 1, 1, 1]] rfl ?_
      refine j_if rfl rfl (fun h2 => ?_) (fun h2 => by exfalso; omega)
      refine j_nf [.o [1, 1, 1, 0, 1, 0, 0, 1, 0, 0] 0, .blk 1, .c [1, 1, 1, 0, 1, 0, 0, 1, 1], .lp [1, 1, 1, 0, 1, 0, 0], .blk 0, .c [1, 1, 1, 1]] rfl ?_
      refine j_run it 6 rfl (by repeat' first | exact trivial | apply And.intro | omega) ?_
      refine j_recast (t := 24) ((((n) - (i)) : Nat) : Int) rfl (by omega) ?_
      refine j_recast (t := 26) ((((i) + 1) : Nat) : Int) rfl (by omega) ?_
      refine j_step rfl (x_call [0] rfl (S_codewrightref01_small (by first | omega | exact side _ (by assumption) | assumption | rfl | (simp; done) | (simp; omega)) (by first | omega | exact side _ (by assumption) | assumption | rfl | (simp; done) | (simp; omega)) (by first | omega | exact side _ (by assumption) | assumption | rfl | (simp; done) | (simp; omega)) (by first | omega | exact side _ (by assumption) | assumption | rfl | (simp; done) | (simp; omega))) rfl ?_)
      rintro _ _ _ ⟨pa1, ca1, rfl, rfl, rfl⟩
      simp only [List.cons_append, List.nil_append]
      refine j_run it 1 rfl (by simp) ?_
      refine j_nf [.o [1, 1, 1, 0, 1, 0, 0, 1, 1] 0, .lp [1, 1, 1, 0, 1, 0, 0], .blk 0, .c [1, 1, 1, 1]] rfl ?_
      refine j_run it 3 rfl (by repeat' first | exact trivial | apply And.intro | omega) ?_
      refine j_nfn 1 [.lp [1, 1, 1, 0, 1, 0, 0], .blk 0, .c [1, 1, 1, 1]] rfl ?_ --ok
      rw [show ((n : Int) - i) = ((n - i : Nat) : Int) by omega, show ((i : Int) + 1) = ((i + 1 : Nat) : Int) by omega]
      skip
      simp only [val_limbs, binom_next (show i ≤ n by omega)]
      refine j_to [0] (by repeat (first | exact Fr.sub_nil _ | refine Fr.sub_cons rfl ?_ | refine Fr.sub_consI rfl (by first | omega | (dsimp only; omega)) ?_ | refine Fr.sub_consS rfl (by first | omega | (dsimp only; omega)) (by first | omega | (dsimp only; omega)) ?_)) rfl rfl (ih (i + 1, pa1, ca1) (by simp only; omega) (by simp only; omega))
    · refine j_nf [.o [1, 1, 1, 0, 1, 0, 0, 0, 0] 0, .c [1, 1, 1, 0, 1, 0, 0, 0, 1], .c [1, 1, 1, 0, 1, 0, 0, 1], .lp [1, 1, 1, 0, 1, 0, 0], .blk 0, .c [1, 1, 1, 1]] rfl ?_
      refine j_run it 3 rfl (by simp) ?_
      refine j_nf [.c [1, 1, 1, 0, 1, 0, 0, 0, 1], .c [1, 1, 1, 0, 1, 0, 0, 1], .lp [1, 1, 1, 0, 1, 0, 0], .blk 0, .c [1, 1, 1, 1]] rfl ?_
      refine j_if rfl rfl (fun h2 => by exfalso; omega) (fun h2 => ?_)
      refine j_nf [.o [1, 1, 1, 1, 0] 0, .c [1, 1, 1, 1, 1]] rfl ?_
      refine j_run it 2 rfl (by simp) ?_
      refine j_nf [.c [1, 1, 1, 1, 1]] rfl ?_
      have e : i = k := by omega
      rw [e]
      refine j_giv [0] rfl rfl rfl ⟨_, _, rfl, rfl, rfl⟩
end Go.Proofs.Ythahejfpdhcpiaa

namespace Go.Proofs.Ythahejfpdhcpiaa
open Go Go.Fw
set_option maxRecDepth 100000
set_option linter.unusedVariables false
set_option linter.unusedSimpArgs false
set_option maxHeartbeats 400000
theorem S_codewrightref01_Pow {pa : Option Addr} {m ca n : Nat} {l : List Nat} (hl : val l < 4294967296) (hn : n ≤ 4000) : Ctr Try.prog 64 [.slice pa m ca, .int .i64 n] [] [slF U32 pa m ca l] (S2 U32 (limbs (val l ^ n)) 0) := by
  refine Ctr_of_j' (F := F_codewrightref01_Pow) rfl fun C => ?_
  refine j_len 0 rfl fun hm _ _ => ?_
  subst hm
  refine j_range 0 rfl fun hr => ?_
  have hrr : ∀ x ∈ l, x < 4294967296 := fun x hx => by have := hr x hx; simp only [InR] at this; omega
  have ht : trim l = limbs (val l) := trim_eq hrr
  have hbl : bitsL (limbs (val l)) = blen (val l) := bitsL_small (trim_limbs _) hl
  have hone : (limbs (val l ^ 0)) = [1] := by rw [Nat.pow_zero, limbs_one]
  by_cases h0 : n = 0
  · subst h0
    refine j_nf [.o [0] 0, .c [1]] rfl ?_
    refine j_run it 2 rfl (by simp) ?_
    refine j_nf [.o [1, 0, 0] 0, .c [1, 0, 1], .c [1, 1]] rfl ?_
    refine j_run it 2 rfl (by simp) ?_
    refine j_nf [.c [1, 0, 1], .c [1, 1]] rfl ?_
    refine j_if rfl rfl (fun h1 => by exfalso; omega) (fun h1 => ?_)
    refine j_nf [.o [1, 1, 0] 0, .c [1, 1, 1]] rfl ?_
    refine j_run it 1 rfl (by simp) ?_
    refine j_step rfl (x_call [0] rfl (S_codewrightref01_Trim) rfl ?_)
    rintro _ _ _ ⟨pa1, ca1, rfl, rfl, rfl⟩
    simp only [List.cons_append, List.nil_append]
    refine j_run it 1 rfl (by simp) ?_
    refine j_nf [.o [1, 1, 1, 0, 0] 0, .c [1, 1, 1, 0, 1], .c [1, 1, 1, 1]] rfl ?_
    refine j_run it 2 rfl (by simp) ?_
    refine j_nf [.c [1, 1, 1, 0, 1], .c [1, 1, 1, 1]] rfl ?_
    refine j_if rfl rfl (fun h2 => ?_) (fun h2 => by exfalso; omega)
    refine j_nf [.o [1, 1, 1, 0, 1, 0, 0] 0, .c [1, 1, 1, 0, 1, 0, 1], .c [1, 1, 1, 1]] rfl ?_
    refine j_step rfl (x_lit sl42 zo42e rfl rfl rfl rfl (by decide) (by decide) rfl fun b1 => ?_)
    refine j_run it 2 rfl (by simp) ?_
    refine j_nf [.c [1, 1, 1, 0, 1, 0, 1], .c [1, 1, 1, 1]] rfl ?_
    refine j_pub_made (n := 1) (kd := .u32) 4 [1] 0 rfl rfl (by simp [InR]) (by decide) (by decide) ?_
    refine j_giv [0] rfl rfl rfl ⟨_, _, by rw [hone]; rfl, by rw [hone]; rfl, rfl⟩
  by_cases h1 : val l ≤ 1
  · have hp : val l ^ n = val l := by
      rcases Nat.lt_or_ge (val l) 1 with h | h
      · rw [show val l = 0 by omega, Nat.zero_pow (by omega)]
      · rw [show val l = 1 by omega, Nat.one_pow]
    have hb1 : bitsL (trim l) ≤ 1 := by
      rw [ht, hbl]; exact blen_le (by omega)
    refine j_nf [.o [0] 0, .c [1]] rfl ?_
    refine j_run it 2 rfl (by simp) ?_
    refine j_nf [.o [1, 0, 0] 0, .c [1, 0, 1], .c [1, 1]] rfl ?_
    refine j_run it 2 rfl (by simp) ?_
    refine j_nf [.c [1, 0, 1], .c [1, 1]] rfl ?_
    refine j_if rfl rfl (fun h2 => by exfalso; omega) (fun h2 => ?_)
    refine j_nf [.o [1, 1, 0] 0, .c [1, 1, 1]] rfl ?_
    refine j_run it 1 rfl (by simp) ?_
    refine j_step rfl (x_call [0] rfl (S_codewrightref01_Trim) rfl ?_)
    rintro _ _ _ ⟨pa1, ca1, rfl, rfl, rfl⟩
    simp only [List.cons_append, List.nil_append]
    refine j_run it 1 rfl (by simp) ?_
    refine j_nf [.o [1, 1, 1, 0, 0] 0, .c [1, 1, 1, 0, 1], .c [1, 1, 1, 1]] rfl ?_
    refine j_run it 2 rfl (by simp) ?_
    refine j_nf [.c [1, 1, 1, 0, 1], .c [1, 1, 1, 1]] rfl ?_
    refine j_if rfl rfl (fun h3 => by exfalso; omega) (fun h3 => ?_)
    refine j_nf [.o [1, 1, 1, 1, 0, 0] 0, .c [1, 1, 1, 1, 0, 1], .c [1, 1, 1, 1, 1]] rfl ?_
    refine j_run it 1 rfl (by simp) ?_
    refine j_step rfl (x_call [0] rfl (S_codewrightref01_Bits) rfl ?_)
    rintro _ _ _ ⟨rfl, rfl, rfl⟩
    simp only [List.cons_append, List.nil_append]
    refine j_run it 1 rfl (by simp) ?_
    refine j_nf [.c [1, 1, 1, 1, 0, 1], .c [1, 1, 1, 1, 1]] rfl ?_
    refine j_if rfl rfl (fun h4 => ?_) (fun h4 => by exfalso; omega)
    refine j_nf [.o [1, 1, 1, 1, 0, 1, 0, 0] 0, .c [1, 1, 1, 1, 0, 1, 0, 1], .c [1, 1, 1, 1, 1]] rfl ?_
    refine j_run it 3 rfl (by simp) ?_
    refine j_nf [.c [1, 1, 1, 1, 0, 1, 0, 1], .c [1, 1, 1, 1, 1]] rfl ?_
    rw [ht]
    refine j_giv [0] rfl rfl rfl ⟨_, _, by rw [hp]; rfl, by rw [hp], rfl⟩
  have hb1 : 1 < bitsL (trim l) := by
    rw [ht, hbl]
    have h2 : blen (val l) ≠ 0 := fun h => by have := blen_eq_zero.1 h; omega
    have h3 : blen (val l) ≠ 1 := fun h => by have := blen_eq_one.1 h; omega
    omega
  have hW := pow_len hl (show n ≤ 4000 from hn)
  refine j_nf [.o [0] 0, .c [1]] rfl ?_
  refine j_run it 2 rfl (by simp) ?_
  refine j_nf [.o [1, 0, 0] 0, .c [1, 0, 1], .c [1, 1]] rfl ?_
  refine j_run it 2 rfl (by simp) ?_
  refine j_nf [.c [1, 0, 1], .c [1, 1]] rfl ?_
  refine j_if rfl rfl (fun h2 => by exfalso; omega) (fun h2 => ?_)
  refine j_nf [.o [1, 1, 0] 0, .c [1, 1, 1]] rfl ?_
  refine j_run it 1 rfl (by simp) ?_
  refine j_step rfl (x_call [0] rfl (S_codewrightref01_Trim) rfl ?_)
  rintro _ _ _ ⟨pa1, ca1, rfl, rfl, rfl⟩
  simp only [List.cons_append, List.nil_append]
  refine j_run it 1 rfl (by simp) ?_
  refine j_nf [.o [1, 1, 1, 0, 0] 0, .c [1, 1, 1, 0, 1], .c [1, 1, 1, 1]] rfl ?_
  refine j_run it 2 rfl (by simp) ?_
  refine j_nf [.c [1, 1, 1, 0, 1], .c [1, 1, 1, 1]] rfl ?_
  refine j_if rfl rfl (fun h3 => by exfalso; omega) (fun h3 => ?_)
  refine j_nf [.o [1, 1, 1, 1, 0, 0] 0, .c [1, 1, 1, 1, 0, 1], .c [1, 1, 1, 1, 1]] rfl ?_
  refine j_run it 1 rfl (by simp) ?_
  refine j_step rfl (x_call [0] rfl (S_codewrightref01_Bits) rfl ?_)
  rintro _ _ _ ⟨rfl, rfl, rfl⟩
  simp only [List.cons_append, List.nil_append]
  refine j_run it 1 rfl (by simp) ?_
  refine j_nf [.c [1, 1, 1, 1, 0, 1], .c [1, 1, 1, 1, 1]] rfl ?_
  refine j_if rfl rfl (fun h4 => by exfalso; omega) (fun h4 => ?_)
  refine j_nf [.o [1, 1, 1, 1, 1, 0, 0] 0, .c [1, 1, 1, 1, 1, 0, 1], .c [1, 1, 1, 1, 1, 1]] rfl ?_
  refine j_run it 2 rfl (by simp) ?_
  refine j_nf [.c [1, 1, 1, 1, 1, 0, 1], .c [1, 1, 1, 1, 1, 1]] rfl ?_
  refine j_if rfl rfl (fun h5 => by exfalso; omega) (fun h5 => ?_)
  refine j_nf [.o [1, 1, 1, 1, 1, 1, 0] 0, .c [1, 1, 1, 1, 1, 1, 1]] rfl ?_
  refine j_step rfl (x_lit sl42 zo42e rfl rfl rfl rfl (by decide) (by decide) rfl fun b1 => ?_)
  refine j_run it 1 rfl (by simp) ?_
  refine j_nf [.o [1, 1, 1, 1, 1, 1, 1, 0, 0] 0, .c [1, 1, 1, 1, 1, 1, 1, 0, 1], .c [1, 1, 1, 1, 1, 1, 1, 1]] rfl ?_
  refine j_run it 1 rfl (by simp) ?_
  refine j_nf [.c [1, 1, 1, 1, 1, 1, 1, 0, 1, 0], .blk 0, .c [1, 1, 1, 1, 1, 1, 1, 1]] rfl ?_
  rw [ht]
  refine j_pub_made (n := 1) (kd := .u32) 4 [1] 0 rfl rfl (by simp [InR]) (by decide) (by decide) ?_
  have e0 : n / 2 ^ 19 = 0 := Nat.div_eq_of_lt (by omega)
  have e1 : limbs (val l ^ (n / 2 ^ 19)) = [1] := by rw [e0]; exact hone
  have d19 : 2 ^ 19 / 2 = 262144 := by decide
  refine j_loopN (X := Nat × Option Addr × Nat) (fun x => [(0, .slice pa1 (limbs (val l)).length ca1), (1, .int .i64 n), (6, .slice x.2.1 (limbs (val l ^ (n / 2 ^ x.1))).length x.2.2), (7, .int .i64 ((2 ^ x.1 / 2 : Nat) : Int))])
    (fun _ => []) (fun x => [slF U32 x.2.1 (limbs (val l ^ (n / 2 ^ x.1))).length x.2.2 (limbs (val l ^ (n / 2 ^ x.1))), slF U32 pa1 (limbs (val l)).length ca1 (limbs (val l))])
    (fun x => x.1 ≤ 19) (fun x => x.1) (19, some ⟨b1, 0, none⟩, 1) [0, 1] rfl (Nat.le_refl _) (by simp only [e1, d19]; repeat (first | exact Fr.sub_nil _ | refine Fr.sub_cons rfl ?_)) rfl (by simp only [e1]; rfl) ?_
  rintro ⟨e, po, co⟩ he ih
  simp only at he ih ⊢
  cases e with
  | zero =>
    rw [show (2 : Nat) ^ 0 / 2 = 0 from rfl, show n / 2 ^ 0 = n by simp]
    refine j_nf [.o [1, 1, 1, 1, 1, 1, 1, 0, 1, 0, 0, 0, 0] 0, .c [1, 1, 1, 1, 1, 1, 1, 0, 1, 0, 0, 0, 1], .c [1, 1, 1, 1, 1, 1, 1, 0, 1, 0, 0, 1], .lp [1, 1, 1, 1, 1, 1, 1, 0, 1, 0, 0], .blk 0, .c [1, 1, 1, 1, 1, 1, 1, 1]] rfl ?_
    refine j_run it 2 rfl (by simp) ?_
    refine j_nf [.c [1, 1, 1, 1, 1, 1, 1, 0, 1, 0, 0, 0, 1], .c [1, 1, 1, 1, 1, 1, 1, 0, 1, 0, 0, 1], .lp [1, 1, 1, 1, 1, 1, 1, 0, 1, 0, 0], .blk 0, .c [1, 1, 1, 1, 1, 1, 1, 1]] rfl ?_
    refine j_if rfl rfl (fun h6 => by exfalso; omega) (fun h6 => ?_)
    refine j_nf [.o [1, 1, 1, 1, 1, 1, 1, 1, 0] 0, .c [1, 1, 1, 1, 1, 1, 1, 1, 1]] rfl ?_
    refine j_run it 3 rfl (by simp) ?_
    refine j_nf [.c [1, 1, 1, 1, 1, 1, 1, 1, 1]] rfl ?_
    refine j_giv [0] rfl rfl rfl ⟨_, _, rfl, rfl, rfl⟩
  | succ e =>
    have hd2 : 2 ^ (e + 1) = 2 * 2 ^ e := by rw [Nat.pow_succ, Nat.mul_comm]
    have hd1 : 2 ^ (e + 1) / 2 = 2 ^ e := by rw [hd2]; omega
    have hq : n / 2 ^ (e + 1) = n / 2 ^ e / 2 := by rw [Nat.div_div_eq_div_mul, Nat.mul_comm, hd2]
    have hpos : 0 < 2 ^ e := Nat.pow_pos (by decide)
    have hle : 2 ^ e ≤ 2 ^ 18 := Nat.pow_le_pow_right (by decide) (by omega)
    have hQn : n / 2 ^ e ≤ n := Nat.div_le_self _ _
    have ih := fun p => ih (e, p)
    simp only at ih
    rw [hd1, hq]
    generalize hd : 2 ^ e = d at hpos hle hQn ih ⊢
    generalize hQ : n / d = Q at hQn ih ⊢
    have hoo : val l ^ (Q / 2) * val l ^ (Q / 2) = val l ^ (2 * (Q / 2)) := by rw [← Nat.pow_add, Nat.two_mul]
    have lW : ∀ x, x ≤ n → (limbs (val l ^ x)).length ≤ 4001 := fun x hx => limbs_mono hW (Nat.pow_le_pow_right (by omega) hx)
    have l1 := lW (Q / 2) (by omega)
    have l2 := lW (2 * (Q / 2)) (by omega)
    have l3 := lW Q hQn
    have lv := limbs_two (show val l < 18446744073709551616 by omega)
    have lx1 : (limbs (val (limbs (val l ^ (Q / 2))) * val (limbs (val l ^ (Q / 2))))).length ≤ 4001 := by rw [val_limbs, hoo]; exact l2
    by_cases hodd : Q % 2 = 1
    · have hov : val l ^ (2 * (Q / 2)) * val l = val l ^ Q := by rw [← Nat.pow_succ]; congr 1; omega
      have lx2 : (limbs (val (limbs (val (limbs (val l ^ (Q / 2))) * val (limbs (val l ^ (Q / 2))))) * val (limbs (val l)))).length ≤ 4001 := by rw [val_limbs, val_limbs, val_limbs, hoo, hov]; exact l3
      have hoddI : ((n : Int) / d) % 2 = 1 := by rw [show ((n : Int) / d) = ((n / d : Nat) : Int) from rfl, hQ]; omega
      refine j_nf [.o [1, 1, 1, 1, 1, 1, 1, 0, 1, 0, 0, 0, 0] 0, .c [1, 1, 1, 1, 1, 1, 1, 0, 1, 0, 0, 0, 1], .c [1, 1, 1, 1, 1, 1, 1, 0, 1, 0, 0, 1], .lp [1, 1, 1, 1, 1, 1, 1, 0, 1, 0, 0], .blk 0, .c [1, 1, 1, 1, 1, 1, 1, 1]] rfl ?_
      refine j_run it 2 rfl (by simp) ?_
      refine j_nf [.c [1, 1, 1, 1, 1, 1, 1, 0, 1, 0, 0, 0, 1], .c [1, 1, 1, 1, 1, 1, 1, 0, 1, 0, 0, 1], .lp [1, 1, 1, 1, 1, 1, 1, 0, 1, 0, 0], .blk 0, .c [1, 1, 1, 1, 1, 1, 1, 1]] rfl ?_
      refine j_if rfl rfl (fun h6 => ?_) (fun h6 => by exfalso; omega)
      refine j_nf [.o [1, 1, 1, 1, 1, 1, 1, 0, 1, 0, 0, 1, 0, 0, 0] 0, .c [1, 1, 1, 1, 1, 1, 1, 0, 1, 0, 0, 1, 0, 0, 1], .blk 1, .c [1, 1, 1, 1, 1, 1, 1, 0, 1, 0, 0, 1, 1], .lp [1, 1, 1, 1, 1, 1, 1, 0, 1, 0, 0], .blk 0, .c [1, 1, 1, 1, 1, 1, 1, 1]] rfl ?_
      refine j_run it 2 rfl (by simp) ?_
      refine j_step rfl (x_call [0, 0] rfl (S_codewrightref01_Mul (by first | omega | exact side _ (by assumption) | assumption | rfl | (simp; done) | (simp; omega)) (by first | omega | exact side _ (by assumption) | assumption | rfl | (simp; done) | (simp; omega))) rfl ?_)
      rintro _ _ _ ⟨pa2, ca2, rfl, rfl, rfl⟩
      simp only [List.cons_append, List.nil_append]
      refine j_run it 1 rfl (by simp) ?_
      refine j_nf [.o [1, 1, 1, 1, 1, 1, 1, 0, 1, 0, 0, 1, 0, 0, 1, 0, 0] 0, .c [1, 1, 1, 1, 1, 1, 1, 0, 1, 0, 0, 1, 0, 0, 1, 0, 1], .c [1, 1, 1, 1, 1, 1, 1, 0, 1, 0, 0, 1, 0, 0, 1, 1], .blk 1, .c [1, 1, 1, 1, 1, 1, 1, 0, 1, 0, 0, 1, 1], .lp [1, 1, 1, 1, 1, 1, 1, 0, 1, 0, 0], .blk 0, .c [1, 1, 1, 1, 1, 1, 1, 1]] rfl ?_
      refine j_run it 5 rfl (by repeat' first | exact trivial | apply And.intro | omega) ?_
      refine j_nf [.c [1, 1, 1, 1, 1, 1, 1, 0, 1, 0, 0, 1, 0, 0, 1, 0, 1], .c [1, 1, 1, 1, 1, 1, 1, 0, 1, 0, 0, 1, 0, 0, 1, 1], .blk 1, .c [1, 1, 1, 1, 1, 1, 1, 0, 1, 0, 0, 1, 1], .lp [1, 1, 1, 1, 1, 1, 1, 0, 1, 0, 0], .blk 0, .c [1, 1, 1, 1, 1, 1, 1, 1]] rfl ?_
      refine j_if rfl rfl (fun h7 => ?_) (fun h7 => by exfalso; omega)
      refine j_nf [.o [1, 1, 1, 1, 1, 1, 1, 0, 1, 0, 0, 1, 0, 0, 1, 0, 1, 0] 0, .c [1, 1, 1, 1, 1, 1, 1, 0, 1, 0, 0, 1, 0, 0, 1, 1], .blk 1, .c [1, 1, 1, 1, 1, 1, 1, 0, 1, 0, 0, 1, 1], .lp [1, 1, 1, 1, 1, 1, 1, 0, 1, 0, 0], .blk 0, .c [1, 1, 1, 1, 1, 1, 1, 1]] rfl ?_
      refine j_run it 2 rfl (by simp) ?_
      refine j_step rfl (x_call [0, 2] rfl (S_codewrightref01_Mul (by first | omega | exact side _ (by assumption) | assumption | rfl | (simp; done) | (simp; omega)) (by first | omega | exact side _ (by assumption) | assumption | rfl | (simp; done) | (simp; omega))) rfl ?_)
      rintro _ _ _ ⟨pa3, ca3, rfl, rfl, rfl⟩
      simp only [List.cons_append, List.nil_append]
      refine j_run it 1 rfl (by simp) ?_
      refine j_nf [.o [1, 1, 1, 1, 1, 1, 1, 0, 1, 0, 0, 1, 0, 0, 1, 1, 0] 0, .c [1, 1, 1, 1, 1, 1, 1, 0, 1, 0, 0, 1, 0, 0, 1, 1, 1], .blk 1, .c [1, 1, 1, 1, 1, 1, 1, 0, 1, 0, 0, 1, 1], .lp [1, 1, 1, 1, 1, 1, 1, 0, 1, 0, 0], .blk 0, .c [1, 1, 1, 1, 1, 1, 1, 1]] rfl ?_
      refine j_run it 1 rfl (by simp) ?_
      refine j_step rfl (x_len sl42 rfl ?_)
      refine j_run it 1 rfl (by simp) ?_
      refine j_nf [.c [1, 1, 1, 1, 1, 1, 1, 0, 1, 0, 0, 1, 0, 0, 1, 1, 1], .blk 1, .c [1, 1, 1, 1, 1, 1, 1, 0, 1, 0, 0, 1, 1], .lp [1, 1, 1, 1, 1, 1, 1, 0, 1, 0, 0], .blk 0, .c [1, 1, 1, 1, 1, 1, 1, 1]] rfl ?_
      refine j_if rfl rfl (fun h8 => by exfalso; omega) (fun h8 => ?_)
      refine j_nf [.o [1, 1, 1, 1, 1, 1, 1, 0, 1, 0, 0, 1, 1] 0, .lp [1, 1, 1, 1, 1, 1, 1, 0, 1, 0, 0], .blk 0, .c [1, 1, 1, 1, 1, 1, 1, 1]] rfl ?_
      refine j_run it 3 rfl (by repeat' first | exact trivial | apply And.intro | omega) ?_
      refine j_nfn 1 [.lp [1, 1, 1, 1, 1, 1, 1, 0, 1, 0, 0], .blk 0, .c [1, 1, 1, 1, 1, 1, 1, 1]] rfl ?_
      simp only [val_limbs, hoo, hov]
      refine j_to [0, 3] (by repeat (first | exact Fr.sub_nil _ | refine Fr.sub_cons rfl ?_ | refine Fr.sub_consI rfl (by first | omega | (dsimp only; omega)) ?_ | refine Fr.sub_consS rfl (by first | omega | (dsimp only; omega)) (by first | omega | (dsimp only; omega)) ?_)) rfl rfl (ih (pa3, ca3) (by omega) (by omega))
    · have hoddI : ¬ ((n : Int) / d) % 2 = 1 := by rw [show ((n : Int) / d) = ((n / d : Nat) : Int) from rfl, hQ]; omega
      have hev : val l ^ (2 * (Q / 2)) = val l ^ Q := by congr 1; omega
      refine j_nf [.o [1, 1, 1, 1, 1, 1, 1, 0, 1, 0, 0, 0, 0] 0, .c [1, 1, 1, 1, 1, 1, 1, 0, 1, 0, 0, 0, 1], .c [1, 1, 1, 1, 1, 1, 1, 0, 1, 0, 0, 1], .lp [1, 1, 1, 1, 1, 1, 1, 0, 1, 0, 0], .blk 0, .c [1, 1, 1, 1, 1, 1, 1, 1]] rfl ?_
      refine j_run it 2 rfl (by simp) ?_
      refine j_nf [.c [1, 1, 1, 1, 1, 1, 1, 0, 1, 0, 0, 0, 1], .c [1, 1, 1, 1, 1, 1, 1, 0, 1, 0, 0, 1], .lp [1, 1, 1, 1, 1, 1, 1, 0, 1, 0, 0], .blk 0, .c [1, 1, 1, 1, 1, 1, 1, 1]] rfl ?_
      refine j_if rfl rfl (fun h6 => ?_) (fun h6 => by exfalso; omega)
      refine j_nf [.o [1, 1, 1, 1, 1, 1, 1, 0, 1, 0, 0, 1, 0, 0, 0] 0, .c [1, 1, 1, 1, 1, 1, 1, 0, 1, 0, 0, 1, 0, 0, 1], .blk 1, .c [1, 1, 1, 1, 1, 1, 1, 0, 1, 0, 0, 1, 1], .lp [1, 1, 1, 1, 1, 1, 1, 0, 1, 0, 0], .blk 0, .c [1, 1, 1, 1, 1, 1, 1, 1]] rfl ?_
      refine j_run it 2 rfl (by simp) ?_
      refine j_step rfl (x_call [0, 0] rfl (S_codewrightref01_Mul (by first | omega | exact side _ (by assumption) | assumption | rfl | (simp; done) | (simp; omega)) (by first | omega | exact side _ (by assumption) | assumption | rfl | (simp; done) | (simp; omega))) rfl ?_)
      rintro _ _ _ ⟨pa2, ca2, rfl, rfl, rfl⟩
      simp only [List.cons_append, List.nil_append]
      refine j_run it 1 rfl (by simp) ?_
      refine j_nf [.o [1, 1, 1, 1, 1, 1, 1, 0, 1, 0, 0, 1, 0, 0, 1, 0, 0] 0, .c [1, 1, 1, 1, 1, 1, 1, 0, 1, 0, 0, 1, 0, 0, 1, 0, 1], .c [1, 1, 1, 1, 1, 1, 1, 0, 1, 0, 0, 1, 0, 0, 1, 1], .blk 1, .c [1, 1, 1, 1, 1, 1, 1, 0, 1, 0, 0, 1, 1], .lp [1, 1, 1, 1, 1, 1, 1, 0, 1, 0, 0], .blk 0, .c [1, 1, 1, 1, 1, 1, 1, 1]] rfl ?_
      refine j_run it 5 rfl (by repeat' first | exact trivial | apply And.intro | omega) ?_
      refine j_nf [.c [1, 1, 1, 1, 1, 1, 1, 0, 1, 0, 0, 1, 0, 0, 1, 0, 1], .c [1, 1, 1, 1, 1, 1, 1, 0, 1, 0, 0, 1, 0, 0, 1, 1], .blk 1, .c [1, 1, 1, 1, 1, 1, 1, 0, 1, 0, 0, 1, 1], .lp [1, 1, 1, 1, 1, 1, 1, 0, 1, 0, 0], .blk 0, .c [1, 1, 1, 1, 1, 1, 1, 1]] rfl ?_
      refine j_if rfl rfl (fun h7 => by exfalso; omega) (fun h7 => ?_)
      refine j_nf [.o [1, 1, 1, 1, 1, 1, 1, 0, 1, 0, 0, 1, 0, 0, 1, 1, 0] 0, .c [1, 1, 1, 1, 1, 1, 1, 0, 1, 0, 0, 1, 0, 0, 1, 1, 1], .blk 1, .c [1, 1, 1, 1, 1, 1, 1, 0, 1, 0, 0, 1, 1], .lp [1, 1, 1, 1, 1, 1, 1, 0, 1, 0, 0], .blk 0, .c [1, 1, 1, 1, 1, 1, 1, 1]] rfl ?_
      refine j_run it 1 rfl (by simp) ?_
      refine j_step rfl (x_len sl42 rfl ?_)
      refine j_run it 1 rfl (by simp) ?_
      refine j_nf [.c [1, 1, 1, 1, 1, 1, 1, 0, 1, 0, 0, 1, 0, 0, 1, 1, 1], .blk 1, .c [1, 1, 1, 1, 1, 1, 1, 0, 1, 0, 0, 1, 1], .lp [1, 1, 1, 1, 1, 1, 1, 0, 1, 0, 0], .blk 0, .c [1, 1, 1, 1, 1, 1, 1, 1]] rfl ?_
      refine j_if rfl rfl (fun h8 => by exfalso; omega) (fun h8 => ?_)
      refine j_nf [.o [1, 1, 1, 1, 1, 1, 1, 0, 1, 0, 0, 1, 1] 0, .lp [1, 1, 1, 1, 1, 1, 1, 0, 1, 0, 0], .blk 0, .c [1, 1, 1, 1, 1, 1, 1, 1]] rfl ?_
      refine j_run it 3 rfl (by repeat' first | exact trivial | apply And.intro | omega) ?_
      refine j_nfn 1 [.lp [1, 1, 1, 1, 1, 1, 1, 0, 1, 0, 0], .blk 0, .c [1, 1, 1, 1, 1, 1, 1, 1]] rfl ?_
      simp only [val_limbs, hoo, hev]
      refine j_to [0, 2] (by repeat (first | exact Fr.sub_nil _ | refine Fr.sub_cons rfl ?_ | refine Fr.sub_consI rfl (by first | omega | (dsimp only; omega)) ?_ | refine Fr.sub_consS rfl (by first | omega | (dsimp only; omega)) (by first | omega | (dsimp only; omega)) ?_)) rfl rfl (ih (pa2, ca2) (by omega) (by omega))
end Go.Proofs.Ythahejfpdhcpiaa

namespace Go.Proofs.Ythahejfpdhcpiaa
open Go Go.Fw
set_option maxRecDepth 100000
set_option linter.unusedVariables false
set_option linter.unusedSimpArgs false
set_option maxHeartbeats 4000000
theorem S_codewrightref24_Krawtchouk {q n k x : Nat} (hq : 2 ≤ q) (hq2 : q ≤ 256) (hn : n ≤ 64) (hk : k ≤ n) (hx : x ≤ n) :
    Ctr Try.prog 35 [.int .i64 q, .int .i64 n, .int .i64 k, .int .i64 x] [] [] (RtV (rt ((kr ((q : Int) - 1) n k x : Int) : Rat))) := by
  refine Ctr_of_j' (F := F_codewrightref24_Krawtchouk) rfl fun C => ?_
  have hi0 : InR .i64 0 := by simp [InR]
  refine j_nf [.o [0] 0, .c [1]] rfl ?_
  refine j_step rfl (x_alloc zo44 fun b1 => ?_)
  refine j_nf [.o [1, 0] 0, .c [1, 1]] rfl ?_
  refine j_step rfl (x_call [] rfl (S_codewrightref02_Int (by first | omega | exact side _ (by assumption) | assumption | rfl | (simp; done) | (simp; omega))) rfl ?_)
  rintro _ _ _ ⟨pn1, cn1, pd1, cd1, rfl, rfl, rfl⟩
  simp only [List.cons_append, List.nil_append]
  refine j_step rfl (x_alloc zo44 fun b2 => ?_)
  refine j_step rfl (x_bst_all 0 rfl rfl rfl ld44 rfl rfl (by simp [Value.oneCell']) ?_)
  refine j_nf [.o [1, 1, 0, 0] 0, .c [1, 1, 0, 1], .c [1, 1, 1]] rfl ?_
  refine j_run it 1 rfl (by simp) ?_
  refine j_nf [.c [1, 1, 0, 1, 0], .blk 0, .c [1, 1, 1]] rfl ?_
  rw [show (((0 : Int) : Rat)) = ((sm 0 (krTerm q n k x) : Int) : Rat) from rfl]
  refine j_loopG (X := Nat × (Option Addr × Nat) × (Option Addr × Nat)) [0, 1, 2, 3, 8, 9] [] (fun y => [(10, .int .i64 y.1)])
    (fun y => [(some b2, 44, [.bool (rt ((sm y.1 (krTerm q n k x) : Int) : Rat)).1, .slice y.2.1.1 (rt ((sm y.1 (krTerm q n k x) : Int) : Rat)).2.1.length y.2.1.2, .slice y.2.2.1 (rt ((sm y.1 (krTerm q n k x) : Int) : Rat)).2.2.length y.2.2.2]), (some b1, 44, [.bool false, .slice none 0 0, .slice none 0 0])])
    (fun y => [slF U32 y.2.1.1 (rt ((sm y.1 (krTerm q n k x) : Int) : Rat)).2.1.length y.2.1.2 (rt ((sm y.1 (krTerm q n k x) : Int) : Rat)).2.1, slF U32 y.2.2.1 (rt ((sm y.1 (krTerm q n k x) : Int) : Rat)).2.2.length y.2.2.2 (rt ((sm y.1 (krTerm q n k x) : Int) : Rat)).2.2])
    (fun y => y.1 ≤ k + 1) (fun y => k + 1 - y.1) (0, (pn1, cn1), (pd1, cd1)) [0, 1] rfl rfl rfl (Nat.zero_le _) (by repeat (first | exact Fr.sub_nil _ | refine Fr.sub_cons rfl ?_)) rfl rfl ?_
  rintro ⟨j, ⟨pn, cn⟩, ⟨pd, cd⟩⟩ hj ih
  simp only [List.cons_append, List.nil_append] at hj ih ⊢
  by_cases hjl : j ≤ k
  · have hq1 : val (limbs (q - 1)) = q - 1 := val_limbs _
    have hq3 : val (limbs (q - 1)) < 4294967296 := by omega
    have hp := pow_len hq3 (show k - j ≤ 64 by omega)
    have hb1 := binom_len (show x ≤ 4096 by omega) j
    have hb2 := binom_len (show n - x ≤ 4096 by omega) (k - j)
    have hM : (limbs (val (limbs (binom x j)) * val (limbs (binom (n - x) (k - j))))).length ≤ 129 + 129 := by rw [val_limbs, val_limbs]; exact prod_lim hb1 hb2
    have eS : val (limbs (val (limbs (q - 1)) ^ (k - j))) * val (limbs (val (limbs (binom x j)) * val (limbs (binom (n - x) (k - j))))) = krSize q n k x j := by
      simp only [val_limbs, krSize]
    have hS : (limbs (krSize q n k x j)).length ≤ 23 := limbs_length_le (krSize_lt hq2 hn hk hx)
    have hR := rt_int_len (z := (krSize q n k x j : Int)) (m := 23) (by rw [Int.natAbs_natCast]; exact krSize_lt hq2 hn hk hx)
    have hT := rt_int_len (z := krTerm q n k x j) (m := 23) (by rw [krTerm_abs (by omega)]; exact krSize_lt hq2 hn hk hx)
    obtain ⟨hR1, hR2⟩ := hR
    obtain ⟨hT1, hT2⟩ := hT
    obtain ⟨hO1, hO2⟩ := rt_int_len (krPart_lt (by omega) hq2 hn hk hx (show j ≤ 65 by omega))
    have eA : ((sm j (krTerm q n k x) : Int) : Rat) + ((krTerm q n k x j : Int) : Rat) = ((sm (j + 1) (krTerm q n k x) : Int) : Rat) := by rw [sm, Rat.intCast_add]
    refine j_nf [.o [1, 1, 0, 1, 0, 0, 0, 0] 0, .c [1, 1, 0, 1, 0, 0, 0, 1], .c [1, 1, 0, 1, 0, 0, 1], .lp [1, 1, 0, 1, 0, 0], .blk 0, .c [1, 1, 1]] rfl ?_
    refine j_run it 3 rfl (by simp) ?_
    refine j_nf [.c [1, 1, 0, 1, 0, 0, 0, 1], .c [1, 1, 0, 1, 0, 0, 1], .lp [1, 1, 0, 1, 0, 0], .blk 0, .c [1, 1, 1]] rfl ?_
    refine j_if rfl rfl (fun h1 => ?_) (fun h1 => by exfalso; omega)
    refine j_nf [.o [1, 1, 0, 1, 0, 0, 1, 0, 0, 0] 0, .c [1, 1, 0, 1, 0, 0, 1, 0, 0, 1], .blk 1, .c [1, 1, 0, 1, 0, 0, 1, 1], .lp [1, 1, 0, 1, 0, 0], .blk 0, .c [1, 1, 1]] rfl ?_
    refine j_run it 3 rfl (by repeat' first | exact trivial | apply And.intro | omega) ?_
    refine j_recast (t := 23) ((((q) - 1) : Nat) : Int) rfl (by omega) ?_
    refine j_step rfl (x_call [] rfl (S_codewrightref01_Of (by first | omega | exact side _ (by assumption) | assumption | rfl | (simp; done) | (simp; omega))) rfl ?_)
    rintro _ _ _ ⟨pa1, ca1, rfl, rfl, rfl⟩
    simp only [List.cons_append, List.nil_append]
    refine j_run it 3 rfl (by repeat' first | exact trivial | apply And.intro | omega) ?_
    refine j_recast (t := 27) ((((k) - (j)) : Nat) : Int) rfl (by omega) ?_
    refine j_step rfl (x_call [0] rfl (S_codewrightref01_Pow (by first | omega | exact side _ (by assumption) | assumption | rfl | (simp; done) | (simp; omega)) (by first | omega | exact side _ (by assumption) | assumption | rfl | (simp; done) | (simp; omega))) rfl ?_)
    rintro _ _ _ ⟨pa2, ca2, rfl, rfl, rfl⟩
    simp only [List.cons_append, List.nil_append]
    refine j_run it 5 rfl (by simp) ?_
    refine j_nf [.o [1, 1, 0, 1, 0, 0, 1, 0, 0, 1, 0] 0, .c [1, 1, 0, 1, 0, 0, 1, 0, 0, 1, 1], .blk 1, .c [1, 1, 0, 1, 0, 0, 1, 1], .lp [1, 1, 0, 1, 0, 0], .blk 0, .c [1, 1, 1]] rfl ?_
    refine j_run it 3 rfl (by simp) ?_
    refine j_step rfl (x_call [] rfl (S_codewrightref01_Choose (by first | omega | exact side _ (by assumption) | assumption | rfl | (simp; done) | (simp; omega))) rfl ?_)
    rintro _ _ _ ⟨pa3, ca3, rfl, rfl, rfl⟩
    simp only [List.cons_append, List.nil_append]
    refine j_run it 6 rfl (by repeat' first | exact trivial | apply And.intro | omega) ?_
    refine j_recast (t := 37) ((((n) - (x)) : Nat) : Int) rfl (by omega) ?_
    refine j_recast (t := 40) ((((k) - (j)) : Nat) : Int) rfl (by omega) ?_
    refine j_step rfl (x_call [] rfl (S_codewrightref01_Choose (by first | omega | exact side _ (by assumption) | assumption | rfl | (simp; done) | (simp; omega))) rfl ?_)
    rintro _ _ _ ⟨pa4, ca4, rfl, rfl, rfl⟩
    simp only [List.cons_append, List.nil_append]
    refine j_step rfl (x_call [1, 0] rfl (S_codewrightref01_Mul (by first | omega | exact side _ (by assumption) | assumption | rfl | (simp; done) | (simp; omega)) (by first | omega | exact side _ (by assumption) | assumption | rfl | (simp; done) | (simp; omega))) rfl ?_)
    rintro _ _ _ ⟨pa5, ca5, rfl, rfl, rfl⟩
    simp only [List.cons_append, List.nil_append]
    refine j_step rfl (x_call [3, 0] rfl (S_codewrightref01_Mul (by first | omega | exact side _ (by assumption) | assumption | rfl | (simp; done) | (simp; omega)) (by first | omega | exact side _ (by assumption) | assumption | rfl | (simp; done) | (simp; omega))) rfl ?_)
    rintro _ _ _ ⟨pa6, ca6, rfl, rfl, rfl⟩
    simp only [List.cons_append, List.nil_append]
    rw [eS]
    have ho : j % 2 = 1 → -(((val (limbs (krSize q n k x j)) : Nat) : Int) : Rat) = ((krTerm q n k x j : Int) : Rat) := fun h => by rw [val_limbs, krTerm_odd (by omega) h, Rat.intCast_neg]
    have he : ¬ j % 2 = 1 → (((val (limbs (krSize q n k x j)) : Nat) : Int) : Rat) = ((krTerm q n k x j : Int) : Rat) := fun h => by rw [val_limbs, krTerm_even (by omega) h]
    rw [← val_limbs (krSize q n k x j)] at hR1 hR2
    refine j_step rfl (x_call [0] rfl (S_codewrightref02_Nat (by first | omega | exact side _ (by assumption) | assumption | rfl | (simp; done) | (simp; omega))) rfl ?_)
    rintro _ _ _ ⟨pn2, cn2, pd2, cd2, rfl, rfl, rfl⟩
    simp only [List.cons_append, List.nil_append]
    refine j_step rfl (x_alloc zo44 fun b3 => ?_)
    refine j_step rfl (x_bst_all 0 rfl rfl rfl ld44 rfl rfl (by simp [Value.oneCell']) ?_)
    refine j_nf [.o [1, 1, 0, 1, 0, 0, 1, 0, 0, 1, 1, 0, 0] 0, .c [1, 1, 0, 1, 0, 0, 1, 0, 0, 1, 1, 0, 1], .c [1, 1, 0, 1, 0, 0, 1, 0, 0, 1, 1, 1], .blk 1, .c [1, 1, 0, 1, 0, 0, 1, 1], .lp [1, 1, 0, 1, 0, 0], .blk 0, .c [1, 1, 1]] rfl ?_
    refine j_run it 3 rfl (by simp) ?_
    refine j_nf [.c [1, 1, 0, 1, 0, 0, 1, 0, 0, 1, 1, 0, 1], .c [1, 1, 0, 1, 0, 0, 1, 0, 0, 1, 1, 1], .blk 1, .c [1, 1, 0, 1, 0, 0, 1, 1], .lp [1, 1, 0, 1, 0, 0], .blk 0, .c [1, 1, 1]] rfl ?_
    refine j_if rfl rfl (fun h2 => ?_) (fun h2 => ?_)
    · refine j_nf [.o [1, 1, 0, 1, 0, 0, 1, 0, 0, 1, 1, 0, 1, 0] 0, .c [1, 1, 0, 1, 0, 0, 1, 0, 0, 1, 1, 1], .blk 1, .c [1, 1, 0, 1, 0, 0, 1, 1], .lp [1, 1, 0, 1, 0, 0], .blk 0, .c [1, 1, 1]] rfl ?_
      refine j_step rfl (x_bld_all 0 rfl rfl ld44 rfl ?_)
      refine j_step rfl (x_call [0, 1] rfl (S_codewrightref02_Neg (by first | omega | exact side _ (by assumption) | assumption | rfl | (simp; done) | (simp; omega)) (by first | omega | exact side _ (by assumption) | assumption | rfl | (simp; done) | (simp; omega))) rfl ?_)
      rintro _ _ _ ⟨pn3, cn3, pd3, cd3, rfl, rfl, rfl⟩
      simp only [List.cons_append, List.nil_append]
      simp only [vq_rt']
      refine j_step rfl (x_bst_all 0 rfl rfl rfl ld44 rfl rfl (by simp [Value.oneCell']) ?_)
      refine j_nf [.o [1, 1, 0, 1, 0, 0, 1, 0, 0, 1, 1, 1] 0, .blk 1, .c [1, 1, 0, 1, 0, 0, 1, 1], .lp [1, 1, 0, 1, 0, 0], .blk 0, .c [1, 1, 1]] rfl ?_
      refine j_step rfl (x_bld_all 1 rfl rfl ld44 rfl ?_)
      refine j_step rfl (x_bld_all 0 rfl rfl ld44 rfl ?_)
      rw [ho (by omega)]
      refine j_step rfl (x_call [10, 11, 0, 1] rfl (S_codewrightref02_Add (by first | omega | exact side _ (by assumption) | assumption | rfl | (simp; done) | (simp; omega)) (by first | omega | exact side _ (by assumption) | assumption | rfl | (simp; done) | (simp; omega)) (by first | omega | exact side _ (by assumption) | assumption | rfl | (simp; done) | (simp; omega)) (by first | omega | exact side _ (by assumption) | assumption | rfl | (simp; done) | (simp; omega))) rfl ?_)
      rintro _ _ _ ⟨pn4, cn4, pd4, cd4, rfl, rfl, rfl⟩
      simp only [List.cons_append, List.nil_append]
      simp only [vq_rt']
      refine j_step rfl (x_bst_all 1 rfl rfl rfl ld44 rfl rfl (by simp [Value.oneCell']) ?_)
      refine j_nf [.o [1, 1, 0, 1, 0, 0, 1, 1] 0, .lp [1, 1, 0, 1, 0, 0], .blk 0, .c [1, 1, 1]] rfl ?_
      refine j_run it 3 rfl (by repeat' first | exact trivial | apply And.intro | omega) ?_
      refine j_nfn 1 [.lp [1, 1, 0, 1, 0, 0], .blk 0, .c [1, 1, 1]] rfl ?_
      rw [eA]
      refine j_toM [false, true, true] [0, 1] (by repeat (first | exact Fr.sub_nil _ | refine Fr.sub_cons rfl ?_ | refine Fr.sub_consI rfl (by first | omega | (dsimp only; omega)) ?_ | refine Fr.sub_consS rfl (by first | omega | (dsimp only; omega)) (by first | omega | (dsimp only; omega)) ?_)) rfl rfl (ih (j + 1, (pn4, cn4), (pd4, cd4)) (by dsimp only; omega) (by dsimp only; omega))
    · refine j_nf [.o [1, 1, 0, 1, 0, 0, 1, 0, 0, 1, 1, 1] 0, .blk 1, .c [1, 1, 0, 1, 0, 0, 1, 1], .lp [1, 1, 0, 1, 0, 0], .blk 0, .c [1, 1, 1]] rfl ?_
      refine j_step rfl (x_bld_all 1 rfl rfl ld44 rfl ?_)
      refine j_step rfl (x_bld_all 0 rfl rfl ld44 rfl ?_)
      rw [he (by omega)]
      refine j_step rfl (x_call [8, 9, 0, 1] rfl (S_codewrightref02_Add (by first | omega | exact side _ (by assumption) | assumption | rfl | (simp; done) | (simp; omega)) (by first | omega | exact side _ (by assumption) | assumption | rfl | (simp; done) | (simp; omega)) (by first | omega | exact side _ (by assumption) | assumption | rfl | (simp; done) | (simp; omega)) (by first | omega | exact side _ (by assumption) | assumption | rfl | (simp; done) | (simp; omega))) rfl ?_)
      rintro _ _ _ ⟨pn3, cn3, pd3, cd3, rfl, rfl, rfl⟩
      simp only [List.cons_append, List.nil_append]
      simp only [vq_rt']
      refine j_step rfl (x_bst_all 1 rfl rfl rfl ld44 rfl rfl (by simp [Value.oneCell']) ?_)
      refine j_nf [.o [1, 1, 0, 1, 0, 0, 1, 1] 0, .lp [1, 1, 0, 1, 0, 0], .blk 0, .c [1, 1, 1]] rfl ?_
      refine j_run it 3 rfl (by repeat' first | exact trivial | apply And.intro | omega) ?_
      refine j_nfn 1 [.lp [1, 1, 0, 1, 0, 0], .blk 0, .c [1, 1, 1]] rfl ?_
      rw [eA]
      refine j_toM [false, true, true] [0, 1] (by repeat (first | exact Fr.sub_nil _ | refine Fr.sub_cons rfl ?_ | refine Fr.sub_consI rfl (by first | omega | (dsimp only; omega)) ?_ | refine Fr.sub_consS rfl (by first | omega | (dsimp only; omega)) (by first | omega | (dsimp only; omega)) ?_)) rfl rfl (ih (j + 1, (pn3, cn3), (pd3, cd3)) (by dsimp only; omega) (by dsimp only; omega))
  · obtain rfl : j = k + 1 := by omega
    refine j_nf [.o [1, 1, 0, 1, 0, 0, 0, 0] 0, .c [1, 1, 0, 1, 0, 0, 0, 1], .c [1, 1, 0, 1, 0, 0, 1], .lp [1, 1, 0, 1, 0, 0], .blk 0, .c [1, 1, 1]] rfl ?_
    refine j_run it 3 rfl (by simp) ?_
    refine j_nf [.c [1, 1, 0, 1, 0, 0, 0, 1], .c [1, 1, 0, 1, 0, 0, 1], .lp [1, 1, 0, 1, 0, 0], .blk 0, .c [1, 1, 1]] rfl ?_
    refine j_if rfl rfl (fun h1 => by exfalso; omega) (fun h1 => ?_)
    refine j_nf [.o [1, 1, 1, 0] 0, .c [1, 1, 1, 1]] rfl ?_
    refine j_step rfl (x_bld_all 0 rfl rfl ld44 rfl ?_)
    refine j_step rfl (x_bst_all 1 rfl rfl rfl ld44 rfl rfl (by simp [Value.oneCell']) ?_)
    refine j_nf [.c [1, 1, 1, 1]] rfl ?_
    rw [← krTerm_sum]
    refine j_givC [0, 1] rfl (.agg 1 rfl rfl ld44 rfl .nil) rfl ⟨_, _, _, _, rfl, rfl, rfl⟩
end Go.Proofs.Ythahejfpdhcpiaa

namespace Go.Proofs.Ythahejfpdhcpiaa
open Go Go.Fw
set_option maxRecDepth 100000
set_option linter.unusedVariables false
set_option linter.unusedSimpArgs false
set_option maxHeartbeats 4000000
open Classical in
/-- The error and the bound of Accept. -/
noncomputable def dacE (q n d : Int) (f : List Rt) : Int := if rangeP q n d then accDE q.toNat n.toNat d.toNat f else 6
open Classical in
noncomputable def dacR (q n d : Int) (f : List Rt) : Rt := if rangeP q n d then accDR q.toNat n.toNat d.toNat f else (false, [], [])
theorem range_nat {q n d : Int} (h : rangeP q n d) : ∃ (p m k : Nat), q = p ∧ n = m ∧ d = k ∧ 2 ≤ p ∧ p ≤ 256 ∧ 1 ≤ m ∧ m ≤ 64 ∧ 1 ≤ k ∧ k ≤ m := by
  unfold rangeP at h
  exact ⟨q.toNat, n.toNat, d.toNat, by omega, by omega, by omega, by omega, by omega, by omega, by omega, by omega, by omega⟩
theorem dac_nat {q n d : Nat} (h : rangeP q n d) (f : List Rt) : dacE q n d f = accDE q n d f ∧ dacR q n d f = accDR q n d f := ⟨if_pos h, if_pos h⟩
theorem dac_bad {q n d : Int} (h : ¬ rangeP q n d) (f : List Rt) : dacE q n d f = 6 ∧ dacR q n d f = (false, [], []) := ⟨if_neg h, if_neg h⟩

theorem S_delsarte_Accept {q n d : Int} {pa : Option Addr} {nf ca : Nat} {f : List Rt} (hf : ∀ r ∈ f, okR 17 r) {vr : Rt} {ve : Int} (hvr : dacR q n d f = vr) (hve : dacE q n d f = ve) :
    Ctr Try.prog 63 [.int .i64 q, .int .i64 n, .int .i64 d, .slice pa nf ca] [] [slF RatE pa nf ca f] (RtErr vr ve) := by
  subst hvr; subst hve
  refine Ctr_of_j' (F := F_delsarte_Accept) rfl fun C => ?_
  refine j_len 0 rfl fun hn hb _ => ?_
  have hb' : f.length * 56 ≤ 140737488355328 := hb
  subst hn
  by_cases hr : rangeP q n d
  · have hw : decide (rangeP q n d) = !false := by rw [decide_eq_true hr]; rfl
    obtain ⟨p, m, k, rfl, rfl, rfl, h1, h2, h3, h4, h5, h6⟩ := range_nat hr
    obtain ⟨eE, eR⟩ := dac_nat hr f
    rw [eE, eR]
    have no : ¬ accP p m k f → accDE p m k f = 13 ∧ accDR p m k f = (false, [], []) := accD_no
    by_cases hl : f.length = m + 1
    · have z0 := okR_at hf (show 0 < f.length by omega)
      obtain ⟨y1, y2⟩ := z0.2.2
      have e0 : vq ((f.getD 0 default).1, (f.getD 0 default).2.1, (f.getD 0 default).2.2) = fQ f 0 := rfl
      by_cases h0 : fQ f 0 = 1
      · have hs : (vq ((f.getD 0 default).1, (f.getD 0 default).2.1, (f.getD 0 default).2.2) - vq (false, [1], [1])).num.sign = 0 := cmp_zero.2 (by rw [e0, h0, vq_oneL])
        refine j_nf [.o [0] 0, .c [1]] rfl ?_
        refine j_step rfl (x_alloc zo44 fun b1 => ?_)
        refine j_run it 1 rfl (by simp) ?_
        refine j_nf [.o [1, 0, 0] 0, .c [1, 0, 1], .c [1, 1]] rfl ?_
        refine j_run it 3 rfl (by simp) ?_
        refine j_step rfl (x_call [] rfl (S_delsarte_wrong (by first | omega | exact side _ (by assumption) | assumption | rfl | (simp; done) | (simp; omega))) rfl ?_)
        rintro _ _ _ ⟨rfl, rfl, rfl⟩
        simp only [List.cons_append, List.nil_append]
        refine j_nf [.c [1, 0, 1], .c [1, 1]] rfl ?_
        refine j_false rfl rfl ?_
        refine j_nf [.c [1, 1, 0, 0], .c [1, 1, 0, 1], .c [1, 1, 1]] rfl ?_
        (apply j_drawK it mx 13; (· rfl); (· rfl))
        (apply lxk_run 1; (· rfl); (· simp))
        (apply lxk_eq; (· rfl); (· exact d_x fun _ => x_len sl23 rfl dk_eq))
        (apply lxk_run 2; (· rfl); (· exact (by repeat' first | exact trivial | apply And.intro | omega)))
        (apply lxk_eq; (· rfl); (· exact d_x fun _ => x_falseN it rfl (by trivial) (by omega) dk_eq))
        (apply lxk_run 2; (· rfl); (· simp))
        (apply lxk_pt; (· rfl); (· exact d_x fun _ => x_idx 0 0 rfl rfl rfl sl23 (by omega) (by omega) fun z1 hz1 b2 o1 => (dk_ptD default hz1 0 rfl)); intro b2 o1)
        (apply lxk_rq; (· rfl); (· exact d_x fun _ => x_ld_rt 0 rfl rfl ld44 fun pa1 ca1 pa2 ca2 => (dk_rq 0 1 rfl rfl)); intro pn1 cn1 pd1 cd1)
        (apply lxk_rq; (· rfl); (· exact d_x fun _ => x_call [] rfl (S_delsarte_one) rfl (by rintro _ _ _ ⟨pn2, cn2, pd2, cd2, rfl, rfl, rfl⟩; exact (dk_rq 0 1 rfl rfl))); intro pn2 cn2 pd2 cd2)
        (apply lxk_eq; (· rfl); (· exact d_x fun _ => x_call [2, 3, 0, 1] rfl (S_rational_Cmp (by first | omega | exact side _ (by assumption) | assumption | rfl | (simp; done) | (simp; omega)) (by first | omega | exact side _ (by assumption) | assumption | rfl | (simp; done) | (simp; omega)) (by first | omega | exact side _ (by assumption) | assumption | rfl | (simp; done) | (simp; omega)) (by first | omega | exact side _ (by assumption) | assumption | rfl | (simp; done) | (simp; omega))) rfl (by rintro _ _ _ ⟨rfl, rfl, rfl⟩; exact dk_eq)))
        simp only [vq_rt']
        (apply lxk_eq; (· rfl); (· exact d_x fun _ => x_falseN it rfl (by trivial) (by omega) dk_eq))
        (apply lxk_run 1; (· rfl); (· simp))
        refine lxk_end rfl ?_
        simp only [List.map_cons, List.map_nil, List.cons_append, List.nil_append]
        refine j_nf [.c [1, 1, 0, 1], .c [1, 1, 1]] rfl ?_
        refine j_false rfl rfl ?_
        refine j_nf [.o [1, 1, 1, 0, 0] 0, .c [1, 1, 1, 0, 1], .c [1, 1, 1, 1]] rfl ?_
        refine j_run it 1 rfl (by simp) ?_
        refine j_step rfl (x_len sl23 rfl ?_)
        refine j_run it 1 rfl (by simp) ?_
        refine j_nf [.c [1, 1, 1, 0, 1, 0], .blk 0, .c [1, 1, 1, 1]] rfl ?_
        refine j_loopG (X := Nat) [0, 1, 2, 3, 8, 34, 35] [0, 1, 2, 3, 4, 5] (fun k => [(36, .int .i64 k)]) (fun _ => [(some b1, 44, [.bool false, .slice none 0 0, .slice none 0 0])]) (fun _ => []) (fun k => k ≤ f.length ∧ posB (f.take k) = true) (fun k => f.length - k) 0 [] rfl rfl rfl ⟨Nat.zero_le _, rfl⟩ (by repeat (first | exact Fr.sub_nil _ | refine Fr.sub_cons rfl ?_)) rfl rfl ?_
        rintro j ⟨hj, hp⟩ ih
        simp only [List.cons_append, List.nil_append] at hj hp ih ⊢
        by_cases hjl : j < f.length
        · refine j_nf [.o [1, 1, 1, 0, 1, 0, 0, 0] 0, .c [1, 1, 1, 0, 1, 0, 0, 1], .lp [1, 1, 1, 0, 1, 0, 0], .blk 0, .c [1, 1, 1, 1]] rfl ?_
          refine j_run it 1 rfl (by simp) ?_
          refine j_nf [.c [1, 1, 1, 0, 1, 0, 0, 1, 0], .c [1, 1, 1, 0, 1, 0, 0, 1, 1], .lp [1, 1, 1, 0, 1, 0, 0], .blk 0, .c [1, 1, 1, 1]] rfl ?_
          refine j_if rfl rfl (fun h7 => ?_) (fun h7 => by exfalso; omega)
          refine j_nf [.o [1, 1, 1, 0, 1, 0, 0, 1, 1, 0, 0, 0] 0, .c [1, 1, 1, 0, 1, 0, 0, 1, 1, 0, 0, 1], .blk 1, .c [1, 1, 1, 0, 1, 0, 0, 1, 1, 1], .lp [1, 1, 1, 0, 1, 0, 0], .blk 0, .c [1, 1, 1, 1]] rfl ?_
          refine j_step rfl (x_idx 5 (j) rfl rfl rfl sl23 rfl (by omega) fun z1 hz1 b3 o2 => ?_)
          refine j_step rfl (x_ld_rt 0 rfl rfl ld44 fun pa1 ca1 pa2 ca2 => ?_)
          refine j_step rfl (x_alloc zo44 fun b4 => ?_)
          refine j_step rfl (x_bst_all 0 rfl rfl rfl ld44 rfl rfl (by simp [Value.oneCell']) ?_)
          refine j_nf [.o [1, 1, 1, 0, 1, 0, 0, 1, 1, 0, 0, 1, 0] 0, .c [1, 1, 1, 0, 1, 0, 0, 1, 1, 0, 0, 1, 1], .blk 1, .c [1, 1, 1, 0, 1, 0, 0, 1, 1, 1], .lp [1, 1, 1, 0, 1, 0, 0], .blk 0, .c [1, 1, 1, 1]] rfl ?_
          refine j_step rfl (x_bld_all 0 rfl rfl ld44 rfl ?_)
          refine j_step rfl (x_call [0, 1] rfl (S_rational_Sign) rfl ?_)
          rintro _ _ _ ⟨rfl, rfl, rfl⟩
          simp only [List.cons_append, List.nil_append]
          refine j_run it 1 rfl (by simp) ?_
          refine j_nf [.c [1, 1, 1, 0, 1, 0, 0, 1, 1, 0, 0, 1, 1], .blk 1, .c [1, 1, 1, 0, 1, 0, 0, 1, 1, 1], .lp [1, 1, 1, 0, 1, 0, 0], .blk 0, .c [1, 1, 1, 1]] rfl ?_
          refine j_if rfl rfl (fun h8 => ?_) (fun h8 => ?_)
          · obtain ⟨e1, e2⟩ := no fun h => by have := h.2.2.1; rw [pos_stop hz1 (by assumption)] at this; cases this
            rw [e1, e2]
            refine j_nf [.o [1, 1, 1, 0, 1, 0, 0, 1, 1, 0, 0, 1, 1, 0, 0] 0, .c [1, 1, 1, 0, 1, 0, 0, 1, 1, 0, 0, 1, 1, 0, 1], .blk 1, .c [1, 1, 1, 0, 1, 0, 0, 1, 1, 1], .lp [1, 1, 1, 0, 1, 0, 0], .blk 0, .c [1, 1, 1, 1]] rfl ?_
            refine j_step rfl (x_build (cs := [Value.bool false, Value.slice none 0 0, Value.slice none 0 0]) st44 zo44 rfl rfl ?_)
            refine j_step rfl (x_bst_all 1 rfl rfl rfl ld44 rfl rfl (by simp [Value.oneCell']) ?_)
            refine j_run it 1 rfl (by simp) ?_
            refine j_nf [.c [1, 1, 1, 0, 1, 0, 0, 1, 1, 0, 0, 1, 1, 0, 1], .blk 1, .c [1, 1, 1, 0, 1, 0, 0, 1, 1, 1], .lp [1, 1, 1, 0, 1, 0, 0], .blk 0, .c [1, 1, 1, 1]] rfl ?_
            refine j_add (slF U32 none 0 0 []) (fun w A _ => slF_nil _ _ _ _ _) ?_
            refine j_givC [0, 0] rfl (.agg 1 rfl rfl ld44 rfl (.tmp rfl .nil)) rfl ⟨_, _, _, _, rfl, rfl, rfl⟩
          · refine j_nf [.o [1, 1, 1, 0, 1, 0, 0, 1, 1, 1] 0, .lp [1, 1, 1, 0, 1, 0, 0], .blk 0, .c [1, 1, 1, 1]] rfl ?_
            refine j_run it 2 rfl (by repeat' first | exact trivial | apply And.intro | omega) ?_
            refine j_nfn 1 [.lp [1, 1, 1, 0, 1, 0, 0], .blk 0, .c [1, 1, 1, 1]] rfl ?_
            refine j_toM [false, true] [3, 4, 5, 6, 7, 8] (by repeat (first | exact Fr.sub_nil _ | refine Fr.sub_cons rfl ?_ | refine Fr.sub_consI rfl (by first | omega | (dsimp only; omega)) ?_ | refine Fr.sub_consS rfl (by first | omega | (dsimp only; omega)) (by first | omega | (dsimp only; omega)) ?_)) rfl rfl (ih (j + 1) (by omega) ⟨by omega, pos_step hz1 hp (by assumption)⟩)
        · obtain rfl : f.length = j := by omega
          rw [List.take_length] at hp
          clear ih
          refine j_nf [.o [1, 1, 1, 0, 1, 0, 0, 0] 0, .c [1, 1, 1, 0, 1, 0, 0, 1], .lp [1, 1, 1, 0, 1, 0, 0], .blk 0, .c [1, 1, 1, 1]] rfl ?_
          refine j_run it 1 rfl (by simp) ?_
          refine j_nf [.c [1, 1, 1, 0, 1, 0, 0, 1, 0], .c [1, 1, 1, 0, 1, 0, 0, 1, 1], .lp [1, 1, 1, 0, 1, 0, 0], .blk 0, .c [1, 1, 1, 1]] rfl ?_
          refine j_if rfl rfl (fun h7 => by exfalso; omega) (fun h7 => ?_)
          refine j_nf [.o [1, 1, 1, 1, 0, 0] 0, .c [1, 1, 1, 1, 0, 1], .c [1, 1, 1, 1, 1]] rfl ?_
          refine j_run it 2 rfl (by simp) ?_
          refine j_nf [.c [1, 1, 1, 1, 0, 1, 0], .blk 2, .c [1, 1, 1, 1, 1]] rfl ?_
          refine j_loopG (X := Nat) [0, 1, 3, 8] [0, 1, 2, 3, 4, 5] (fun i => [(12, .int .i64 i)]) (fun _ => [(some b1, 44, [.bool false, .slice none 0 0, .slice none 0 0])]) (fun _ => []) (fun i => k ≤ i ∧ i ≤ m + 1 ∧ ∀ i', k ≤ i' → i' < i → valF p m (fQ f) i' ≤ 0) (fun i => m + 1 - i) k [] rfl rfl rfl ⟨Nat.le_refl _, by omega, fun i' h h' => by omega⟩ (by repeat (first | exact Fr.sub_nil _ | refine Fr.sub_cons rfl ?_)) rfl rfl ?_
          rintro i ⟨hi1, hi2, hi3⟩ ih
          simp only [List.cons_append, List.nil_append] at hi1 hi2 hi3 ih ⊢
          by_cases hil : i ≤ m
          · have oc := colK_ok h1 h2 h4 hil
            have lc := colK_len p m i
            have ed := dot_col (q := p) hl i
            have hK : (1 : Nat) ≤ 17 := by decide
            refine j_nf [.o [1, 1, 1, 1, 0, 1, 0, 0, 0, 0] 0, .c [1, 1, 1, 1, 0, 1, 0, 0, 0, 1], .c [1, 1, 1, 1, 0, 1, 0, 0, 1], .lp [1, 1, 1, 1, 0, 1, 0, 0], .blk 2, .c [1, 1, 1, 1, 1]] rfl ?_
            refine j_run it 3 rfl (by simp) ?_
            refine j_nf [.c [1, 1, 1, 1, 0, 1, 0, 0, 0, 1], .c [1, 1, 1, 1, 0, 1, 0, 0, 1], .lp [1, 1, 1, 1, 0, 1, 0, 0], .blk 2, .c [1, 1, 1, 1, 1]] rfl ?_
            refine j_if rfl rfl (fun h8 => ?_) (fun h8 => by exfalso; omega)
            refine j_nf [.o [1, 1, 1, 1, 0, 1, 0, 0, 1, 0, 0, 0] 0, .c [1, 1, 1, 1, 0, 1, 0, 0, 1, 0, 0, 1], .blk 3, .c [1, 1, 1, 1, 0, 1, 0, 0, 1, 1], .lp [1, 1, 1, 1, 0, 1, 0, 0], .blk 2, .c [1, 1, 1, 1, 1]] rfl ?_
            refine j_run it 4 rfl (by simp) ?_
            refine j_step rfl (x_call [] rfl (S_delsarte_column (by first | omega | exact side _ (by assumption) | assumption | rfl | (simp; done) | (simp; omega)) (by first | omega | exact side _ (by assumption) | assumption | rfl | (simp; done) | (simp; omega)) (by first | omega | exact side _ (by assumption) | assumption | rfl | (simp; done) | (simp; omega)) (by first | omega | exact side _ (by assumption) | assumption | rfl | (simp; done) | (simp; omega))) rfl ?_)
            rintro _ _ _ ⟨pa1, ca1, rfl, rfl, rfl⟩
            simp only [List.cons_append, List.nil_append]
            refine j_step rfl (x_call [6, 0] rfl (S_rational_Dot (by first | omega | exact side _ (by assumption) | assumption | rfl | (simp; done) | (simp; omega)) (by first | omega | exact side _ (by assumption) | assumption | rfl | (simp; done) | (simp; omega)) (by first | omega | exact side _ (by assumption) | assumption | rfl | (simp; done) | (simp; omega)) (by first | omega | exact side _ (by assumption) | assumption | rfl | (simp; done) | (simp; omega)) (by first | omega | exact side _ (by assumption) | assumption | rfl | (simp; done) | (simp; omega)) (by first | omega | exact side _ (by assumption) | assumption | rfl | (simp; done) | (simp; omega))) rfl ?_)
            rintro _ _ _ ⟨pn3, cn3, pd3, cd3, rfl, rfl, rfl⟩
            simp only [List.cons_append, List.nil_append]
            refine j_run it 3 rfl (by simp) ?_
            refine j_step rfl (x_alloc zo44 fun b3 => ?_)
            refine j_step rfl (x_bst_all 0 rfl rfl rfl ld44 rfl rfl (by simp [Value.oneCell']) ?_)
            refine j_run it 1 rfl (by simp) ?_
            refine j_nf [.o [1, 1, 1, 1, 0, 1, 0, 0, 1, 0, 0, 1, 0] 0, .c [1, 1, 1, 1, 0, 1, 0, 0, 1, 0, 0, 1, 1], .blk 3, .c [1, 1, 1, 1, 0, 1, 0, 0, 1, 1], .lp [1, 1, 1, 1, 0, 1, 0, 0], .blk 2, .c [1, 1, 1, 1, 1]] rfl ?_
            refine j_step rfl (x_bld_all 0 rfl rfl ld44 rfl ?_)
            refine j_step rfl (x_call [0, 1] rfl (S_rational_Sign) rfl ?_)
            rintro _ _ _ ⟨rfl, rfl, rfl⟩
            simp only [List.cons_append, List.nil_append]
            simp only [vq_rt']
            refine j_run it 1 rfl (by simp) ?_
            refine j_nf [.c [1, 1, 1, 1, 0, 1, 0, 0, 1, 0, 0, 1, 1], .blk 3, .c [1, 1, 1, 1, 0, 1, 0, 0, 1, 1], .lp [1, 1, 1, 1, 0, 1, 0, 0], .blk 2, .c [1, 1, 1, 1, 1]] rfl ?_
            refine j_if rfl rfl (fun h9 => ?_) (fun h9 => ?_)
            · have hp2 : 0 < dotR f (colK p m i) := sign_pos.1 (by assumption)
              obtain ⟨e1, e2⟩ := no fun h => by have := h.2.2.2 i hi1 hil; rw [← ed] at this; exact Rat.not_lt.2 this hp2
              rw [e1, e2]
              refine j_nf [.o [1, 1, 1, 1, 0, 1, 0, 0, 1, 0, 0, 1, 1, 0, 0] 0, .c [1, 1, 1, 1, 0, 1, 0, 0, 1, 0, 0, 1, 1, 0, 1], .blk 3, .c [1, 1, 1, 1, 0, 1, 0, 0, 1, 1], .lp [1, 1, 1, 1, 0, 1, 0, 0], .blk 2, .c [1, 1, 1, 1, 1]] rfl ?_
              refine j_step rfl (x_build (cs := [Value.bool false, Value.slice none 0 0, Value.slice none 0 0]) st44 zo44 rfl rfl ?_)
              refine j_step rfl (x_bst_all 1 rfl rfl rfl ld44 rfl rfl (by simp [Value.oneCell']) ?_)
              refine j_run it 1 rfl (by simp) ?_
              refine j_nf [.c [1, 1, 1, 1, 0, 1, 0, 0, 1, 0, 0, 1, 1, 0, 1], .blk 3, .c [1, 1, 1, 1, 0, 1, 0, 0, 1, 1], .lp [1, 1, 1, 1, 0, 1, 0, 0], .blk 2, .c [1, 1, 1, 1, 1]] rfl ?_
              refine j_add (slF U32 none 0 0 []) (fun w A _ => slF_nil _ _ _ _ _) ?_
              refine j_givC [0, 0] rfl (.agg 1 rfl rfl ld44 rfl (.tmp rfl .nil)) rfl ⟨_, _, _, _, rfl, rfl, rfl⟩
            · have hp2 : ¬ 0 < dotR f (colK p m i) := fun h => absurd (sign_pos.2 h) (by assumption)
              refine j_nf [.o [1, 1, 1, 1, 0, 1, 0, 0, 1, 1] 0, .lp [1, 1, 1, 1, 0, 1, 0, 0], .blk 2, .c [1, 1, 1, 1, 1]] rfl ?_
              refine j_run it 3 rfl (by repeat' first | exact trivial | apply And.intro | omega) ?_
              refine j_nfn 1 [.lp [1, 1, 1, 1, 0, 1, 0, 0], .blk 2, .c [1, 1, 1, 1, 1]] rfl ?_
              refine j_toM [false, true] [3, 4, 5, 6, 7, 8] (by repeat (first | exact Fr.sub_nil _ | refine Fr.sub_cons rfl ?_ | refine Fr.sub_consI rfl (by first | omega | (dsimp only; omega)) ?_ | refine Fr.sub_consS rfl (by first | omega | (dsimp only; omega)) (by first | omega | (dsimp only; omega)) ?_)) rfl rfl (ih (i + 1) (by omega) ⟨by omega, by omega, fun i' a b => by
                rcases Nat.lt_succ_iff_lt_or_eq.1 b with b | rfl
                · exact hi3 i' a b
                · rw [← ed]; exact Rat.not_lt.1 hp2⟩)
          · obtain rfl : i = m + 1 := by omega
            have oc := colK_ok (i := 0) h1 h2 h4 (Nat.zero_le _)
            have ed := dot_col (q := p) hl 0
            have hK : (1 : Nat) ≤ 17 := by decide
            obtain ⟨e1, e2⟩ := accD_yes (q := p) (n := m) (d := k) (f := f) ⟨hl, h0, hp, fun i' a b => hi3 i' a (by omega)⟩
            rw [e1, e2, ← ed]
            refine j_nf [.o [1, 1, 1, 1, 0, 1, 0, 0, 0, 0] 0, .c [1, 1, 1, 1, 0, 1, 0, 0, 0, 1], .c [1, 1, 1, 1, 0, 1, 0, 0, 1], .lp [1, 1, 1, 1, 0, 1, 0, 0], .blk 2, .c [1, 1, 1, 1, 1]] rfl ?_
            refine j_run it 3 rfl (by simp) ?_
            refine j_nf [.c [1, 1, 1, 1, 0, 1, 0, 0, 0, 1], .c [1, 1, 1, 1, 0, 1, 0, 0, 1], .lp [1, 1, 1, 1, 0, 1, 0, 0], .blk 2, .c [1, 1, 1, 1, 1]] rfl ?_
            refine j_if rfl rfl (fun h8 => by exfalso; omega) (fun h8 => ?_)
            refine j_nf [.o [1, 1, 1, 1, 1, 0] 0, .c [1, 1, 1, 1, 1, 1]] rfl ?_
            refine j_run it 3 rfl (by simp) ?_
            refine j_step rfl (x_call [] rfl (S_delsarte_column (by first | omega | exact side _ (by assumption) | assumption | rfl | (simp; done) | (simp; omega)) (by first | omega | exact side _ (by assumption) | assumption | rfl | (simp; done) | (simp; omega)) (by first | omega | exact side _ (by assumption) | assumption | rfl | (simp; done) | (simp; omega)) (by first | omega | exact side _ (by assumption) | assumption | rfl | (simp; done) | (simp; omega))) rfl ?_)
            rintro _ _ _ ⟨pa1, ca1, rfl, rfl, rfl⟩
            simp only [List.cons_append, List.nil_append]
            refine j_step rfl (x_call [6, 0] rfl (S_rational_Dot (by first | omega | exact side _ (by assumption) | assumption | rfl | (simp; done) | (simp; omega)) (by first | omega | exact side _ (by assumption) | assumption | rfl | (simp; done) | (simp; omega)) (by first | omega | exact side _ (by assumption) | assumption | rfl | (simp; done) | (simp; omega)) (by first | omega | exact side _ (by assumption) | assumption | rfl | (simp; done) | (simp; omega)) (by first | omega | exact side _ (by assumption) | assumption | rfl | (simp; done) | (simp; omega)) (by first | omega | exact side _ (by assumption) | assumption | rfl | (simp; done) | (simp; omega))) rfl ?_)
            rintro _ _ _ ⟨pn3, cn3, pd3, cd3, rfl, rfl, rfl⟩
            simp only [List.cons_append, List.nil_append]
            refine j_run it 2 rfl (by simp) ?_
            refine j_step rfl (x_bst_all 0 rfl rfl rfl ld44 rfl rfl (by simp [Value.oneCell']) ?_)
            refine j_run it 1 rfl (by simp) ?_
            refine j_nf [.c [1, 1, 1, 1, 1, 1]] rfl ?_
            refine j_givC [0, 1] rfl (.agg 0 rfl rfl ld44 rfl (.tmp rfl .nil)) rfl ⟨_, _, _, _, rfl, rfl, rfl⟩
      · have hs : ¬ (vq ((f.getD 0 default).1, (f.getD 0 default).2.1, (f.getD 0 default).2.2) - vq (false, [1], [1])).num.sign = 0 := fun e => h0 (by have := cmp_zero.1 e; rw [e0, vq_oneL] at this; exact this)
        obtain ⟨e1, e2⟩ := no fun h => h0 h.2.1
        rw [e1, e2]
        refine j_nf [.o [0] 0, .c [1]] rfl ?_
        refine j_step rfl (x_alloc zo44 fun b1 => ?_)
        refine j_run it 1 rfl (by simp) ?_
        refine j_nf [.o [1, 0, 0] 0, .c [1, 0, 1], .c [1, 1]] rfl ?_
        refine j_run it 3 rfl (by simp) ?_
        refine j_step rfl (x_call [] rfl (S_delsarte_wrong (by first | omega | exact side _ (by assumption) | assumption | rfl | (simp; done) | (simp; omega))) rfl ?_)
        rintro _ _ _ ⟨rfl, rfl, rfl⟩
        simp only [List.cons_append, List.nil_append]
        refine j_nf [.c [1, 0, 1], .c [1, 1]] rfl ?_
        refine j_false rfl rfl ?_
        refine j_nf [.c [1, 1, 0, 0], .c [1, 1, 0, 1], .c [1, 1, 1]] rfl ?_
        (apply j_drawK it mx 13; (· rfl); (· rfl))
        (apply lxk_run 1; (· rfl); (· simp))
        (apply lxk_eq; (· rfl); (· exact d_x fun _ => x_len sl23 rfl dk_eq))
        (apply lxk_run 2; (· rfl); (· exact (by repeat' first | exact trivial | apply And.intro | omega)))
        (apply lxk_eq; (· rfl); (· exact d_x fun _ => x_falseN it rfl (by trivial) (by omega) dk_eq))
        (apply lxk_run 2; (· rfl); (· simp))
        (apply lxk_pt; (· rfl); (· exact d_x fun _ => x_idx 0 0 rfl rfl rfl sl23 (by omega) (by omega) fun z1 hz1 b2 o1 => (dk_ptD default hz1 0 rfl)); intro b2 o1)
        (apply lxk_rq; (· rfl); (· exact d_x fun _ => x_ld_rt 0 rfl rfl ld44 fun pa1 ca1 pa2 ca2 => (dk_rq 0 1 rfl rfl)); intro pn1 cn1 pd1 cd1)
        (apply lxk_rq; (· rfl); (· exact d_x fun _ => x_call [] rfl (S_delsarte_one) rfl (by rintro _ _ _ ⟨pn2, cn2, pd2, cd2, rfl, rfl, rfl⟩; exact (dk_rq 0 1 rfl rfl))); intro pn2 cn2 pd2 cd2)
        (apply lxk_eq; (· rfl); (· exact d_x fun _ => x_call [2, 3, 0, 1] rfl (S_rational_Cmp (by first | omega | exact side _ (by assumption) | assumption | rfl | (simp; done) | (simp; omega)) (by first | omega | exact side _ (by assumption) | assumption | rfl | (simp; done) | (simp; omega)) (by first | omega | exact side _ (by assumption) | assumption | rfl | (simp; done) | (simp; omega)) (by first | omega | exact side _ (by assumption) | assumption | rfl | (simp; done) | (simp; omega))) rfl (by rintro _ _ _ ⟨rfl, rfl, rfl⟩; exact dk_eq)))
        simp only [vq_rt']
        (apply lxk_eq; (· rfl); (· exact d_x fun _ => x_trueN it rfl (by trivial) (by omega) dk_eq))
        (apply lxk_run 1; (· rfl); (· simp))
        refine lxk_end rfl ?_
        simp only [List.map_cons, List.map_nil, List.cons_append, List.nil_append]
        refine j_nf [.c [1, 1, 0, 1], .c [1, 1, 1]] rfl ?_
        refine j_true rfl rfl ?_
        refine j_nf [.o [1, 1, 0, 1, 0, 0] 0, .c [1, 1, 0, 1, 0, 1], .c [1, 1, 1]] rfl ?_
        refine j_step rfl (x_build (cs := [Value.bool false, Value.slice none 0 0, Value.slice none 0 0]) st44 zo44 rfl rfl ?_)
        refine j_step rfl (x_bst_all 0 rfl rfl rfl ld44 rfl rfl (by simp [Value.oneCell']) ?_)
        refine j_run it 1 rfl (by simp) ?_
        refine j_nf [.c [1, 1, 0, 1, 0, 1], .c [1, 1, 1]] rfl ?_
        refine j_add (slF U32 none 0 0 []) (fun w A _ => slF_nil _ _ _ _ _) ?_
        refine j_givC [0, 0] rfl (.agg 0 rfl rfl ld44 rfl (.tmp rfl .nil)) rfl ⟨_, _, _, _, rfl, rfl, rfl⟩
    · obtain ⟨e1, e2⟩ := no fun h => hl h.1
      rw [e1, e2]
      refine j_nf [.o [0] 0, .c [1]] rfl ?_
      refine j_step rfl (x_alloc zo44 fun b1 => ?_)
      refine j_run it 1 rfl (by simp) ?_
      refine j_nf [.o [1, 0, 0] 0, .c [1, 0, 1], .c [1, 1]] rfl ?_
      refine j_run it 3 rfl (by simp) ?_
      refine j_step rfl (x_call [] rfl (S_delsarte_wrong (by first | omega | exact side _ (by assumption) | assumption | rfl | (simp; done) | (simp; omega))) rfl ?_)
      rintro _ _ _ ⟨rfl, rfl, rfl⟩
      simp only [List.cons_append, List.nil_append]
      refine j_nf [.c [1, 0, 1], .c [1, 1]] rfl ?_
      refine j_false rfl rfl ?_
      refine j_nf [.c [1, 1, 0, 0], .c [1, 1, 0, 1], .c [1, 1, 1]] rfl ?_
      (apply j_drawK it mx 13; (· rfl); (· rfl))
      (apply lxk_run 1; (· rfl); (· simp))
      (apply lxk_eq; (· rfl); (· exact d_x fun _ => x_len sl23 rfl dk_eq))
      (apply lxk_run 2; (· rfl); (· exact (by repeat' first | exact trivial | apply And.intro | omega)))
      (apply lxk_eq; (· rfl); (· exact d_x fun _ => x_trueN it rfl (by trivial) (by omega) dk_eq))
      (apply lxk_run 6; (· rfl); (· simp))
      (apply lxk_run 2; (· rfl); (· simp))
      refine lxk_end rfl ?_
      simp only [List.map_cons, List.map_nil, List.cons_append, List.nil_append]
      refine j_nf [.c [1, 1, 0, 1], .c [1, 1, 1]] rfl ?_
      refine j_true rfl rfl ?_
      refine j_nf [.o [1, 1, 0, 1, 0, 0] 0, .c [1, 1, 0, 1, 0, 1], .c [1, 1, 1]] rfl ?_
      refine j_step rfl (x_build (cs := [Value.bool false, Value.slice none 0 0, Value.slice none 0 0]) st44 zo44 rfl rfl ?_)
      refine j_step rfl (x_bst_all 0 rfl rfl rfl ld44 rfl rfl (by simp [Value.oneCell']) ?_)
      refine j_run it 1 rfl (by simp) ?_
      refine j_nf [.c [1, 1, 0, 1, 0, 1], .c [1, 1, 1]] rfl ?_
      refine j_add (slF U32 none 0 0 []) (fun w A _ => slF_nil _ _ _ _ _) ?_
      refine j_givC [0, 0] rfl (.agg 0 rfl rfl ld44 rfl (.tmp rfl .nil)) rfl ⟨_, _, _, _, rfl, rfl, rfl⟩
  · have hw : decide (rangeP q n d) = !true := by rw [decide_eq_false hr]; rfl
    obtain ⟨eE, eR⟩ := dac_bad hr f
    rw [eE, eR]
    refine j_nf [.o [0] 0, .c [1]] rfl ?_
    refine j_step rfl (x_alloc zo44 fun b1 => ?_)
    refine j_run it 1 rfl (by simp) ?_
    refine j_nf [.o [1, 0, 0] 0, .c [1, 0, 1], .c [1, 1]] rfl ?_
    refine j_run it 3 rfl (by simp) ?_
    refine j_step rfl (x_call [] rfl (S_delsarte_wrong (by first | omega | exact side _ (by assumption) | assumption | rfl | (simp; done) | (simp; omega))) rfl ?_)
    rintro _ _ _ ⟨rfl, rfl, rfl⟩
    simp only [List.cons_append, List.nil_append]
    refine j_nf [.c [1, 0, 1], .c [1, 1]] rfl ?_
    refine j_true rfl rfl ?_
    refine j_nf [.o [1, 0, 1, 0, 0] 0, .c [1, 0, 1, 0, 1], .c [1, 1]] rfl ?_
    refine j_step rfl (x_build (cs := [Value.bool false, Value.slice none 0 0, Value.slice none 0 0]) st44 zo44 rfl rfl ?_)
    refine j_step rfl (x_bst_all 0 rfl rfl rfl ld44 rfl rfl (by simp [Value.oneCell']) ?_)
    refine j_run it 1 rfl (by simp) ?_
    refine j_nf [.c [1, 0, 1, 0, 1], .c [1, 1]] rfl ?_
    refine j_add (slF U32 none 0 0 []) (fun w A _ => slF_nil _ _ _ _ _) ?_
    refine j_givC [0, 0] rfl (.agg 0 rfl rfl ld44 rfl (.tmp rfl .nil)) rfl ⟨_, _, _, _, rfl, rfl, rfl⟩

theorem val_step (q n : Nat) (f : Nat → Rat) (x k : Nat) : rs (k + 1) (fun k => f k * ((kr ((q : Int) - 1) n k x : Int) : Rat)) = rs k (fun k => f k * ((kr ((q : Int) - 1) n k x : Int) : Rat)) + f k * ((kr ((q : Int) - 1) n k x : Int) : Rat) := rfl
theorem val_part_bd {q n : Nat} {f : List Rt} {x : Nat} (hq : 2 ≤ q) (hq2 : q ≤ 256) (hn : n ≤ 64) (hx : x ≤ n) (hf : ∀ r ∈ f, okR 17 r) (hl : f.length = n + 1) : ∀ k, k ≤ n + 1 → bd (35 * k + 1) (rs k (fun k => fQ f k * ((kr ((q : Int) - 1) n k x : Int) : Rat)))
  | 0, _ => bd_zero (by omega)
  | k + 1, hk => by
    have h1 := val_part_bd hq hq2 hn hx hf hl k (by omega)
    have h2 := okR_bd (kr_ok (k := k) hq hq2 hn hx) (by decide)
    rw [vq_rt] at h2
    have h3 := bd_mul (okR_bd (okR_at hf (show k < f.length by omega)) (by decide)) h2 (by decide)
    exact bd_mono (bd_add h1 h3) (by omega)
end Go.Proofs.Ythahejfpdhcpiaa

namespace Go.Proofs.Ythahejfpdhcpiaa
open Go Go.Fw
set_option maxRecDepth 100000
set_option linter.unusedVariables false
set_option linter.unusedSimpArgs false
set_option maxHeartbeats 4000000
/-- The objective, the rows, the right sides of the program of the bound. -/
def pgC (n d : Nat) : List Rt := List.replicate (n + 1 - d) (rt 1)
def pgRow (q n d k : Nat) : List Rt := (List.range (n + 1 - d)).map fun i => rt (-((kr ((q : Int) - 1) n (k + 1) (d + i) : Int) : Rat))
def pgA (q n d : Nat) : List (List Rt) := (List.range n).map (pgRow q n d)
def pgB (q n : Nat) : List Rt := (List.range n).map fun k => rt ((kr ((q : Int) - 1) n (k + 1) 0 : Int) : Rat)
abbrev LinG (C : List Rt) (M : List (List Rt)) (B : List Rt) : Value → List Fact → List Blk → Prop := fun v Φ β => ∃ p1 c1 p2 c2 p3 c3, v = .agg #[.slice p1 C.length c1, .slice p2 M.length c2, .slice p3 B.length c3] ∧ Φ = [slF RatE p1 C.length c1 C, slF (encSl RatE) p2 M.length c2 M, slF RatE p3 B.length c3 B] ∧ β = []
theorem S_codewrightref36_Program {q n d : Nat} (hq : 2 ≤ q) (hq2 : q ≤ 256) (hn : n ≤ 64) (h5 : 1 ≤ d) (h6 : d ≤ n) : Ctr Try.prog 11 [.int .i64 q, .int .i64 n, .int .i64 d] [] [] (LinG (pgC n d) (pgA q n d) (pgB q n)) := by
  refine Ctr_of_j' (F := F_codewrightref36_Program) rfl fun C => ?_
  have hi1 : InR .i64 (1 : Int) := by simp [InR]
  refine j_nf [.o [0] 0, .c [1]] rfl ?_
  refine j_step rfl (x_alloc zo26 fun b1 => ?_)
  refine j_nf [.o [1, 0] 0, .c [1, 1]] rfl ?_
  refine j_step rfl (x_alloc zo26 fun b2 => ?_)
  refine j_nf [.o [1, 1, 0, 0] 0, .c [1, 1, 0, 1], .c [1, 1, 1]] rfl ?_
  refine j_run it 2 rfl (by simp) ?_
  refine j_nf [.c [1, 1, 0, 1, 0], .blk 0, .c [1, 1, 1]] rfl ?_
  refine j_row0 RatE 44 ?_
  rw [show (d : Int) = ((d + 0 : Nat) : Int) from rfl]
  refine j_loopG (X := Nat × Row) [0, 1, 2, 6, 7] [] (fun x => [(8, .int .i64 ((d + x.1 : Nat) : Int))]) (fun x => [(x.2.bo, 44, x.2.cs), (some b2, 26, [.slice (ad x.2.bo) x.1 x.2.cap, .slice none 0 0, .slice none 0 0]), (some b1, 26, [.slice none 0 0, .slice none 0 0, .slice none 0 0])]) (fun x => [rowF RatE x.2 x.1 (List.replicate x.1 (rt 1))])
    (fun x => x.1 ≤ n + 1 - d) (fun x => n + 1 - d - x.1) (0, ⟨none, 0, []⟩) [0] rfl rfl rfl (Nat.zero_le _) (by repeat (first | exact Fr.sub_nil _ | refine Fr.sub_cons rfl ?_)) rfl rfl ?_
  rintro ⟨i, r⟩ hi ih
  simp only [List.cons_append, List.nil_append] at hi ih ⊢
  by_cases hil : i < n + 1 - d
  · refine j_nf [.o [1, 1, 0, 1, 0, 0, 0, 0] 0, .c [1, 1, 0, 1, 0, 0, 0, 1], .c [1, 1, 0, 1, 0, 0, 1], .lp [1, 1, 0, 1, 0, 0], .blk 0, .c [1, 1, 1]] rfl ?_
    refine j_run it 3 rfl (by simp) ?_
    refine j_nf [.c [1, 1, 0, 1, 0, 0, 0, 1], .c [1, 1, 0, 1, 0, 0, 1], .lp [1, 1, 0, 1, 0, 0], .blk 0, .c [1, 1, 1]] rfl ?_
    refine j_if rfl rfl (fun h1 => ?_) (fun h1 => by exfalso; omega)
    refine j_nf [.c [1, 1, 0, 1, 0, 0, 1, 0, 0], .blk 1, .c [1, 1, 0, 1, 0, 0, 1, 1], .lp [1, 1, 0, 1, 0, 0], .blk 0, .c [1, 1, 1]] rfl ?_
    (apply j_drawK it mx 4; (· rfl); (· rfl))
    (apply lxk_eq; (· rfl); (· exact d_x fun _ => x_field rfl fd26_0 dk_eq))
    (apply lxk_eq; (· rfl); (· exact d_bld 1 rfl rfl ld23 rfl))
    (apply lxk_rq; (· rfl); (· exact d_x fun _ => x_call [] rfl (S_codewrightref02_Int (by first | omega | exact side _ (by assumption) | assumption | rfl | (simp; done) | (simp; omega))) rfl (by rintro _ _ _ ⟨pn1, cn1, pd1, cd1, rfl, rfl, rfl⟩; exact (dk_rq 0 1 rfl rfl))); intro pn1 cn1 pd1 cd1)
    simp only [vq_rt']
    (apply lxk_sl; (· rfl); (· exact d_x fun _ => x_lit sl23 zo23e rfl rfl rfl rfl (by decide) (by decide) rfl fun b3 => dk_all (E := RatE) [[Value.bool (rt ↑1).fst, Value.slice pn1 (rt ↑1).snd.fst.length cn1, Value.slice pd1 (rt ↑1).snd.snd.length cd1]] [((rt ↑1).fst, (rt ↑1).snd.fst, (rt ↑1).snd.snd)] (fun w A hG => (allrd_cons (rd_rt (hG _ (fact_mem (n := 0) rfl)) (hG _ (fact_mem (n := 1) rfl))) allrd_nil)) rfl rfl rfl (by first | decide | exact Nat.le_of_ble_eq_true rfl)); intro pa1 ca1)
    refine lxk_end rfl ?_
    simp only [List.map_cons, List.map_nil, List.cons_append, List.nil_append]
    refine j_step rfl (x_appS 0 3 0 rfl rfl rfl rfl rfl sl23 zo23e rfl (by omega) _ by23e (by omega) fun r1 => ?_)
    refine j_step rfl (x_field rfl fd26_0 ?_)
    refine j_step rfl (x_bst1 1 rfl rfl rfl rfl ld23 rfl (Nat.le_of_ble_eq_true rfl) ?_)
    refine j_nf [.o [1, 1, 0, 1, 0, 0, 1, 1] 0, .lp [1, 1, 0, 1, 0, 0], .blk 0, .c [1, 1, 1]] rfl ?_
    refine j_run it 3 rfl (by repeat' first | exact trivial | apply And.intro | omega) ?_
    refine j_nfn 1 [.lp [1, 1, 0, 1, 0, 0], .blk 0, .c [1, 1, 1]] rfl ?_
    rw [show List.replicate i (rt 1) ++ [((rt 1).1, (rt 1).2.1, (rt 1).2.2)] = List.replicate (i + 1) (rt 1) from List.replicate_succ'.symm]
    refine j_to [0] (by repeat (first | exact Fr.sub_nil _ | refine Fr.sub_cons rfl ?_ | refine Fr.sub_consI rfl (by first | omega | (dsimp only; omega)) ?_ | refine Fr.sub_consS rfl (by first | omega | (dsimp only; omega)) (by first | omega | (dsimp only; omega)) ?_)) rfl rfl (ih (i + 1, r1) (by dsimp only; omega) (by dsimp only; omega))
  · obtain rfl : i = n + 1 - d := by omega
    clear ih
    refine j_nf [.o [1, 1, 0, 1, 0, 0, 0, 0] 0, .c [1, 1, 0, 1, 0, 0, 0, 1], .c [1, 1, 0, 1, 0, 0, 1], .lp [1, 1, 0, 1, 0, 0], .blk 0, .c [1, 1, 1]] rfl ?_
    refine j_run it 3 rfl (by simp) ?_
    refine j_nf [.c [1, 1, 0, 1, 0, 0, 0, 1], .c [1, 1, 0, 1, 0, 0, 1], .lp [1, 1, 0, 1, 0, 0], .blk 0, .c [1, 1, 1]] rfl ?_
    refine j_if rfl rfl (fun h1 => by exfalso; omega) (fun h1 => ?_)
    refine j_nf [.o [1, 1, 1, 0, 0] 0, .c [1, 1, 1, 0, 1], .c [1, 1, 1, 1]] rfl ?_
    refine j_run it 1 rfl (by simp) ?_
    refine j_nf [.c [1, 1, 1, 0, 1, 0], .blk 2, .c [1, 1, 1, 1]] rfl ?_
    refine j_row0 (encSl RatE) 23 ?_
    refine j_row0 RatE 44 ?_
    rw [show Value.int .i64 1 = Value.int .i64 ((0 + 1 : Nat) : Int) from rfl]
    refine j_loopG (X := Nat × Row × Row) [0, 1, 2, 6, 7] [2] (fun x => [(9, .int .i64 ((x.1 + 1 : Nat) : Int))])
      (fun x => [(x.2.2.bo, 44, x.2.2.cs), (x.2.1.bo, 23, x.2.1.cs), (r.bo, 44, r.cs), (some b2, 26, [.slice (ad r.bo) (n + 1 - d) r.cap, .slice (ad x.2.1.bo) x.1 x.2.1.cap, .slice (ad x.2.2.bo) x.1 x.2.2.cap]), (some b1, 26, [.slice none 0 0, .slice none 0 0, .slice none 0 0])])
      (fun x => [rowF RatE x.2.2 x.1 ((List.range x.1).map fun k => rt ((kr ((q : Int) - 1) n (k + 1) 0 : Int) : Rat)), rowF (encSl RatE) x.2.1 x.1 ((List.range x.1).map (pgRow q n d))])
      (fun x => x.1 ≤ n) (fun x => n - x.1) (0, ⟨none, 0, []⟩, ⟨none, 0, []⟩) [0, 1] rfl rfl rfl (Nat.zero_le _) (by repeat (first | exact Fr.sub_nil _ | refine Fr.sub_cons rfl ?_)) rfl rfl ?_
    rintro ⟨k, rA, rB⟩ hk ih
    simp only [List.cons_append, List.nil_append] at hk ih ⊢
    by_cases hkl : k < n
    · refine j_nf [.o [1, 1, 1, 0, 1, 0, 0, 0, 0] 0, .c [1, 1, 1, 0, 1, 0, 0, 0, 1], .c [1, 1, 1, 0, 1, 0, 0, 1], .lp [1, 1, 1, 0, 1, 0, 0], .blk 2, .c [1, 1, 1, 1]] rfl ?_
      refine j_run it 3 rfl (by simp) ?_
      refine j_nf [.c [1, 1, 1, 0, 1, 0, 0, 0, 1], .c [1, 1, 1, 0, 1, 0, 0, 1], .lp [1, 1, 1, 0, 1, 0, 0], .blk 2, .c [1, 1, 1, 1]] rfl ?_
      refine j_if rfl rfl (fun h2 => ?_) (fun h2 => by exfalso; omega)
      refine j_nf [.o [1, 1, 1, 0, 1, 0, 0, 1, 0, 0, 0] 0, .c [1, 1, 1, 0, 1, 0, 0, 1, 0, 0, 1], .blk 3, .c [1, 1, 1, 0, 1, 0, 0, 1, 1], .lp [1, 1, 1, 0, 1, 0, 0], .blk 2, .c [1, 1, 1, 1]] rfl ?_
      refine j_run it 1 rfl (by simp) ?_
      refine j_nf [.o [1, 1, 1, 0, 1, 0, 0, 1, 0, 0, 1, 0, 0] 0, .c [1, 1, 1, 0, 1, 0, 0, 1, 0, 0, 1, 0, 1], .c [1, 1, 1, 0, 1, 0, 0, 1, 0, 0, 1, 1], .blk 3, .c [1, 1, 1, 0, 1, 0, 0, 1, 1], .lp [1, 1, 1, 0, 1, 0, 0], .blk 2, .c [1, 1, 1, 1]] rfl ?_
      refine j_run it 2 rfl (by simp) ?_
      refine j_nf [.c [1, 1, 1, 0, 1, 0, 0, 1, 0, 0, 1, 0, 1, 0], .blk 4, .c [1, 1, 1, 0, 1, 0, 0, 1, 0, 0, 1, 1], .blk 3, .c [1, 1, 1, 0, 1, 0, 0, 1, 1], .lp [1, 1, 1, 0, 1, 0, 0], .blk 2, .c [1, 1, 1, 1]] rfl ?_
      refine j_row0 RatE 44 ?_
      refine j_loopG (X := Nat × Row) [0, 1, 2, 6, 7, 9, 24, 25, 26, 29] [1, 2, 3] (fun x => [(11, .int .i64 ((d + x.1 : Nat) : Int)), (10, .slice (ad x.2.bo) x.1 x.2.cap)])
        (fun x => [(x.2.bo, 44, x.2.cs), (rB.bo, 44, rB.cs), (rA.bo, 23, rA.cs), (r.bo, 44, r.cs), (some b2, 26, [.slice (ad r.bo) (n + 1 - d) r.cap, .slice (ad rA.bo) k rA.cap, .slice (ad rB.bo) k rB.cap]), (some b1, 26, [.slice none 0 0, .slice none 0 0, .slice none 0 0])])
        (fun x => [rowF RatE x.2 x.1 ((List.range x.1).map fun i => rt (-((kr ((q : Int) - 1) n (k + 1) (d + i) : Int) : Rat)))])
        (fun x => x.1 ≤ n + 1 - d) (fun x => n + 1 - d - x.1) (0, ⟨none, 0, []⟩) [0] rfl rfl rfl (Nat.zero_le _) (by repeat (first | exact Fr.sub_nil _ | refine Fr.sub_cons rfl ?_)) rfl rfl ?_
      rintro ⟨i, rI⟩ hi ihi
      simp only [List.cons_append, List.nil_append] at hi ihi ⊢
      by_cases hil : i < n + 1 - d
      · have hx : d + i ≤ n := by omega
        obtain ⟨y1, y2⟩ := (kr_ok (k := k + 1) hq hq2 hn hx).2.2
        refine j_nf [.o [1, 1, 1, 0, 1, 0, 0, 1, 0, 0, 1, 0, 1, 0, 0, 0, 0] 0, .c [1, 1, 1, 0, 1, 0, 0, 1, 0, 0, 1, 0, 1, 0, 0, 0, 1], .c [1, 1, 1, 0, 1, 0, 0, 1, 0, 0, 1, 0, 1, 0, 0, 1], .lp [1, 1, 1, 0, 1, 0, 0, 1, 0, 0, 1, 0, 1, 0, 0], .blk 4, .c [1, 1, 1, 0, 1, 0, 0, 1, 0, 0, 1, 1], .blk 3, .c [1, 1, 1, 0, 1, 0, 0, 1, 1], .lp [1, 1, 1, 0, 1, 0, 0], .blk 2, .c [1, 1, 1, 1]] rfl ?_
        refine j_run it 3 rfl (by simp) ?_
        refine j_nf [.c [1, 1, 1, 0, 1, 0, 0, 1, 0, 0, 1, 0, 1, 0, 0, 0, 1], .c [1, 1, 1, 0, 1, 0, 0, 1, 0, 0, 1, 0, 1, 0, 0, 1], .lp [1, 1, 1, 0, 1, 0, 0, 1, 0, 0, 1, 0, 1, 0, 0], .blk 4, .c [1, 1, 1, 0, 1, 0, 0, 1, 0, 0, 1, 1], .blk 3, .c [1, 1, 1, 0, 1, 0, 0, 1, 1], .lp [1, 1, 1, 0, 1, 0, 0], .blk 2, .c [1, 1, 1, 1]] rfl ?_
        refine j_if rfl rfl (fun h3 => ?_) (fun h3 => by exfalso; omega)
        refine j_nf [.o [1, 1, 1, 0, 1, 0, 0, 1, 0, 0, 1, 0, 1, 0, 0, 1, 0, 0] 0, .blk 5, .c [1, 1, 1, 0, 1, 0, 0, 1, 0, 0, 1, 0, 1, 0, 0, 1, 1], .lp [1, 1, 1, 0, 1, 0, 0, 1, 0, 0, 1, 0, 1, 0, 0], .blk 4, .c [1, 1, 1, 0, 1, 0, 0, 1, 0, 0, 1, 1], .blk 3, .c [1, 1, 1, 0, 1, 0, 0, 1, 1], .lp [1, 1, 1, 0, 1, 0, 0], .blk 2, .c [1, 1, 1, 1]] rfl ?_
        refine j_run it 5 rfl (by simp) ?_
        refine j_step rfl (x_call [] rfl (S_codewrightref24_Krawtchouk (by first | omega | exact side _ (by assumption) | assumption | rfl | (simp; done) | (simp; omega)) (by first | omega | exact side _ (by assumption) | assumption | rfl | (simp; done) | (simp; omega)) (by first | omega | exact side _ (by assumption) | assumption | rfl | (simp; done) | (simp; omega)) (by first | omega | exact side _ (by assumption) | assumption | rfl | (simp; done) | (simp; omega)) (by first | omega | exact side _ (by assumption) | assumption | rfl | (simp; done) | (simp; omega))) rfl ?_)
        rintro _ _ _ ⟨pn1, cn1, pd1, cd1, rfl, rfl, rfl⟩
        simp only [List.cons_append, List.nil_append]
        refine j_step rfl (x_call [0, 1] rfl (S_codewrightref02_Neg (by first | omega | exact side _ (by assumption) | assumption | rfl | (simp; done) | (simp; omega)) (by first | omega | exact side _ (by assumption) | assumption | rfl | (simp; done) | (simp; omega))) rfl ?_)
        rintro _ _ _ ⟨pn2, cn2, pd2, cd2, rfl, rfl, rfl⟩
        simp only [List.cons_append, List.nil_append]
        simp only [vq_rt']
        refine j_step rfl (x_lit sl23 zo23e rfl rfl rfl rfl (by decide) (by decide) rfl fun b3 => ?_)
        refine j_step rfl (x_appR (z := ((rt (-↑(kr (↑q - 1) n (k + 1) (d + i)))).fst, ((rt (-↑(kr (↑q - 1) n (k + 1) (d + i)))).snd.fst, (rt (-↑(kr (↑q - 1) n (k + 1) (d + i)))).snd.snd))) 1 0 4 rfl rfl rfl rfl rfl sl23 zo23e rfl (fun w A hG => (rd_pair (v1 := [Value.bool (rt (-↑(kr (↑q - 1) n (k + 1) (d + i)))).fst]) (rd_bool _) (rd_pair (v1 := [Value.slice pn2 (rt (-↑(kr (↑q - 1) n (k + 1) (d + i)))).snd.fst.length cn2]) (rd_of_slF (hG _ (fact_mem (n := 0) rfl))) (rd_of_slF (hG _ (fact_mem (n := 1) rfl)))))) (by omega) _ by23e (by omega) fun r1 => ?_)
        refine j_run it 1 rfl (by simp) ?_
        refine j_nf [.o [1, 1, 1, 0, 1, 0, 0, 1, 0, 0, 1, 0, 1, 0, 0, 1, 1] 0, .lp [1, 1, 1, 0, 1, 0, 0, 1, 0, 0, 1, 0, 1, 0, 0], .blk 4, .c [1, 1, 1, 0, 1, 0, 0, 1, 0, 0, 1, 1], .blk 3, .c [1, 1, 1, 0, 1, 0, 0, 1, 1], .lp [1, 1, 1, 0, 1, 0, 0], .blk 2, .c [1, 1, 1, 1]] rfl ?_
        refine j_run it 3 rfl (by repeat' first | exact trivial | apply And.intro | omega) ?_
        refine j_nfn 1 [.lp [1, 1, 1, 0, 1, 0, 0, 1, 0, 0, 1, 0, 1, 0, 0], .blk 4, .c [1, 1, 1, 0, 1, 0, 0, 1, 0, 0, 1, 1], .blk 3, .c [1, 1, 1, 0, 1, 0, 0, 1, 1], .lp [1, 1, 1, 0, 1, 0, 0], .blk 2, .c [1, 1, 1, 1]] rfl ?_
        rw [← range_snoc fun i => rt (-((kr ((q : Int) - 1) n (k + 1) (d + i) : Int) : Rat))]
        refine j_toM [true, false, true, true, true, true, true] [0, 6, 7, 8] (by repeat (first | exact Fr.sub_nil _ | refine Fr.sub_cons rfl ?_ | refine Fr.sub_consI rfl (by first | omega | (dsimp only; omega)) ?_ | refine Fr.sub_consS rfl (by first | omega | (dsimp only; omega)) (by first | omega | (dsimp only; omega)) ?_)) rfl rfl (ihi (i + 1, r1) (by dsimp only; omega) (by dsimp only; omega))
      · obtain rfl : i = n + 1 - d := by omega
        refine j_nf [.o [1, 1, 1, 0, 1, 0, 0, 1, 0, 0, 1, 0, 1, 0, 0, 0, 0] 0, .c [1, 1, 1, 0, 1, 0, 0, 1, 0, 0, 1, 0, 1, 0, 0, 0, 1], .c [1, 1, 1, 0, 1, 0, 0, 1, 0, 0, 1, 0, 1, 0, 0, 1], .lp [1, 1, 1, 0, 1, 0, 0, 1, 0, 0, 1, 0, 1, 0, 0], .blk 4, .c [1, 1, 1, 0, 1, 0, 0, 1, 0, 0, 1, 1], .blk 3, .c [1, 1, 1, 0, 1, 0, 0, 1, 1], .lp [1, 1, 1, 0, 1, 0, 0], .blk 2, .c [1, 1, 1, 1]] rfl ?_
        refine j_run it 3 rfl (by simp) ?_
        refine j_nf [.c [1, 1, 1, 0, 1, 0, 0, 1, 0, 0, 1, 0, 1, 0, 0, 0, 1], .c [1, 1, 1, 0, 1, 0, 0, 1, 0, 0, 1, 0, 1, 0, 0, 1], .lp [1, 1, 1, 0, 1, 0, 0, 1, 0, 0, 1, 0, 1, 0, 0], .blk 4, .c [1, 1, 1, 0, 1, 0, 0, 1, 0, 0, 1, 1], .blk 3, .c [1, 1, 1, 0, 1, 0, 0, 1, 1], .lp [1, 1, 1, 0, 1, 0, 0], .blk 2, .c [1, 1, 1, 1]] rfl ?_
        refine j_if rfl rfl (fun h3 => by exfalso; omega) (fun h3 => ?_)
        refine j_nf [.o [1, 1, 1, 0, 1, 0, 0, 1, 0, 0, 1, 1, 0] 0, .c [1, 1, 1, 0, 1, 0, 0, 1, 0, 0, 1, 1, 1], .blk 3, .c [1, 1, 1, 0, 1, 0, 0, 1, 1], .lp [1, 1, 1, 0, 1, 0, 0], .blk 2, .c [1, 1, 1, 1]] rfl ?_
        refine j_step rfl (x_field rfl fd26_1 ?_)
        refine j_step rfl (x_bld 4 rfl rfl ld24 rfl ?_)
        refine j_run it 1 rfl (by simp) ?_
        refine j_step rfl (x_lit sl24 zo24e rfl rfl rfl rfl (by decide) (by decide) rfl fun b3 => ?_)
        refine j_pubR 1 0 rfl rfl (by show (n + 1 - d) * 56 ≤ 140737488355328; omega) ?_
        refine j_step rfl (x_appR (z := List.map (fun i => rt (-↑(kr (↑q - 1) n (k + 1) (d + i)))) (List.range (n + 1 - d))) 2 0 3 rfl rfl rfl rfl rfl sl24 zo24e rfl (fun w A hG => (rd_of_slF (hG _ (fact_mem (n := 0) rfl)))) (by omega) _ by24e (by omega) fun r1 => ?_)
        refine j_step rfl (x_field rfl fd26_1 ?_)
        refine j_step rfl (x_bst1 4 rfl rfl rfl rfl ld24 rfl (Nat.le_of_ble_eq_true rfl) ?_)
        refine j_nf [.c [1, 1, 1, 0, 1, 0, 0, 1, 0, 0, 1, 1, 1], .blk 3, .c [1, 1, 1, 0, 1, 0, 0, 1, 1], .lp [1, 1, 1, 0, 1, 0, 0], .blk 2, .c [1, 1, 1, 1]] rfl ?_
        (apply j_drawK it mx 7; (· rfl); (· rfl))
        (apply lxk_eq; (· rfl); (· exact d_x fun _ => x_field rfl fd26_2 dk_eq))
        (apply lxk_eq; (· rfl); (· exact d_bld 4 rfl rfl ld23 rfl))
        (apply lxk_run 3; (· rfl); (· simp))
        (apply lxk_rq; (· rfl); (· exact d_x fun _ => x_call [] rfl (S_codewrightref24_Krawtchouk (by first | omega | exact side _ (by assumption) | assumption | rfl | (simp; done) | (simp; omega)) (by first | omega | exact side _ (by assumption) | assumption | rfl | (simp; done) | (simp; omega)) (by first | omega | exact side _ (by assumption) | assumption | rfl | (simp; done) | (simp; omega)) (by first | omega | exact side _ (by assumption) | assumption | rfl | (simp; done) | (simp; omega)) (by first | omega | exact side _ (by assumption) | assumption | rfl | (simp; done) | (simp; omega))) rfl (by rintro _ _ _ ⟨pn1, cn1, pd1, cd1, rfl, rfl, rfl⟩; exact (dk_rq 0 1 rfl rfl))); intro pn1 cn1 pd1 cd1)
        (apply lxk_sl; (· rfl); (· exact d_x fun _ => x_lit sl23 zo23e rfl rfl rfl rfl (by decide) (by decide) rfl fun b4 => dk_all (E := RatE) [[Value.bool (rt ↑(kr (↑q - 1) n (k + 1) 0)).fst, Value.slice pn1 (rt ↑(kr (↑q - 1) n (k + 1) 0)).snd.fst.length cn1, Value.slice pd1 (rt ↑(kr (↑q - 1) n (k + 1) 0)).snd.snd.length cd1]] [((rt ↑(kr (↑q - 1) n (k + 1) 0)).fst, (rt ↑(kr (↑q - 1) n (k + 1) 0)).snd.fst, (rt ↑(kr (↑q - 1) n (k + 1) 0)).snd.snd)] (fun w A hG => (allrd_cons (rd_rt (hG _ (fact_mem (n := 0) rfl)) (hG _ (fact_mem (n := 1) rfl))) allrd_nil)) rfl rfl rfl (by first | decide | exact Nat.le_of_ble_eq_true rfl)); intro pa1 ca1)
        refine lxk_end rfl ?_
        simp only [List.map_cons, List.map_nil, List.cons_append, List.nil_append]
        refine j_step rfl (x_appS 2 6 0 rfl rfl rfl rfl rfl sl23 zo23e rfl (by omega) _ by23e (by omega) fun r2 => ?_)
        refine j_step rfl (x_field rfl fd26_2 ?_)
        refine j_step rfl (x_bst1 4 rfl rfl rfl rfl ld23 rfl (Nat.le_of_ble_eq_true rfl) ?_)
        refine j_nf [.o [1, 1, 1, 0, 1, 0, 0, 1, 1] 0, .lp [1, 1, 1, 0, 1, 0, 0], .blk 2, .c [1, 1, 1, 1]] rfl ?_
        refine j_run it 3 rfl (by repeat' first | exact trivial | apply And.intro | omega) ?_
        refine j_nfn 1 [.lp [1, 1, 1, 0, 1, 0, 0], .blk 2, .c [1, 1, 1, 1]] rfl ?_
        rw [show ((List.range (n + 1 - d)).map fun i => rt (-((kr ((q : Int) - 1) n (k + 1) (d + i) : Int) : Rat))) = pgRow q n d k from rfl, ← range_snoc (pgRow q n d), ← range_snoc fun k => rt ((kr ((q : Int) - 1) n (k + 1) 0 : Int) : Rat)]
        refine j_toM [true, true, false, true, true, true] [0, 4, 9] (by repeat (first | exact Fr.sub_nil _ | refine Fr.sub_cons rfl ?_ | refine Fr.sub_consI rfl (by first | omega | (dsimp only; omega)) ?_ | refine Fr.sub_consS rfl (by first | omega | (dsimp only; omega)) (by first | omega | (dsimp only; omega)) ?_)) rfl rfl (ih (k + 1, r1, r2) (by dsimp only; omega) (by dsimp only; omega))
    · obtain rfl : k = n := by omega
      clear ih
      refine j_nf [.o [1, 1, 1, 0, 1, 0, 0, 0, 0] 0, .c [1, 1, 1, 0, 1, 0, 0, 0, 1], .c [1, 1, 1, 0, 1, 0, 0, 1], .lp [1, 1, 1, 0, 1, 0, 0], .blk 2, .c [1, 1, 1, 1]] rfl ?_
      refine j_run it 3 rfl (by simp) ?_
      refine j_nf [.c [1, 1, 1, 0, 1, 0, 0, 0, 1], .c [1, 1, 1, 0, 1, 0, 0, 1], .lp [1, 1, 1, 0, 1, 0, 0], .blk 2, .c [1, 1, 1, 1]] rfl ?_
      refine j_if rfl rfl (fun h2 => by exfalso; omega) (fun h2 => ?_)
      refine j_nf [.o [1, 1, 1, 1, 0] 0, .c [1, 1, 1, 1, 1]] rfl ?_
      refine j_step rfl (x_bld_all 3 rfl rfl ld26 rfl ?_)
      refine j_step rfl (x_bst_all 4 rfl rfl rfl ld26 rfl rfl (by simp [Value.oneCell']) ?_)
      refine j_nf [.c [1, 1, 1, 1, 1]] rfl ?_
      refine j_pubR 0 0 rfl rfl (by show k * 56 ≤ 140737488355328; omega) ?_
      refine j_pubR 0 2 rfl rfl (by show k * 24 ≤ 140737488355328; omega) ?_
      refine j_pubR 0 4 rfl rfl (by show (k + 1 - d) * 56 ≤ 140737488355328; omega) ?_
      have e1 : (pgC k d).length = k + 1 - d := by simp [pgC]
      have e2 : (pgA q k d).length = k := by simp [pgA]
      have e3 : (pgB q k).length = k := by simp [pgB]
      refine j_givC [0, 1, 2] rfl (.agg 1 rfl rfl ld26 rfl .nil) rfl ⟨_, _, _, _, _, _, by rw [e1, e2, e3]; rfl, by rw [e1, e2, e3]; rfl, rfl⟩
end Go.Proofs.Ythahejfpdhcpiaa

namespace Go.Proofs.Ythahejfpdhcpiaa
open Go Go.Fw
set_option maxRecDepth 100000
set_option linter.unusedVariables false
set_option linter.unusedSimpArgs false
set_option maxHeartbeats 4000000
/-- What Program gives. -/
abbrev LinGE (C : List Rt) (M : List (List Rt)) (B : List Rt) (e : Int) : Value → List Fact → List Blk → Prop := fun v Φ β => ∃ p1 c1 p2 c2 p3 c3, v = .tuple #[.agg #[.slice p1 C.length c1, .slice p2 M.length c2, .slice p3 B.length c3], .int .i64 e] ∧ Φ = [slF RatE p1 C.length c1 C, slF (encSl RatE) p2 M.length c2 M, slF RatE p3 B.length c3 B] ∧ β = []
def pgQ (q n d : Nat) (i j : Nat) (k : Nat) : List Rt := (List.range (if k < j then i + 1 else i)).map fun i' => rt (-((kr ((q : Int) - 1) n (k + 1) (d + i') : Int) : Rat))
theorem pgQ_next (q n d i k : Nat) {x : Rt} (hx : x = rt (-((kr ((q : Int) - 1) n (k + 1) (d + i) : Int) : Rat))) : pgQ q n d i k k ++ [x] = pgQ q n d i (k + 1) k := by
  subst hx
  rw [pgQ, pgQ, if_neg (by omega), if_pos (by omega), List.range_succ, List.map_append]; rfl
theorem pgQ_upd (q n d i k : Nat) : upd (pgQ q n d i k) k (pgQ q n d i (k + 1) k) = pgQ q n d i (k + 1) := by
  funext j
  by_cases h : j = k
  · subst h; rw [upd_self]
  · rw [upd_ne h, pgQ, pgQ]
    by_cases h2 : j < k
    · rw [if_pos h2, if_pos (by omega)]
    · rw [if_neg h2, if_neg (by omega)]
theorem S_delsarte_Program {q n d : Nat} (hq : 2 ≤ q) (hq2 : q ≤ 256) (hn : n ≤ 64) (h5 : 1 ≤ d) (h6 : d ≤ n) : Ctr Try.prog 10 [.int .i64 q, .int .i64 n, .int .i64 d] [] [] (LinGE (pgC n d) (pgA q n d) (pgB q n) 0) := by
  refine Ctr_of_j' (F := F_delsarte_Program) rfl fun C => ?_
  have hrg : decide (rangeP q n d) = !false := decide_eq_true ⟨by omega, by omega, by omega, by omega, by omega, by omega⟩
  refine j_nf [.o [0] 0, .c [1]] rfl ?_
  refine j_step rfl (x_alloc zo26 fun b1 => ?_)
  refine j_run it 1 rfl (by simp) ?_
  refine j_nf [.o [1, 0, 0] 0, .c [1, 0, 1], .c [1, 1]] rfl ?_
  refine j_run it 3 rfl (by simp) ?_
  refine j_step rfl (x_call [] rfl (S_delsarte_wrong (by first | omega | exact side _ (by assumption) | assumption | rfl | (simp; done) | (simp; omega))) rfl ?_)
  rintro _ _ _ ⟨rfl, rfl, rfl⟩
  simp only [List.cons_append, List.nil_append]
  refine j_nf [.c [1, 0, 1], .c [1, 1]] rfl ?_
  refine j_false rfl rfl ?_
  refine j_nf [.c [1, 1, 0], .c [1, 1, 1]] rfl ?_
  (apply j_drawK it mx 8; (· rfl); (· rfl))
  (apply lxk_run 2; (· rfl); (· simp))
  (apply lxk_sl; (· rfl); (· exact d_x fun _ => x_call [] rfl (S_delsarte_column (by first | omega | exact side _ (by assumption) | assumption | rfl | (simp; done) | (simp; omega)) (by first | omega | exact side _ (by assumption) | assumption | rfl | (simp; done) | (simp; omega)) (by first | omega | exact side _ (by assumption) | assumption | rfl | (simp; done) | (simp; omega)) (by first | omega | exact side _ (by assumption) | assumption | rfl | (simp; done) | (simp; omega))) rfl (by rintro _ _ _ ⟨pa1, ca1, rfl, rfl, rfl⟩; exact (dk_sl 0 rfl))); intro pa1 ca1)
  (apply lxk_sl; (· rfl); (· exact d_x fun _ => x_slice_l 0 1 rfl rfl rfl sl23 (by omega) (by omega) fun pa2 => (dk_sl 0 rfl)); intro pa2 ca2)
  (apply lxk_run 1; (· rfl); (· simp))
  (apply lxk_make (n) _; (· rfl); (· rfl); (· rfl); (· exact sl24); (· exact zo24e); (· rfl); (· rfl); (· exact by24e); (· rfl); (· omega); (· omega); intro b2)
  (apply lxk_pv [20, 22] (fun vs => Value.agg ((fillL ([(0, 1), (1, 1), (2, 1)]) ([Value.slice none 0 0, Value.slice none 0 0, Value.slice none 0 0]) [(2, cellsL (vs.getD 0 undef)), (1, cellsL (vs.getD 1 undef))]).getD []).toArray) (v := Value.agg #[Value.slice none 0 0, Value.slice (some { block := b2, off := 0 }) n n, Value.slice pa2 (n + 1 - 1) ca2]); (· rfl); (· rfl); (· rfl); (· rfl); (· exact d_x fun _ => x_build (cs := [Value.slice none 0 0, Value.slice (some { block := b2, off := 0 }) n n, Value.slice pa2 (n + 1 - 1) ca2]) st26 zo26 rfl rfl dk_eq))
  (apply lxk_alloc; (· rfl); (· exact zo26); intro b3)
  refine lxk_end rfl ?_
  simp only [List.map_cons, List.map_nil, List.cons_append, List.nil_append]
  refine j_step rfl (x_bst_all 0 rfl rfl rfl ld26 rfl rfl (by simp [Value.oneCell']) ?_)
  refine j_nf [.o [1, 1, 1, 0, 0] 0, .c [1, 1, 1, 0, 1], .c [1, 1, 1, 1]] rfl ?_
  refine j_run it 2 rfl (by simp) ?_
  refine j_nf [.c [1, 1, 1, 0, 1, 0], .blk 0, .c [1, 1, 1, 1]] rfl ?_
  refine j_hd0 1 rfl (by omega) fun csA => ?_
  refine j_famNil RatE 44 n ?_
  refine j_row0 RatE 44 ?_
  simp only [setB, List.cons_append, List.nil_append]
  rw [show (d : Int) = ((d + 0 : Nat) : Int) from rfl]
  rw [show matF RatE (fun _ => ((none, 0, 0) : Hd)) (fun _ => []) (fun _ => ([] : List Rt)) n [] = matF RatE (fun _ => ((none, 0, 0) : Hd)) (fun _ => []) (pgQ q n d 0 0) n [] from rfl]
  refine j_loopG (X := Nat × Row × List Value × (Nat → Hd) × (Nat → List Value)) [0, 1, 6, 7, 8] [3] (fun x => [(9, .int .i64 ((d + x.1 : Nat) : Int))])
    (fun x => (x.2.1.bo, 44, x.2.1.cs) :: (some b3, 26, [.slice (ad x.2.1.bo) x.1 x.2.1.cap, .slice (some ⟨b2, 0, none⟩) n n, .slice pa2 (n + 1 - 1) ca2]) :: (some b2, 23, x.2.2.1) :: (some b1, 26, [.slice none 0 0, .slice none 0 0, .slice none 0 0]) :: famB 44 x.2.2.2.1 x.2.2.2.2 n [])
    (fun x => [rowF RatE x.2.1 x.1 (List.replicate x.1 (rt 1)), rowF hdE ⟨some b2, n, x.2.2.1⟩ n (hdl x.2.2.2.1 n), matF RatE x.2.2.2.1 x.2.2.2.2 (pgQ q n d x.1 0) n []])
    (fun x => x.1 ≤ n + 1 - d) (fun x => n + 1 - d - x.1) (0, ⟨none, 0, []⟩, csA, fun _ => (none, 0, 0), fun _ => []) [0, 2, 1] rfl rfl rfl (Nat.zero_le _) (by repeat (first | exact Fr.sub_nil _ | refine Fr.sub_cons rfl ?_)) rfl rfl ?_
  rintro ⟨i, rC, cA, hd, cs⟩ hi ih
  simp only [List.cons_append, List.nil_append] at hi ih ⊢
  by_cases hil : i < n + 1 - d
  · refine j_nf [.o [1, 1, 1, 0, 1, 0, 0, 0, 0] 0, .c [1, 1, 1, 0, 1, 0, 0, 0, 1], .c [1, 1, 1, 0, 1, 0, 0, 1], .lp [1, 1, 1, 0, 1, 0, 0], .blk 0, .c [1, 1, 1, 1]] rfl ?_
    refine j_run it 3 rfl (by simp) ?_
    refine j_nf [.c [1, 1, 1, 0, 1, 0, 0, 0, 1], .c [1, 1, 1, 0, 1, 0, 0, 1], .lp [1, 1, 1, 0, 1, 0, 0], .blk 0, .c [1, 1, 1, 1]] rfl ?_
    refine j_if rfl rfl (fun h1 => ?_) (fun h1 => by exfalso; omega)
    refine j_nf [.c [1, 1, 1, 0, 1, 0, 0, 1, 0, 0, 0], .c [1, 1, 1, 0, 1, 0, 0, 1, 0, 0, 1], .blk 1, .c [1, 1, 1, 0, 1, 0, 0, 1, 1], .lp [1, 1, 1, 0, 1, 0, 0], .blk 0, .c [1, 1, 1, 1]] rfl ?_
    (apply j_drawK it mx 4; (· rfl); (· rfl))
    (apply lxk_eq; (· rfl); (· exact d_x fun _ => x_field rfl fd26_0 dk_eq))
    (apply lxk_eq; (· rfl); (· exact d_bld 1 rfl rfl ld23 rfl))
    (apply lxk_rq; (· rfl); (· exact d_x fun _ => x_call [] rfl (S_delsarte_one) rfl (by rintro _ _ _ ⟨pn1, cn1, pd1, cd1, rfl, rfl, rfl⟩; exact (dk_rq 0 1 rfl rfl))); intro pn1 cn1 pd1 cd1)
    (apply lxk_sl; (· rfl); (· exact d_x fun _ => x_lit sl23 zo23e rfl rfl rfl rfl (by decide) (by decide) rfl fun b4 => dk_all (E := RatE) [[Value.bool (false, [1], [1]).fst, Value.slice pn1 (false, [1], [1]).snd.fst.length cn1, Value.slice pd1 (false, [1], [1]).snd.snd.length cd1]] [((false, [1], [1]).fst, (false, [1], [1]).snd.fst, (false, [1], [1]).snd.snd)] (fun w A hG => (allrd_cons (rd_rt (hG _ (fact_mem (n := 0) rfl)) (hG _ (fact_mem (n := 1) rfl))) allrd_nil)) rfl rfl rfl (by first | decide | exact Nat.le_of_ble_eq_true rfl)); intro pa3 ca3)
    refine lxk_end rfl ?_
    simp only [List.map_cons, List.map_nil, List.cons_append, List.nil_append]
    refine j_step rfl (x_appS 0 3 0 rfl rfl rfl rfl rfl sl23 zo23e rfl (by omega) _ by23e (by omega) fun r1 => ?_)
    refine j_step rfl (x_field rfl fd26_0 ?_)
    refine j_step rfl (x_bst1 1 rfl rfl rfl rfl ld23 rfl (Nat.le_of_ble_eq_true rfl) ?_)
    refine j_nf [.o [1, 1, 1, 0, 1, 0, 0, 1, 0, 0, 1, 0] 0, .c [1, 1, 1, 0, 1, 0, 0, 1, 0, 0, 1, 1], .blk 1, .c [1, 1, 1, 0, 1, 0, 0, 1, 1], .lp [1, 1, 1, 0, 1, 0, 0], .blk 0, .c [1, 1, 1, 1]] rfl ?_
    refine j_run it 3 rfl (by simp) ?_
    refine j_step rfl (x_call [] rfl (S_delsarte_column (by first | omega | exact side _ (by assumption) | assumption | rfl | (simp; done) | (simp; omega)) (by first | omega | exact side _ (by assumption) | assumption | rfl | (simp; done) | (simp; omega)) (by first | omega | exact side _ (by assumption) | assumption | rfl | (simp; done) | (simp; omega)) (by first | omega | exact side _ (by assumption) | assumption | rfl | (simp; done) | (simp; omega))) rfl ?_)
    rintro _ _ _ ⟨pa4, ca4, rfl, rfl, rfl⟩
    simp only [List.cons_append, List.nil_append]
    refine j_step rfl (x_slice_l 0 1 rfl rfl rfl sl23 (by omega) (by omega) fun pa5 => ?_)
    refine j_step rfl (x_len sl23 rfl ?_)
    refine j_run it 1 rfl (by simp) ?_
    refine j_nf [.c [1, 1, 1, 0, 1, 0, 0, 1, 0, 0, 1, 1, 0], .blk 2, .blk 1, .c [1, 1, 1, 0, 1, 0, 0, 1, 1], .lp [1, 1, 1, 0, 1, 0, 0], .blk 0, .c [1, 1, 1, 1]] rfl ?_
    rw [show List.replicate i (rt 1) ++ [((false, [1], [1]) : Rt)] = List.replicate (i + 1) (rt 1) by rw [← rt_one]; exact List.replicate_succ'.symm]
    refine j_loopG (X := Nat × List Value × (Nat → Hd) × (Nat → List Value)) [0, 1, 6, 7, 8, 9, 25, 26, 27, 30, 31, 32, 33, 34, 35, 36, 37, 38, 39, 40, 41] [2, 0, 9] (fun x => [(42, .int .i64 (x.1 : Int))])
      (fun x => (r1.bo, 44, r1.cs) :: (some b3, 26, [.slice (ad r1.bo) (i + 1) r1.cap, .slice (some ⟨b2, 0, none⟩) n n, .slice pa2 (n + 1 - 1) ca2]) :: (some b2, 23, x.2.1) :: (some b1, 26, [.slice none 0 0, .slice none 0 0, .slice none 0 0]) :: famB 44 x.2.2.1 x.2.2.2 n [])
      (fun x => [rowF hdE ⟨some b2, n, x.2.1⟩ n (hdl x.2.2.1 n), matF RatE x.2.2.1 x.2.2.2 (pgQ q n d i x.1) n []])
      (fun x => x.1 ≤ n) (fun x => n - x.1) (0, cA, hd, cs) [7, 8] rfl rfl rfl (Nat.zero_le _) (by repeat (first | exact Fr.sub_nil _ | refine Fr.sub_cons rfl ?_)) rfl rfl ?_
    rintro ⟨k, cA, hd, cs⟩ hk ihk
    simp only [List.cons_append, List.nil_append] at hk ihk ⊢
    by_cases hkl : k < n
    · refine j_hdlen 1 rfl fun hlen => ?_
      have hN : (hd k).2.1 = i := by rw [hlen k hkl rfl]; simp [pgQ]
      refine j_focusL 4 (k) 1 (i) rfl rfl (by first | assumption | omega) (by first | rfl | (simp [memB_cons, memB]; done) | (simp [memB_cons, memB]; omega)) (by first | assumption | omega) fun r2 hr1 => ?_
      simp only [List.take_succ_cons, List.take_zero, List.cons_append, List.nil_append]
      have hx : d + i ≤ n := by omega
      obtain ⟨y1, y2⟩ := (kr_ok (k := k + 1) hq hq2 hn hx).2.2
      have hzk : (List.drop 1 (colK q n (d + i)))[k]? = some (rt ((kr ((q : Int) - 1) n (k + 1) (d + i) : Int) : Rat)) := by
        rw [List.getElem?_drop, colK, List.getElem?_map, List.getElem?_range (by omega), Nat.add_comm 1 k]; rfl
      refine j_nf [.o [1, 1, 1, 0, 1, 0, 0, 1, 0, 0, 1, 1, 0, 0, 0] 0, .c [1, 1, 1, 0, 1, 0, 0, 1, 0, 0, 1, 1, 0, 0, 1], .lp [1, 1, 1, 0, 1, 0, 0, 1, 0, 0, 1, 1, 0, 0], .blk 2, .blk 1, .c [1, 1, 1, 0, 1, 0, 0, 1, 1], .lp [1, 1, 1, 0, 1, 0, 0], .blk 0, .c [1, 1, 1, 1]] rfl ?_
      refine j_run it 1 rfl (by simp) ?_
      refine j_nf [.c [1, 1, 1, 0, 1, 0, 0, 1, 0, 0, 1, 1, 0, 0, 1, 0], .c [1, 1, 1, 0, 1, 0, 0, 1, 0, 0, 1, 1, 0, 0, 1, 1], .lp [1, 1, 1, 0, 1, 0, 0, 1, 0, 0, 1, 1, 0, 0], .blk 2, .blk 1, .c [1, 1, 1, 0, 1, 0, 0, 1, 1], .lp [1, 1, 1, 0, 1, 0, 0], .blk 0, .c [1, 1, 1, 1]] rfl ?_
      refine j_if rfl rfl (fun h2 => ?_) (fun h2 => by exfalso; omega)
      refine j_nf [.o [1, 1, 1, 0, 1, 0, 0, 1, 0, 0, 1, 1, 0, 0, 1, 1, 0, 0, 0] 0, .c [1, 1, 1, 0, 1, 0, 0, 1, 0, 0, 1, 1, 0, 0, 1, 1, 0, 0, 1], .blk 3, .c [1, 1, 1, 0, 1, 0, 0, 1, 0, 0, 1, 1, 0, 0, 1, 1, 1], .lp [1, 1, 1, 0, 1, 0, 0, 1, 0, 0, 1, 1, 0, 0], .blk 2, .blk 1, .c [1, 1, 1, 0, 1, 0, 0, 1, 1], .lp [1, 1, 1, 0, 1, 0, 0], .blk 0, .c [1, 1, 1, 1]] rfl ?_
      refine j_run it 1 rfl (by simp) ?_
      refine j_step rfl (x_idx 5 (k) rfl rfl rfl sl23 rfl (by omega) fun z1 hz1 b4 o1 => ?_)
      refine j_step rfl (x_ld_rt 0 rfl rfl ld44 fun pa6 ca5 pa7 ca6 => ?_)
      refine j_step rfl (x_alloc zo44 fun b5 => ?_)
      refine j_run it 1 rfl (by simp) ?_
      refine j_step rfl (x_bst_all 0 rfl rfl rfl ld44 rfl rfl (by simp [Value.oneCell']) ?_)
      refine j_nf [.c [1, 1, 1, 0, 1, 0, 0, 1, 0, 0, 1, 1, 0, 0, 1, 1, 0, 0, 1], .blk 3, .c [1, 1, 1, 0, 1, 0, 0, 1, 0, 0, 1, 1, 0, 0, 1, 1, 1], .lp [1, 1, 1, 0, 1, 0, 0, 1, 0, 0, 1, 1, 0, 0], .blk 2, .blk 1, .c [1, 1, 1, 0, 1, 0, 0, 1, 1], .lp [1, 1, 1, 0, 1, 0, 0], .blk 0, .c [1, 1, 1, 1]] rfl ?_
      (refine j_selT 6 [1, 0, 2, 3, 4, 5] rfl rfl ?_; apply j_drawKB it mx 12; (· rfl); (· rfl))
      (apply lxk_eq; (· rfl); (· exact d_x fun _ => x_field rfl fd26_1 dk_eq))
      (apply lxk_eq; (· rfl); (· exact d_bld 2 rfl rfl ld24 rfl))
      (apply lxk_run 1; (· rfl); (· simp))
      (apply lxk_eq; (· rfl); (· exact d_x fun _ => x_field rfl fd26_1 dk_eq))
      (apply lxk_eq; (· rfl); (· exact d_bld 2 rfl rfl ld24 rfl))
      (apply lxk_run 1; (· rfl); (· simp))
      (apply lxk_eq; (· rfl); (· exact d_x fun _ => x_idx_own (k) (k) rfl rfl sl24 rfl (by omega) (Nat.mul_one _) dk_eq))
      (apply lxk_eq; (· rfl); (· exact d_ldR_hd 3 5 (k) rfl rfl rfl ld23 rfl (by assumption)))
      (apply lxk_eq; (· rfl); (· exact d_bld_all 0 rfl rfl ld44 rfl)) --ok
      obtain rfl : z1 = rt ((kr ((q : Int) - 1) n (k + 1) (d + i) : Int) : Rat) := Option.some.inj ((by assumption : (List.drop 1 (colK q n (d + i)))[k]? = some z1).symm.trans hzk)
      (apply lxk_rq; (· rfl); (· exact d_x fun _ => x_call [0, 1] rfl (S_rational_Neg (by first | omega | exact side _ (by assumption) | assumption | rfl | (simp; done) | (simp; omega)) (by first | omega | exact side _ (by assumption) | assumption | rfl | (simp; done) | (simp; omega))) rfl (by rintro _ _ _ ⟨pn2, cn2, pd2, cd2, rfl, rfl, rfl⟩; exact (dk_rq 0 1 rfl rfl))); intro pn2 cn2 pd2 cd2)
      simp only [vq_rt']
      (apply lxk_sl; (· rfl); (· exact d_x fun _ => x_lit sl23 zo23e rfl rfl rfl rfl (by decide) (by decide) rfl fun b6 => dk_all (E := RatE) [[Value.bool (rt (-↑(kr (↑q - 1) n (k + 1) (d + i)))).fst, Value.slice pn2 (rt (-↑(kr (↑q - 1) n (k + 1) (d + i)))).snd.fst.length cn2, Value.slice pd2 (rt (-↑(kr (↑q - 1) n (k + 1) (d + i)))).snd.snd.length cd2]] [((rt (-↑(kr (↑q - 1) n (k + 1) (d + i)))).fst, (rt (-↑(kr (↑q - 1) n (k + 1) (d + i)))).snd.fst, (rt (-↑(kr (↑q - 1) n (k + 1) (d + i)))).snd.snd)] (fun w A hG => (allrd_cons (rd_rt (hG _ (fact_mem (n := 0) rfl)) (hG _ (fact_mem (n := 1) rfl))) allrd_nil)) rfl rfl rfl (by first | decide | exact Nat.le_of_ble_eq_true rfl)); intro pa8 ca7)
      (apply lxk_app (m := 1) 6 0; (· rfl); (· rfl); (· rfl); (· rfl); (· rfl); (· exact sl23); (· exact zo23e); (· rfl); (· (first | omega | (simp; done))); (· (first | omega | (simp only [List.length_cons, List.length_nil]; omega))); (· exact by23e); (· (first | omega | (simp only [List.length_cons, List.length_nil]; omega))); intro b6 cap1 cs1)
      refine lxk_end rfl ?_
      simp only [List.map_cons, List.map_nil, List.cons_append, List.nil_append]
      refine j_step rfl (x_idx_own (k) (k) rfl rfl sl24 rfl (by omega) (Nat.mul_one _) ?_)
      refine j_step rfl (x_stR (vs := [Value.slice (some { block := b6, off := 0 }) (i + 1) cap1]) (z := (some b6, i + 1, cap1)) 4 9 (k) rfl rfl rfl rfl rfl ld23 (Nat.mul_one _).symm (by omega) (fun w A hG => (rd_hd (some _) _ _)) fun cs2 => ?_)
      refine j_nf [.o [1, 1, 1, 0, 1, 0, 0, 1, 0, 0, 1, 1, 0, 0, 1, 1, 1] 0, .lp [1, 1, 1, 0, 1, 0, 0, 1, 0, 0, 1, 1, 0, 0], .blk 2, .blk 1, .c [1, 1, 1, 0, 1, 0, 0, 1, 1], .lp [1, 1, 1, 0, 1, 0, 0], .blk 0, .c [1, 1, 1, 1]] rfl ?_
      refine j_run it 2 rfl (by repeat' first | exact trivial | apply And.intro | omega) ?_
      refine j_nfn 1 [.lp [1, 1, 1, 0, 1, 0, 0, 1, 0, 0, 1, 1, 0, 0], .blk 2, .blk 1, .c [1, 1, 1, 0, 1, 0, 0, 1, 1], .lp [1, 1, 1, 0, 1, 0, 0], .blk 0, .c [1, 1, 1, 1]] rfl ?_
      rw [hdl_set, pgQ_next q n d i k rfl]
      refine j_unfocusL 5 (k) 0 1 9 rfl rfl rfl rfl (by first | assumption | omega) (by first | rfl | (simp [memB_cons, memB]; done) | (simp [memB_cons, memB]; omega)) ?_
      simp only [List.eraseIdx_cons_zero, List.eraseIdx_cons_succ, List.take_succ_cons, List.take_zero, List.cons_append, List.nil_append]
      rw [pgQ_upd]
      refine j_toXT 5 [1, 2, 3, 4] [1, 0, 13, 14, 15] (by repeat (first | exact Fr.sub_nil _ | refine Fr.sub_cons rfl ?_ | refine Fr.sub_consI rfl (by first | omega | (dsimp only; omega)) ?_ | refine Fr.sub_consS rfl (by first | omega | (dsimp only; omega)) (by first | omega | (dsimp only; omega)) ?_)) rfl rfl rfl rfl (ihk (k + 1, cs2, upd hd k (some b6, i + 1, cap1), upd cs k cs1) (by dsimp only; omega) (by dsimp only; omega))
    · obtain rfl : n = k := by omega
      refine j_nf [.o [1, 1, 1, 0, 1, 0, 0, 1, 0, 0, 1, 1, 0, 0, 0] 0, .c [1, 1, 1, 0, 1, 0, 0, 1, 0, 0, 1, 1, 0, 0, 1], .lp [1, 1, 1, 0, 1, 0, 0, 1, 0, 0, 1, 1, 0, 0], .blk 2, .blk 1, .c [1, 1, 1, 0, 1, 0, 0, 1, 1], .lp [1, 1, 1, 0, 1, 0, 0], .blk 0, .c [1, 1, 1, 1]] rfl ?_
      refine j_run it 1 rfl (by simp) ?_
      refine j_nf [.c [1, 1, 1, 0, 1, 0, 0, 1, 0, 0, 1, 1, 0, 0, 1, 0], .c [1, 1, 1, 0, 1, 0, 0, 1, 0, 0, 1, 1, 0, 0, 1, 1], .lp [1, 1, 1, 0, 1, 0, 0, 1, 0, 0, 1, 1, 0, 0], .blk 2, .blk 1, .c [1, 1, 1, 0, 1, 0, 0, 1, 1], .lp [1, 1, 1, 0, 1, 0, 0], .blk 0, .c [1, 1, 1, 1]] rfl ?_
      refine j_if rfl rfl (fun h2 => by exfalso; omega) (fun h2 => ?_)
      refine j_nf [.o [1, 1, 1, 0, 1, 0, 0, 1, 1] 0, .lp [1, 1, 1, 0, 1, 0, 0], .blk 0, .c [1, 1, 1, 1]] rfl ?_
      refine j_run it 3 rfl (by repeat' first | exact trivial | apply And.intro | omega) ?_
      refine j_nfn 1 [.lp [1, 1, 1, 0, 1, 0, 0], .blk 0, .c [1, 1, 1, 1]] rfl ?_
      refine j_matCongr (pgQ q n d (i + 1) 0) 1 rfl (fun k hk => by rw [pgQ, pgQ, if_pos hk, if_neg (by omega)]) ?_
      refine j_to [3, 1, 0, 5] (by repeat (first | exact Fr.sub_nil _ | refine Fr.sub_cons rfl ?_ | refine Fr.sub_consI rfl (by first | omega | (dsimp only; omega)) ?_ | refine Fr.sub_consS rfl (by first | omega | (dsimp only; omega)) (by first | omega | (dsimp only; omega)) ?_)) rfl rfl (ih (i + 1, r1, cA, hd, cs) (by dsimp only; omega) (by dsimp only; omega))
  · obtain rfl : i = n + 1 - d := by omega
    clear ih
    refine j_nf [.o [1, 1, 1, 0, 1, 0, 0, 0, 0] 0, .c [1, 1, 1, 0, 1, 0, 0, 0, 1], .c [1, 1, 1, 0, 1, 0, 0, 1], .lp [1, 1, 1, 0, 1, 0, 0], .blk 0, .c [1, 1, 1, 1]] rfl ?_
    refine j_run it 3 rfl (by simp) ?_
    refine j_nf [.c [1, 1, 1, 0, 1, 0, 0, 0, 1], .c [1, 1, 1, 0, 1, 0, 0, 1], .lp [1, 1, 1, 0, 1, 0, 0], .blk 0, .c [1, 1, 1, 1]] rfl ?_
    refine j_if rfl rfl (fun h1 => by exfalso; omega) (fun h1 => ?_)
    refine j_nf [.o [1, 1, 1, 1, 0] 0, .c [1, 1, 1, 1, 1]] rfl ?_
    refine j_step rfl (x_bld_all 1 rfl rfl ld26 rfl ?_)
    refine j_step rfl (x_bst_all 3 rfl rfl rfl ld26 rfl rfl (by simp [Value.oneCell']) ?_)
    refine j_run it 1 rfl (by simp) ?_
    refine j_nf [.c [1, 1, 1, 1, 1]] rfl ?_
    refine j_hdlen 2 rfl fun hlen => ?_
    simp only [setB]
    refine j_pubFamL 4 2 1 2 rfl rfl rfl rfl (fun i hi => by rw [hlen i hi rfl]; show ((List.range _).map _).length * 56 ≤ _; rw [List.length_map, List.length_range]; split <;> omega) ?_
    simp only [List.take_succ_cons, List.take_zero]
    refine j_pubRb 2 0 rfl rfl (by show n * 24 ≤ 140737488355328; omega) ?_
    refine j_pubR 0 2 rfl rfl (by show (n + 1 - d) * 56 ≤ 140737488355328; omega) ?_
    simp only [List.eraseIdx_cons_zero, List.eraseIdx_cons_succ]
    have e1 : (pgC n d).length = n + 1 - d := by simp [pgC]
    have e2 : (pgA q n d).length = n := by simp [pgA]
    have e3 : (pgB q n).length = n := by simp [pgB]
    have e4 : List.drop 1 (colK q n 0) = pgB q n := by
      refine List.ext_getElem? fun k => ?_
      rw [List.getElem?_drop, colK, pgB, List.getElem?_map, List.getElem?_map]
      by_cases hk : k < n
      · rw [List.getElem?_range (by omega), List.getElem?_range hk, Nat.add_comm]; rfl
      · rw [List.getElem?_eq_none (by simp; omega), List.getElem?_eq_none (by simp; omega)]; rfl
    have e5 : (List.range n).map (pgQ q n d (n + 1 - d) 0) = pgA q n d := List.map_congr_left fun k _ => by rw [pgQ, if_neg (Nat.not_lt_zero _)]; rfl
    rw [e4, e5, Nat.add_sub_cancel]
    refine j_givC [0, 1, 6] rfl (.agg 1 rfl rfl ld26 rfl (.tmp rfl .nil)) rfl ⟨_, _, _, _, _, _, by rw [e1, e2, e3]; rfl, by rw [e1, e2, e3]; rfl, rfl⟩
theorem S_delsarte_Program_err {q n d : Int} (h : ¬ rangeP q n d) : Ctr Try.prog 10 [.int .i64 q, .int .i64 n, .int .i64 d] [] [] (LinGE [] [] [] 6) := by
  refine Ctr_of_j' (F := F_delsarte_Program) rfl fun C => ?_
  have hrg : decide (rangeP q n d) = !true := decide_eq_false h
  refine j_nf [.o [0] 0, .c [1]] rfl ?_
  refine j_step rfl (x_alloc zo26 fun b1 => ?_)
  refine j_run it 1 rfl (by simp) ?_
  refine j_nf [.o [1, 0, 0] 0, .c [1, 0, 1], .c [1, 1]] rfl ?_
  refine j_run it 3 rfl (by simp) ?_
  refine j_step rfl (x_call [] rfl (S_delsarte_wrong (by first | omega | exact side _ (by assumption) | assumption | rfl | (simp; done) | (simp; omega))) rfl ?_)
  rintro _ _ _ ⟨rfl, rfl, rfl⟩
  simp only [List.cons_append, List.nil_append]
  refine j_nf [.c [1, 0, 1], .c [1, 1]] rfl ?_
  refine j_true rfl rfl ?_
  refine j_nf [.o [1, 0, 1, 0, 0] 0, .c [1, 0, 1, 0, 1], .c [1, 1]] rfl ?_
  refine j_step rfl (x_build (cs := [Value.slice none 0 0, Value.slice none 0 0, Value.slice none 0 0]) st26 zo26 rfl rfl ?_)
  refine j_step rfl (x_bst_all 0 rfl rfl rfl ld26 rfl rfl (by simp [Value.oneCell']) ?_)
  refine j_run it 1 rfl (by simp) ?_
  refine j_nf [.c [1, 0, 1, 0, 1], .c [1, 1]] rfl ?_
  refine j_add (slF (encSl RatE) none 0 0 []) (fun w A _ => slF_nil _ _ _ _ _) ?_
  refine j_add (slF RatE none 0 0 []) (fun w A _ => slF_nil _ _ _ _ _) ?_
  refine j_givC [0, 1, 0] rfl (.agg 0 rfl rfl ld26 rfl (.tmp rfl .nil)) rfl ⟨_, _, _, _, _, _, rfl, rfl, rfl⟩
/-- Whatever the numbers. -/
def pgE (q n d : Int) : Int := if rangeP q n d then 0 else 6
def pgL (q n d : Int) : List Rt × List (List Rt) × List Rt := if rangeP q n d then (pgC n.toNat d.toNat, pgA q.toNat n.toNat d.toNat, pgB q.toNat n.toNat) else ([], [], [])
end Go.Proofs.Ythahejfpdhcpiaa
