/-
MacwilliamsInverts returns true: the program's transform of the transform is q to the power of n times the distribution.
-/
import Derived.Test.YtamkmihhpadamaaRows
import Derived.ProofKit
import Derived.JoinedOf
import Derived.Test.YtamkmihhpadamaaHG6
namespace Go.Proofs.Ytamkmihhpadamaa
open Go Go.Fw
set_option maxRecDepth 100000
set_option linter.unusedVariables false
set_option linter.unusedSimpArgs false
set_option maxHeartbeats 4000000
theorem okR_large' {m : Nat} {L : List Rt} (h : largeB m L = false) (hr : ∀ r ∈ L, (∀ x ∈ r.2.1, x < 4294967296) ∧ (∀ x ∈ r.2.2, x < 4294967296)) : ∀ r ∈ L, okR m r := fun r hm => by
  have := List.any_eq_false.1 h r hm
  simp only [decide_eq_true_eq] at this
  exact ⟨(hr r hm).1, (hr r hm).2, by omega, by omega⟩
theorem okR_rt {K : Nat} {q : Rat} (h : bd K q) : okR K (rt q) := ⟨limbs_lt _, limbs_lt _, (bd_len h).1, (bd_len h).2⟩
theorem trL_ok {q n K : Nat} {L : List Rt} (hq : 2 ≤ q) (hq2 : q ≤ 256) (hn : n ≤ 64) (hL : ∀ i, i ≤ n → bd K (qAt L i)) : ∀ r ∈ trL q n L, okR ((K + 18) * (n + 1) + 1) r := by
  intro r hr
  obtain ⟨j, hj, rfl⟩ := List.mem_map.1 hr
  exact okR_rt (trP_bd hq hq2 hn hL (n + 1) (Nat.le_refl _))

theorem S_MacwilliamsInverts {q : Nat} {pa : Option Addr} {n ca : Nat} {L : List Rt} (hq8 : q ≤ 255) : Ctr Try.prog 9 [.int .u8 q, .slice pa n ca] [] [slF RatE pa n ca L] (Rv (.bool true) []) := by
  refine Ctr_of_j' (F := F_codewrightlaw24_MacwilliamsInverts) rfl fun C => ?_
  refine j_len 0 rfl fun hn hb _ => ?_
  have hb' : L.length * 56 ≤ 140737488355328 := hb
  refine rts_range 0 rfl fun hr => ?_
  refine j_nf [.o [0] 0, .c [1]] rfl ?_
  refine j_run it 1 rfl (by simp) ?_
  refine j_nf [.o [1, 0, 0] 0, .c [1, 0, 1], .c [1, 1]] rfl ?_
  refine j_run it 1 rfl (by simp) ?_
  refine j_step rfl (x_call [0] rfl (S_codewrightlaw24_large) rfl ?_)
  rintro _ _ _ ⟨rfl, rfl, rfl⟩
  simp only [List.cons_append, List.nil_append]
  refine j_nf [.c [1, 0, 1], .c [1, 1]] rfl ?_
  refine j_cond rfl rfl (fun h1 => ?_) (fun h1 => ?_)
  · refine j_nf [.o [1, 0, 1, 0, 0] 0, .c [1, 0, 1, 0, 1], .c [1, 1]] rfl ?_
    refine j_run it 1 rfl (by simp) ?_
    refine j_nf [.c [1, 0, 1, 0, 1], .c [1, 1]] rfl ?_
    refine j_giv [] rfl rfl rfl ⟨rfl, rfl, rfl⟩
  · have hlf : largeB 4 L = false := by assumption
    have hok := okR_large' hlf hr
    by_cases h1 : q < 2
    · refine j_nf [.o [1, 1, 0, 0] 0, .c [1, 1, 0, 1], .c [1, 1, 1]] rfl ?_
      refine j_run it 3 rfl (by simp) ?_
      refine j_split_dec (t := 14) rfl (fun h2 => ?_) (fun h2 => by exfalso; omega)
      refine j_run it 9 rfl (by simp) ?_
      refine j_nf [.c [1, 1, 0, 1], .c [1, 1, 1]] rfl ?_
      refine j_true rfl rfl ?_
      refine j_nf [.o [1, 1, 0, 1, 0, 0] 0, .c [1, 1, 0, 1, 0, 1], .c [1, 1, 1]] rfl ?_
      refine j_run it 1 rfl (by simp) ?_
      refine j_nf [.c [1, 1, 0, 1, 0, 1], .c [1, 1, 1]] rfl ?_
      refine j_giv [] rfl rfl rfl ⟨rfl, rfl, rfl⟩
    by_cases h2 : n < 1
    · refine j_nf [.o [1, 1, 0, 0] 0, .c [1, 1, 0, 1], .c [1, 1, 1]] rfl ?_
      refine j_run it 3 rfl (by simp) ?_
      refine j_split_dec (t := 14) rfl (fun h3 => by exfalso; omega) (fun h3 => ?_)
      refine j_run it 1 rfl (by simp) ?_
      refine j_gstep rfl rfl (x_len sl44 rfl ?_)
      refine j_run it 3 rfl (by simp) ?_
      refine j_split_dec (t := 19) rfl (fun h4 => ?_) (fun h4 => by exfalso; omega)
      refine j_run it 4 rfl (by simp) ?_
      refine j_nf [.c [1, 1, 0, 1], .c [1, 1, 1]] rfl ?_
      refine j_true rfl rfl ?_
      refine j_nf [.o [1, 1, 0, 1, 0, 0] 0, .c [1, 1, 0, 1, 0, 1], .c [1, 1, 1]] rfl ?_
      refine j_run it 1 rfl (by simp) ?_
      refine j_nf [.c [1, 1, 0, 1, 0, 1], .c [1, 1, 1]] rfl ?_
      refine j_giv [] rfl rfl rfl ⟨rfl, rfl, rfl⟩
    by_cases h3 : 16 < n
    · refine j_nf [.o [1, 1, 0, 0] 0, .c [1, 1, 0, 1], .c [1, 1, 1]] rfl ?_
      refine j_run it 3 rfl (by simp) ?_
      refine j_split_dec (t := 14) rfl (fun h4 => by exfalso; omega) (fun h4 => ?_)
      refine j_run it 1 rfl (by simp) ?_
      refine j_gstep rfl rfl (x_len sl44 rfl ?_)
      refine j_run it 3 rfl (by simp) ?_
      refine j_split_dec (t := 19) rfl (fun h5 => by exfalso; omega) (fun h5 => ?_)
      refine j_run it 1 rfl (by simp) ?_
      refine j_gstep rfl rfl (x_len sl44 rfl ?_)
      refine j_run it 2 rfl (by simp) ?_
      refine j_nf [.c [1, 1, 0, 1], .c [1, 1, 1]] rfl ?_
      refine j_if rfl rfl (fun h6 => ?_) (fun h6 => by exfalso; omega)
      refine j_nf [.o [1, 1, 0, 1, 0, 0] 0, .c [1, 1, 0, 1, 0, 1], .c [1, 1, 1]] rfl ?_
      refine j_run it 1 rfl (by simp) ?_
      refine j_nf [.c [1, 1, 0, 1, 0, 1], .c [1, 1, 1]] rfl ?_
      refine j_giv [] rfl rfl rfl ⟨rfl, rfl, rfl⟩
    obtain ⟨n, rfl⟩ : ∃ a : Nat, n = a + 1 := ⟨n - 1, by omega⟩
    have hl : L.length = n + 1 := hn.symm
    have hg : ∀ i, i < n + 1 → okR 4 (L.getD i default) := fun i hi => hok _ (by rw [List.getD, List.getElem?_eq_getElem (by omega)]; exact List.getElem_mem _)
    have hbd : ∀ i, i ≤ n → bd 4 (qAt L i) := fun i hi => okR_bd (hg i (by omega)) (by decide)
    have hlT : (trL q n L).length = n + 1 := by simp [trL]
    have hkT : ∀ r ∈ trL q n L, okR ((4 + 18) * (n + 1) + 1) r := trL_ok (by omega) (by omega) (by omega) hbd
    refine j_nf [.o [1, 1, 0, 0] 0, .c [1, 1, 0, 1], .c [1, 1, 1]] rfl ?_
    refine j_run it 3 rfl (by simp) ?_
    refine j_split_dec (t := 14) rfl (fun h4 => by exfalso; omega) (fun h4 => ?_)
    refine j_run it 1 rfl (by simp) ?_
    refine j_gstep rfl rfl (x_len sl44 rfl ?_)
    refine j_run it 4 rfl (by simp) ?_
    refine j_split_dec (t := 19) rfl (fun h5 => by exfalso; omega) (fun h5 => ?_)
    refine j_gstep rfl rfl (x_len sl44 rfl ?_)
    refine j_run it 2 rfl (by simp) ?_
    refine j_nf [.c [1, 1, 0, 1], .c [1, 1, 1]] rfl ?_
    refine j_if rfl rfl (fun h6 => by exfalso; omega) (fun h6 => ?_)
    refine j_nf [.o [1, 1, 1, 0] 0, .c [1, 1, 1, 1]] rfl ?_
    refine j_run it 3 rfl (by repeat' first | exact trivial | apply And.intro | omega) ?_
    refine j_step rfl (x_call [0] rfl (S_macwilliams_Transform (K := 4) (L := L) (by omega) (by omega) (by omega) hl (by decide) (by decide) hok) rfl ?_)
    rintro _ _ _ ⟨pa1, ca1, rfl, rfl, rfl⟩
    simp only [List.cons_append, List.nil_append]
    refine j_run it 5 rfl (by simp) ?_
    refine j_nf [.o [1, 1, 1, 1, 0] 0, .c [1, 1, 1, 1, 1]] rfl ?_
    refine j_run it 3 rfl (by repeat' first | exact trivial | apply And.intro | omega) ?_
    refine j_step rfl (x_call [0] rfl (S_macwilliams_Transform (K := (4 + 18) * (n + 1) + 1) (L := trL q n L) (by omega) (by omega) (by omega) hlT (by omega) (by omega) hkT) rfl ?_)
    rintro _ _ _ ⟨pa2, ca2, rfl, rfl, rfl⟩
    simp only [List.cons_append, List.nil_append]
    refine j_run it 5 rfl (by simp) ?_
    refine j_nf [.o [1, 1, 1, 1, 1, 0, 0] 0, .c [1, 1, 1, 1, 1, 0, 1], .c [1, 1, 1, 1, 1, 1]] rfl ?_
    refine j_run it 8 rfl (by simp) ?_
    refine j_split_ndec (t := 44) rfl (fun h7 => by exfalso; omega) (fun h7 => ?_)
    refine j_gstep rfl rfl (x_len sl44 rfl ?_)
    refine j_run it 1 rfl (by simp) ?_
    refine j_gstep rfl rfl (x_len sl44 rfl ?_)
    refine j_run it 2 rfl (by simp) ?_
    refine j_nf [.c [1, 1, 1, 1, 1, 0, 1], .c [1, 1, 1, 1, 1, 1]] rfl ?_
    refine j_ifn rfl rfl (fun h8 => by exfalso; omega) (fun h8 => ?_)
    refine j_nf [.o [1, 1, 1, 1, 1, 1, 0, 0] 0, .c [1, 1, 1, 1, 1, 1, 0, 1], .c [1, 1, 1, 1, 1, 1, 1]] rfl ?_
    refine j_run it 1 rfl (by simp) ?_
    refine j_nf [.c [1, 1, 1, 1, 1, 1, 0, 1, 0], .blk 0, .c [1, 1, 1, 1, 1, 1, 1]] rfl ?_
    refine j_loopG (X := Nat) [0, 1, 7] [0, 1, 2] (fun k => [(9, .int .i64 k)]) (fun _ => []) (fun _ => [])
      (fun k => k ≤ n + 1) (fun k => n + 1 - k) 0 [] rfl rfl rfl (Nat.zero_le _) (by repeat (first | exact Fr.sub_nil _ | refine Fr.sub_cons rfl ?_)) rfl rfl ?_
    intro i hi ih
    simp only [List.cons_append, List.nil_append] at ih ⊢
    by_cases hil : i < n + 1
    · have hlT2 : (trL q n (trL q n L)).length = n + 1 := by simp [trL]
      have c1 := qn_lt (show q ≤ 256 by omega) (show n ≤ 64 by omega) (Nat.le_refl 17)
      obtain ⟨l1, l2⟩ := rt_nat_len c1
      obtain ⟨_, _, l3, l4⟩ := hg i hil
      have hqM : ∀ j, j < n + 1 → qAt (trL q n L) j = trP L (fun k => kr ((q : Int) - 1) n j k) (n + 1) := fun j hj => by
        rw [qAt, trL, range_getD _ _ hj, vq_rt]
      have eM : (trL q n (trL q n L)).getD i default = rt (trP (trL q n L) (fun j => kr ((q : Int) - 1) n i j) (n + 1)) := by
        rw [trL, range_getD _ _ hil]
      have fin : (((trL q n (trL q n L)).getD i default).1, ((trL q n (trL q n L)).getD i default).2.1, ((trL q n (trL q n L)).getD i default).2.2) = rt (vq ((L.getD i default).1, (L.getD i default).2.1, (L.getD i default).2.2) * (((q ^ n : Nat) : Int) : Rat)) := by
        rw [eM, trP_inv hil hqM, Int.natCast_pow]; rfl
      refine j_nf [.o [1, 1, 1, 1, 1, 1, 0, 1, 0, 0, 0, 0] 0, .c [1, 1, 1, 1, 1, 1, 0, 1, 0, 0, 0, 1], .c [1, 1, 1, 1, 1, 1, 0, 1, 0, 0, 1], .lp [1, 1, 1, 1, 1, 1, 0, 1, 0, 0], .blk 0, .c [1, 1, 1, 1, 1, 1, 1]] rfl ?_
      refine j_run it 2 rfl (by simp) ?_
      refine j_step rfl (x_len sl44 rfl ?_)
      refine j_run it 1 rfl (by simp) ?_
      refine j_nf [.c [1, 1, 1, 1, 1, 1, 0, 1, 0, 0, 0, 1], .c [1, 1, 1, 1, 1, 1, 0, 1, 0, 0, 1], .lp [1, 1, 1, 1, 1, 1, 0, 1, 0, 0], .blk 0, .c [1, 1, 1, 1, 1, 1, 1]] rfl ?_
      refine j_if rfl rfl (fun h9 => ?_) (fun h9 => by exfalso; omega)
      refine j_nf [.c [1, 1, 1, 1, 1, 1, 0, 1, 0, 0, 1, 0, 0, 0], .c [1, 1, 1, 1, 1, 1, 0, 1, 0, 0, 1, 0, 0, 1], .blk 1, .c [1, 1, 1, 1, 1, 1, 0, 1, 0, 0, 1, 1], .lp [1, 1, 1, 1, 1, 1, 0, 1, 0, 0], .blk 0, .c [1, 1, 1, 1, 1, 1, 1]] rfl ?_
      (apply j_drawK it mx 17; (· rfl); (· rfl))
      (apply lxk_run 2; (· rfl); (· simp))
      (apply lxk_pt; (· rfl); (· exact d_x fun _ => x_idx 0 (i) rfl rfl rfl sl44 rfl (by omega) fun z1 hz1 b1 o1 => (dk_ptD default hz1 0 rfl)); intro b1 o1)
      (apply lxk_rq; (· rfl); (· exact d_x fun _ => x_ld_rt 0 rfl rfl ld25 fun pa3 ca3 pa4 ca4 => (dk_rq 0 1 rfl rfl)); intro pn1 cn1 pd1 cd1)
      (apply lxk_run 2; (· rfl); (· simp))
      (apply lxk_pt; (· rfl); (· exact d_x fun _ => x_idx 2 (i) rfl rfl rfl sl44 rfl (by omega) fun z1 hz1 b2 o2 => (dk_ptD default hz1 0 rfl)); intro b2 o2)
      (apply lxk_rq; (· rfl); (· exact d_x fun _ => x_ld_rt 0 rfl rfl ld25 fun pa3 ca3 pa4 ca4 => (dk_rq 0 1 rfl rfl)); intro pn2 cn2 pd2 cd2)
      (apply lxk_run 3; (· rfl); (· exact (by repeat' first | exact trivial | apply And.intro | omega)))
      (apply lxk_eq; (· rfl); (· exact d_x fun _ => x_len sl44 rfl dk_eq))
      (apply lxk_eq (v := Value.int IntKind.i64 ((((n + 1) - 1 : Nat)) : Int)); (· rfl); (· exact d_x fun _ => x_asN it _ rfl (by repeat' first | exact trivial | apply And.intro | omega) (by omega) dk_eq))
      simp only [Nat.add_sub_cancel]
      (apply lxk_rq; (· rfl); (· exact d_x fun _ => x_call [] rfl (S_codewrightlaw24_pow (by first | omega | exact side _ (by assumption) | assumption | rfl | (simp; done) | (simp; omega)) (by first | omega | exact side _ (by assumption) | assumption | rfl | (simp; done) | (simp; omega))) rfl (by rintro _ _ _ ⟨pn3, cn3, pd3, cd3, rfl, rfl, rfl⟩; exact (dk_rq 0 1 rfl rfl))); intro pn3 cn3 pd3 cd3)
      simp only [vq_rt']
      (apply lxk_rq; (· rfl); (· exact d_x fun _ => x_call [2, 3, 0, 1] rfl (S_codewrightref02_Mul (by first | omega | exact side _ (by assumption) | assumption | rfl | (simp; done) | (simp; omega)) (by first | omega | exact side _ (by assumption) | assumption | rfl | (simp; done) | (simp; omega)) (by first | omega | exact side _ (by assumption) | assumption | rfl | (simp; done) | (simp; omega)) (by first | omega | exact side _ (by assumption) | assumption | rfl | (simp; done) | (simp; omega))) rfl (by rintro _ _ _ ⟨pn4, cn4, pd4, cd4, rfl, rfl, rfl⟩; exact (dk_rq 0 1 rfl rfl))); intro pn4 cn4 pd4 cd4)
      simp only [vq_rt']
      (apply lxk_eq; (· rfl); (· exact d_x fun _ => x_call [7, 8, 0, 1] rfl (S_codewrightref02_Same) rfl (by rintro _ _ _ ⟨rfl, rfl, rfl⟩; exact dk_eq)))
      simp only [vq_rt']
      (apply lxk_run 1; (· rfl); (· simp))
      refine lxk_end rfl ?_
      simp only [List.map_cons, List.map_nil, List.cons_append, List.nil_append]
      refine j_nf [.c [1, 1, 1, 1, 1, 1, 0, 1, 0, 0, 1, 0, 0, 1], .blk 1, .c [1, 1, 1, 1, 1, 1, 0, 1, 0, 0, 1, 1], .lp [1, 1, 1, 1, 1, 1, 0, 1, 0, 0], .blk 0, .c [1, 1, 1, 1, 1, 1, 1]] rfl ?_
      refine j_ifn rfl rfl (fun h10 => ?_) (fun h10 => ?_)
      · exact absurd fin (by assumption)
      · refine j_nf [.o [1, 1, 1, 1, 1, 1, 0, 1, 0, 0, 1, 1] 0, .lp [1, 1, 1, 1, 1, 1, 0, 1, 0, 0], .blk 0, .c [1, 1, 1, 1, 1, 1, 1]] rfl ?_
        refine j_run it 3 rfl (by repeat' first | exact trivial | apply And.intro | omega) ?_
        refine j_nfn 1 [.lp [1, 1, 1, 1, 1, 1, 0, 1, 0, 0], .blk 0, .c [1, 1, 1, 1, 1, 1, 1]] rfl ?_
        refine j_to [10, 11, 12] (by repeat (first | exact Fr.sub_nil _ | refine Fr.sub_cons rfl ?_ | refine Fr.sub_consI rfl (by first | omega | (dsimp only; omega)) ?_ | refine Fr.sub_consS rfl (by first | omega | (dsimp only; omega)) (by first | omega | (dsimp only; omega)) ?_)) rfl rfl (ih (i + 1) (by omega) (by omega))
    · refine j_nf [.o [1, 1, 1, 1, 1, 1, 0, 1, 0, 0, 0, 0] 0, .c [1, 1, 1, 1, 1, 1, 0, 1, 0, 0, 0, 1], .c [1, 1, 1, 1, 1, 1, 0, 1, 0, 0, 1], .lp [1, 1, 1, 1, 1, 1, 0, 1, 0, 0], .blk 0, .c [1, 1, 1, 1, 1, 1, 1]] rfl ?_
      refine j_run it 2 rfl (by simp) ?_
      refine j_step rfl (x_len sl44 rfl ?_)
      refine j_run it 1 rfl (by simp) ?_
      refine j_nf [.c [1, 1, 1, 1, 1, 1, 0, 1, 0, 0, 0, 1], .c [1, 1, 1, 1, 1, 1, 0, 1, 0, 0, 1], .lp [1, 1, 1, 1, 1, 1, 0, 1, 0, 0], .blk 0, .c [1, 1, 1, 1, 1, 1, 1]] rfl ?_
      refine j_if rfl rfl (fun h9 => by exfalso; omega) (fun h9 => ?_)
      refine j_nf [.o [1, 1, 1, 1, 1, 1, 1, 0] 0, .c [1, 1, 1, 1, 1, 1, 1, 1]] rfl ?_
      refine j_run it 1 rfl (by simp) ?_
      refine j_nf [.c [1, 1, 1, 1, 1, 1, 1, 1]] rfl ?_
      refine j_giv [] rfl rfl rfl ⟨rfl, rfl, rfl⟩

theorem op5 : Opens Try.prog 5 (encNat .u8 1) := opens_nat rfl rfl rfl (fun n h => h.1)
theorem op4 : Opens Try.prog 4 encBool := opens_bool rfl rfl rfl
theorem op65 : Opens Try.prog 65 (encNat .u32 4) := opens_nat rfl rfl rfl (fun n h => h.1)
theorem op23 : Opens Try.prog 23 (encSl (encNat .u32 4)) := opens_sl rfl op65 rfl rfl (by decide)
theorem op25 : Opens Try.prog 25 (encPair encBool (encPair (encSl (encNat .u32 4)) (encSl (encNat .u32 4)) 48) 56) := opens_struct rfl (opensAll_cons 56 rfl op4 (opensAll_cons 48 rfl op23 (opensAll_one rfl op23))) rfl rfl
theorem op44 : Opens Try.prog 44 (encSl (encPair encBool (encPair (encSl (encNat .u32 4)) (encSl (encNat .u32 4)) 48) 56)) := opens_sl rfl op25 rfl rfl (by decide)

theorem macwilliamsInverts_says : LawSays Try.prog 9 Try.f9 := by
  intro W args h
  have h : Args Try.prog W [5, 44] args := h
  match args, h with
  | [v0, v1], ⟨h0, h1, _⟩ =>
    obtain ⟨q, rfl, r0⟩ := h0.int Try.underlying5
    simp only [InR] at r0
    obtain ⟨q, rfl⟩ : ∃ a : Nat, q = a := ⟨q.toNat, by omega⟩
    obtain ⟨pa, ca, l, rfl, hl⟩ := h1.slice Try.underlying44 op44
    refine law_of_gives (S_MacwilliamsInverts (L := l) (by omega)) (fun v Φ β h => h.1) ?_
    intro g hg
    simp only [List.mem_cons, List.not_mem_nil, or_false] at hg
    subst hg
    exact hl


/-! ### The row -/

theorem macwilliamsInverts_lifted (os : Os) (started : os.Started) (H : Type) (enc : TypeId × Value → H) :
    ReturnsInHanded {} Try.checked os 9 .any (Rows.macwilliamsInvertsSpec.pre6 enc Try.prog Try.f9 Rows.macwilliamsInvertsRow.domain false) (Rows.macwilliamsInvertsSpec.post enc Try.prog Try.f9 false true false false) :=
  law_lift (C := Try.checked) (by kernel_rfl) started (by kernel_rfl) Try.func9
    (ChangeSpec.witness6 (enc := enc) (C := Try.checked) false ⟨#[], #[.int .u8 0, .slice none 0 0], []⟩ 8 (by kernel_rfl) (by kernel_rfl) (by kernel_rfl) (by kernel_rfl))
    (by kernel_rfl) rfl (by kernel_rfl) rfl Try.underlying4 (fun ds h => match ds, h with | [d0, d1], _ => rfl) macwilliamsInverts_says

theorem macwilliamsInverts_holds : Rows.MacwilliamsInvertsSaid :=
  OpenClaim.holds_of_wide 9 Try.f9 rfl rfl rfl rfl rfl rfl rfl ⟨rfl, rfl, rfl, rfl, rfl⟩ rfl rfl rfl rfl rfl (by kernel_rfl) Try.func9 (by kernel_rfl)
    (of_decide_eq_true (by kernel_rfl)) (by unfold Func.isWrapper; first | (rw [if_pos (by decide +kernel)]; kernel_rfl) | (rw [if_neg (by decide +kernel)]; exact ⟨rfl, rfl⟩))
    (fun os started H enc _ => macwilliamsInverts_lifted os started H enc)
#print axioms macwilliamsInverts_holds
end Go.Proofs.Ytamkmihhpadamaa
