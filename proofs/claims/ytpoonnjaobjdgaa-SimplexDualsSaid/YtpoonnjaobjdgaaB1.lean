/-
Contracts of the document's numbers: Trim, Of, limb, Same, Zero.
-/
import Derived.Test.YtpoonnjaobjdgaaFuns
import Derived.Test.YtpoonnjaobjdgaaNatMath
import Derived.Test.YtpoonnjaobjdgaaNatMath2
namespace Go.Proofs.Ytpoonnjaobjdgaa
open Go Go.Fw
set_option maxRecDepth 100000
set_option linter.unusedVariables false
set_option maxHeartbeats 1000000
theorem S_codewrightref01_Trim {pa : Option Addr} {n ca : Nat} {l : List Nat} : Ctr Try.prog 37 [.slice pa n ca] [] [slF U32 pa n ca l] (Sv U32 (trim l)) := by
  refine Ctr_of_j' (F := F_codewrightref01_Trim) rfl fun C => ?_
  refine j_len 0 rfl fun hn hb hc => ?_
  subst hn
  have hb' : l.length * 4 ≤ 140737488355328 := hb
  have done : ∀ k, k ≤ l.length → trim l = l.take k → J F_codewrightref01_Trim C [.c [1, 1, 1]] [(0, .slice pa l.length ca), (3, .int .i64 k)] [] [slF U32 pa l.length ca l] (Gives C (Sv U32 (trim l))) := by
    intro k hk he
    have hlk : (l.take k).length = k := by rw [List.length_take]; omega
    refine j_nf [.o [1, 1, 1, 0] 0, .c [1, 1, 1, 1]] rfl ?_
    refine j_step rfl (x_lit0 sl35 fun b1 => ?_)
    refine j_run it 2 rfl (by simp) ?_
    refine j_step rfl (x_slice_h 0 (k) rfl rfl rfl sl35 (by omega) (by omega) ?_)
    refine j_step rfl (x_app_sl 0 0 rfl rfl rfl rfl sl35 zo35e rfl (by first | exact GrOk.nil _ | assumption | exact .inr ⟨_, rfl, Nat.le_refl _, by omega, rfl⟩) (by omega) _ by35e (by omega) fun bo1 cap1 cs1 vss1 hg1 ht1 => ?_)
    refine j_run it 1 rfl (by simp) ?_
    refine j_nf [.c [1, 1, 1, 1]] rfl ?_
    simp only [Nat.zero_add] at hg1 ht1 ⊢
    refine j_pub 0 0 rfl rfl hg1 (by simpa using ht1) hlk.symm (by show _ * 4 ≤ _; omega) ?_
    refine j_giv [0] rfl rfl rfl ⟨_, _, by rw [he, hlk]; rfl, by rw [he, hlk], rfl⟩
  refine j_nf [.o [0] 0, .c [1]] rfl ?_
  refine j_run it 1 rfl (by simp) ?_
  refine j_nf [.o [1, 0] 0, .c [1, 1]] rfl ?_
  refine j_run it 1 rfl (by simp) ?_
  refine j_step rfl (x_len sl35 rfl ?_)
  refine j_run it 1 rfl (by simp) ?_
  refine j_nf [.c [1, 1, 0, 0], .blk 0, .c [1, 1, 1]] rfl ?_
  refine j_loopN (X := Nat) (fun k => [(0, .slice pa l.length ca), (3, .int .i64 k)]) (fun _ => []) (fun _ => [slF U32 pa l.length ca l]) (fun k => k ≤ l.length ∧ trim (l.take k) = trim l) (fun k => k) l.length [0] rfl ⟨Nat.le_refl _, by rw [List.take_length]⟩ (by repeat (first | exact Fr.sub_nil _ | refine Fr.sub_cons rfl ?_)) rfl rfl ?_
  intro k ⟨hk, ht⟩ ih
  by_cases hk0 : 0 < k
  · obtain ⟨z, hz⟩ : ∃ z, l[k - 1]? = some z := ⟨_, List.getElem?_eq_getElem (show k - 1 < l.length by omega)⟩
    have side : ∀ y, l[k - 1]? = some y → y = z := fun y hy => by rw [hz] at hy; exact (Option.some.inj hy).symm
    refine j_nf [.o [1, 1, 0, 0, 0, 0, 0] 0, .c [1, 1, 0, 0, 0, 0, 1], .c [1, 1, 0, 0, 0, 1], .lp [1, 1, 0, 0, 0], .blk 0, .c [1, 1, 1]] rfl ?_
    refine j_run it 3 rfl (by simp) ?_
    refine j_split_dec (t := 8) rfl (fun h1 => ?_) (fun h1 => by exfalso; omega)
    refine j_run it 3 rfl (by repeat' first | exact trivial | apply And.intro | omega) ?_
    refine j_gstep rfl rfl (x_idx 0 ((k) - 1) rfl rfl rfl sl35 (by omega) (by omega) fun z1 hz1 b1 o1 => ?_)
    refine j_gstep rfl rfl (x_ld_nat 0 rfl rfl ld52 fun ⟨r1, r2⟩ => ?_)
    refine j_run it 2 rfl (by simp) ?_
    refine j_nf [.c [1, 1, 0, 0, 0, 0, 1], .c [1, 1, 0, 0, 0, 1], .lp [1, 1, 0, 0, 0], .blk 0, .c [1, 1, 1]] rfl ?_
    refine j_if rfl rfl (fun h2 => ?_) (fun h2 => ?_)
    · have e := side z1 hz1
      have hz0 : z1 = 0 := by omega
      subst hz0
      refine j_nf [.o [1, 1, 0, 0, 0, 1, 0] 0, .blk 1, .lp [1, 1, 0, 0, 0], .blk 0, .c [1, 1, 1]] rfl ?_
      refine j_run it 3 rfl (by repeat' first | exact trivial | apply And.intro | omega) ?_
      refine j_nfn 2 [.lp [1, 1, 0, 0, 0], .blk 0, .c [1, 1, 1]] rfl ?_
      refine j_to [1] (by repeat (first | exact Fr.sub_nil _ | refine Fr.sub_cons rfl ?_ | refine Fr.sub_consI rfl (by first | omega | (dsimp only; omega)) ?_ | refine Fr.sub_consS rfl (by first | omega | (dsimp only; omega)) (by first | omega | (dsimp only; omega)) ?_)) rfl rfl (ih (k - 1) (by omega) ⟨by omega, by rw [← trim_take_zero hz1]; rw [show k - 1 + 1 = k by omega]; exact ht⟩)
    · refine j_nfn 1 [.c [1, 1, 1]] rfl ?_
      refine j_to [1] (by repeat (first | exact Fr.sub_nil _ | refine Fr.sub_cons rfl ?_ | refine Fr.sub_consI rfl (by first | omega | (dsimp only; omega)) ?_ | refine Fr.sub_consS rfl (by first | omega | (dsimp only; omega)) (by first | omega | (dsimp only; omega)) ?_)) rfl rfl (done k hk (by rw [← ht]; have := trim_take_ne hz1 (by omega); rwa [show k - 1 + 1 = k by omega] at this))
  · refine j_nf [.o [1, 1, 0, 0, 0, 0, 0] 0, .c [1, 1, 0, 0, 0, 0, 1], .c [1, 1, 0, 0, 0, 1], .lp [1, 1, 0, 0, 0], .blk 0, .c [1, 1, 1]] rfl ?_
    refine j_run it 3 rfl (by simp) ?_
    refine j_split_dec (t := 8) rfl (fun h1 => by exfalso; omega) (fun h1 => ?_)
    refine j_run it 7 rfl (by simp) ?_
    refine j_nf [.c [1, 1, 0, 0, 0, 0, 1], .c [1, 1, 0, 0, 0, 1], .lp [1, 1, 0, 0, 0], .blk 0, .c [1, 1, 1]] rfl ?_
    refine j_false rfl rfl ?_
    refine j_nfn 1 [.c [1, 1, 1]] rfl ?_
    refine j_to [0] (by repeat (first | exact Fr.sub_nil _ | refine Fr.sub_cons rfl ?_ | refine Fr.sub_consI rfl (by first | omega | (dsimp only; omega)) ?_ | refine Fr.sub_consS rfl (by first | omega | (dsimp only; omega)) (by first | omega | (dsimp only; omega)) ?_)) rfl rfl (done k hk (by rw [← ht, show k = 0 by omega]; rfl))

theorem val_two' (n : Nat) : val [n % 4294967296, n / 4294967296] = n := by simp only [val]; omega

theorem S_codewrightref01_limb {pa : Option Addr} {n ca i : Nat} {l : List Nat} : Ctr Try.prog 46 [.slice pa n ca, .int .i64 i] [] [slF U32 pa n ca l] (Rv (.int .u64 (l.getD i 0 : Nat)) []) := by
  refine Ctr_of_j' (F := F_codewrightref01_limb) rfl fun C => ?_
  refine j_len 0 rfl fun hn hb hc => ?_
  subst hn
  by_cases hi : i < l.length
  · refine j_nf [.o [0] 0, .c [1]] rfl ?_
    refine j_run it 1 rfl (by simp) ?_
    refine j_nf [.o [1, 0, 0] 0, .c [1, 0, 1], .c [1, 1]] rfl ?_
    refine j_run it 2 rfl (by simp) ?_
    refine j_step rfl (x_len sl35 rfl ?_)
    refine j_run it 1 rfl (by simp) ?_
    refine j_nf [.c [1, 0, 1], .c [1, 1]] rfl ?_
    refine j_if rfl rfl (fun h1 => ?_) (fun h1 => by exfalso; omega)
    refine j_nf [.o [1, 0, 1, 0, 0] 0, .c [1, 0, 1, 0, 1], .c [1, 1]] rfl ?_
    refine j_run it 2 rfl (by simp) ?_
    refine j_step rfl (x_idx 0 (i) rfl rfl rfl sl35 rfl (by omega) fun z1 hz1 b1 o1 => ?_)
    refine j_step rfl (x_ld_nat 0 rfl rfl ld52 fun ⟨r1, r2⟩ => ?_)
    refine j_run it 2 rfl (by repeat' first | exact trivial | apply And.intro | omega) ?_
    refine j_nf [.c [1, 0, 1, 0, 1], .c [1, 1]] rfl ?_
    have e : l.getD i 0 = z1 := by rw [List.getD, hz1]; rfl
    refine j_giv [] rfl rfl rfl ⟨by rw [e]; rfl, rfl, rfl⟩
  · refine j_nf [.o [0] 0, .c [1]] rfl ?_
    refine j_run it 1 rfl (by simp) ?_
    refine j_nf [.o [1, 0, 0] 0, .c [1, 0, 1], .c [1, 1]] rfl ?_
    refine j_run it 2 rfl (by simp) ?_
    refine j_step rfl (x_len sl35 rfl ?_)
    refine j_run it 1 rfl (by simp) ?_
    refine j_nf [.c [1, 0, 1], .c [1, 1]] rfl ?_
    refine j_if rfl rfl (fun h1 => by exfalso; omega) (fun h1 => ?_)
    refine j_nf [.o [1, 1, 0] 0, .c [1, 1, 1]] rfl ?_
    refine j_run it 1 rfl (by simp) ?_
    refine j_nf [.c [1, 1, 1]] rfl ?_
    have e : l.getD i 0 = 0 := by rw [List.getD, List.getElem?_eq_none (by omega)]; rfl
    refine j_giv [] rfl rfl rfl ⟨by rw [e]; rfl, rfl, rfl⟩

theorem S_codewrightref01_Zero {pa : Option Addr} {n ca : Nat} {l : List Nat} : Ctr Try.prog 27 [.slice pa n ca] [] [slF U32 pa n ca l] (Rv (.bool (decide (((trim l).length : Int) = 0))) []) := by
  refine Ctr_of_j' (F := F_codewrightref01_Zero) rfl fun C => ?_
  refine j_nf [.o [0] 0, .c [1]] rfl ?_
  refine j_run it 1 rfl (by simp) ?_
  refine j_nf [.o [1, 0] 0, .c [1, 1]] rfl ?_
  refine j_run it 1 rfl (by simp) ?_
  refine j_step rfl (x_call [0] rfl (S_codewrightref01_Trim) rfl ?_)
  rintro _ _ _ ⟨pa1, ca1, rfl, rfl, rfl⟩
  simp only [List.cons_append, List.nil_append]
  refine j_step rfl (x_len sl35 rfl ?_)
  refine j_run it 2 rfl (by simp) ?_
  refine j_nf [.c [1, 1]] rfl ?_
  refine j_giv [] rfl rfl rfl ⟨rfl, rfl, rfl⟩

theorem take_eq_step {a b : List Nat} {k : Nat} (h : a.take k = b.take k) (ha : k < a.length) (hb : k < b.length) (e : a.getD k default = b.getD k default) : a.take (k + 1) = b.take (k + 1) := by
  rw [List.take_add_one, List.take_add_one, h, List.getElem?_eq_getElem ha, List.getElem?_eq_getElem hb]
  rw [List.getD, List.getD, List.getElem?_eq_getElem ha, List.getElem?_eq_getElem hb] at e
  simp only [Option.getD_some] at e
  rw [e]

theorem S_codewrightref01_Same {pa pb : Option Addr} {n m ca cb : Nat} {a b : List Nat} : Ctr Try.prog 26 [.slice pa n ca, .slice pb m cb] [] [slF U32 pa n ca a, slF U32 pb m cb b] (Rv (.bool (decide (a = b))) []) := by
  refine Ctr_of_j' (F := F_codewrightref01_Same) rfl fun C => ?_
  refine j_len 0 rfl fun hn hba _ => ?_
  refine j_len 1 rfl fun hm _ _ => ?_
  subst hn; subst hm
  have hba' : a.length * 4 ≤ 140737488355328 := hba
  by_cases hl : a.length = b.length
  · refine j_nf [.o [0] 0, .c [1]] rfl ?_
    refine j_run it 1 rfl (by simp) ?_
    refine j_nf [.o [1, 0, 0] 0, .c [1, 0, 1], .c [1, 1]] rfl ?_
    refine j_run it 1 rfl (by simp) ?_
    refine j_step rfl (x_len sl35 rfl ?_)
    refine j_run it 1 rfl (by simp) ?_
    refine j_step rfl (x_len sl35 rfl ?_)
    refine j_run it 1 rfl (by simp) ?_
    refine j_nf [.c [1, 0, 1], .c [1, 1]] rfl ?_
    refine j_ifn rfl rfl (fun h1 => by exfalso; omega) (fun h1 => ?_)
    refine j_nf [.o [1, 1, 0, 0] 0, .c [1, 1, 0, 1], .c [1, 1, 1]] rfl ?_
    refine j_run it 1 rfl (by simp) ?_
    refine j_nf [.c [1, 1, 0, 1, 0], .blk 0, .c [1, 1, 1]] rfl ?_
    refine j_loopN (X := Nat) (fun k => [(0, .slice pa a.length ca), (1, .slice pb b.length cb), (5, .int .i64 k)]) (fun _ => []) (fun _ => [slF U32 pa a.length ca a, slF U32 pb b.length cb b]) (fun k => k ≤ a.length ∧ a.take k = b.take k) (fun k => a.length - k) 0 [0, 1] rfl ⟨Nat.zero_le _, by simp⟩ (by repeat (first | exact Fr.sub_nil _ | refine Fr.sub_cons rfl ?_)) rfl rfl ?_
    intro k ⟨hk, ht⟩ ih
    by_cases hkl : k < a.length
    · refine j_nf [.o [1, 1, 0, 1, 0, 0, 0, 0] 0, .c [1, 1, 0, 1, 0, 0, 0, 1], .c [1, 1, 0, 1, 0, 0, 1], .lp [1, 1, 0, 1, 0, 0], .blk 0, .c [1, 1, 1]] rfl ?_
      refine j_run it 2 rfl (by simp) ?_
      refine j_step rfl (x_len sl35 rfl ?_)
      refine j_run it 1 rfl (by simp) ?_
      refine j_nf [.c [1, 1, 0, 1, 0, 0, 0, 1], .c [1, 1, 0, 1, 0, 0, 1], .lp [1, 1, 0, 1, 0, 0], .blk 0, .c [1, 1, 1]] rfl ?_
      refine j_if rfl rfl (fun h2 => ?_) (fun h2 => by exfalso; omega)
      refine j_nf [.c [1, 1, 0, 1, 0, 0, 1, 0, 0, 0], .c [1, 1, 0, 1, 0, 0, 1, 0, 0, 1], .blk 1, .c [1, 1, 0, 1, 0, 0, 1, 1], .lp [1, 1, 0, 1, 0, 0], .blk 0, .c [1, 1, 1]] rfl ?_
      (apply j_drawK it mx 9; (· rfl); (· rfl))
      (apply lxk_run 2; (· rfl); (· simp))
      (apply lxk_pt; (· rfl); (· exact d_x fun _ => x_idx 0 (k) rfl rfl rfl sl35 rfl (by omega) fun z1 hz1 b1 o1 => (dk_ptD default hz1 0 rfl)); intro b1 o1)
      (apply lxk_eq; (· rfl); (· exact d_x fun _ => x_ld_nat 0 rfl rfl ld52 fun ⟨r1, r2⟩ => dk_eq))
      (apply lxk_run 2; (· rfl); (· simp))
      (apply lxk_pt; (· rfl); (· exact d_x fun _ => x_idx 1 (k) rfl rfl rfl sl35 rfl (by omega) fun z1 hz1 b2 o2 => (dk_ptD default hz1 0 rfl)); intro b2 o2)
      (apply lxk_eq; (· rfl); (· exact d_x fun _ => x_ld_nat 0 rfl rfl ld52 fun ⟨r1, r2⟩ => dk_eq))
      (apply lxk_run 1; (· rfl); (· simp))
      refine lxk_end rfl ?_
      simp only [List.map_cons, List.map_nil, List.cons_append, List.nil_append]
      refine j_nf [.c [1, 1, 0, 1, 0, 0, 1, 0, 0, 1], .blk 1, .c [1, 1, 0, 1, 0, 0, 1, 1], .lp [1, 1, 0, 1, 0, 0], .blk 0, .c [1, 1, 1]] rfl ?_
      refine j_ifn rfl rfl (fun h3 => ?_) (fun h3 => ?_)
      · refine j_nf [.o [1, 1, 0, 1, 0, 0, 1, 0, 0, 1, 0, 0] 0, .c [1, 1, 0, 1, 0, 0, 1, 0, 0, 1, 0, 1], .blk 1, .c [1, 1, 0, 1, 0, 0, 1, 1], .lp [1, 1, 0, 1, 0, 0], .blk 0, .c [1, 1, 1]] rfl ?_
        refine j_run it 1 rfl (by simp) ?_
        refine j_nf [.c [1, 1, 0, 1, 0, 0, 1, 0, 0, 1, 0, 1], .blk 1, .c [1, 1, 0, 1, 0, 0, 1, 1], .lp [1, 1, 0, 1, 0, 0], .blk 0, .c [1, 1, 1]] rfl ?_
        refine j_giv [] rfl rfl rfl ⟨by
          rw [decide_eq_false (fun e => by subst e; omega)]; rfl, rfl, rfl⟩
      · refine j_nf [.o [1, 1, 0, 1, 0, 0, 1, 1] 0, .lp [1, 1, 0, 1, 0, 0], .blk 0, .c [1, 1, 1]] rfl ?_
        refine j_run it 3 rfl (by repeat' first | exact trivial | apply And.intro | omega) ?_
        refine j_nfn 1 [.lp [1, 1, 0, 1, 0, 0], .blk 0, .c [1, 1, 1]] rfl ?_
        refine j_to [2, 3] (by repeat (first | exact Fr.sub_nil _ | refine Fr.sub_cons rfl ?_ | refine Fr.sub_consI rfl (by first | omega | (dsimp only; omega)) ?_ | refine Fr.sub_consS rfl (by first | omega | (dsimp only; omega)) (by first | omega | (dsimp only; omega)) ?_)) rfl rfl (ih (k + 1) (by omega) ⟨by omega, take_eq_step ht hkl (by omega) (by omega)⟩)
    · refine j_nf [.o [1, 1, 0, 1, 0, 0, 0, 0] 0, .c [1, 1, 0, 1, 0, 0, 0, 1], .c [1, 1, 0, 1, 0, 0, 1], .lp [1, 1, 0, 1, 0, 0], .blk 0, .c [1, 1, 1]] rfl ?_
      refine j_run it 2 rfl (by simp) ?_
      refine j_step rfl (x_len sl35 rfl ?_)
      refine j_run it 1 rfl (by simp) ?_
      refine j_nf [.c [1, 1, 0, 1, 0, 0, 0, 1], .c [1, 1, 0, 1, 0, 0, 1], .lp [1, 1, 0, 1, 0, 0], .blk 0, .c [1, 1, 1]] rfl ?_
      refine j_if rfl rfl (fun h2 => by exfalso; omega) (fun h2 => ?_)
      refine j_nf [.o [1, 1, 1, 0] 0, .c [1, 1, 1, 1]] rfl ?_
      refine j_run it 1 rfl (by simp) ?_
      refine j_nf [.c [1, 1, 1, 1]] rfl ?_
      have e : a = b := by
        have e1 : k = a.length := by omega
        rw [e1, List.take_length, hl, List.take_length] at ht
        exact ht
      refine j_giv [] rfl rfl rfl ⟨by rw [decide_eq_true e]; rfl, rfl, rfl⟩
  · refine j_nf [.o [0] 0, .c [1]] rfl ?_
    refine j_run it 1 rfl (by simp) ?_
    refine j_nf [.o [1, 0, 0] 0, .c [1, 0, 1], .c [1, 1]] rfl ?_
    refine j_run it 1 rfl (by simp) ?_
    refine j_step rfl (x_len sl35 rfl ?_)
    refine j_run it 1 rfl (by simp) ?_
    refine j_step rfl (x_len sl35 rfl ?_)
    refine j_run it 1 rfl (by simp) ?_
    refine j_nf [.c [1, 0, 1], .c [1, 1]] rfl ?_
    refine j_ifn rfl rfl (fun h1 => ?_) (fun h1 => by exfalso; omega)
    refine j_nf [.o [1, 0, 1, 0, 0] 0, .c [1, 0, 1, 0, 1], .c [1, 1]] rfl ?_
    refine j_run it 1 rfl (by simp) ?_
    refine j_nf [.c [1, 0, 1, 0, 1], .c [1, 1]] rfl ?_
    refine j_giv [] rfl rfl rfl ⟨by rw [decide_eq_false (fun e => hl (by rw [e]))]; rfl, rfl, rfl⟩
end Go.Proofs.Ytpoonnjaobjdgaa
