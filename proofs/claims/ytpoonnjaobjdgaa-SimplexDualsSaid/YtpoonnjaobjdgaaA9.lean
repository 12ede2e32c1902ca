/-
Contracts of nat.Cmp and nat.Sub.
-/
import Derived.Test.YtpoonnjaobjdgaaFuns
import Derived.Test.YtpoonnjaobjdgaaNatMath
import Derived.Test.YtpoonnjaobjdgaaNatMath2
import Derived.Test.YtpoonnjaobjdgaaNatMath3
import Derived.Test.YtpoonnjaobjdgaaNatMath5
import Derived.Test.YtpoonnjaobjdgaaA1
import Derived.Test.YtpoonnjaobjdgaaA2
namespace Go.Proofs.Ytpoonnjaobjdgaa
open Go Go.Fw
set_option maxRecDepth 100000
set_option linter.unusedVariables false
set_option maxHeartbeats 1000000
theorem S_nat_Cmp {pa pb : Option Addr} {n m ca cb : Nat} {a b : List Nat} :
    Ctr Try.prog 33 [.slice pa n ca, .slice pb m cb] [] [slF U32 pa n ca a, slF U32 pb m cb b] (Rv (.int .i64 (cmpN (val a) (val b))) []) := by
  refine Ctr_of_j' (F := F_nat_Cmp) rfl fun C => ?_
  refine j_len 0 rfl fun hn hba _ => ?_
  refine j_len 1 rfl fun hm hbb _ => ?_
  subst hn; subst hm
  have hba' : a.length * 4 ≤ 140737488355328 := hba
  have hbb' : b.length * 4 ≤ 140737488355328 := hbb
  refine j_range 0 rfl fun hra => ?_
  refine j_range 1 rfl fun hrb => ?_
  have hra' : ∀ x ∈ a, x < 4294967296 := fun x hx => by have := hra x hx; simp only [InR] at this; omega
  have hrb' : ∀ x ∈ b, x < 4294967296 := fun x hx => by have := hrb x hx; simp only [InR] at this; omega
  have ea := trim_eq hra'
  have eb := trim_eq hrb'
  have la := trim_length_le a
  have lb := trim_length_le b
  by_cases hA : (trim a).length < (trim b).length
  · have : val a < val b := lt_of_len (by rw [← ea, ← eb]; exact hA)
    rw [cmpN_lt this]
    refine j_nf [.o [0] 0, .c [1]] rfl ?_
    refine j_run it 1 rfl (by simp) ?_
    refine j_nf [.o [1, 0] 0, .c [1, 1]] rfl ?_
    refine j_run it 1 rfl (by simp) ?_
    refine j_step rfl (x_call [0] rfl (S_nat_short) rfl ?_)
    rintro _ _ _ ⟨rfl, rfl, rfl⟩
    simp only [List.cons_append, List.nil_append]
    refine j_run it 1 rfl (by simp) ?_
    refine j_step rfl (x_call [2] rfl (S_nat_short) rfl ?_)
    rintro _ _ _ ⟨rfl, rfl, rfl⟩
    simp only [List.cons_append, List.nil_append]
    refine j_run it 2 rfl (by simp) ?_
    refine j_nf [.o [1, 1, 0, 0] 0, .c [1, 1, 0, 1], .c [1, 1, 1]] rfl ?_
    refine j_run it 1 rfl (by simp) ?_
    refine j_step rfl (x_len sl35 rfl ?_)
    refine j_run it 1 rfl (by simp) ?_
    refine j_step rfl (x_len sl35 rfl ?_)
    refine j_run it 1 rfl (by simp) ?_
    refine j_nf [.c [1, 1, 0, 1], .c [1, 1, 1]] rfl ?_
    refine j_ifn rfl rfl (fun h1 => ?_) (fun h1 => by exfalso; omega)
    refine j_nf [.o [1, 1, 0, 1, 0, 0, 0] 0, .c [1, 1, 0, 1, 0, 0, 1], .c [1, 1, 0, 1, 0, 1], .c [1, 1, 1]] rfl ?_
    refine j_run it 1 rfl (by simp) ?_
    refine j_step rfl (x_len sl35 rfl ?_)
    refine j_run it 1 rfl (by simp) ?_
    refine j_step rfl (x_len sl35 rfl ?_)
    refine j_run it 1 rfl (by simp) ?_
    refine j_nf [.c [1, 1, 0, 1, 0, 0, 1], .c [1, 1, 0, 1, 0, 1], .c [1, 1, 1]] rfl ?_
    refine j_if rfl rfl (fun h2 => ?_) (fun h2 => by exfalso; omega)
    refine j_nf [.o [1, 1, 0, 1, 0, 0, 1, 0, 0] 0, .c [1, 1, 0, 1, 0, 0, 1, 0, 1], .c [1, 1, 0, 1, 0, 1], .c [1, 1, 1]] rfl ?_
    refine j_run it 1 rfl (by simp) ?_
    refine j_nf [.c [1, 1, 0, 1, 0, 0, 1, 0, 1], .c [1, 1, 0, 1, 0, 1], .c [1, 1, 1]] rfl ?_
    refine j_giv [] rfl rfl rfl ⟨rfl, rfl, rfl⟩
  by_cases hB : (trim b).length < (trim a).length
  · have : val b < val a := lt_of_len (by rw [← ea, ← eb]; exact hB)
    rw [cmpN_gt this]
    refine j_nf [.o [0] 0, .c [1]] rfl ?_
    refine j_run it 1 rfl (by simp) ?_
    refine j_nf [.o [1, 0] 0, .c [1, 1]] rfl ?_
    refine j_run it 1 rfl (by simp) ?_
    refine j_step rfl (x_call [0] rfl (S_nat_short) rfl ?_)
    rintro _ _ _ ⟨rfl, rfl, rfl⟩
    simp only [List.cons_append, List.nil_append]
    refine j_run it 1 rfl (by simp) ?_
    refine j_step rfl (x_call [2] rfl (S_nat_short) rfl ?_)
    rintro _ _ _ ⟨rfl, rfl, rfl⟩
    simp only [List.cons_append, List.nil_append]
    refine j_run it 2 rfl (by simp) ?_
    refine j_nf [.o [1, 1, 0, 0] 0, .c [1, 1, 0, 1], .c [1, 1, 1]] rfl ?_
    refine j_run it 1 rfl (by simp) ?_
    refine j_step rfl (x_len sl35 rfl ?_)
    refine j_run it 1 rfl (by simp) ?_
    refine j_step rfl (x_len sl35 rfl ?_)
    refine j_run it 1 rfl (by simp) ?_
    refine j_nf [.c [1, 1, 0, 1], .c [1, 1, 1]] rfl ?_
    refine j_ifn rfl rfl (fun h1 => ?_) (fun h1 => by exfalso; omega)
    refine j_nf [.o [1, 1, 0, 1, 0, 0, 0] 0, .c [1, 1, 0, 1, 0, 0, 1], .c [1, 1, 0, 1, 0, 1], .c [1, 1, 1]] rfl ?_
    refine j_run it 1 rfl (by simp) ?_
    refine j_step rfl (x_len sl35 rfl ?_)
    refine j_run it 1 rfl (by simp) ?_
    refine j_step rfl (x_len sl35 rfl ?_)
    refine j_run it 1 rfl (by simp) ?_
    refine j_nf [.c [1, 1, 0, 1, 0, 0, 1], .c [1, 1, 0, 1, 0, 1], .c [1, 1, 1]] rfl ?_
    refine j_if rfl rfl (fun h2 => by exfalso; omega) (fun h2 => ?_)
    refine j_nf [.o [1, 1, 0, 1, 0, 1, 0] 0, .c [1, 1, 0, 1, 0, 1, 1], .c [1, 1, 1]] rfl ?_
    refine j_run it 1 rfl (by simp) ?_
    refine j_nf [.c [1, 1, 0, 1, 0, 1, 1], .c [1, 1, 1]] rfl ?_
    refine j_giv [] rfl rfl rfl ⟨rfl, rfl, rfl⟩
  have hta : ∀ x ∈ trim a, x < 4294967296 := fun x hx => hra' x (mem_trim hx)
  have htb : ∀ x ∈ trim b, x < 4294967296 := fun x hx => hrb' x (mem_trim hx)
  have va : val (trim a) = val a := val_trim a
  have vb : val (trim b) = val b := val_trim b
  refine j_nf [.o [0] 0, .c [1]] rfl ?_
  refine j_run it 1 rfl (by simp) ?_
  refine j_nf [.o [1, 0] 0, .c [1, 1]] rfl ?_
  refine j_run it 1 rfl (by simp) ?_
  refine j_step rfl (x_call [0] rfl (S_nat_short) rfl ?_)
  rintro _ _ _ ⟨rfl, rfl, rfl⟩
  simp only [List.cons_append, List.nil_append]
  refine j_run it 1 rfl (by simp) ?_
  refine j_step rfl (x_call [2] rfl (S_nat_short) rfl ?_)
  rintro _ _ _ ⟨rfl, rfl, rfl⟩
  simp only [List.cons_append, List.nil_append]
  refine j_run it 2 rfl (by simp) ?_
  refine j_nf [.o [1, 1, 0, 0] 0, .c [1, 1, 0, 1], .c [1, 1, 1]] rfl ?_
  refine j_run it 1 rfl (by simp) ?_
  refine j_step rfl (x_len sl35 rfl ?_)
  refine j_run it 1 rfl (by simp) ?_
  refine j_step rfl (x_len sl35 rfl ?_)
  refine j_run it 1 rfl (by simp) ?_
  refine j_nf [.c [1, 1, 0, 1], .c [1, 1, 1]] rfl ?_
  refine j_ifn rfl rfl (fun h1 => by exfalso; omega) (fun h1 => ?_)
  refine j_nf [.o [1, 1, 1, 0, 0] 0, .c [1, 1, 1, 0, 1], .c [1, 1, 1, 1]] rfl ?_
  refine j_run it 1 rfl (by simp) ?_
  refine j_step rfl (x_len sl35 rfl ?_)
  refine j_run it 2 rfl (by repeat' first | exact trivial | apply And.intro | omega) ?_
  refine j_nf [.c [1, 1, 1, 0, 1, 0], .blk 0, .c [1, 1, 1, 1]] rfl ?_
  refine j_loopG (X := Nat) [0, 1] [0, 1, 2, 3] (fun k => [(5, .int .i64 ((k : Int) - 1))]) (fun _ => []) (fun _ => []) (fun k => k ≤ (trim a).length ∧ (trim a).drop k = (trim b).drop k) (fun k => k) (trim a).length [] rfl rfl rfl ⟨Nat.le_refl _, by rw [List.drop_length, List.drop_of_length_le (by omega)]⟩ (by repeat (first | exact Fr.sub_nil _ | refine Fr.sub_cons rfl ?_)) rfl rfl ?_
  intro k ⟨hk, hd⟩ ih
  simp only [List.cons_append, List.nil_append] at ih ⊢
  by_cases hkl : 0 < k
  · obtain ⟨j, rfl⟩ : ∃ j, k = j + 1 := ⟨k - 1, by omega⟩
    have hx := get_some (l := trim a) (i := j) (dflt := default) (by omega)
    have hy := get_some (l := trim b) (i := j) (dflt := default) (by omega)
    generalize hgx : (trim a).getD j default = x at hx
    generalize hgy : (trim b).getD j default = y at hy
    rw [show (((j + 1 : Nat) : Int) - 1) = (j : Int) by omega]
    refine j_nf [.o [1, 1, 1, 0, 1, 0, 0, 0, 0] 0, .c [1, 1, 1, 0, 1, 0, 0, 0, 1], .c [1, 1, 1, 0, 1, 0, 0, 1], .lp [1, 1, 1, 0, 1, 0, 0], .blk 0, .c [1, 1, 1, 1]] rfl ?_
    refine j_run it 2 rfl (by simp) ?_
    refine j_nf [.c [1, 1, 1, 0, 1, 0, 0, 0, 1], .c [1, 1, 1, 0, 1, 0, 0, 1], .lp [1, 1, 1, 0, 1, 0, 0], .blk 0, .c [1, 1, 1, 1]] rfl ?_
    refine j_if rfl rfl (fun h2 => ?_) (fun h2 => by exfalso; omega)
    refine j_nf [.c [1, 1, 1, 0, 1, 0, 0, 1, 0, 0, 0, 0], .c [1, 1, 1, 0, 1, 0, 0, 1, 0, 0, 0, 1], .c [1, 1, 1, 0, 1, 0, 0, 1, 0, 0, 1], .blk 1, .c [1, 1, 1, 0, 1, 0, 0, 1, 1], .lp [1, 1, 1, 0, 1, 0, 0], .blk 0, .c [1, 1, 1, 1]] rfl ?_
    (apply j_drawK it mx 9; (· rfl); (· rfl))
    (apply lxk_run 2; (· rfl); (· simp))
    (apply lxk_pt; (· rfl); (· exact d_x fun _ => x_idx 1 (j) rfl rfl rfl sl35 rfl (by omega) fun z1 hz1 b1 o1 => (dk_ptD default hz1 0 rfl)); intro b1 o1)
    (apply lxk_eq; (· rfl); (· exact d_x fun _ => x_ld_nat 0 rfl rfl ld52 fun ⟨r1, r2⟩ => dk_eq))
    (apply lxk_run 2; (· rfl); (· simp))
    (apply lxk_pt; (· rfl); (· exact d_x fun _ => x_idx 0 (j) rfl rfl rfl sl35 rfl (by omega) fun z1 hz1 b2 o2 => (dk_ptD default hz1 0 rfl)); intro b2 o2)
    (apply lxk_eq; (· rfl); (· exact d_x fun _ => x_ld_nat 0 rfl rfl ld52 fun ⟨r1, r2⟩ => dk_eq))
    (apply lxk_run 1; (· rfl); (· simp))
    refine lxk_end rfl ?_
    simp only [List.map_cons, List.map_nil, List.cons_append, List.nil_append]
    refine j_nf [.c [1, 1, 1, 0, 1, 0, 0, 1, 0, 0, 0, 1], .c [1, 1, 1, 0, 1, 0, 0, 1, 0, 0, 1], .blk 1, .c [1, 1, 1, 0, 1, 0, 0, 1, 1], .lp [1, 1, 1, 0, 1, 0, 0], .blk 0, .c [1, 1, 1, 1]] rfl ?_
    refine j_if rfl rfl (fun h3 => ?_) (fun h3 => ?_)
    · rw [hgx, hgy] at h3
      have : val a < val b := by rw [← va, ← vb]; exact lt_of_top hta (by rw [hd]) hx hy (by omega)
      rw [cmpN_lt this]
      refine j_nf [.o [1, 1, 1, 0, 1, 0, 0, 1, 0, 0, 0, 1, 0, 0] 0, .c [1, 1, 1, 0, 1, 0, 0, 1, 0, 0, 0, 1, 0, 1], .c [1, 1, 1, 0, 1, 0, 0, 1, 0, 0, 1], .blk 1, .c [1, 1, 1, 0, 1, 0, 0, 1, 1], .lp [1, 1, 1, 0, 1, 0, 0], .blk 0, .c [1, 1, 1, 1]] rfl ?_
      refine j_run it 1 rfl (by simp) ?_
      refine j_nf [.c [1, 1, 1, 0, 1, 0, 0, 1, 0, 0, 0, 1, 0, 1], .c [1, 1, 1, 0, 1, 0, 0, 1, 0, 0, 1], .blk 1, .c [1, 1, 1, 0, 1, 0, 0, 1, 1], .lp [1, 1, 1, 0, 1, 0, 0], .blk 0, .c [1, 1, 1, 1]] rfl ?_
      refine j_giv [] rfl rfl rfl ⟨rfl, rfl, rfl⟩
    · refine j_nf [.c [1, 1, 1, 0, 1, 0, 0, 1, 0, 0, 1, 0], .c [1, 1, 1, 0, 1, 0, 0, 1, 0, 0, 1, 1], .blk 1, .c [1, 1, 1, 0, 1, 0, 0, 1, 1], .lp [1, 1, 1, 0, 1, 0, 0], .blk 0, .c [1, 1, 1, 1]] rfl ?_
      (apply j_drawK it mx 9; (· rfl); (· rfl))
      (apply lxk_run 2; (· rfl); (· simp))
      (apply lxk_pt; (· rfl); (· exact d_x fun _ => x_idx 3 (j) rfl rfl rfl sl35 rfl (by omega) fun z1 hz1 b3 o3 => (dk_ptD default hz1 0 rfl)); intro b3 o3)
      (apply lxk_eq; (· rfl); (· exact d_x fun _ => x_ld_nat 0 rfl rfl ld52 fun ⟨r1, r2⟩ => dk_eq))
      (apply lxk_run 2; (· rfl); (· simp))
      (apply lxk_pt; (· rfl); (· exact d_x fun _ => x_idx 2 (j) rfl rfl rfl sl35 rfl (by omega) fun z1 hz1 b4 o4 => (dk_ptD default hz1 0 rfl)); intro b4 o4)
      (apply lxk_eq; (· rfl); (· exact d_x fun _ => x_ld_nat 0 rfl rfl ld52 fun ⟨r1, r2⟩ => dk_eq))
      (apply lxk_run 1; (· rfl); (· simp))
      refine lxk_end rfl ?_
      simp only [List.map_cons, List.map_nil, List.cons_append, List.nil_append]
      refine j_nf [.c [1, 1, 1, 0, 1, 0, 0, 1, 0, 0, 1, 1], .blk 1, .c [1, 1, 1, 0, 1, 0, 0, 1, 1], .lp [1, 1, 1, 0, 1, 0, 0], .blk 0, .c [1, 1, 1, 1]] rfl ?_
      refine j_if rfl rfl (fun h4 => ?_) (fun h4 => ?_)
      · rw [hgx, hgy] at h4
        have : val b < val a := by rw [← va, ← vb]; exact lt_of_top htb (by rw [hd]) hy hx (by omega)
        rw [cmpN_gt this]
        refine j_nf [.o [1, 1, 1, 0, 1, 0, 0, 1, 0, 0, 1, 1, 0, 0] 0, .c [1, 1, 1, 0, 1, 0, 0, 1, 0, 0, 1, 1, 0, 1], .blk 1, .c [1, 1, 1, 0, 1, 0, 0, 1, 1], .lp [1, 1, 1, 0, 1, 0, 0], .blk 0, .c [1, 1, 1, 1]] rfl ?_
        refine j_run it 1 rfl (by simp) ?_
        refine j_nf [.c [1, 1, 1, 0, 1, 0, 0, 1, 0, 0, 1, 1, 0, 1], .blk 1, .c [1, 1, 1, 0, 1, 0, 0, 1, 1], .lp [1, 1, 1, 0, 1, 0, 0], .blk 0, .c [1, 1, 1, 1]] rfl ?_
        refine j_giv [] rfl rfl rfl ⟨rfl, rfl, rfl⟩
      · rw [hgx, hgy] at h3 h4
        have hxy : x = y := by omega
        subst hxy
        refine j_nf [.o [1, 1, 1, 0, 1, 0, 0, 1, 1] 0, .lp [1, 1, 1, 0, 1, 0, 0], .blk 0, .c [1, 1, 1, 1]] rfl ?_
        refine j_run it 3 rfl (by repeat' first | exact trivial | apply And.intro | omega) ?_
        refine j_nfn 1 [.lp [1, 1, 1, 0, 1, 0, 0], .blk 0, .c [1, 1, 1, 1]] rfl ?_
        refine j_to [4, 5, 6, 7] (by repeat (first | exact Fr.sub_nil _ | refine Fr.sub_cons rfl ?_ | refine Fr.sub_consI rfl (by first | omega | (dsimp only; omega)) ?_ | refine Fr.sub_consS rfl (by first | omega | (dsimp only; omega)) (by first | omega | (dsimp only; omega)) ?_)) rfl rfl (ih j (by omega) ⟨by omega, drop_step hd hx hy⟩)
  · have e0 : k = 0 := by omega
    subst e0
    have e : trim a = trim b := by simpa using hd
    rw [cmpN_eq (by rw [← va, ← vb, e])]
    refine j_nf [.o [1, 1, 1, 0, 1, 0, 0, 0, 0] 0, .c [1, 1, 1, 0, 1, 0, 0, 0, 1], .c [1, 1, 1, 0, 1, 0, 0, 1], .lp [1, 1, 1, 0, 1, 0, 0], .blk 0, .c [1, 1, 1, 1]] rfl ?_
    refine j_run it 2 rfl (by simp) ?_
    refine j_nf [.c [1, 1, 1, 0, 1, 0, 0, 0, 1], .c [1, 1, 1, 0, 1, 0, 0, 1], .lp [1, 1, 1, 0, 1, 0, 0], .blk 0, .c [1, 1, 1, 1]] rfl ?_
    refine j_if rfl rfl (fun h2 => by exfalso; omega) (fun h2 => ?_)
    refine j_nf [.o [1, 1, 1, 1, 0] 0, .c [1, 1, 1, 1, 1]] rfl ?_
    refine j_run it 1 rfl (by simp) ?_
    refine j_nf [.c [1, 1, 1, 1, 1]] rfl ?_
    refine j_giv [] rfl rfl rfl ⟨rfl, rfl, rfl⟩
end Go.Proofs.Ytpoonnjaobjdgaa
