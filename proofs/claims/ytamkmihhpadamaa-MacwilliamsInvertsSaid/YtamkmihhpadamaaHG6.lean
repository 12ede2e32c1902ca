/-
The program's Transform. The document's Transform; the program's with its errors; the law's large. The frame's last text: from a contract of a law to the given statement: arguments are opened, and read the same afterwards.
-/
import Derived.SizedLaws
import Derived.OpenShut
import Derived.ChangeOld
import Derived.Carry
import Derived.ChangeArms
import Derived.Deep.Slices
import Derived.Test.YtamkmihhpadamaaHG5
set_option linter.unusedVariables false
set_option linter.unusedSimpArgs false

namespace Go.Proofs.Ytamkmihhpadamaa
open Go Go.Fw
set_option maxRecDepth 100000
set_option linter.unusedVariables false
set_option linter.unusedSimpArgs false
set_option maxHeartbeats 4000000
/-- A row of that length that reads so, and an error. -/
abbrev SvE {α : Type} (E : Enc α) (n : Nat) (l : List α) (e : Int) : Value → List Fact → List Blk → Prop := fun v Φ β => ∃ pa ca, v = .tuple #[.slice pa n ca, .int .i64 e] ∧ Φ = [slF E pa n ca l] ∧ β = []

/-- The transform, in canonical form. -/
def trL (q n : Nat) (L : List Rt) : List Rt := (List.range (n + 1)).map fun j => rt (trP L (fun i => kr ((q : Int) - 1) n j i) (n + 1))

theorem S_macwilliams_Transform {q n K : Nat} {pa : Option Addr} {ca : Nat} {L : List Rt} (hq : 2 ≤ q) (hq2 : q ≤ 256) (hn : n ≤ 64) (hl : L.length = n + 1) (hK1 : 1 ≤ K) (hK : K ≤ 10000) (hL : ∀ r ∈ L, okR K r) :
    Ctr Try.prog 27 [.int .i64 q, .slice pa (n + 1) ca] [] [slF RatE pa (n + 1) ca L] (SvE RatE (n + 1) (trL q n L) 0) := by
  refine Ctr_of_j' (F := F_macwilliams_Transform) rfl fun C => ?_
  have hw : wrongOf (q : Int) (n + 1) = 0 := by rw [wrongOf, if_neg (by omega), shapeOf, if_neg (by omega)]
  have hg : ∀ i, i < n + 1 → okR K (L.getD i default) := fun i hi => hL _ (by rw [List.getD, List.getElem?_eq_getElem (by omega)]; exact List.getElem_mem _)
  have hb : ∀ i, i < n + 1 → bd K (qAt L i) := fun i hi => okR_bd (hg i hi) hK1
  refine j_nf [.o [0] 0, .c [1]] rfl ?_
  refine j_run it 2 rfl (by simp) ?_
  refine j_nf [.o [1, 0, 0] 0, .c [1, 0, 1], .c [1, 1]] rfl ?_
  refine j_run it 2 rfl (by simp) ?_
  refine j_step rfl (x_len sl44 rfl ?_)
  refine j_step rfl (x_call [] rfl (S_macwilliams_wrong) rfl ?_)
  rintro _ _ _ ⟨rfl, rfl, rfl⟩
  simp only [List.cons_append, List.nil_append]
  refine j_run it 1 rfl (by simp) ?_
  refine j_nf [.o [1, 0, 1, 0] 0, .c [1, 0, 1, 1], .c [1, 1]] rfl ?_
  refine j_run it 2 rfl (by simp) ?_
  refine j_nf [.c [1, 0, 1, 1], .c [1, 1]] rfl ?_
  refine j_ifn rfl rfl (fun h1 => by exfalso; omega) (fun h1 => ?_)
  refine j_nf [.o [1, 1, 0] 0, .c [1, 1, 1]] rfl ?_
  refine j_step rfl (x_lit sl23 zo23e rfl rfl rfl rfl (by decide) (by decide) rfl fun b1 => ?_)
  refine j_run it 1 rfl (by simp) ?_
  refine j_nf [.o [1, 1, 1, 0] 0, .c [1, 1, 1, 1]] rfl ?_
  refine j_run it 1 rfl (by simp) ?_
  refine j_nf [.o [1, 1, 1, 1, 0, 0] 0, .c [1, 1, 1, 1, 0, 1], .c [1, 1, 1, 1, 1]] rfl ?_
  refine j_run it 1 rfl (by simp) ?_
  refine j_step rfl (x_len sl44 rfl ?_)
  refine j_run it 1 rfl (by simp) ?_
  refine j_nf [.c [1, 1, 1, 1, 0, 1, 0], .blk 0, .c [1, 1, 1, 1, 1]] rfl ?_
  refine j_pub_made (n := 1) (kd := .u32) 4 [1] 0 rfl rfl (by simp [InR]) (by decide) (by decide) ?_
  have el : limbs (lcmP L 0) = [1] := limbs_one
  refine j_add (slF U32 (some ⟨b1, 0, none⟩) (limbs (lcmP L 0)).length 1 (limbs (lcmP L 0))) (fun w A hG => by rw [el]; exact hG _ (fact_mem (n := 0) rfl)) ?_
  refine j_row0 RatE 25 ?_
  refine j_loopG (X := Nat × (Option Addr × Nat) × Row) [0, 4, 5, 31, 32] [3] (fun x => [(33, .int .i64 x.1), (7, .slice x.2.1.1 (limbs (lcmP L x.1)).length x.2.1.2), (8, .slice (ad x.2.2.bo) x.1 x.2.2.cap)])
    (fun x => [(x.2.2.bo, 25, x.2.2.cs)])
    (fun x => [rowF RatE x.2.2 x.1 ((List.range x.1).map fun k => rt (qAt L k)), slF U32 x.2.1.1 (limbs (lcmP L x.1)).length x.2.1.2 (limbs (lcmP L x.1))])
    (fun x => x.1 ≤ n + 1) (fun x => n + 1 - x.1) (0, (some ⟨b1, 0, none⟩, 1), ⟨none, 0, []⟩) [0, 1] rfl rfl rfl (Nat.zero_le _) (by
      rw [show (limbs (lcmP L (0, ((some ⟨b1, 0, none⟩ : Option Addr), 1), (⟨none, 0, []⟩ : Row)).1)).length = 1 by rw [show limbs (lcmP L (0, ((some ⟨b1, 0, none⟩ : Option Addr), 1), (⟨none, 0, []⟩ : Row)).1) = [1] from el]; rfl]
      repeat (first | exact Fr.sub_nil _ | refine Fr.sub_cons rfl ?_)) rfl rfl ?_
  rintro ⟨i, ⟨pd, cd⟩, r⟩ hi ih
  simp only [List.cons_append, List.nil_append] at hi ih ⊢
  by_cases hil : i < n + 1
  · refine j_nf [.o [1, 1, 1, 1, 0, 1, 0, 0, 0] 0, .c [1, 1, 1, 1, 0, 1, 0, 0, 1], .lp [1, 1, 1, 1, 0, 1, 0, 0], .blk 0, .c [1, 1, 1, 1, 1]] rfl ?_
    refine j_run it 1 rfl (by simp) ?_
    refine j_nf [.c [1, 1, 1, 1, 0, 1, 0, 0, 1, 0], .c [1, 1, 1, 1, 0, 1, 0, 0, 1, 1], .lp [1, 1, 1, 1, 0, 1, 0, 0], .blk 0, .c [1, 1, 1, 1, 1]] rfl ?_
    refine j_if rfl rfl (fun h2 => ?_) (fun h2 => by exfalso; omega)
    refine j_nf [.o [1, 1, 1, 1, 0, 1, 0, 0, 1, 1, 0, 0, 0] 0, .c [1, 1, 1, 1, 0, 1, 0, 0, 1, 1, 0, 0, 1], .blk 1, .c [1, 1, 1, 1, 0, 1, 0, 0, 1, 1, 1], .lp [1, 1, 1, 1, 0, 1, 0, 0], .blk 0, .c [1, 1, 1, 1, 1]] rfl ?_
    refine j_step rfl (x_idx 2 (i) rfl rfl rfl sl44 rfl (by omega) fun z1 hz1 b2 o1 => ?_)
    refine j_step rfl (x_ld_rt 0 rfl rfl ld25 fun pa1 ca1 pa2 ca2 => ?_)
    refine j_step rfl (x_alloc zo25 fun b3 => ?_)
    refine j_step rfl (x_bst_all 0 rfl rfl rfl ld25 rfl rfl (by simp [Value.oneCell']) ?_)
    refine j_nf [.o [1, 1, 1, 1, 0, 1, 0, 0, 1, 1, 0, 0, 1, 0] 0, .c [1, 1, 1, 1, 0, 1, 0, 0, 1, 1, 0, 0, 1, 1], .blk 1, .c [1, 1, 1, 1, 0, 1, 0, 0, 1, 1, 1], .lp [1, 1, 1, 1, 0, 1, 0, 0], .blk 0, .c [1, 1, 1, 1, 1]] rfl ?_
    refine j_step rfl (x_bld_all 0 rfl rfl ld25 rfl ?_) --ok
    have hz : L.getD i default = z1 := by rw [List.getD, hz1]; rfl
    obtain ⟨o1, o2, o3, o4⟩ := hg i hil
    rw [hz] at o1 o2 o3 o4
    have eq : vq (z1.1, z1.2.1, z1.2.2) = qAt L i := by rw [qAt, hz]
    refine j_step rfl (x_call [0, 1] rfl (S_rational_Trim (by first | omega | exact side _ (by assumption) | assumption | rfl | (simp; done) | (simp; omega)) (by first | omega | exact side _ (by assumption) | assumption | rfl | (simp; done) | (simp; omega))) rfl ?_)
    rintro _ _ _ ⟨pn1, cn1, pd1, cd1, rfl, rfl, rfl⟩
    simp only [List.cons_append, List.nil_append]
    refine j_step rfl (x_bst_all 0 rfl rfl rfl ld25 rfl rfl (by simp [Value.oneCell']) ?_)
    rw [eq]
    obtain ⟨m1, m2⟩ := bd_len (hb i hil)
    have hKi : K * i ≤ 10000 * 65 := Nat.mul_le_mul hK (by omega)
    have m3 : (limbs (lcmP L i)).length ≤ K * i + 1 := limbs_length_le (lcmP_lt fun j hj => (hb j (by omega)).2)
    have hg0 : val (limbs (Nat.gcd (val (rt (qAt L i)).2.2) (val (limbs (lcmP L i))))) ≠ 0 := by
      rw [val_limbs, val_limbs]
      exact Nat.ne_of_gt (Nat.gcd_pos_of_pos_right _ (lcmP_pos L i))
    have m4 : (limbs (val (rt (qAt L i)).2.2 / val (limbs (Nat.gcd (val (rt (qAt L i)).2.2) (val (limbs (lcmP L i))))))).length ≤ K := by
      refine limbs_length_le (Nat.lt_of_le_of_lt (Nat.div_le_self _ _) ?_)
      rw [den_rt]; exact (hb i hil).2
    have m5 : lenS [limbs (lcmP L i), limbs (val (rt (qAt L i)).2.2 / val (limbs (Nat.gcd (val (rt (qAt L i)).2.2) (val (limbs (lcmP L i))))))] ≤ 1073741824 := by simp [lenS]; omega
    have eD : limbs (prodV [limbs (lcmP L i), limbs (val (rt (qAt L i)).2.2 / val (limbs (Nat.gcd (val (rt (qAt L i)).2.2) (val (limbs (lcmP L i))))))]) = limbs (lcmP L (i + 1)) := by
      simp [prodV, val_limbs, lcmP, den_rt]
    refine j_nf [.o [1, 1, 1, 1, 0, 1, 0, 0, 1, 1, 0, 0, 1, 1, 0] 0, .c [1, 1, 1, 1, 0, 1, 0, 0, 1, 1, 0, 0, 1, 1, 1], .blk 1, .c [1, 1, 1, 1, 0, 1, 0, 0, 1, 1, 1], .lp [1, 1, 1, 1, 0, 1, 0, 0], .blk 0, .c [1, 1, 1, 1, 1]] rfl ?_
    refine j_run it 1 rfl (by simp) ?_
    refine j_step rfl (x_bld_all 0 rfl rfl ld25 rfl ?_)
    refine j_step rfl (x_lit sl44 zo44e rfl rfl rfl rfl (by decide) (by decide) rfl fun b4 => ?_)
    refine j_step rfl (x_appR (z := ((rt (qAt L i)).fst, ((rt (qAt L i)).snd.fst, (rt (qAt L i)).snd.snd))) 2 0 5 rfl rfl rfl rfl rfl sl44 zo44e rfl (fun w A hG => (rd_pair (v1 := [Value.bool (rt (qAt L i)).fst]) (rd_bool _) (rd_pair (v1 := [Value.slice pn1 (rt (qAt L i)).snd.fst.length cn1]) (rd_of_slF (hG _ (fact_mem (n := 0) rfl))) (rd_of_slF (hG _ (fact_mem (n := 1) rfl)))))) (by omega) _ by44e (by omega) fun r1 => ?_)
    refine j_run it 1 rfl (by simp) ?_
    refine j_nf [.c [1, 1, 1, 1, 0, 1, 0, 0, 1, 1, 0, 0, 1, 1, 1, 0], .c [1, 1, 1, 1, 0, 1, 0, 0, 1, 1, 0, 0, 1, 1, 1, 1], .blk 1, .c [1, 1, 1, 1, 0, 1, 0, 0, 1, 1, 1], .lp [1, 1, 1, 1, 0, 1, 0, 0], .blk 0, .c [1, 1, 1, 1, 1]] rfl ?_
    (apply j_drawK it mx 13; (· rfl); (· rfl))
    (apply lxk_eq; (· rfl); (· exact d_x fun _ => x_field rfl fd25_2 dk_eq))
    (apply lxk_eq; (· rfl); (· exact d_bld 2 rfl rfl ld23 rfl))
    (apply lxk_eq; (· rfl); (· exact d_x fun _ => x_field rfl fd25_2 dk_eq))
    (apply lxk_eq; (· rfl); (· exact d_bld 2 rfl rfl ld23 rfl))
    (apply lxk_run 1; (· rfl); (· simp))
    (apply lxk_sl; (· rfl); (· exact d_x fun _ => x_call [2, 7] rfl (S_nat_Gcd (by first | omega | exact side _ (by assumption) | assumption | rfl | (simp; done) | (simp; omega)) (by first | omega | exact side _ (by assumption) | assumption | rfl | (simp; done) | (simp; omega))) rfl (by rintro _ _ _ ⟨pa3, ca3, rfl, rfl, rfl⟩; exact (dk_sl 0 rfl))); intro pa3 ca3)
    (apply lxk_fa (val := (fun g => Value.tuple #[Value.slice (g 0).fst (limbs (val (rt (qAt L i)).snd.snd / val (limbs ((val (rt (qAt L i)).snd.snd).gcd (val (limbs (lcmP L i))))))).length (g 1).snd.fst, Value.slice (g 2).fst (limbs (val (rt (qAt L i)).snd.snd % val (limbs ((val (rt (qAt L i)).snd.snd).gcd (val (limbs (lcmP L i))))))).length (g 3).snd.fst, Value.int IntKind.i64 0])) (f := (fun g => [slF U32 (g 0).fst (limbs (val (rt (qAt L i)).snd.snd / val (limbs ((val (rt (qAt L i)).snd.snd).gcd (val (limbs (lcmP L i))))))).length (g 1).snd.fst (limbs (val (rt (qAt L i)).snd.snd / val (limbs ((val (rt (qAt L i)).snd.snd).gcd (val (limbs (lcmP L i))))))), slF U32 (g 2).fst (limbs (val (rt (qAt L i)).snd.snd % val (limbs ((val (rt (qAt L i)).snd.snd).gcd (val (limbs (lcmP L i))))))).length (g 3).snd.fst (limbs (val (rt (qAt L i)).snd.snd % val (limbs ((val (rt (qAt L i)).snd.snd).gcd (val (limbs (lcmP L i)))))))])); (· rfl); (· exact d_x fun _ => x_call [3, 0] rfl (S_nat_DivMod (by first | omega | exact side _ (by assumption) | assumption | rfl | (simp; done) | (simp; omega)) (by first | omega | exact side _ (by assumption) | assumption | rfl | (simp; done) | (simp; omega))) rfl (by rintro _ _ _ ⟨p1g0, c1g1, p2g2, c2g3, rfl, rfl, rfl⟩; exact fun _ _ _ hG => ⟨(fun | 0 => (p1g0, 0, 0) | 1 => (none, c1g1, 0) | 2 => (p2g2, 0, 0) | 3 => (none, c2g3, 0) | _ => default), rfl, fun g hg => drop_own (hG _ (List.mem_append_left _ hg))⟩)); intro g1; dsimp only [List.map_cons, List.map_nil])
    (apply lxk_fa (val := fun g => Value.tuple #[Value.slice (g 0).1 ((limbs (val (rt (qAt L i)).snd.snd / val (limbs ((val (rt (qAt L i)).snd.snd).gcd (val (limbs (lcmP L i))))))).length) (g 0).2.1, Value.slice (g 1).1 ((limbs (val (rt (qAt L i)).snd.snd % val (limbs ((val (rt (qAt L i)).snd.snd).gcd (val (limbs (lcmP L i))))))).length) (g 1).2.1, Value.int IntKind.i64 0]) (f := fun g => [slF (U32) (g 0).1 ((limbs (val (rt (qAt L i)).snd.snd / val (limbs ((val (rt (qAt L i)).snd.snd).gcd (val (limbs (lcmP L i))))))).length) (g 0).2.1 (limbs (val (rt (qAt L i)).snd.snd / val (limbs ((val (rt (qAt L i)).snd.snd).gcd (val (limbs (lcmP L i))))))), slF (U32) (g 1).1 ((limbs (val (rt (qAt L i)).snd.snd % val (limbs ((val (rt (qAt L i)).snd.snd).gcd (val (limbs (lcmP L i))))))).length) (g 1).2.1 (limbs (val (rt (qAt L i)).snd.snd % val (limbs ((val (rt (qAt L i)).snd.snd).gcd (val (limbs (lcmP L i)))))))]); (· rfl); (· exact d_x fun _ => x_pv it rfl (by trivial) (fun _ _ _ hG => ⟨(fun | 0 => ((g1 0).fst, (g1 1).snd.fst, 0) | 1 => ((g1 2).fst, (g1 3).snd.fst, 0) | _ => default), rfl, fun g hg => by (simp only [List.mem_cons, List.not_mem_nil, or_false] at hg; rcases hg with rfl | rfl; (· exact drop_own (hG _ (fact_mem (n := 0) rfl))); (· exact drop_own (hG _ (fact_mem (n := 1) rfl))))⟩)); intro g2; dsimp only [List.map_cons, List.map_nil, List.cons_append, List.nil_append])
    (apply lxk_fa (val := fun g => Value.slice (g 0).1 ((limbs (val (rt (qAt L i)).snd.snd / val (limbs ((val (rt (qAt L i)).snd.snd).gcd (val (limbs (lcmP L i))))))).length) (g 0).2.1) (f := fun g => [slF (U32) (g 0).1 ((limbs (val (rt (qAt L i)).snd.snd / val (limbs ((val (rt (qAt L i)).snd.snd).gcd (val (limbs (lcmP L i))))))).length) (g 0).2.1 (limbs (val (rt (qAt L i)).snd.snd / val (limbs ((val (rt (qAt L i)).snd.snd).gcd (val (limbs (lcmP L i)))))))]); (· rfl); (· exact d_x fun _ => x_pv it rfl (by trivial) (fun _ _ _ hG => ⟨(fun | 0 => ((g2 0).fst, (g2 0).snd.fst, 0) | _ => default), rfl, fun g hg => by (simp only [List.mem_cons, List.not_mem_nil, or_false] at hg; rcases hg with rfl; (· exact drop_own (hG _ (fact_mem (n := 0) rfl))))⟩)); intro g3; dsimp only [List.map_cons, List.map_nil, List.cons_append, List.nil_append])
    (apply lxk_fa (val := fun g => Value.slice (g 0).1 ((limbs (val (rt (qAt L i)).snd.snd % val (limbs ((val (rt (qAt L i)).snd.snd).gcd (val (limbs (lcmP L i))))))).length) (g 0).2.1) (f := fun g => [slF (U32) (g 0).1 ((limbs (val (rt (qAt L i)).snd.snd % val (limbs ((val (rt (qAt L i)).snd.snd).gcd (val (limbs (lcmP L i))))))).length) (g 0).2.1 (limbs (val (rt (qAt L i)).snd.snd % val (limbs ((val (rt (qAt L i)).snd.snd).gcd (val (limbs (lcmP L i)))))))]); (· rfl); (· exact d_x fun _ => x_pv it rfl (by trivial) (fun _ _ _ hG => ⟨(fun | 0 => ((g2 1).fst, (g2 1).snd.fst, 0) | _ => default), rfl, fun g hg => by (simp only [List.mem_cons, List.not_mem_nil, or_false] at hg; rcases hg with rfl; (· exact drop_own (hG _ (fact_mem (n := 1) rfl))))⟩)); intro g4; dsimp only [List.map_cons, List.map_nil, List.cons_append, List.nil_append])
    (apply lxk_fa (val := fun g => Value.int IntKind.i64 0) (f := fun g => []); (· rfl); (· exact d_x fun _ => x_pv it rfl (by trivial) (fun _ _ _ hG => ⟨(fun | _ => default), rfl, fun g hg => by cases hg⟩)); intro g5; dsimp only [List.map_cons, List.map_nil, List.cons_append, List.nil_append])
    (apply lxk_fa (val := fun g => Value.slice (g 0).1 ((limbs (val (rt (qAt L i)).snd.snd / val (limbs ((val (rt (qAt L i)).snd.snd).gcd (val (limbs (lcmP L i))))))).length) (g 0).2.1) (f := fun g => [slF (U32) (g 0).1 ((limbs (val (rt (qAt L i)).snd.snd / val (limbs ((val (rt (qAt L i)).snd.snd).gcd (val (limbs (lcmP L i))))))).length) (g 0).2.1 (limbs (val (rt (qAt L i)).snd.snd / val (limbs ((val (rt (qAt L i)).snd.snd).gcd (val (limbs (lcmP L i)))))))]); (· rfl); (· exact d_x fun _ => x_pv it rfl (by trivial) (fun _ _ _ hG => ⟨(fun | 0 => ((g3 0).fst, (g3 0).snd.fst, 0) | _ => default), rfl, fun g hg => by (simp only [List.mem_cons, List.not_mem_nil, or_false] at hg; rcases hg with rfl; (· exact drop_own (hG _ (fact_mem (n := 0) rfl))))⟩)); intro g6; dsimp only [List.map_cons, List.map_nil, List.cons_append, List.nil_append])
    (apply lxk_fa (val := fun g => Value.slice (g 0).1 ((limbs (val (rt (qAt L i)).snd.snd % val (limbs ((val (rt (qAt L i)).snd.snd).gcd (val (limbs (lcmP L i))))))).length) (g 0).2.1) (f := fun g => [slF (U32) (g 0).1 ((limbs (val (rt (qAt L i)).snd.snd % val (limbs ((val (rt (qAt L i)).snd.snd).gcd (val (limbs (lcmP L i))))))).length) (g 0).2.1 (limbs (val (rt (qAt L i)).snd.snd % val (limbs ((val (rt (qAt L i)).snd.snd).gcd (val (limbs (lcmP L i)))))))]); (· rfl); (· exact d_x fun _ => x_pv it rfl (by trivial) (fun _ _ _ hG => ⟨(fun | 0 => ((g4 0).fst, (g4 0).snd.fst, 0) | _ => default), rfl, fun g hg => by (simp only [List.mem_cons, List.not_mem_nil, or_false] at hg; rcases hg with rfl; (· exact drop_own (hG _ (fact_mem (n := 1) rfl))))⟩)); intro g7; dsimp only [List.map_cons, List.map_nil, List.cons_append, List.nil_append])
    refine lxk_end rfl ?_
    simp only [List.map_cons, List.map_nil, List.cons_append, List.nil_append]
    refine j_run it 1 rfl (by simp) ?_
    refine j_nf [.o [1, 1, 1, 1, 0, 1, 0, 0, 1, 1, 0, 0, 1, 1, 1, 1] 0, .blk 1, .c [1, 1, 1, 1, 0, 1, 0, 0, 1, 1, 1], .lp [1, 1, 1, 1, 0, 1, 0, 0], .blk 0, .c [1, 1, 1, 1, 1]] rfl ?_
    refine j_run it 2 rfl (by simp) ?_
    refine j_step rfl (x_lit sl51 zo51e rfl rfl rfl rfl (by decide) (by decide) rfl fun b5 => ?_)
    refine j_pub_all (E := (encSl U32)) (n := 2) [[Value.slice pd (limbs (lcmP L i)).length cd], [Value.slice (g6 0).fst (limbs (val (rt (qAt L i)).snd.snd / val (limbs ((val (rt (qAt L i)).snd.snd).gcd (val (limbs (lcmP L i))))))).length (g6 0).snd.fst]] [limbs (lcmP L i), limbs (val (rt (qAt L i)).snd.snd / val (limbs ((val (rt (qAt L i)).snd.snd).gcd (val (limbs (lcmP L i))))))] 0 (fun w A hG => (allrd_cons (rd_of_slF (hG _ (fact_mem (n := 16) rfl))) (allrd_cons (rd_of_slF (hG _ (fact_mem (n := 1) rfl))) allrd_nil))) rfl rfl rfl rfl (by decide) (by decide) ?_
    refine j_step rfl (x_call [0] rfl (S_nat_Mul (by first | omega | exact side _ (by assumption) | assumption | rfl | (simp; done) | (simp; omega))) rfl ?_)
    rintro _ _ _ ⟨pa4, ca4, rfl, rfl, rfl⟩
    simp only [List.cons_append, List.nil_append]
    refine j_run it 1 rfl (by simp) ?_
    refine j_nf [.o [1, 1, 1, 1, 0, 1, 0, 0, 1, 1, 1] 0, .lp [1, 1, 1, 1, 0, 1, 0, 0], .blk 0, .c [1, 1, 1, 1, 1]] rfl ?_
    refine j_run it 2 rfl (by repeat' first | exact trivial | apply And.intro | omega) ?_
    refine j_nfn 1 [.lp [1, 1, 1, 1, 0, 1, 0, 0], .blk 0, .c [1, 1, 1, 1, 1]] rfl ?_
    rw [eD, show ((rt (qAt L i)).1, (rt (qAt L i)).2.1, (rt (qAt L i)).2.2) = rt (qAt L i) from rfl, ← range_snoc fun k => rt (qAt L k)]
    refine j_toM [true, false, false] [11, 0, 19] (by repeat (first | exact Fr.sub_nil _ | refine Fr.sub_cons rfl ?_ | refine Fr.sub_consI rfl (by first | omega | (dsimp only; omega)) ?_ | refine Fr.sub_consS rfl (by first | omega | (dsimp only; omega)) (by first | omega | (dsimp only; omega)) ?_)) rfl rfl (ih (i + 1, (pa4, ca4), r1) (by dsimp only; omega) (by dsimp only; omega))
  · obtain rfl : n + 1 = i := by omega
    have hKn : K * (n + 1) ≤ 10000 * 65 := Nat.mul_le_mul hK (by omega)
    have hD : lcmP L (n + 1) < 4294967296 ^ (K * (n + 1) + 1) := lcmP_lt fun j hj => (hb j (by omega)).2
    have m3 : (limbs (lcmP L (n + 1))).length ≤ K * (n + 1) + 1 := limbs_length_le hD
    have hwz : ∀ i, i < n + 1 → (wz L (lcmP L (n + 1)) i).2 < 4294967296 ^ (K + (K * (n + 1) + 1)) := fun i hi => wz_lt (hb i hi).1 hD
    have hM : K + (K * (n + 1) + 1) ≤ 10000000 := by omega
    refine j_nf [.o [1, 1, 1, 1, 0, 1, 0, 0, 0] 0, .c [1, 1, 1, 1, 0, 1, 0, 0, 1], .lp [1, 1, 1, 1, 0, 1, 0, 0], .blk 0, .c [1, 1, 1, 1, 1]] rfl ?_
    refine j_run it 1 rfl (by simp) ?_
    refine j_nf [.c [1, 1, 1, 1, 0, 1, 0, 0, 1, 0], .c [1, 1, 1, 1, 0, 1, 0, 0, 1, 1], .lp [1, 1, 1, 1, 0, 1, 0, 0], .blk 0, .c [1, 1, 1, 1, 1]] rfl ?_
    refine j_if rfl rfl (fun h2 => by exfalso; omega) (fun h2 => ?_)
    refine j_nf [.o [1, 1, 1, 1, 1, 0] 0, .c [1, 1, 1, 1, 1, 1]] rfl ?_
    refine j_run it 1 rfl (by simp) ?_
    refine j_nf [.o [1, 1, 1, 1, 1, 1, 0, 0] 0, .c [1, 1, 1, 1, 1, 1, 0, 1], .c [1, 1, 1, 1, 1, 1, 1]] rfl ?_
    refine j_run it 1 rfl (by simp) ?_
    refine j_step rfl (x_len sl44 rfl ?_)
    refine j_run it 1 rfl (by simp) ?_
    refine j_nf [.c [1, 1, 1, 1, 1, 1, 0, 1, 0], .blk 2, .c [1, 1, 1, 1, 1, 1, 1]] rfl ?_
    refine j_pubR 0 0 rfl rfl (by show (n + 1) * 56 ≤ 140737488355328; omega) ?_
    refine j_row0 IntE 61 ?_
    refine j_loopG (X := Nat × Row) [0, 4, 5, 7, 59, 60] [1, 3] (fun x => [(61, .int .i64 x.1), (14, .slice (ad x.2.bo) x.1 x.2.cap)])
      (fun x => [(x.2.bo, 61, x.2.cs)])
      (fun x => [rowF IntE x.2 x.1 ((List.range x.1).map fun i => enz (wz L (lcmP L (n + 1)) i))])
      (fun x => x.1 ≤ n + 1) (fun x => n + 1 - x.1) (0, ⟨none, 0, []⟩) [0] rfl rfl rfl (Nat.zero_le _) (by repeat (first | exact Fr.sub_nil _ | refine Fr.sub_cons rfl ?_)) rfl rfl ?_
    rintro ⟨i, r2⟩ hi ih2
    simp only [List.cons_append, List.nil_append] at hi ih2 ⊢
    by_cases hil : i < n + 1
    · refine j_nf [.o [1, 1, 1, 1, 1, 1, 0, 1, 0, 0, 0] 0, .c [1, 1, 1, 1, 1, 1, 0, 1, 0, 0, 1], .lp [1, 1, 1, 1, 1, 1, 0, 1, 0, 0], .blk 2, .c [1, 1, 1, 1, 1, 1, 1]] rfl ?_
      refine j_run it 1 rfl (by simp) ?_
      refine j_nf [.c [1, 1, 1, 1, 1, 1, 0, 1, 0, 0, 1, 0], .c [1, 1, 1, 1, 1, 1, 0, 1, 0, 0, 1, 1], .lp [1, 1, 1, 1, 1, 1, 0, 1, 0, 0], .blk 2, .c [1, 1, 1, 1, 1, 1, 1]] rfl ?_
      refine j_if rfl rfl (fun h3 => ?_) (fun h3 => by exfalso; omega)
      refine j_nf [.o [1, 1, 1, 1, 1, 1, 0, 1, 0, 0, 1, 1, 0, 0, 0] 0, .c [1, 1, 1, 1, 1, 1, 0, 1, 0, 0, 1, 1, 0, 0, 1], .blk 3, .c [1, 1, 1, 1, 1, 1, 0, 1, 0, 0, 1, 1, 1], .lp [1, 1, 1, 1, 1, 1, 0, 1, 0, 0], .blk 2, .c [1, 1, 1, 1, 1, 1, 1]] rfl ?_
      refine j_step rfl (x_idx 1 (i) rfl rfl rfl sl44 rfl (by omega) fun z1 hz1 b2 o1 => ?_)
      refine j_step rfl (x_ld_rt 0 rfl rfl ld25 fun pa1 ca1 pa2 ca2 => ?_)
      refine j_step rfl (x_alloc zo25 fun b3 => ?_)
      refine j_step rfl (x_bst_all 0 rfl rfl rfl ld25 rfl rfl (by simp [Value.oneCell']) ?_)
      refine j_nf [.o [1, 1, 1, 1, 1, 1, 0, 1, 0, 0, 1, 1, 0, 0, 1, 0] 0, .c [1, 1, 1, 1, 1, 1, 0, 1, 0, 0, 1, 1, 0, 0, 1, 1], .blk 3, .c [1, 1, 1, 1, 1, 1, 0, 1, 0, 0, 1, 1, 1], .lp [1, 1, 1, 1, 1, 1, 0, 1, 0, 0], .blk 2, .c [1, 1, 1, 1, 1, 1, 1]] rfl ?_
      refine j_run it 1 rfl (by simp) ?_
      refine j_step rfl (x_field rfl fd25_2 ?_)
      refine j_step rfl (x_bld 0 rfl rfl ld23 rfl ?_) --ok
      rw [range_get _ hil] at hz1
      obtain rfl := Option.some.inj hz1
      obtain ⟨m1, m2⟩ := bd_len (hb i hil)
      have hd0 := den_ne (qAt L i)
      have m4 : (limbs (val (limbs (lcmP L (n + 1))) / val (rt (qAt L i)).2.2)).length ≤ K * (n + 1) + 1 := by
        rw [val_limbs]
        exact limbs_length_le (Nat.lt_of_le_of_lt (Nat.div_le_self _ _) hD)
      have m5 : lenS [(rt (qAt L i)).2.1, limbs (val (limbs (lcmP L (n + 1))) / val (rt (qAt L i)).2.2)] ≤ 1073741824 := by simp [lenS]; omega
      have eW : ((rt (qAt L i)).1, limbs (prodV [(rt (qAt L i)).2.1, limbs (val (limbs (lcmP L (n + 1))) / val (rt (qAt L i)).2.2)])) = enz (wz L (lcmP L (n + 1)) i) := by
        simp [prodV, val_limbs, num_rt, den_rt, enz, wz, neg_rt]
      refine j_step rfl (x_call [5, 1] rfl (S_nat_DivMod (by first | omega | exact side _ (by assumption) | assumption | rfl | (simp; done) | (simp; omega)) (by first | omega | exact side _ (by assumption) | assumption | rfl | (simp; done) | (simp; omega))) rfl ?_)
      rintro _ _ _ ⟨p11, c11, p21, c21, rfl, rfl, rfl⟩
      simp only [List.cons_append, List.nil_append]
      refine j_run it 7 rfl (by simp) ?_
      refine j_nf [.c [1, 1, 1, 1, 1, 1, 0, 1, 0, 0, 1, 1, 0, 0, 1, 1], .blk 3, .c [1, 1, 1, 1, 1, 1, 0, 1, 0, 0, 1, 1, 1], .lp [1, 1, 1, 1, 1, 1, 0, 1, 0, 0], .blk 2, .c [1, 1, 1, 1, 1, 1, 1]] rfl ?_
      (apply j_drawK it mx 10; (· rfl); (· rfl))
      (apply lxk_run 1; (· rfl); (· simp))
      (apply lxk_eq; (· rfl); (· exact d_x fun _ => x_field rfl fd25_0 dk_eq))
      (apply lxk_eq; (· rfl); (· exact d_bld 0 rfl rfl ld4 rfl))
      (apply lxk_eq; (· rfl); (· exact d_x fun _ => x_field rfl fd25_1 dk_eq))
      (apply lxk_eq; (· rfl); (· exact d_bld 0 rfl rfl ld23 rfl))
      (apply lxk_run 1; (· rfl); (· simp))
      (apply lxk_sl; (· rfl); (· exact d_x fun _ => x_lit sl51 zo51e rfl rfl rfl rfl (by decide) (by decide) rfl fun b4 => dk_all (E := (encSl U32)) [[Value.slice pa1 (rt (qAt L i)).snd.fst.length ca1], [Value.slice p11 (limbs (val (limbs (lcmP L (n + 1))) / val (rt (qAt L i)).snd.snd)).length c11]] [(rt (qAt L i)).snd.fst, limbs (val (limbs (lcmP L (n + 1))) / val (rt (qAt L i)).snd.snd)] (fun w A hG => (allrd_cons (rd_of_slF (hG _ (fact_mem (n := 2) rfl))) (allrd_cons (rd_of_slF (hG _ (fact_mem (n := 0) rfl))) allrd_nil))) rfl rfl rfl (by decide)); intro pa3 ca3)
      (apply lxk_sl; (· rfl); (· exact d_x fun _ => x_call [0] rfl (S_nat_Mul (by first | omega | exact side _ (by assumption) | assumption | rfl | (simp; done) | (simp; omega))) rfl (by rintro _ _ _ ⟨pa4, ca4, rfl, rfl, rfl⟩; exact (dk_sl 0 rfl))); intro pa4 ca4)
      (apply lxk_fa (val := fun g => Value.agg #[Value.bool (rt (qAt L i)).fst, Value.slice (g 1).1 ((limbs (prodV [(rt (qAt L i)).snd.fst, limbs (val (limbs (lcmP L (n + 1))) / val (rt (qAt L i)).snd.snd)])).length) (g 1).2.1]) (f := fun g => [slF (U32) (g 1).1 ((limbs (prodV [(rt (qAt L i)).snd.fst, limbs (val (limbs (lcmP L (n + 1))) / val (rt (qAt L i)).snd.snd)])).length) (g 1).2.1 (limbs (prodV [(rt (qAt L i)).snd.fst, limbs (val (limbs (lcmP L (n + 1))) / val (rt (qAt L i)).snd.snd)]))]); (· rfl); (· exact d_x fun _ => x_build (cs := [Value.bool (rt (qAt L i)).fst, Value.slice pa4 (limbs (prodV [(rt (qAt L i)).snd.fst, limbs (val (limbs (lcmP L (n + 1))) / val (rt (qAt L i)).snd.snd)])).length ca4]) st61 zo61 rfl rfl (fun _ _ _ hG => ⟨(fun | 1 => (pa4, ca4, 0) | _ => default), rfl, fun g hg => by (simp only [List.mem_cons, List.not_mem_nil, or_false] at hg; rcases hg with rfl; (· exact drop_own (hG _ (fact_mem (n := 0) rfl))))⟩)); intro g1; dsimp only [List.map_cons, List.map_nil])
      (apply lxk_sl; (· rfl); (· exact d_x fun _ => x_lit sl62 zo62e rfl rfl rfl rfl (by decide) (by decide) rfl fun b4 => dk_all (E := IntE) [[Value.bool (rt (qAt L i)).fst, Value.slice (g1 1).fst (limbs (prodV [(rt (qAt L i)).snd.fst, limbs (val (limbs (lcmP L (n + 1))) / val (rt (qAt L i)).snd.snd)])).length (g1 1).snd.fst]] [((rt (qAt L i)).fst, limbs (prodV [(rt (qAt L i)).snd.fst, limbs (val (limbs (lcmP L (n + 1))) / val (rt (qAt L i)).snd.snd)]))] (fun w A hG => (allrd_cons (rd_pair (v1 := [Value.bool (rt (qAt L i)).fst]) (rd_bool _) (rd_of_slF (hG _ (fact_mem (n := 0) rfl)))) allrd_nil)) rfl rfl rfl (by decide)); intro pa5 ca5)
      refine lxk_end rfl ?_
      simp only [List.map_cons, List.map_nil, List.cons_append, List.nil_append]
      refine j_step rfl (x_appS 1 9 0 rfl rfl rfl rfl rfl sl62 zo62e rfl (by omega) _ by62e (by omega) fun r1 => ?_)
      refine j_run it 1 rfl (by simp) ?_
      refine j_nf [.o [1, 1, 1, 1, 1, 1, 0, 1, 0, 0, 1, 1, 1] 0, .lp [1, 1, 1, 1, 1, 1, 0, 1, 0, 0], .blk 2, .c [1, 1, 1, 1, 1, 1, 1]] rfl ?_
      refine j_run it 2 rfl (by repeat' first | exact trivial | apply And.intro | omega) ?_
      refine j_nfn 1 [.lp [1, 1, 1, 1, 1, 1, 0, 1, 0, 0], .blk 2, .c [1, 1, 1, 1, 1, 1, 1]] rfl ?_
      rw [eW, ← range_snoc fun i => enz (wz L (lcmP L (n + 1)) i)]
      refine j_toM [true, false] [0, 11, 12] (by repeat (first | exact Fr.sub_nil _ | refine Fr.sub_cons rfl ?_ | refine Fr.sub_consI rfl (by first | omega | (dsimp only; omega)) ?_ | refine Fr.sub_consS rfl (by first | omega | (dsimp only; omega)) (by first | omega | (dsimp only; omega)) ?_)) rfl rfl (ih2 (i + 1, r1) (by dsimp only; omega) (by dsimp only; omega))
    · obtain rfl : n + 1 = i := by omega
      refine j_nf [.o [1, 1, 1, 1, 1, 1, 0, 1, 0, 0, 0] 0, .c [1, 1, 1, 1, 1, 1, 0, 1, 0, 0, 1], .lp [1, 1, 1, 1, 1, 1, 0, 1, 0, 0], .blk 2, .c [1, 1, 1, 1, 1, 1, 1]] rfl ?_
      refine j_run it 1 rfl (by simp) ?_
      refine j_nf [.c [1, 1, 1, 1, 1, 1, 0, 1, 0, 0, 1, 0], .c [1, 1, 1, 1, 1, 1, 0, 1, 0, 0, 1, 1], .lp [1, 1, 1, 1, 1, 1, 0, 1, 0, 0], .blk 2, .c [1, 1, 1, 1, 1, 1, 1]] rfl ?_
      refine j_if rfl rfl (fun h3 => by exfalso; omega) (fun h3 => ?_)
      refine j_nf [.o [1, 1, 1, 1, 1, 1, 1, 0] 0, .c [1, 1, 1, 1, 1, 1, 1, 1]] rfl ?_
      refine j_run it 1 rfl (by simp) ?_
      refine j_nf [.o [1, 1, 1, 1, 1, 1, 1, 1, 0, 0] 0, .c [1, 1, 1, 1, 1, 1, 1, 1, 0, 1], .c [1, 1, 1, 1, 1, 1, 1, 1, 1]] rfl ?_
      refine j_run it 2 rfl (by simp) ?_
      refine j_pubR 0 0 rfl rfl (by show (n + 1) * 32 ≤ 140737488355328; omega) ?_
      refine j_step rfl (x_call [0] rfl (S_macwilliams_sums (by first | omega | exact side _ (by assumption) | assumption | rfl | (simp; done) | (simp; omega)) (by first | omega | exact side _ (by assumption) | assumption | rfl | (simp; done) | (simp; omega)) (by first | omega | exact side _ (by assumption) | assumption | rfl | (simp; done) | (simp; omega)) (by first | omega | exact side _ (by assumption) | assumption | rfl | (simp; done) | (simp; omega)) (by first | omega | exact side _ (by assumption) | assumption | rfl | (simp; done) | (simp; omega))) rfl ?_)
      rintro _ _ _ ⟨pa1, ca1, rfl, rfl, rfl⟩
      simp only [List.cons_append, List.nil_append]
      refine j_step rfl (x_len sl62 rfl ?_)
      refine j_run it 1 rfl (by simp) ?_
      refine j_nf [.c [1, 1, 1, 1, 1, 1, 1, 1, 0, 1, 0], .blk 4, .c [1, 1, 1, 1, 1, 1, 1, 1, 1]] rfl ?_
      refine j_row0 RatE 25 ?_
      refine j_loopG (X := Nat × Row) [4, 5, 7, 87, 88] [0, 1, 2, 3, 4, 5] (fun x => [(89, .int .i64 x.1), (20, .slice (ad x.2.bo) x.1 x.2.cap)])
        (fun x => [(x.2.bo, 25, x.2.cs)])
        (fun x => [rowF RatE x.2 x.1 ((List.range x.1).map fun j => rt (trP L (fun i => kr ((q : Int) - 1) n j i) (n + 1)))])
        (fun x => x.1 ≤ n + 1) (fun x => n + 1 - x.1) (0, ⟨none, 0, []⟩) [0] rfl rfl rfl (Nat.zero_le _) (by repeat (first | exact Fr.sub_nil _ | refine Fr.sub_cons rfl ?_)) rfl rfl ?_
      rintro ⟨j, r3⟩ hj ih3
      simp only [List.cons_append, List.nil_append] at hj ih3 ⊢
      by_cases hjl : j < n + 1
      · refine j_nf [.o [1, 1, 1, 1, 1, 1, 1, 1, 0, 1, 0, 0, 0] 0, .c [1, 1, 1, 1, 1, 1, 1, 1, 0, 1, 0, 0, 1], .lp [1, 1, 1, 1, 1, 1, 1, 1, 0, 1, 0, 0], .blk 4, .c [1, 1, 1, 1, 1, 1, 1, 1, 1]] rfl ?_
        refine j_run it 1 rfl (by simp) ?_
        refine j_nf [.c [1, 1, 1, 1, 1, 1, 1, 1, 0, 1, 0, 0, 1, 0], .c [1, 1, 1, 1, 1, 1, 1, 1, 0, 1, 0, 0, 1, 1], .lp [1, 1, 1, 1, 1, 1, 1, 1, 0, 1, 0, 0], .blk 4, .c [1, 1, 1, 1, 1, 1, 1, 1, 1]] rfl ?_
        refine j_if rfl rfl (fun h4 => ?_) (fun h4 => by exfalso; omega)
        refine j_nf [.o [1, 1, 1, 1, 1, 1, 1, 1, 0, 1, 0, 0, 1, 1, 0, 0, 0] 0, .c [1, 1, 1, 1, 1, 1, 1, 1, 0, 1, 0, 0, 1, 1, 0, 0, 1], .blk 5, .c [1, 1, 1, 1, 1, 1, 1, 1, 0, 1, 0, 0, 1, 1, 1], .lp [1, 1, 1, 1, 1, 1, 1, 1, 0, 1, 0, 0], .blk 4, .c [1, 1, 1, 1, 1, 1, 1, 1, 1]] rfl ?_
        refine j_step rfl (x_idx 2 (j) rfl rfl rfl sl62 rfl (by omega) fun z1 hz1 b2 o1 => ?_)
        refine j_step rfl (x_ld_vw vw_IntE 0 rfl rfl ld61 fun g1 => ?_)
        dsimp only [vw_IntE, List.cons_append, List.nil_append, List.map_cons, List.map_nil]
        refine j_step rfl (x_alloc zo61 fun b3 => ?_)
        refine j_step rfl (x_bst_all 0 rfl rfl rfl ld61 rfl rfl (by simp [Value.oneCell']) ?_)
        refine j_nf [.o [1, 1, 1, 1, 1, 1, 1, 1, 0, 1, 0, 0, 1, 1, 0, 0, 1] 0, .blk 5, .c [1, 1, 1, 1, 1, 1, 1, 1, 0, 1, 0, 0, 1, 1, 1], .lp [1, 1, 1, 1, 1, 1, 1, 1, 0, 1, 0, 0], .blk 4, .c [1, 1, 1, 1, 1, 1, 1, 1, 1]] rfl ?_
        refine j_run it 1 rfl (by simp) ?_
        refine j_step rfl (x_bld_all 0 rfl rfl ld61 rfl ?_)
        refine j_run it 1 rfl (by simp) ?_ --ok
        rw [range_get _ hjl] at hz1
        obtain rfl := Option.some.inj hz1
        have m6 : (enz (szP (wz L (lcmP L (n + 1))) (fun i => tz q n i j) (n + 1))).2.length ≤ K + (K * (n + 1) + 1) + 18 := limbs_length_le (szP_lt (show n + 1 ≤ 65 by omega) (Nat.le_refl _) hwz fun i hi => tz_lt hq hq2 hn (by omega) j (Nat.le_refl 17))
        refine j_step rfl (x_call [0, 8] rfl (S_macwilliams_ratio (by first | omega | exact side _ (by assumption) | assumption | rfl | (simp; done) | (simp; omega)) (by first | omega | exact side _ (by assumption) | assumption | rfl | (simp; done) | (simp; omega))) rfl ?_)
        rintro _ _ _ ⟨pn1, cn1, pd1, cd1, rfl, rfl, rfl⟩
        simp only [List.cons_append, List.nil_append]
        refine j_step rfl (x_lit sl44 zo44e rfl rfl rfl rfl (by decide) (by decide) rfl fun b4 => ?_)
        refine j_step rfl (x_appR (z := ((rt (vq ((enz (szP (wz L (lcmP L (n + 1))) (fun i => tz q n i j) (n + 1))).fst, (enz (szP (wz L (lcmP L (n + 1))) (fun i => tz q n i j) (n + 1))).snd, limbs (lcmP L (n + 1))))).fst, ((rt (vq ((enz (szP (wz L (lcmP L (n + 1))) (fun i => tz q n i j) (n + 1))).fst, (enz (szP (wz L (lcmP L (n + 1))) (fun i => tz q n i j) (n + 1))).snd, limbs (lcmP L (n + 1))))).snd.fst, (rt (vq ((enz (szP (wz L (lcmP L (n + 1))) (fun i => tz q n i j) (n + 1))).fst, (enz (szP (wz L (lcmP L (n + 1))) (fun i => tz q n i j) (n + 1))).snd, limbs (lcmP L (n + 1))))).snd.snd))) 2 0 4 rfl rfl rfl rfl rfl sl44 zo44e rfl (fun w A hG => (rd_pair (v1 := [Value.bool (rt (vq ((enz (szP (wz L (lcmP L (n + 1))) (fun i => tz q n i j) (n + 1))).fst, (enz (szP (wz L (lcmP L (n + 1))) (fun i => tz q n i j) (n + 1))).snd, limbs (lcmP L (n + 1))))).fst]) (rd_bool _) (rd_pair (v1 := [Value.slice pn1 (rt (vq ((enz (szP (wz L (lcmP L (n + 1))) (fun i => tz q n i j) (n + 1))).fst, (enz (szP (wz L (lcmP L (n + 1))) (fun i => tz q n i j) (n + 1))).snd, limbs (lcmP L (n + 1))))).snd.fst.length cn1]) (rd_of_slF (hG _ (fact_mem (n := 0) rfl))) (rd_of_slF (hG _ (fact_mem (n := 1) rfl)))))) (by omega) _ by44e (by omega) fun r1 => ?_)
        refine j_run it 1 rfl (by simp) ?_
        refine j_nf [.o [1, 1, 1, 1, 1, 1, 1, 1, 0, 1, 0, 0, 1, 1, 1] 0, .lp [1, 1, 1, 1, 1, 1, 1, 1, 0, 1, 0, 0], .blk 4, .c [1, 1, 1, 1, 1, 1, 1, 1, 1]] rfl ?_
        refine j_run it 2 rfl (by repeat' first | exact trivial | apply And.intro | omega) ?_
        refine j_nfn 1 [.lp [1, 1, 1, 1, 1, 1, 1, 1, 0, 1, 0, 0], .blk 4, .c [1, 1, 1, 1, 1, 1, 1, 1, 1]] rfl ?_
        rw [trP_vq (by omega)]
        rw [show ((rt (trP L (fun i => kr ((q : Int) - 1) n j i) (n + 1))).1, (rt (trP L (fun i => kr ((q : Int) - 1) n j i) (n + 1))).2.1, (rt (trP L (fun i => kr ((q : Int) - 1) n j i) (n + 1))).2.2) = rt (trP L (fun i => kr ((q : Int) - 1) n j i) (n + 1)) from rfl, ← range_snoc fun j => rt (trP L (fun i => kr ((q : Int) - 1) n j i) (n + 1))]
        refine j_toM [true, false, false] [0, 6, 7, 8, 9, 10, 11] (by repeat (first | exact Fr.sub_nil _ | refine Fr.sub_cons rfl ?_ | refine Fr.sub_consI rfl (by first | omega | (dsimp only; omega)) ?_ | refine Fr.sub_consS rfl (by first | omega | (dsimp only; omega)) (by first | omega | (dsimp only; omega)) ?_)) rfl rfl (ih3 (j + 1, r1) (by dsimp only; omega) (by dsimp only; omega))
      · obtain rfl : n + 1 = j := by omega
        refine j_nf [.o [1, 1, 1, 1, 1, 1, 1, 1, 0, 1, 0, 0, 0] 0, .c [1, 1, 1, 1, 1, 1, 1, 1, 0, 1, 0, 0, 1], .lp [1, 1, 1, 1, 1, 1, 1, 1, 0, 1, 0, 0], .blk 4, .c [1, 1, 1, 1, 1, 1, 1, 1, 1]] rfl ?_
        refine j_run it 1 rfl (by simp) ?_
        refine j_nf [.c [1, 1, 1, 1, 1, 1, 1, 1, 0, 1, 0, 0, 1, 0], .c [1, 1, 1, 1, 1, 1, 1, 1, 0, 1, 0, 0, 1, 1], .lp [1, 1, 1, 1, 1, 1, 1, 1, 0, 1, 0, 0], .blk 4, .c [1, 1, 1, 1, 1, 1, 1, 1, 1]] rfl ?_
        refine j_if rfl rfl (fun h4 => by exfalso; omega) (fun h4 => ?_)
        refine j_nf [.o [1, 1, 1, 1, 1, 1, 1, 1, 1, 0] 0, .c [1, 1, 1, 1, 1, 1, 1, 1, 1, 1]] rfl ?_
        refine j_run it 3 rfl (by simp) ?_
        refine j_nf [.c [1, 1, 1, 1, 1, 1, 1, 1, 1, 1]] rfl ?_
        refine j_pubR 0 0 rfl rfl (by show (n + 1) * 56 ≤ 140737488355328; omega) ?_
        refine j_giv [0] rfl rfl rfl ⟨_, _, rfl, rfl, rfl⟩
end Go.Proofs.Ytamkmihhpadamaa

namespace Go.Proofs.Ytamkmihhpadamaa
open Go Go.Fw
set_option maxRecDepth 100000
set_option linter.unusedVariables false
set_option linter.unusedSimpArgs false
set_option maxHeartbeats 4000000
theorem S_macwilliams_Transform_err {q : Int} {n : Nat} {pa : Option Addr} {ca : Nat} {L : List Rt} (h : wrongOf q n ≠ 0) :
    Ctr Try.prog 27 [.int .i64 q, .slice pa n ca] [] [] (SvE RatE 0 [] (wrongOf q n)) := by
  refine Ctr_of_j' (F := F_macwilliams_Transform) rfl fun C => ?_
  refine j_nf [.o [0] 0, .c [1]] rfl ?_
  refine j_run it 2 rfl (by simp) ?_
  refine j_nf [.o [1, 0, 0] 0, .c [1, 0, 1], .c [1, 1]] rfl ?_
  refine j_run it 2 rfl (by simp) ?_
  refine j_step rfl (x_len sl44 rfl ?_)
  refine j_step rfl (x_call [] rfl (S_macwilliams_wrong) rfl ?_)
  rintro _ _ _ ⟨rfl, rfl, rfl⟩
  simp only [List.cons_append, List.nil_append]
  refine j_run it 1 rfl (by simp) ?_
  refine j_nf [.o [1, 0, 1, 0] 0, .c [1, 0, 1, 1], .c [1, 1]] rfl ?_
  refine j_run it 2 rfl (by simp) ?_
  refine j_nf [.c [1, 0, 1, 1], .c [1, 1]] rfl ?_
  refine j_ifn rfl rfl (fun h1 => ?_) (fun h1 => by exfalso; omega)
  refine j_nf [.o [1, 0, 1, 1, 0, 0] 0, .c [1, 0, 1, 1, 0, 1], .c [1, 1]] rfl ?_
  refine j_run it 3 rfl (by simp) ?_
  refine j_nf [.c [1, 0, 1, 1, 0, 1], .c [1, 1]] rfl ?_
  refine j_add (slF RatE none 0 0 []) (fun w A _ => slF_nil _ _ _ _ _) ?_
  refine j_giv [0] rfl rfl rfl ⟨_, _, rfl, rfl, rfl⟩

theorem S_codewrightref24_Transform {q n K : Nat} {pa : Option Addr} {ca : Nat} {L : List Rt} (hq : 2 ≤ q) (hq2 : q ≤ 256) (hn : n ≤ 64) (hl : L.length = n + 1) (hK1 : 1 ≤ K) (hK : K ≤ 10000) (hL : ∀ r ∈ L, okR K r) :
    Ctr Try.prog 30 [.int .i64 q, .slice pa (n + 1) ca] [] [slF RatE pa (n + 1) ca L] (SvN RatE (n + 1) (trL q n L)) := by
  refine Ctr_of_j' (F := F_codewrightref24_Transform) rfl fun C => ?_
  have hg : ∀ i, i < n + 1 → okR K (L.getD i default) := fun i hi => hL _ (by rw [List.getD, List.getElem?_eq_getElem (by omega)]; exact List.getElem_mem _)
  have hb : ∀ i, i < n + 1 → bd K (qAt L i) := fun i hi => okR_bd (hg i hi) hK1
  have hm0 : InR .i64 0 := by simp [InR]
  refine j_nf [.o [0] 0, .c [1]] rfl ?_
  refine j_run it 1 rfl (by simp) ?_
  refine j_nf [.o [1, 0] 0, .c [1, 1]] rfl ?_
  refine j_run it 1 rfl (by simp) ?_
  refine j_nf [.o [1, 1, 0, 0] 0, .c [1, 1, 0, 1], .c [1, 1, 1]] rfl ?_
  refine j_run it 1 rfl (by simp) ?_
  refine j_nf [.c [1, 1, 0, 1, 0], .blk 0, .c [1, 1, 1]] rfl ?_
  refine j_row0 RatE 25 ?_
  refine j_loopG (X := Nat × Row) [0, 1, 4] [1] (fun x => [(6, .int .i64 x.1), (5, .slice (ad x.2.bo) x.1 x.2.cap)])
    (fun x => [(x.2.bo, 25, x.2.cs)])
    (fun x => [rowF RatE x.2 x.1 ((List.range x.1).map fun j => rt (trP L (fun i => kr ((q : Int) - 1) n j i) (n + 1)))])
    (fun x => x.1 ≤ n + 1) (fun x => n + 1 - x.1) (0, ⟨none, 0, []⟩) [0] rfl rfl rfl (Nat.zero_le _) (by repeat (first | exact Fr.sub_nil _ | refine Fr.sub_cons rfl ?_)) rfl rfl ?_
  rintro ⟨j, r⟩ hj ih
  simp only [List.cons_append, List.nil_append] at hj ih ⊢
  by_cases hjl : j < n + 1
  · refine j_nf [.o [1, 1, 0, 1, 0, 0, 0, 0] 0, .c [1, 1, 0, 1, 0, 0, 0, 1], .c [1, 1, 0, 1, 0, 0, 1], .lp [1, 1, 0, 1, 0, 0], .blk 0, .c [1, 1, 1]] rfl ?_
    refine j_run it 2 rfl (by simp) ?_
    refine j_step rfl (x_len sl44 rfl ?_)
    refine j_run it 1 rfl (by simp) ?_
    refine j_nf [.c [1, 1, 0, 1, 0, 0, 0, 1], .c [1, 1, 0, 1, 0, 0, 1], .lp [1, 1, 0, 1, 0, 0], .blk 0, .c [1, 1, 1]] rfl ?_
    refine j_if rfl rfl (fun h1 => ?_) (fun h1 => by exfalso; omega)
    refine j_nf [.o [1, 1, 0, 1, 0, 0, 1, 0, 0, 0] 0, .c [1, 1, 0, 1, 0, 0, 1, 0, 0, 1], .blk 1, .c [1, 1, 0, 1, 0, 0, 1, 1], .lp [1, 1, 0, 1, 0, 0], .blk 0, .c [1, 1, 1]] rfl ?_
    refine j_step rfl (x_call [] rfl (S_codewrightref02_Int (by first | omega | exact side _ (by assumption) | assumption | rfl | (simp; done) | (simp; omega))) rfl ?_)
    rintro _ _ _ ⟨pn1, cn1, pd1, cd1, rfl, rfl, rfl⟩
    simp only [List.cons_append, List.nil_append]
    refine j_step rfl (x_alloc zo25 fun b1 => ?_)
    refine j_step rfl (x_bst_all 0 rfl rfl rfl ld25 rfl rfl (by simp [Value.oneCell']) ?_)
    refine j_nf [.o [1, 1, 0, 1, 0, 0, 1, 0, 0, 1, 0, 0] 0, .c [1, 1, 0, 1, 0, 0, 1, 0, 0, 1, 0, 1], .c [1, 1, 0, 1, 0, 0, 1, 0, 0, 1, 1], .blk 1, .c [1, 1, 0, 1, 0, 0, 1, 1], .lp [1, 1, 0, 1, 0, 0], .blk 0, .c [1, 1, 1]] rfl ?_
    refine j_run it 1 rfl (by simp) ?_
    refine j_nf [.c [1, 1, 0, 1, 0, 0, 1, 0, 0, 1, 0, 1, 0], .blk 2, .c [1, 1, 0, 1, 0, 0, 1, 0, 0, 1, 1], .blk 1, .c [1, 1, 0, 1, 0, 0, 1, 1], .lp [1, 1, 0, 1, 0, 0], .blk 0, .c [1, 1, 1]] rfl ?_
    rw [show (((0 : Int) : Rat)) = trP L (fun i => kr ((q : Int) - 1) n j i) 0 from rfl]
    refine j_loopG (X := Nat × (Option Addr × Nat) × (Option Addr × Nat)) [0, 1, 4, 5, 6, 7, 9, 10, 11, 12, 15] [2, 3] (fun y => [(8, .int .i64 y.1)])
      (fun y => [(some b1, 25, [.bool (rt (trP L (fun i => kr ((q : Int) - 1) n j i) y.1)).1, .slice y.2.1.1 (rt (trP L (fun i => kr ((q : Int) - 1) n j i) y.1)).2.1.length y.2.1.2, .slice y.2.2.1 (rt (trP L (fun i => kr ((q : Int) - 1) n j i) y.1)).2.2.length y.2.2.2]), (r.bo, 25, r.cs)])
      (fun y => [slF U32 y.2.1.1 (rt (trP L (fun i => kr ((q : Int) - 1) n j i) y.1)).2.1.length y.2.1.2 (rt (trP L (fun i => kr ((q : Int) - 1) n j i) y.1)).2.1, slF U32 y.2.2.1 (rt (trP L (fun i => kr ((q : Int) - 1) n j i) y.1)).2.2.length y.2.2.2 (rt (trP L (fun i => kr ((q : Int) - 1) n j i) y.1)).2.2])
      (fun y => y.1 ≤ n + 1) (fun y => n + 1 - y.1) (0, (pn1, cn1), (pd1, cd1)) [0, 1] rfl rfl rfl (Nat.zero_le _) (by repeat (first | exact Fr.sub_nil _ | refine Fr.sub_cons rfl ?_)) rfl rfl ?_
    rintro ⟨i, ⟨pn, cn⟩, ⟨pd, cd⟩⟩ hi ihi
    simp only [List.cons_append, List.nil_append] at hi ihi ⊢
    by_cases hil : i < n + 1
    · have hKi : (K + 18) * i ≤ (10000 + 18) * 65 := Nat.mul_le_mul (by omega) (by omega)
      obtain ⟨l1, l2⟩ := bd_len (trP_bd (j := j) hq hq2 hn (fun i hi => hb i (by omega)) i hi)
      obtain ⟨l3, l4⟩ := rt_int_len (kr_lt hq hq2 hn (show i ≤ n by omega) (k := j))
      have bk : bd 17 (((kr ((q : Int) - 1) n j i : Int)) : Rat) := by
        refine ⟨by rw [Rat.num_intCast]; exact kr_lt hq hq2 hn (by omega), ?_⟩
        rw [Rat.den_intCast]
        exact Nat.one_lt_pow (by decide) (by decide)
      have hbm : (rt (vq ((L.getD i default).1, (L.getD i default).2.1, (L.getD i default).2.2) * ((kr ((q : Int) - 1) n j i : Int) : Rat))).2.1.length ≤ K + 17 ∧ (rt (vq ((L.getD i default).1, (L.getD i default).2.1, (L.getD i default).2.2) * ((kr ((q : Int) - 1) n j i : Int) : Rat))).2.2.length ≤ K + 17 := bd_len (bd_mul (hb i hil) bk (by omega))
      obtain ⟨l5, l6⟩ := hbm
      obtain ⟨_, _, l7, l8⟩ := hg i hil
      have eA : trP L (fun i => kr ((q : Int) - 1) n j i) i + vq ((L.getD i default).1, (L.getD i default).2.1, (L.getD i default).2.2) * ((kr ((q : Int) - 1) n j i : Int) : Rat) = trP L (fun i => kr ((q : Int) - 1) n j i) (i + 1) := rfl
      refine j_nf [.o [1, 1, 0, 1, 0, 0, 1, 0, 0, 1, 0, 1, 0, 0, 0, 0] 0, .c [1, 1, 0, 1, 0, 0, 1, 0, 0, 1, 0, 1, 0, 0, 0, 1], .c [1, 1, 0, 1, 0, 0, 1, 0, 0, 1, 0, 1, 0, 0, 1], .lp [1, 1, 0, 1, 0, 0, 1, 0, 0, 1, 0, 1, 0, 0], .blk 2, .c [1, 1, 0, 1, 0, 0, 1, 0, 0, 1, 1], .blk 1, .c [1, 1, 0, 1, 0, 0, 1, 1], .lp [1, 1, 0, 1, 0, 0], .blk 0, .c [1, 1, 1]] rfl ?_
      refine j_run it 2 rfl (by simp) ?_
      refine j_step rfl (x_len sl44 rfl ?_)
      refine j_run it 1 rfl (by simp) ?_
      refine j_nf [.c [1, 1, 0, 1, 0, 0, 1, 0, 0, 1, 0, 1, 0, 0, 0, 1], .c [1, 1, 0, 1, 0, 0, 1, 0, 0, 1, 0, 1, 0, 0, 1], .lp [1, 1, 0, 1, 0, 0, 1, 0, 0, 1, 0, 1, 0, 0], .blk 2, .c [1, 1, 0, 1, 0, 0, 1, 0, 0, 1, 1], .blk 1, .c [1, 1, 0, 1, 0, 0, 1, 1], .lp [1, 1, 0, 1, 0, 0], .blk 0, .c [1, 1, 1]] rfl ?_
      refine j_if rfl rfl (fun h2 => ?_) (fun h2 => by exfalso; omega)
      refine j_nf [.c [1, 1, 0, 1, 0, 0, 1, 0, 0, 1, 0, 1, 0, 0, 1, 0, 0], .blk 3, .c [1, 1, 0, 1, 0, 0, 1, 0, 0, 1, 0, 1, 0, 0, 1, 1], .lp [1, 1, 0, 1, 0, 0, 1, 0, 0, 1, 0, 1, 0, 0], .blk 2, .c [1, 1, 0, 1, 0, 0, 1, 0, 0, 1, 1], .blk 1, .c [1, 1, 0, 1, 0, 0, 1, 1], .lp [1, 1, 0, 1, 0, 0], .blk 0, .c [1, 1, 1]] rfl ?_
      (apply j_drawK it mx 14; (· rfl); (· rfl))
      (apply lxk_eq; (· rfl); (· exact d_bld_all 0 rfl rfl ld25 rfl))
      (apply lxk_run 2; (· rfl); (· simp))
      (apply lxk_pt; (· rfl); (· exact d_x fun _ => x_idx 3 (i) rfl rfl rfl sl44 rfl (by omega) fun z1 hz1 b2 o1 => (dk_ptD default hz1 0 rfl)); intro b2 o1)
      (apply lxk_rq; (· rfl); (· exact d_x fun _ => x_ld_rt 0 rfl rfl ld25 fun pa1 ca1 pa2 ca2 => (dk_rq 0 1 rfl rfl)); intro pn2 cn2 pd2 cd2)
      (apply lxk_run 2; (· rfl); (· simp))
      (apply lxk_eq; (· rfl); (· exact d_x fun _ => x_len sl44 rfl dk_eq))
      (apply lxk_eq (v := Value.int IntKind.i64 ((((n + 1) - 1 : Nat)) : Int)); (· rfl); (· exact d_x fun _ => x_asN it _ rfl (by repeat' first | exact trivial | apply And.intro | omega) (by omega) dk_eq))
      simp only [Nat.add_sub_cancel]
      (apply lxk_run 2; (· rfl); (· simp))
      (apply lxk_rq; (· rfl); (· exact d_x fun _ => x_call [] rfl (S_codewrightref24_Krawtchouk (by first | omega | exact side _ (by assumption) | assumption | rfl | (simp; done) | (simp; omega)) (by first | omega | exact side _ (by assumption) | assumption | rfl | (simp; done) | (simp; omega)) (by first | omega | exact side _ (by assumption) | assumption | rfl | (simp; done) | (simp; omega)) (by first | omega | exact side _ (by assumption) | assumption | rfl | (simp; done) | (simp; omega)) (by first | omega | exact side _ (by assumption) | assumption | rfl | (simp; done) | (simp; omega))) rfl (by rintro _ _ _ ⟨pn3, cn3, pd3, cd3, rfl, rfl, rfl⟩; exact (dk_rq 0 1 rfl rfl))); intro pn3 cn3 pd3 cd3)
      (apply lxk_rq; (· rfl); (· exact d_x fun _ => x_call [2, 3, 0, 1] rfl (S_codewrightref02_Mul (by first | omega | exact side _ (by assumption) | assumption | rfl | (simp; done) | (simp; omega)) (by first | omega | exact side _ (by assumption) | assumption | rfl | (simp; done) | (simp; omega)) (by first | omega | exact side _ (by assumption) | assumption | rfl | (simp; done) | (simp; omega)) (by first | omega | exact side _ (by assumption) | assumption | rfl | (simp; done) | (simp; omega))) rfl (by rintro _ _ _ ⟨pn4, cn4, pd4, cd4, rfl, rfl, rfl⟩; exact (dk_rq 0 1 rfl rfl))); intro pn4 cn4 pd4 cd4)
      simp only [vq_rt']
      (apply lxk_rq; (· rfl); (· exact d_x fun _ => x_call [7, 8, 0, 1] rfl (S_codewrightref02_Add (by first | omega | exact side _ (by assumption) | assumption | rfl | (simp; done) | (simp; omega)) (by first | omega | exact side _ (by assumption) | assumption | rfl | (simp; done) | (simp; omega)) (by first | omega | exact side _ (by assumption) | assumption | rfl | (simp; done) | (simp; omega)) (by first | omega | exact side _ (by assumption) | assumption | rfl | (simp; done) | (simp; omega))) rfl (by rintro _ _ _ ⟨pn5, cn5, pd5, cd5, rfl, rfl, rfl⟩; exact (dk_rq 0 1 rfl rfl))); intro pn5 cn5 pd5 cd5)
      simp only [vq_rt']
      refine lxk_end rfl ?_
      simp only [List.map_cons, List.map_nil, List.cons_append, List.nil_append]
      refine j_step rfl (x_bst_all 0 rfl rfl rfl ld25 rfl rfl (by simp [Value.oneCell']) ?_)
      refine j_nf [.o [1, 1, 0, 1, 0, 0, 1, 0, 0, 1, 0, 1, 0, 0, 1, 1] 0, .lp [1, 1, 0, 1, 0, 0, 1, 0, 0, 1, 0, 1, 0, 0], .blk 2, .c [1, 1, 0, 1, 0, 0, 1, 0, 0, 1, 1], .blk 1, .c [1, 1, 0, 1, 0, 0, 1, 1], .lp [1, 1, 0, 1, 0, 0], .blk 0, .c [1, 1, 1]] rfl ?_
      refine j_run it 3 rfl (by repeat' first | exact trivial | apply And.intro | omega) ?_
      refine j_nfn 1 [.lp [1, 1, 0, 1, 0, 0, 1, 0, 0, 1, 0, 1, 0, 0], .blk 2, .c [1, 1, 0, 1, 0, 0, 1, 0, 0, 1, 1], .blk 1, .c [1, 1, 0, 1, 0, 0, 1, 1], .lp [1, 1, 0, 1, 0, 0], .blk 0, .c [1, 1, 1]] rfl ?_
      rw [eA]
      refine j_to [0, 1, 11, 12] (by repeat (first | exact Fr.sub_nil _ | refine Fr.sub_cons rfl ?_ | refine Fr.sub_consI rfl (by first | omega | (dsimp only; omega)) ?_ | refine Fr.sub_consS rfl (by first | omega | (dsimp only; omega)) (by first | omega | (dsimp only; omega)) ?_)) rfl rfl (ihi (i + 1, (pn5, cn5), (pd5, cd5)) (by dsimp only; omega) (by dsimp only; omega))
    · obtain rfl : n + 1 = i := by omega
      refine j_nf [.o [1, 1, 0, 1, 0, 0, 1, 0, 0, 1, 0, 1, 0, 0, 0, 0] 0, .c [1, 1, 0, 1, 0, 0, 1, 0, 0, 1, 0, 1, 0, 0, 0, 1], .c [1, 1, 0, 1, 0, 0, 1, 0, 0, 1, 0, 1, 0, 0, 1], .lp [1, 1, 0, 1, 0, 0, 1, 0, 0, 1, 0, 1, 0, 0], .blk 2, .c [1, 1, 0, 1, 0, 0, 1, 0, 0, 1, 1], .blk 1, .c [1, 1, 0, 1, 0, 0, 1, 1], .lp [1, 1, 0, 1, 0, 0], .blk 0, .c [1, 1, 1]] rfl ?_
      refine j_run it 2 rfl (by simp) ?_
      refine j_step rfl (x_len sl44 rfl ?_)
      refine j_run it 1 rfl (by simp) ?_
      refine j_nf [.c [1, 1, 0, 1, 0, 0, 1, 0, 0, 1, 0, 1, 0, 0, 0, 1], .c [1, 1, 0, 1, 0, 0, 1, 0, 0, 1, 0, 1, 0, 0, 1], .lp [1, 1, 0, 1, 0, 0, 1, 0, 0, 1, 0, 1, 0, 0], .blk 2, .c [1, 1, 0, 1, 0, 0, 1, 0, 0, 1, 1], .blk 1, .c [1, 1, 0, 1, 0, 0, 1, 1], .lp [1, 1, 0, 1, 0, 0], .blk 0, .c [1, 1, 1]] rfl ?_
      refine j_if rfl rfl (fun h2 => by exfalso; omega) (fun h2 => ?_)
      refine j_nf [.o [1, 1, 0, 1, 0, 0, 1, 0, 0, 1, 1] 0, .blk 1, .c [1, 1, 0, 1, 0, 0, 1, 1], .lp [1, 1, 0, 1, 0, 0], .blk 0, .c [1, 1, 1]] rfl ?_
      refine j_run it 1 rfl (by simp) ?_
      refine j_step rfl (x_bld_all 0 rfl rfl ld25 rfl ?_)
      refine j_step rfl (x_lit sl44 zo44e rfl rfl rfl rfl (by decide) (by decide) rfl fun b2 => ?_)
      refine j_step rfl (x_appR (z := ((rt (trP L (fun i => kr (↑q - 1) n j i) (n + 1))).fst, ((rt (trP L (fun i => kr (↑q - 1) n j i) (n + 1))).snd.fst, (rt (trP L (fun i => kr (↑q - 1) n j i) (n + 1))).snd.snd))) 2 0 2 rfl rfl rfl rfl rfl sl44 zo44e rfl (fun w A hG => (rd_pair (v1 := [Value.bool (rt (trP L (fun i => kr (↑q - 1) n j i) (n + 1))).fst]) (rd_bool _) (rd_pair (v1 := [Value.slice pn (rt (trP L (fun i => kr (↑q - 1) n j i) (n + 1))).snd.fst.length cn]) (rd_of_slF (hG _ (fact_mem (n := 0) rfl))) (rd_of_slF (hG _ (fact_mem (n := 1) rfl)))))) (by omega) _ by44e (by omega) fun r1 => ?_)
      refine j_run it 1 rfl (by simp) ?_
      refine j_nf [.o [1, 1, 0, 1, 0, 0, 1, 1] 0, .lp [1, 1, 0, 1, 0, 0], .blk 0, .c [1, 1, 1]] rfl ?_
      refine j_run it 3 rfl (by repeat' first | exact trivial | apply And.intro | omega) ?_
      refine j_nfn 1 [.lp [1, 1, 0, 1, 0, 0], .blk 0, .c [1, 1, 1]] rfl ?_
      rw [show ((rt (trP L (fun i => kr ((q : Int) - 1) n j i) (n + 1))).1, (rt (trP L (fun i => kr ((q : Int) - 1) n j i) (n + 1))).2.1, (rt (trP L (fun i => kr ((q : Int) - 1) n j i) (n + 1))).2.2) = rt (trP L (fun i => kr ((q : Int) - 1) n j i) (n + 1)) from rfl, ← range_snoc fun j => rt (trP L (fun i => kr ((q : Int) - 1) n j i) (n + 1))]
      refine j_toM [true, false, false] [0, 4] (by repeat (first | exact Fr.sub_nil _ | refine Fr.sub_cons rfl ?_ | refine Fr.sub_consI rfl (by first | omega | (dsimp only; omega)) ?_ | refine Fr.sub_consS rfl (by first | omega | (dsimp only; omega)) (by first | omega | (dsimp only; omega)) ?_)) rfl rfl (ih (j + 1, r1) (by dsimp only; omega) (by dsimp only; omega))
  · obtain rfl : n + 1 = j := by omega
    refine j_nf [.o [1, 1, 0, 1, 0, 0, 0, 0] 0, .c [1, 1, 0, 1, 0, 0, 0, 1], .c [1, 1, 0, 1, 0, 0, 1], .lp [1, 1, 0, 1, 0, 0], .blk 0, .c [1, 1, 1]] rfl ?_
    refine j_run it 2 rfl (by simp) ?_
    refine j_step rfl (x_len sl44 rfl ?_)
    refine j_run it 1 rfl (by simp) ?_
    refine j_nf [.c [1, 1, 0, 1, 0, 0, 0, 1], .c [1, 1, 0, 1, 0, 0, 1], .lp [1, 1, 0, 1, 0, 0], .blk 0, .c [1, 1, 1]] rfl ?_
    refine j_if rfl rfl (fun h1 => by exfalso; omega) (fun h1 => ?_)
    refine j_nf [.o [1, 1, 1, 0] 0, .c [1, 1, 1, 1]] rfl ?_
    refine j_run it 2 rfl (by simp) ?_
    refine j_nf [.c [1, 1, 1, 1]] rfl ?_
    refine j_pubR 0 0 rfl rfl (by show (n + 1) * 56 ≤ 140737488355328; omega) ?_
    refine j_giv [0] rfl rfl rfl ⟨_, _, rfl, rfl, rfl⟩

/-- How long the parts of fractions can be. -/
theorem rts_len {P : Program} {F : Fun P} {C : Cx} {S : List It} {σ : Fr} {β : List Blk} {Γ : List Fact} {R : Value → World → Prop} {pa : Option Addr} {n ca : Nat} {ls : List Rt} (k : Nat) (hk : nth Γ k = some (slF RatE pa n ca ls))
    (h : (∀ r ∈ ls, r.2.1.length ≤ 35184372088832 ∧ r.2.2.length ≤ 35184372088832) → J F C S σ β Γ R) : J F C S σ β Γ R :=
  j_know (fun w A hG r hr => by
    obtain ⟨_, _, _, hs⟩ := hG _ (fact_mem hk)
    rcases hs with rfl | ⟨b, o, _, _, hel⟩
    · cases hr
    · obtain ⟨i, hi⟩ := List.getElem?_of_mem hr
      obtain ⟨vs, _, hrd⟩ := hel i r hi
      obtain ⟨_, _, _, _, _, h1, h2⟩ := rt_open hrd
      have e1 : r.2.1.length * 4 ≤ 140737488355328 := h1.2.1
      have e2 : r.2.2.length * 4 ≤ 140737488355328 := h2.2.1
      omega) h

/-- A number with more limbs in both parts. -/
def largeB (m : Nat) (L : List Rt) : Bool := L.any fun r => decide (m < r.2.1.length + r.2.2.length)
theorem S_codewrightlaw24_large {m : Nat} {pa : Option Addr} {n ca : Nat} {L : List Rt} : Ctr Try.prog 26 [.int .i64 m, .slice pa n ca] [] [slF RatE pa n ca L] (Rv (.bool (largeB m L)) []) := by
  refine Ctr_of_j' (F := F_codewrightlaw24_large) rfl fun C => ?_
  refine j_len 0 rfl fun hn hb _ => ?_
  subst hn
  have hb' : L.length * 56 ≤ 140737488355328 := hb
  refine rts_len 0 rfl fun hls => ?_
  refine j_nf [.o [0] 0, .c [1]] rfl ?_
  refine j_run it 1 rfl (by simp) ?_
  refine j_nf [.o [1, 0, 0] 0, .c [1, 0, 1], .c [1, 1]] rfl ?_
  refine j_run it 1 rfl (by simp) ?_
  refine j_nf [.c [1, 0, 1, 0], .blk 0, .c [1, 1]] rfl ?_
  refine j_loopG (X := Nat) [0, 1] [0] (fun k => [(5, .int .i64 k)]) (fun _ => []) (fun _ => [])
    (fun k => k ≤ L.length ∧ largeB m (L.take k) = false) (fun k => L.length - k) 0 [] rfl rfl rfl ⟨Nat.zero_le _, rfl⟩ (by repeat (first | exact Fr.sub_nil _ | refine Fr.sub_cons rfl ?_)) rfl rfl ?_
  intro k ⟨hk, hf⟩ ih
  simp only [List.cons_append, List.nil_append] at ih ⊢
  by_cases hkl : k < L.length
  · have hz := get_some (l := L) (i := k) (dflt := default) hkl
    obtain ⟨k1, k2⟩ := hls _ (List.mem_of_getElem? hz)
    by_cases hbig : m < (L.getD k default).2.1.length + (L.getD k default).2.2.length
    · have e : largeB m L = true := List.any_eq_true.2 ⟨L.getD k default, List.mem_of_getElem? hz, by simpa using hbig⟩
      rw [e]
      refine j_nf [.o [1, 0, 1, 0, 0, 0, 0] 0, .c [1, 0, 1, 0, 0, 0, 1], .c [1, 0, 1, 0, 0, 1], .lp [1, 0, 1, 0, 0], .blk 0, .c [1, 1]] rfl ?_
      refine j_run it 2 rfl (by simp) ?_
      refine j_step rfl (x_len sl44 rfl ?_)
      refine j_run it 1 rfl (by simp) ?_
      refine j_nf [.c [1, 0, 1, 0, 0, 0, 1], .c [1, 0, 1, 0, 0, 1], .lp [1, 0, 1, 0, 0], .blk 0, .c [1, 1]] rfl ?_
      refine j_if rfl rfl (fun h1 => ?_) (fun h1 => by exfalso; omega)
      refine j_nf [.c [1, 0, 1, 0, 0, 1, 0, 0, 0], .c [1, 0, 1, 0, 0, 1, 0, 0, 1], .blk 1, .c [1, 0, 1, 0, 0, 1, 1], .lp [1, 0, 1, 0, 0], .blk 0, .c [1, 1]] rfl ?_
      (apply j_drawK it mx 15; (· rfl); (· rfl))
      (apply lxk_run 2; (· rfl); (· simp))
      (apply lxk_pt; (· rfl); (· exact d_x fun _ => x_idx 0 (k) rfl rfl rfl sl44 rfl (by omega) fun z1 hz1 b1 o1 => (dk_ptD default hz1 0 rfl)); intro b1 o1)
      (apply lxk_pt; (· rfl); (· exact d_x fun _ => x_field_rt rfl fd25_1 (fun w A hG => rt_f1 (hG _ (fact_mem (n := 0) rfl))) (dk_pt 0 rfl)); intro b2 o2)
      (apply lxk_sl; (· rfl); (· exact d_x fun _ => x_ld_sl 0 rfl rfl ld23 fun pa1 ca1 => (dk_sl 0 rfl)); intro pa1 ca1)
      (apply lxk_eq; (· rfl); (· exact d_x fun _ => x_len sl23 rfl dk_eq))
      (apply lxk_run 2; (· rfl); (· simp))
      (apply lxk_pt; (· rfl); (· exact d_x fun _ => x_idx 0 (k) rfl rfl rfl sl44 rfl (by omega) fun z1 hz1 b3 o3 => (dk_ptD default hz1 0 rfl)); intro b3 o3)
      (apply lxk_pt; (· rfl); (· exact d_x fun _ => x_field_rt rfl fd25_2 (fun w A hG => rt_f2 (hG _ (fact_mem (n := 0) rfl))) (dk_pt 0 rfl)); intro b4 o4)
      (apply lxk_sl; (· rfl); (· exact d_x fun _ => x_ld_sl 0 rfl rfl ld23 fun pa2 ca2 => (dk_sl 0 rfl)); intro pa2 ca2)
      (apply lxk_eq; (· rfl); (· exact d_x fun _ => x_len sl23 rfl dk_eq))
      (apply lxk_run 3; (· rfl); (· exact (by repeat' first | exact trivial | apply And.intro | omega)))
      refine lxk_end rfl ?_
      simp only [List.map_cons, List.map_nil, List.cons_append, List.nil_append]
      refine j_nf [.c [1, 0, 1, 0, 0, 1, 0, 0, 1], .blk 1, .c [1, 0, 1, 0, 0, 1, 1], .lp [1, 0, 1, 0, 0], .blk 0, .c [1, 1]] rfl ?_
      refine j_if rfl rfl (fun h2 => ?_) (fun h2 => by exfalso; omega)
      refine j_nf [.o [1, 0, 1, 0, 0, 1, 0, 0, 1, 0, 0] 0, .c [1, 0, 1, 0, 0, 1, 0, 0, 1, 0, 1], .blk 1, .c [1, 0, 1, 0, 0, 1, 1], .lp [1, 0, 1, 0, 0], .blk 0, .c [1, 1]] rfl ?_
      refine j_run it 1 rfl (by simp) ?_
      refine j_nf [.c [1, 0, 1, 0, 0, 1, 0, 0, 1, 0, 1], .blk 1, .c [1, 0, 1, 0, 0, 1, 1], .lp [1, 0, 1, 0, 0], .blk 0, .c [1, 1]] rfl ?_
      refine j_giv [] rfl rfl rfl ⟨rfl, rfl, rfl⟩
    · refine j_nf [.o [1, 0, 1, 0, 0, 0, 0] 0, .c [1, 0, 1, 0, 0, 0, 1], .c [1, 0, 1, 0, 0, 1], .lp [1, 0, 1, 0, 0], .blk 0, .c [1, 1]] rfl ?_
      refine j_run it 2 rfl (by simp) ?_
      refine j_step rfl (x_len sl44 rfl ?_)
      refine j_run it 1 rfl (by simp) ?_
      refine j_nf [.c [1, 0, 1, 0, 0, 0, 1], .c [1, 0, 1, 0, 0, 1], .lp [1, 0, 1, 0, 0], .blk 0, .c [1, 1]] rfl ?_
      refine j_if rfl rfl (fun h1 => ?_) (fun h1 => by exfalso; omega)
      refine j_nf [.c [1, 0, 1, 0, 0, 1, 0, 0, 0], .c [1, 0, 1, 0, 0, 1, 0, 0, 1], .blk 1, .c [1, 0, 1, 0, 0, 1, 1], .lp [1, 0, 1, 0, 0], .blk 0, .c [1, 1]] rfl ?_
      (apply j_drawK it mx 15; (· rfl); (· rfl))
      (apply lxk_run 2; (· rfl); (· simp))
      (apply lxk_pt; (· rfl); (· exact d_x fun _ => x_idx 0 (k) rfl rfl rfl sl44 rfl (by omega) fun z1 hz1 b1 o1 => (dk_ptD default hz1 0 rfl)); intro b1 o1)
      (apply lxk_pt; (· rfl); (· exact d_x fun _ => x_field_rt rfl fd25_1 (fun w A hG => rt_f1 (hG _ (fact_mem (n := 0) rfl))) (dk_pt 0 rfl)); intro b2 o2)
      (apply lxk_sl; (· rfl); (· exact d_x fun _ => x_ld_sl 0 rfl rfl ld23 fun pa1 ca1 => (dk_sl 0 rfl)); intro pa1 ca1)
      (apply lxk_eq; (· rfl); (· exact d_x fun _ => x_len sl23 rfl dk_eq))
      (apply lxk_run 2; (· rfl); (· simp))
      (apply lxk_pt; (· rfl); (· exact d_x fun _ => x_idx 0 (k) rfl rfl rfl sl44 rfl (by omega) fun z1 hz1 b3 o3 => (dk_ptD default hz1 0 rfl)); intro b3 o3)
      (apply lxk_pt; (· rfl); (· exact d_x fun _ => x_field_rt rfl fd25_2 (fun w A hG => rt_f2 (hG _ (fact_mem (n := 0) rfl))) (dk_pt 0 rfl)); intro b4 o4)
      (apply lxk_sl; (· rfl); (· exact d_x fun _ => x_ld_sl 0 rfl rfl ld23 fun pa2 ca2 => (dk_sl 0 rfl)); intro pa2 ca2)
      (apply lxk_eq; (· rfl); (· exact d_x fun _ => x_len sl23 rfl dk_eq))
      (apply lxk_run 3; (· rfl); (· exact (by repeat' first | exact trivial | apply And.intro | omega)))
      refine lxk_end rfl ?_
      simp only [List.map_cons, List.map_nil, List.cons_append, List.nil_append]
      refine j_nf [.c [1, 0, 1, 0, 0, 1, 0, 0, 1], .blk 1, .c [1, 0, 1, 0, 0, 1, 1], .lp [1, 0, 1, 0, 0], .blk 0, .c [1, 1]] rfl ?_
      refine j_if rfl rfl (fun h2 => by exfalso; omega) (fun h2 => ?_)
      refine j_nf [.o [1, 0, 1, 0, 0, 1, 1] 0, .lp [1, 0, 1, 0, 0], .blk 0, .c [1, 1]] rfl ?_
      refine j_run it 3 rfl (by repeat' first | exact trivial | apply And.intro | omega) ?_
      refine j_nfn 1 [.lp [1, 0, 1, 0, 0], .blk 0, .c [1, 1]] rfl ?_
      refine j_to [6] (by repeat (first | exact Fr.sub_nil _ | refine Fr.sub_cons rfl ?_ | refine Fr.sub_consI rfl (by first | omega | (dsimp only; omega)) ?_ | refine Fr.sub_consS rfl (by first | omega | (dsimp only; omega)) (by first | omega | (dsimp only; omega)) ?_)) rfl rfl (ih (k + 1) (by omega) ⟨by omega, by
        rw [List.take_add_one, hz]
        unfold largeB at hf ⊢
        rw [List.any_append, hf, Bool.false_or]
        simp only [Option.toList_some, List.any_cons, List.any_nil, Bool.or_false]
        exact decide_eq_false hbig⟩)
  · have ek : k = L.length := by omega
    subst ek
    rw [List.take_length] at hf
    rw [hf]
    refine j_nf [.o [1, 0, 1, 0, 0, 0, 0] 0, .c [1, 0, 1, 0, 0, 0, 1], .c [1, 0, 1, 0, 0, 1], .lp [1, 0, 1, 0, 0], .blk 0, .c [1, 1]] rfl ?_
    refine j_run it 2 rfl (by simp) ?_
    refine j_step rfl (x_len sl44 rfl ?_)
    refine j_run it 1 rfl (by simp) ?_
    refine j_nf [.c [1, 0, 1, 0, 0, 0, 1], .c [1, 0, 1, 0, 0, 1], .lp [1, 0, 1, 0, 0], .blk 0, .c [1, 1]] rfl ?_
    refine j_if rfl rfl (fun h1 => by exfalso; omega) (fun h1 => ?_)
    refine j_nf [.o [1, 1, 0] 0, .c [1, 1, 1]] rfl ?_
    refine j_run it 1 rfl (by simp) ?_
    refine j_nf [.c [1, 1, 1]] rfl ?_
    refine j_giv [] rfl rfl rfl ⟨rfl, rfl, rfl⟩
end Go.Proofs.Ytamkmihhpadamaa

namespace Go.Fw
open Go.ChangeShapes Go.WideShapes Go.RowKit

/-- What is read at a type, is read so. -/
def Opens {α : Type} (P : Program) (t : TypeId) (E : Enc α) : Prop :=
  P.cellsOf t = E.size ∧ P.bytesOf t = E.bytes ∧ ∀ {H : Type} (enc : TypeId × Value → H) (W : World) (fuel : Nat) (cs : List Value) (d : DataW H) (ps : List MemPlace),
    DataW.trod enc P W 0 (fun _ => true) true fuel t cs = some (d, ps) → (∀ n ∈ d.weights P t, n ≤ reachBytes) → ∃ x : α, E.rd W (fun k => k < W.heap.size) cs x

theorem inR_of_wf {k : IntKind} {n : Int} (h : (Lit.int k n).wf = true) : InR k n := by
  cases k <;> simp [Lit.wf, IntKind.min, IntKind.max, IntKind.bits, IntKind.signed] at h <;> simp only [InR] <;> omega

section
variable {P : Program} {t : TypeId}

theorem opens_int {k : IntKind} {by' : Nat} (ht : P.underlying t = some (.int k)) (hc : P.cellsOf t = 1) (hb : P.bytesOf t = by') : Opens P t (encInt k by') :=
  ⟨hc, hb, fun enc W fuel cs d ps h _ => by
    obtain ⟨n, rfl, _, hw⟩ := DataW.trod_int ht h
    exact ⟨n, rfl, inR_of_wf hw⟩⟩

theorem opens_nat {k : IntKind} {by' : Nat} (ht : P.underlying t = some (.int k)) (hc : P.cellsOf t = 1) (hb : P.bytesOf t = by') (hk : ∀ n, InR k n → 0 ≤ n) : Opens P t (encNat k by') :=
  ⟨hc, hb, fun enc W fuel cs d ps h _ => by
    obtain ⟨n, rfl, _, hw⟩ := DataW.trod_int ht h
    have h1 := inR_of_wf hw
    have h0 := hk n h1
    refine ⟨n.toNat, ?_, ?_⟩
    · rw [Int.toNat_of_nonneg h0]
    · rwa [Int.toNat_of_nonneg h0]⟩

theorem opens_bool (ht : P.underlying t = some .bool) (hc : P.cellsOf t = 1) (hb : P.bytesOf t = 1) : Opens P t encBool :=
  ⟨hc, hb, fun enc W fuel cs d ps h _ => by
    obtain ⟨b, rfl, _⟩ := DataW.trod_bool ht h
    exact ⟨b, rfl⟩⟩

theorem cellsAt_of_cells? {W : World} {a : Addr} {n : Nat} {cs : List Value} (h : W.cells? 0 a n = some cs) (hn : 0 < n) : a.spot = none ∧ a.block < W.heap.size ∧ cellsAt W a.block a.off n cs := by
  obtain ⟨_, hl, hc⟩ := World.cells?_some h
  have h0 := hc 0 hn
  rw [List.getElem?_eq_getElem (by omega)] at h0
  have e0 : a.add 0 = a := rfl
  rw [e0] at h0
  unfold World.cell? at h0
  split at h0
  · rename_i c T fr hb
    split at h0
    · cases h0
    · rename_i hs
      have hs' : a.spot = none := by cases ha : a.spot with
        | none => rfl
        | some _ => rw [ha] at hs; simp at hs
      refine ⟨hs', ?_, c, T, fr, hb, ?_, hl⟩
      · rcases Nat.lt_or_ge a.block W.heap.size with h | h
        · exact h
        · rw [Array.getElem?_eq_none h] at hb; cases hb
      · apply List.ext_getElem?
        intro i
        by_cases hi : i < n
        · have := hc i hi
          unfold World.cell? Addr.add at this
          rw [List.getElem?_take, if_pos hi, List.getElem?_drop, ← this]
          by_cases h0 : i = 0
          · subst h0; simp [hb, hs']
          · simp [h0, hb]
        · rw [List.getElem?_take, if_neg hi, List.getElem?_eq_none (by omega)]
  · cases h0

theorem list_of_all {α : Type} : ∀ (n : Nat) (p : Nat → α → Prop), (∀ i, i < n → ∃ x, p i x) → ∃ l : List α, l.length = n ∧ ∀ i x, l[i]? = some x → p i x := by
  intro n p h
  refine ⟨List.ofFn (fun i : Fin n => Classical.choose (h i.1 i.2)), by simp, fun i x hx => ?_⟩
  have hi : i < n := by
    have := (List.getElem?_eq_some_iff.1 hx).1
    simpa using this
  have e : x = Classical.choose (h i hi) := by
    rw [List.getElem?_eq_getElem (by simpa using hi), List.getElem_ofFn] at hx
    exact (Option.some.inj hx).symm
  rw [e]
  exact Classical.choose_spec (h i hi)

theorem weightsAll_of {H : Type} {e : TypeId} : ∀ {l : List (DataW H)} {d : DataW H}, d ∈ l → ∀ n ∈ d.weights P e, n ∈ DataW.weightsAll P e l
  | [], _, hd, _, _ => by cases hd
  | x :: l, d, hd, n, hn => by
    simp only [DataW.weightsAll, List.mem_append]
    rcases List.mem_cons.1 hd with rfl | hd
    · exact .inl hn
    · exact .inr (weightsAll_of hd n hn)

theorem opens_sl {α : Type} {E : Enc α} {e : TypeId} (ht : P.underlying t = some (.slice e)) (hE : Opens P e E) (hc : P.cellsOf t = 1) (hb : P.bytesOf t = 24) (hs : 0 < E.size) : Opens P t (encSl E) :=
  ⟨hc, hb, fun enc W fuel cs d ps h hw => by
    obtain ⟨he, hby, hE⟩ := hE
    rcases Deep.open_slice ht h with ⟨rfl, _⟩ | ⟨a, len, cap, m, n, D, Pl, rfl, _, hl, _, hm, hx, hel⟩
    · exact ⟨[], none, 0, rfl, Nat.zero_le _, by simp, .inl rfl⟩
    · simp only [Prod.mk.injEq] at hx
      obtain ⟨rfl, _⟩ := hx
      simp only [if_true] at hm
      subst hm
      have hsz : len * E.bytes ≤ 140737488355328 := by
        have h1 : ((List.range len).map D).length + ((List.range (m - len)).map fun j => D (len + j)).length = m := by simp; omega
        have h2 := hw (m * P.bytesOf e) (by rw [DataW.weights, ht]; show m * P.bytesOf e ∈ _ :: _; rw [h1]; exact List.mem_cons_self)
        rw [hby] at h2
        exact Nat.le_trans (Nat.mul_le_mul_right _ hl) (Nat.le_trans h2 (by decide))
      have each : ∀ i, i < len → ∃ x : α, (a.spot = none ∧ a.block < W.heap.size) ∧ ∃ vs, cellsAt W a.block (a.off + i * E.size) E.size vs ∧ E.rd W (fun k => k < W.heap.size) vs x := by
        intro i hi
        obtain ⟨cs', h1, h2⟩ := hel i (by omega)
        obtain ⟨x, hxr⟩ := hE enc W n cs' _ _ h2 (fun k hk => hw k (by
          rw [DataW.weights, ht]
          refine List.mem_cons_of_mem _ (List.mem_append_left _ (weightsAll_of (List.mem_map.2 ⟨i, List.mem_range.2 hi, rfl⟩) k hk))))
        rw [he] at h1
        obtain ⟨hsp, hlt, hca⟩ := cellsAt_of_cells? h1 hs
        have hadd : (a.add (i * E.size)).block = a.block ∧ (a.add (i * E.size)).off = a.off + i * E.size := by
          unfold Addr.add
          split
          · rename_i h; rw [h]; exact ⟨rfl, rfl⟩
          · exact ⟨rfl, rfl⟩
        rw [hadd.1] at hlt
        rw [hadd.1, hadd.2] at hca
        have hsp0 : a.spot = none := by
          obtain ⟨cs0, h10, _⟩ := hel 0 (by omega)
          rw [he, Nat.zero_mul] at h10
          exact (cellsAt_of_cells? h10 hs).1
        exact ⟨x, ⟨hsp0, hlt⟩, cs', hca, hxr⟩
      obtain ⟨l, hll, hlx⟩ := list_of_all len _ each
      refine ⟨l, some a, m, by rw [hll], by omega, by rw [hll]; exact hsz, ?_⟩
      cases l with
      | nil => exact .inl rfl
      | cons y l =>
        obtain ⟨⟨h1, h2⟩, _⟩ := hlx 0 y rfl
        refine .inr ⟨a.block, a.off, ?_, h2, fun i x hi => (hlx i x hi).2⟩
        cases a; simp_all⟩

/-- The fields of a struct from one place on. -/
def OpensAll {α : Type} (P : Program) (fs : List Field) (off : Nat) (E : Enc α) : Prop :=
  ∀ {H : Type} (enc : TypeId × Value → H) (W : World) (n : Nat) (cs : List Value) (xs : List (DataW H × List MemPlace)), xs.length = fs.length →
    (∀ (i : Nat) (f : Field), fs[i]? = some f → DataW.trod enc P W 0 (fun _ => true) true n f.type ((cs.drop f.offset).take (P.cellsOf f.type)) = xs[i]?) → cs.length = off + E.size →
    (∀ n ∈ DataW.weightsEach P (fs.map fun f : Field => f.type) (xs.map (·.1)), n ≤ reachBytes) → ∃ x : α, E.rd W (fun k => k < W.heap.size) (cs.drop off) x

theorem opensAll_one {α : Type} {E : Enc α} {f : Field} {off : Nat} (hf : f.offset = off) (hE : Opens P f.type E) : OpensAll P [f] off E := fun enc W n cs xs hl h hc hw => by
  match xs, hl with
  | [x], _ =>
    have h0 := h 0 f rfl
    obtain ⟨d, ps⟩ := x
    rw [hf, hE.1, List.take_of_length_le (by rw [List.length_drop]; omega)] at h0
    exact hE.2.2 enc W n _ d ps h0 (fun k hk => hw k (by simp [DataW.weightsEach, hk]))

theorem opensAll_cons {α β : Type} {E : Enc α} {F : Enc β} {f : Field} {fs : List Field} {off : Nat} (by' : Nat) (hf : f.offset = off) (hE : Opens P f.type E) (hF : OpensAll P fs (off + E.size) F) : OpensAll P (f :: fs) off (encPair E F by') := fun enc W n cs xs hl h hc hw => by
  match xs, hl with
  | x :: xs, hl =>
    have h0 := h 0 f rfl
    obtain ⟨d, ps⟩ := x
    rw [hf, hE.1] at h0
    have hc' : cs.length = off + (E.size + F.size) := hc
    obtain ⟨y, hy⟩ := hE.2.2 enc W n _ d ps h0 (fun k hk => hw k (by simp [DataW.weightsEach, hk]))
    obtain ⟨z, hz⟩ := hF enc W n cs xs (by simpa using hl) (fun i g hg => by simpa using h (i + 1) g (by simpa using hg)) (by omega) (fun k hk => hw k (by
      simp only [List.map_cons, DataW.weightsEach, List.mem_append]; exact .inr hk))
    refine ⟨(y, z), _, _, ?_, hy, hz⟩
    rw [← List.drop_drop, List.take_append_drop]

theorem opens_struct {α : Type} {E : Enc α} {fs : Array Field} (ht : P.underlying t = some (.struct fs)) (hE : OpensAll P fs.toList 0 E) (hc : P.cellsOf t = E.size) (hb : P.bytesOf t = E.bytes) : Opens P t E :=
  ⟨hc, hb, fun enc W fuel cs d ps h hw => by
    obtain ⟨xs, n, _, hx, hl, hlen, hf⟩ := DataW.trod_struct ht h
    simp only [Prod.mk.injEq] at hx
    obtain ⟨rfl, _⟩ := hx
    obtain ⟨x, hx⟩ := hE enc W n cs xs (by simpa using hlen) (fun i f hi => hf i f (by simpa using hi)) (by rw [hl, hc]; omega) (fun k hk => hw k (by rw [DataW.weights, ht]; exact hk))
    exact ⟨x, by simpa using hx⟩⟩

/-! ### Arguments -/

def Arg (P : Program) (W : World) (t : TypeId) (v : Value) : Prop :=
  (∃ b, Value.okWide P W .any b t v) ∧ ∃ (H : Type) (enc : TypeId × Value → H) (d : DataW H) (p : List MemPlace), DataW.Trod enc P W 0 (fun _ => true) true t v d p ∧ ∀ n ∈ d.weights P t, n ≤ reachBytes

def Args (P : Program) (W : World) : List TypeId → List Value → Prop
  | [], [] => True
  | t :: ts, v :: vs => Arg P W t v ∧ Args P W ts vs
  | _, _ => False

variable {W : World} {v : Value}

theorem Arg.slice {α : Type} {E : Enc α} {e : TypeId} (h : Arg P W t v) (ht : P.underlying t = some (.slice e)) (hE : Opens P t (encSl E)) : ∃ pa ca l, v = .slice pa l.length ca ∧ (slF E pa l.length ca l).holds W (fun k => k < W.heap.size) := by
  obtain ⟨⟨b, hv⟩, H, enc, d, p, ⟨fuel, hf⟩, hw⟩ := h
  obtain ⟨a, len, cap, rfl⟩ := okWide_slice ht hv
  obtain ⟨l, pa, ca, e1, hs⟩ := hE.2.2 enc W fuel _ d p hf hw
  have e2 : Value.slice a len cap = .slice pa l.length ca := by simpa [Value.cells] using e1
  exact ⟨pa, ca, l, e2, rfl, hs⟩

theorem Arg.int {k : IntKind} (h : Arg P W t v) (ht : P.underlying t = some (.int k)) : ∃ n, v = .int k n ∧ InR k n := by
  obtain ⟨⟨b, hv⟩, H, enc, d, p, hf, hw⟩ := h
  obtain ⟨n, e, _, _, hn⟩ := open_int ht hv hf
  exact ⟨n, e, inR_of_wf hn⟩

theorem Arg.bool (h : Arg P W t v) (ht : P.underlying t = some .bool) : ∃ b, v = .bool b := by
  obtain ⟨⟨b, hv⟩, H, enc, d, p, hf, hw⟩ := h
  obtain ⟨n, e, _⟩ := open_bool ht hv hf
  exact ⟨n, e⟩

theorem Arg.agg {α : Type} {E : Enc α} {fs : Array Field} (h : Arg P W t v) (ht : P.underlying t = some (.struct fs)) (hE : Opens P t E) : ∃ vs x, v = .agg vs.toArray ∧ (vF E vs x).holds W (fun k => k < W.heap.size) := by
  obtain ⟨⟨b, hv⟩, H, enc, d, p, ⟨fuel, hf⟩, hw⟩ := h
  obtain ⟨cs, rfl, _⟩ := okWide_struct ht hv
  obtain ⟨x, hx⟩ := hE.2.2 enc W fuel _ d p hf hw
  have hx' : E.rd W (fun k => k < W.heap.size) cs.toList x := hx
  exact ⟨cs.toList, x, by simp, hx'⟩

end

theorem trodAll_below {H : Type} {enc : TypeId × Value → H} {P : Program} (hl : laidOutB P = true) {W W' : World} (hb : Below W.heap.size W W') : ∀ {ts : List TypeId} {vs : List Value} {ds : List (DataW H)} {ps : List MemPlace},
    (ts.all fun t => P.readableRec t && decide (t < P.types.size)) = true → DataW.TrodAll enc P W 0 (fun _ => true) true ts vs ds ps → DataW.TrodAll enc P W' 0 (fun b => decide (b < W.heap.size)) true ts vs ds ps
  | [], [], [], _, _, h => h
  | t :: ts, v :: vs, d :: ds, ps, ha, ⟨p, q, h1, h2, e⟩ => by
    simp only [List.all_cons, Bool.and_eq_true, decide_eq_true_eq] at ha
    refine ⟨p, q, Below.trod hl ha.1.1 ha.1.2 h1 hb ?_, trodAll_below hl hb (by simpa using ha.2) h2, e⟩
    obtain ⟨m, hm⟩ := h1
    exact DataW.trod_lt m _ _ _ hm
  | [], _ :: _, _, _, _, h => h.elim
  | [], [], _ :: _, _, _, h => h.elim
  | _ :: _, [], _, _, _, h => h.elim
  | _ :: _, _ :: _, [], _, _, h => h.elim

theorem args_of {H : Type} {enc : TypeId × Value → H} {P : Program} {W : World} {base : Nat} : ∀ (ts : List TypeId) (vs : List Value) (ds : List (DataW H)) (ps : List MemPlace),
    (∀ (j : Nat) t v, ts[j]? = some t → vs[j]? = some v → Value.okWide P W .any base t v) → DataW.TrodAll enc P W 0 (fun _ => true) true ts vs ds ps → (∀ n ∈ DataW.weightsEach P ts ds, n ≤ reachBytes) → Args P W ts vs
  | [], [], [], _, _, _, _ => trivial
  | t :: ts, v :: vs, d :: ds, ps, hv, ⟨p, q, h1, h2, e⟩, hw => by
    refine ⟨⟨⟨base, hv 0 t v rfl rfl⟩, H, enc, d, p, h1, fun n hn => hw n (by simp only [DataW.weightsEach, List.mem_append]; exact .inl hn)⟩, args_of ts vs ds q (fun j t v ht hv' => hv (j + 1) t v (by simpa using ht) (by simpa using hv')) h2 (fun n hn => hw n (by simp only [DataW.weightsEach, List.mem_append]; exact .inr hn))⟩
  | [], _ :: _, _, _, _, h, _ => h.elim
  | [], [], _ :: _, _, _, h, _ => h.elim
  | _ :: _, [], _, _, _, h, _ => h.elim
  | _ :: _, _ :: _, [], _, _, h, _ => h.elim

/-- What a law's call comes to. -/
def LawSays (P : Program) (f : FuncId) (fn : Func) : Prop :=
  ∀ (W : World) (args : List Value), Args P W fn.params.toList args → Calls P f args.toArray W (Ret fun v W' => v = .bool true ∧ Below W.heap.size W W')

theorem law_of_gives {P : Program} {f : FuncId} {args : List Value} {Γ : List Fact} {W : World} {Q : Value → List Fact → List Blk → Prop} (h : Ctr P f args [] Γ Q) (hq : ∀ v Φ β, Q v Φ β → v = .bool true) (hG : ∀ g ∈ Γ, g.holds W (fun k => k < W.heap.size)) :
    Calls P f args.toArray W (Ret fun v W' => v = .bool true ∧ Below W.heap.size W W') := by
  refine (h.2 W (fun k => k < W.heap.size) (fun k hk => hk) (fun x hx => by cases hx) trivial (fun g hg => g.stable (fun k hk => ⟨⟨hk, fun ⟨x, hx, _⟩ => by cases hx⟩, rfl⟩) (hG g hg))).mono ?_
  intro e w' he
  cases e <;> try exact he.elim
  obtain ⟨Φ, β, hQ, hO, _⟩ := he
  exact ⟨hq _ _ _ hQ, hO.ext.os, hO.ext.tape, hO.ext.output, hO.ext.size, fun k hk => hO.ext.block k hk (fun ⟨x, hx, _⟩ => by cases hx)⟩

/-- The law's row, from what its call comes to. -/
theorem law_lift {H : Type} {enc : TypeId × Value → H} {C : Checked} {f : FuncId} {fn : Func} {s : ChangeSpec} {tb : TypeId} {os : Os} {conds : List PathCond}
    (own : ownKnob C.prog.godebug = none) (started : os.Started) (noInit : C.prog.inits.idxOf? f = none) (hfn : C.prog.funcs[f]? = some fn)
    (witness : ∃ (w : World) (tape : Tape) (i : Input), w.os = os ∧ (w.forCall tape i).Shaped C.prog ∧ i.vars = [] ∧ Input.okWide C.prog (w.forCall tape i) .any w.heap.size f i ∧
      s.pre6 enc C.prog fn conds false (w.forCall tape i).memory i.args ∧ (Assume.holds {} C.prog (lone (Frame.enter C.prog f i.args .normal) [] (w.forCall tape i))))
    (laid : laidOutB C.prog = true) (hvars : s.vars = []) (hts : (fn.params.toList.all fun t => C.prog.readableRec t && decide (t < C.prog.types.size)) = true)
    (hres : fn.resultTypes = #[tb]) (htb : C.prog.underlying tb = some .bool)
    (hspec : ∀ ds : List (DataW H), ds.length = fn.params.toList.length → s.fn H ds = { results := [.lit (.bool true)], args := ds })
    (walk : LawSays C.prog f fn) :
    ReturnsInHanded {} C os f .any (s.pre6 enc C.prog fn conds false) (s.post enc C.prog fn false true false false) := by
  refine returnsInHanded_of_change_sized own started noInit hfn witness ?_
  intro W base args ds gs before hval hW _ hsz _
  have hW' := hW
  obtain ⟨p, q, hA, hV, rfl, _, _⟩ := hW
  rw [hvars] at hV
  obtain ⟨rfl, rfl⟩ := trodVars_none hV
  have hlen : ∀ {ts : List TypeId} {vs : List Value} {ds : List (DataW H)} {ps : List MemPlace}, DataW.TrodAll enc C.prog W 0 (fun _ => true) true ts vs ds ps → ds.length = ts.length := by
    intro ts
    induction ts with
    | nil => intro vs ds ps h; cases vs <;> cases ds <;> first | rfl | exact h.elim
    | cons t ts ih =>
      intro vs ds ps h
      cases vs <;> cases ds <;> try exact h.elim
      obtain ⟨p, q, _, h2, _⟩ := h
      simp [ih h2]
  have hw : ∀ n ∈ DataW.weightsEach C.prog fn.params.toList ds, n ≤ reachBytes := fun n hn => by
    have e : s.plain.varTypes C.prog = [] := by
      unfold DataSpec.varTypes ChangeSpec.plain
      rw [hvars]; rfl
    rw [e, List.append_nil, List.append_nil] at hsz
    simpa using List.all_eq_true.1 hsz n hn
  have := walk W args.toList (args_of fn.params.toList args.toList ds p (fun j t v ht hv => hval j t v (by simpa using ht) (by simpa using hv)) hA hw)
  rw [Array.toArray_toList] at this
  refine this.mono fun e W' he => ?_
  cases e <;> try exact he.elim
  obtain ⟨rfl, hb⟩ := he
  refine ⟨_, rfl, ds, [], p ++ [], [], p, [], hW', ?_, ?_, ?_, hb.frame _, fun h => by cases h⟩
  · rw [List.append_nil, hspec ds (hlen hA), hres]
    exact trodAll_mk1 (shut_bool htb _)
  · rw [List.append_nil, hspec ds (hlen hA)]
    exact trodAll_below laid hb hts hA
  · rw [List.append_nil, hspec ds (hlen hA), hvars]
    rfl

end Go.Fw
