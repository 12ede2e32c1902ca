/-
Rows of fractions by their numbers; replaced. Negatives of a row of one's own; the dictionary in memory. The pivot of a dictionary. The outer variable that enters. The basic variable that leaves. The climb by Bland's rule. The values of the first variables. The prices. The direction of a ray. Sums of fractions.
-/
import Derived.Test.YthahejfpdhcpiaaHC5
set_option linter.unusedVariables false
set_option linter.unusedSimpArgs false

namespace Go.Proofs.Ythahejfpdhcpiaa
open Go Go.Fw
set_option maxRecDepth 100000
set_option linter.unusedVariables false
set_option linter.unusedSimpArgs false
set_option maxHeartbeats 4000000
def rl (n : Nat) (f : Nat → Rat) : List Rt:=(List.range n).map fun k=>rt (f k)
theorem rl_len {n : Nat} {f : Nat → Rat} : (rl n f).length = n:=by simp [rl]
theorem rl_get {n i : Nat} {f : Nat → Rat} (h : i < n) : (rl n f)[i]? = some (rt (f i)):=by
 rw [rl,List.getElem?_map,List.getElem?_range h];rfl
theorem rl_set {n i : Nat} {f : Nat → Rat} {x : Rat} : (rl n f).set i (rt x) = rl n (upd f i x):=by
 refine List.ext_getElem? fun j=>?_
 rw [List.getElem?_set]
 by_cases e : i = j
 ·subst e
  by_cases h : i < n
  ·rw [if_pos rfl,if_pos (by rw [rl_len];exact h),rl_get h,upd_self]
  ·rw [if_pos rfl,if_neg (by rw [rl_len];exact h),List.getElem?_eq_none (by rw [rl_len];omega)]
 ·rw [if_neg e]
  by_cases h : j < n
  ·rw [rl_get h,rl_get h,upd_ne fun h=>e h.symm]
  ·rw [List.getElem?_eq_none (by rw [rl_len];omega),List.getElem?_eq_none (by rw [rl_len];omega)]
theorem rl_congr {n : Nat} {f g : Nat → Rat} (h : ∀ i,i < n → f i = g i) : rl n f = rl n g:=List.map_congr_left fun k hk=>by rw [h k (List.mem_range.1 hk)]
theorem prod2R (a b : Rat) : prodQ [(((rt a).1,(rt a).2.1,(rt a).2.2) : Rt),((rt b).1,(rt b).2.1,(rt b).2.2)] = a * b:=by
 simp only [prodQ]
 rw [vq_rt',vq_rt',Rat.mul_one]
def rpl (f g : Nat → Rat) (j k : Nat) : Rat:=(if k = j then 0 else f k) - f j * g k
def rplS (f g : Nat → Rat) (j c k : Nat) : Rat:=if k < c then rpl f g j k else if k = j then 0 else f k
theorem rplS_zero (f g : Nat → Rat) (j : Nat) : upd f j 0 = rplS f g j 0:=by
 funext k
 rw [rplS,if_neg (Nat.not_lt_zero _)]
 by_cases h : k = j
 ·subst h;rw [upd_self,if_pos rfl]
 ·rw [upd_ne h,if_neg h]
theorem rplS_next (f g : Nat → Rat) (j c : Nat) : upd (rplS f g j c) c ((rplS f g j c c) - f j * g c) = rplS f g j (c + 1):=by
 funext k
 by_cases h : k = c
 ·subst h
  rw [upd_self,rplS,rplS,if_neg (Nat.lt_irrefl _),if_pos (Nat.lt_succ_self _),rpl]
 ·rw [upd_ne h,rplS,rplS]
  by_cases h2 : k < c
  ·rw [if_pos h2,if_pos (by omega)]
  ·rw [if_neg h2,if_neg (show ¬ k < c + 1 by omega)]
abbrev RplQ (r r2 : Row) (n : Nat) (f g : Nat → Rat) (j : Nat) (x : Rat) : Value → List Fact → List Blk → Prop:=fun v Φ β=>∃ (cs' : List Value) (pn : Option Addr) (cn : Nat) (pd : Option Addr) (cd : Nat),
 v = .agg #[.bool (rt x).1,.slice pn (rt x).2.1.length cn,.slice pd (rt x).2.2.length cd] ∧ Φ = [rowF RatE ⟨r.bo,r.cap,cs'⟩ n (rl n (rpl f g j)),rowF RatE r2 n (rl n g),slF U32 pn (rt x).2.1.length cn (rt x).2.1,slF U32 pd (rt x).2.2.length cd (rt x).2.2] ∧ β = [(r.bo,44,cs'),(r2.bo,44,r2.cs)]
theorem S_simplex_replaced {r r2 : Row} {n j K : Nat} {f g : Nat → Rat} {free term : Rat} {pn1 pd1 pn2 pd2 : Option Addr} {cn1 cd1 cn2 cd2 : Nat} (hj : j < n) (hn : n ≤ 1000) (hK : 1 ≤ K) (hK2 : K ≤ 4194304) (hf : ∀ k,k < n → bd K (f k)) (hg : ∀ k,k < n → bd K (g k)) (h1 : bd K free) (h2 : bd K term) :
  Ctr Try.prog 112 [.slice (ad r.bo) n r.cap,.slice (ad r2.bo) n r2.cap,.int .i64 j,.agg #[.bool (rt free).1,.slice pn1 (rt free).2.1.length cn1,.slice pd1 (rt free).2.2.length cd1],.agg #[.bool (rt term).1,.slice pn2 (rt term).2.1.length cn2,.slice pd2 (rt term).2.2.length cd2]]
   [(r.bo,44,r.cs),(r2.bo,44,r2.cs)] [rowF RatE r n (rl n f),rowF RatE r2 n (rl n g),slF U32 pn1 (rt free).2.1.length cn1 (rt free).2.1,slF U32 pd1 (rt free).2.2.length cd1 (rt free).2.2,slF U32 pn2 (rt term).2.1.length cn2 (rt term).2.1,slF U32 pd2 (rt term).2.2.length cd2 (rt term).2.2]
   (RplQ r r2 n f g j (free - f j * term)):=by
 refine Ctr_of_j' (F:=F_simplex_replaced) rfl fun C=>?_
 refine j_rowB 0 rfl (by omega) fun b cap cs hr=>?_
 subst hr
 refine j_rowB 1 rfl (by omega) fun b' cap' cs' hr=>?_
 subst hr
 obtain ⟨x1,x2⟩:=bd_len h1
 obtain ⟨x3,x4⟩:=bd_len h2
 obtain ⟨x5,x6⟩:=bd_len (hf j hj)
 refine j_nf [.o [0] 0,.c [1]] rfl ?_
 refine j_step rfl (x_box_agg rfl fun b1=>?_)
 refine j_step rfl (x_box_agg rfl fun b2=>?_)
 refine j_step rfl (x_alloc zo44 fun b3=>?_)
 refine j_nf [.o [1,0] 0,.c [1,1]] rfl ?_
 refine j_run it 2 rfl (by simp) ?_
 refine j_step rfl (x_idx_own (j) _ rfl rfl sl23 rfl (by omega) rfl ?_)
 refine j_step rfl (x_ldR_vw vw_RatE 3 0 (j) rfl rfl rfl ld44 rfl (by omega) fun z1 hz1 g1=>?_)
 dsimp only [vw_RatE,List.cons_append,List.nil_append,List.map_cons,List.map_nil]
 refine j_step rfl (x_alloc zo44 fun b4=>?_)
 refine j_step rfl (x_bst_all 0 rfl rfl rfl ld44 rfl rfl (by simp [Value.oneCell']) ?_)
 refine j_nf [.o [1,1,0] 0,.c [1,1,1]] rfl ?_
 refine j_run it 2 rfl (by simp) ?_
 refine j_step rfl (x_call [] rfl (S_simplex_zero) rfl ?_)
 rintro _ _ _ ⟨pn3,cn3,pd3,cd3,rfl,rfl,rfl⟩
 simp only [List.cons_append,List.nil_append]
 refine j_step rfl (x_idx_own (j) _ rfl rfl sl23 rfl (by omega) rfl ?_)
 refine j_step rfl (x_stR (vs:=[Value.bool (rt 0).fst,Value.slice pn3 (rt 0).snd.fst.length cn3,Value.slice pd3 (rt 0).snd.snd.length cd3]) (z:=((rt 0).fst,((rt 0).snd.fst,(rt 0).snd.snd))) 4 4 (j) rfl rfl rfl rfl rfl ld44 rfl (by omega) (fun w A hG=>(rd_pair (v1:=[Value.bool (rt 0).fst]) (rd_bool _) (rd_pair (v1:=[Value.slice pn3 (rt 0).snd.fst.length cn3]) (rd_of_slF (hG _ (fact_mem (n:=0) rfl))) (rd_of_slF (hG _ (fact_mem (n:=1) rfl)))))) fun cs1=>?_)
 refine j_nf [.o [1,1,1,0,0] 0,.c [1,1,1,0,1],.c [1,1,1,1]] rfl ?_
 refine j_run it 1 rfl (by simp) ?_
 refine j_step rfl (x_len sl23 rfl ?_)
 refine j_run it 1 rfl (by simp) ?_
 refine j_nf [.c (pL 122),.blk 0,.c [1,1,1,1]] rfl ?_
 obtain rfl : z1 = rt (f j):=Option.some.inj (hz1.symm.trans (rl_get hj))
 rw [show ((rt 0).1,(rt 0).2.1,(rt 0).2.2) = rt 0 from rfl,rl_set,rplS_zero f g j]
 refine j_loopG (X:=Nat × List Value) [0,1,8,9,10,11,22] [3,4,6,7,8,9,10] (fun x=>[(23,.int .i64 (x.1 : Int))])
  (fun x=>[(some b4,44,[.bool (rt (f j)).1,.slice (g1 0).1 (rt (f j)).2.1.length (g1 0).2.1,.slice (g1 1).1 (rt (f j)).2.2.length (g1 1).2.1]),(some b3,44,[.bool false,.slice none 0 0,.slice none 0 0]),(some b2,44,[.bool (rt term).1,.slice pn2 (rt term).2.1.length cn2,.slice pd2 (rt term).2.2.length cd2]),(some b1,44,[.bool (rt free).1,.slice pn1 (rt free).2.1.length cn1,.slice pd1 (rt free).2.2.length cd1]),(some b,44,x.2),(some b',44,cs')])
  (fun x=>[rowF RatE ⟨some b,cap,x.2⟩ n (rl n (rplS f g j x.1))])
  (fun x=>x.1 ≤ n) (fun x=>n - x.1) (0,cs1) [0] rfl rfl rfl (Nat.zero_le _) (by repeat (first | exact Fr.sub_nil _ | refine Fr.sub_cons rfl ?_)) rfl rfl ?_
 rintro ⟨k,cs⟩ hk ih
 simp only [List.cons_append,List.nil_append] at hk ih ⊢
 have side2 : ∀ x : Rat,bd K x → ∀ r ∈ [(((rt (f j)).1,(rt (f j)).2.1,(rt (f j)).2.2) : Rt),((rt x).1,(rt x).2.1,(rt x).2.2)],r.2.1.length ≤ K ∧ r.2.2.length ≤ K:=by
  intro x hx r hr
  simp only [List.mem_cons,List.not_mem_nil,or_false] at hr
  rcases hr with rfl | rfl
  ·exact ⟨x5,x6⟩
  ·exact bd_len hx
 by_cases hkl : k < n
 ·have z1:=rl_get (f:=rplS f g j k) hkl
  have z2:=rl_get (f:=g) hkl
  have side:=side2 _ (hg k hkl)
  have hb1 : bd K (rplS f g j k k):=by
   rw [rplS,if_neg (Nat.lt_irrefl _)]
   split
   ·exact bd_zero hK
   ·exact hf k hkl
  have hb2 : bd (K + K) (f j * g k):=bd_mul (hf j hj) (hg k hkl) (by omega)
  obtain ⟨y1,y2⟩:=bd_len hb1
  obtain ⟨y3,y4⟩:=bd_len hb2
  refine j_nf [.o (pL 488) 0,.c (pL 489),.lp (pL 244),.blk 0,.c [1,1,1,1]] rfl ?_
  refine j_run it 1 rfl (by simp) ?_
  refine j_nf [.c (pL 978),.c (pL 979),.lp (pL 244),.blk 0,.c [1,1,1,1]] rfl ?_
  refine j_if rfl rfl (fun h3=>?_) (fun h3=>by exfalso;omega)
  refine j_nf [.o (pL 7832) 0,.c (pL 7833),.blk 1,.c (pL 1959),.lp (pL 244),.blk 0,.c [1,1,1,1]] rfl ?_
  refine j_run it 2 rfl (by simp) ?_
  refine j_nf [.c (pL 7833),.blk 1,.c (pL 1959),.lp (pL 244),.blk 0,.c [1,1,1,1]] rfl ?_
  (apply j_drawK it mx 14;(· rfl);(· rfl))
  (apply lxk_run 4;(· rfl);(· simp))
  (apply lxk_eq;(· rfl);(· exact d_x fun _=>x_idx_own (k) _ rfl rfl sl23 rfl (by omega) rfl dk_eq))
  (apply lxk_vw vw_RatE;(· rfl);(· exact d_ldR_vw vw_RatE 4 0 (k) rfl rfl rfl ld44 rfl (by assumption));intro g2)
  dsimp only [vw_RatE,List.cons_append,List.nil_append,List.map_cons,List.map_nil]
  (apply lxk_eq;(· rfl);(· exact d_bld_all 0 rfl rfl ld44 rfl))
  (apply lxk_run 2;(· rfl);(· simp))
  (apply lxk_eq;(· rfl);(· exact d_x fun _=>x_idx_own (k) _ rfl rfl sl23 rfl (by omega) rfl dk_eq))
  (apply lxk_vw vw_RatE;(· rfl);(· exact d_ldR_vw vw_RatE 5 3 (k) rfl rfl rfl ld44 rfl (by assumption));intro g3)
  dsimp only [vw_RatE,List.cons_append,List.nil_append,List.map_cons,List.map_nil]
  (apply lxk_sl;(· rfl);(· exact d_x fun _=>x_lit sl23 zo23e rfl rfl rfl rfl (by decide) (by decide) rfl fun b5=>dk_all (E:=RatE) [[Value.bool (rt (f j)).fst,Value.slice (g1 0).fst (rt (f j)).snd.fst.length (g1 0).snd.fst,Value.slice (g1 1).fst (rt (f j)).snd.snd.length (g1 1).snd.fst],[Value.bool (rt (g k)).fst,Value.slice (g3 0).fst (rt (g k)).snd.fst.length (g3 0).snd.fst,Value.slice (g3 1).fst (rt (g k)).snd.snd.length (g3 1).snd.fst]] [((rt (f j)).fst,(rt (f j)).snd.fst,(rt (f j)).snd.snd),((rt (g k)).fst,(rt (g k)).snd.fst,(rt (g k)).snd.snd)] (fun w A hG=>(allrd_cons (rd_rt (hG _ (fact_mem (n:=3) rfl)) (hG _ (fact_mem (n:=4) rfl))) (allrd_cons (rd_rt (hG _ (fact_mem (n:=0) rfl)) (hG _ (fact_mem (n:=1) rfl))) allrd_nil))) rfl rfl rfl (by first | decide | exact Nat.le_of_ble_eq_true rfl));intro pa1 ca1)
  (apply lxk_rq;(· rfl);(· exact d_x fun _=>x_call [0] rfl (S_rational_Mul (by first|omega|exact side _ (by assumption)|assumption|rfl|(simp;done)|(simp;omega)) (by first|omega|exact side _ (by assumption)|assumption|rfl|(simp;done)|(simp;omega)) (by first|omega|exact side _ (by assumption)|assumption|rfl|(simp;done)|(simp;omega)) (by first|omega|exact side _ (by assumption)|assumption|rfl|(simp;done)|(simp;omega))) rfl (by rintro _ _ _ ⟨pn4,cn4,pd4,cd4,rfl,rfl,rfl⟩;exact (dk_rq 0 1 rfl rfl)));intro pn4 cn4 pd4 cd4)
  simp only [vq_rt'] --ok
  rw [prod2R]
  (apply lxk_rq;(· rfl);(· exact d_x fun _=>x_call [5,6,0,1] rfl (S_rational_Sub (by first|omega|exact side _ (by assumption)|assumption|rfl|(simp;done)|(simp;omega)) (by first|omega|exact side _ (by assumption)|assumption|rfl|(simp;done)|(simp;omega)) (by first|omega|exact side _ (by assumption)|assumption|rfl|(simp;done)|(simp;omega)) (by first|omega|exact side _ (by assumption)|assumption|rfl|(simp;done)|(simp;omega))) rfl (by rintro _ _ _ ⟨pn5,cn5,pd5,cd5,rfl,rfl,rfl⟩;exact (dk_rq 0 1 rfl rfl)));intro pn5 cn5 pd5 cd5)
  simp only [vq_rt']
  refine lxk_end rfl ?_
  simp only [List.map_cons,List.map_nil,List.cons_append,List.nil_append]
  refine j_step rfl (x_idx_own (k) _ rfl rfl sl23 rfl (by omega) rfl ?_)
  refine j_step rfl (x_stR (vs:=[Value.bool (rt (rplS f g j k k - f j * g k)).fst,Value.slice pn5 (rt (rplS f g j k k - f j * g k)).snd.fst.length cn5,Value.slice pd5 (rt (rplS f g j k k - f j * g k)).snd.snd.length cd5]) (z:=((rt (rplS f g j k k - f j * g k)).fst,((rt (rplS f g j k k - f j * g k)).snd.fst,(rt (rplS f g j k k - f j * g k)).snd.snd))) 4 9 (k) rfl rfl rfl rfl rfl ld44 rfl (by omega) (fun w A hG=>(rd_pair (v1:=[Value.bool (rt (rplS f g j k k - f j * g k)).fst]) (rd_bool _) (rd_pair (v1:=[Value.slice pn5 (rt (rplS f g j k k - f j * g k)).snd.fst.length cn5]) (rd_of_slF (hG _ (fact_mem (n:=0) rfl))) (rd_of_slF (hG _ (fact_mem (n:=1) rfl)))))) fun cs2=>?_)
  refine j_nf [.o (pL 1959) 0,.lp (pL 244),.blk 0,.c [1,1,1,1]] rfl ?_
  refine j_run it 2 rfl (by repeat' first | exact trivial | apply And.intro | omega) ?_
  refine j_nfn 1 [.lp (pL 244),.blk 0,.c [1,1,1,1]] rfl ?_
  rw [show ((rt (rplS f g j k k - f j * g k)).1,(rt (rplS f g j k k - f j * g k)).2.1,(rt (rplS f g j k k - f j * g k)).2.2) = rt (rplS f g j k k - f j * g k) from rfl,rl_set,rplS_next f g j k]
  refine j_to [0,11,12,13,14,15,16,17] (by repeat (first | exact Fr.sub_nil _ | refine Fr.sub_cons rfl ?_ | refine Fr.sub_consI rfl (by first | omega | (dsimp only;omega)) ?_ | refine Fr.sub_consS rfl (by first | omega | (dsimp only;omega)) (by first | omega | (dsimp only;omega)) ?_)) rfl rfl (ih (k + 1,cs2) (by dsimp only;omega) (by dsimp only;omega))
 ·obtain rfl : n = k:=by omega
  have side:=side2 _ h2
  have hb2 : bd (K + K) (f j * term):=bd_mul (hf j hj) h2 (by omega)
  obtain ⟨y3,y4⟩:=bd_len hb2
  refine j_nf [.o (pL 488) 0,.c (pL 489),.lp (pL 244),.blk 0,.c [1,1,1,1]] rfl ?_
  refine j_run it 1 rfl (by simp) ?_
  refine j_nf [.c (pL 978),.c (pL 979),.lp (pL 244),.blk 0,.c [1,1,1,1]] rfl ?_
  refine j_if rfl rfl (fun h3=>by exfalso;omega) (fun h3=>?_)
  refine j_nf [.c [1,1,1,1,0],.c [1,1,1,1,1]] rfl ?_
  (apply j_drawK it mx 6;(· rfl);(· rfl))
  (apply lxk_eq;(· rfl);(· exact d_bld_all 3 rfl rfl ld44 rfl))
  (apply lxk_eq;(· rfl);(· exact d_bld_all 0 rfl rfl ld44 rfl))
  (apply lxk_eq;(· rfl);(· exact d_bld_all 2 rfl rfl ld44 rfl))
  (apply lxk_sl;(· rfl);(· exact d_x fun _=>x_lit sl23 zo23e rfl rfl rfl rfl (by decide) (by decide) rfl fun b5=>dk_all (E:=RatE) [[Value.bool (rt (f j)).fst,Value.slice (g1 0).fst (rt (f j)).snd.fst.length (g1 0).snd.fst,Value.slice (g1 1).fst (rt (f j)).snd.snd.length (g1 1).snd.fst],[Value.bool (rt term).fst,Value.slice pn2 (rt term).snd.fst.length cn2,Value.slice pd2 (rt term).snd.snd.length cd2]] [((rt (f j)).fst,(rt (f j)).snd.fst,(rt (f j)).snd.snd),((rt term).fst,(rt term).snd.fst,(rt term).snd.snd)] (fun w A hG=>(allrd_cons (rd_rt (hG _ (fact_mem (n:=1) rfl)) (hG _ (fact_mem (n:=2) rfl))) (allrd_cons (rd_rt (hG _ (fact_mem (n:=6) rfl)) (hG _ (fact_mem (n:=7) rfl))) allrd_nil))) rfl rfl rfl (by first | decide | exact Nat.le_of_ble_eq_true rfl));intro pa1 ca1)
  (apply lxk_rq;(· rfl);(· exact d_x fun _=>x_call [0] rfl (S_rational_Mul (by first|omega|exact side _ (by assumption)|assumption|rfl|(simp;done)|(simp;omega)) (by first|omega|exact side _ (by assumption)|assumption|rfl|(simp;done)|(simp;omega)) (by first|omega|exact side _ (by assumption)|assumption|rfl|(simp;done)|(simp;omega)) (by first|omega|exact side _ (by assumption)|assumption|rfl|(simp;done)|(simp;omega))) rfl (by rintro _ _ _ ⟨pn4,cn4,pd4,cd4,rfl,rfl,rfl⟩;exact (dk_rq 0 1 rfl rfl)));intro pn4 cn4 pd4 cd4)
  simp only [vq_rt'] --ok
  rw [prod2R]
  (apply lxk_rq;(· rfl);(· exact d_x fun _=>x_call [7,8,0,1] rfl (S_rational_Sub (by first|omega|exact side _ (by assumption)|assumption|rfl|(simp;done)|(simp;omega)) (by first|omega|exact side _ (by assumption)|assumption|rfl|(simp;done)|(simp;omega)) (by first|omega|exact side _ (by assumption)|assumption|rfl|(simp;done)|(simp;omega)) (by first|omega|exact side _ (by assumption)|assumption|rfl|(simp;done)|(simp;omega))) rfl (by rintro _ _ _ ⟨pn5,cn5,pd5,cd5,rfl,rfl,rfl⟩;exact (dk_rq 0 1 rfl rfl)));intro pn5 cn5 pd5 cd5)
  simp only [vq_rt']
  refine lxk_end rfl ?_
  simp only [List.map_cons,List.map_nil,List.cons_append,List.nil_append]
  refine j_step rfl (x_bst_all 1 rfl rfl rfl ld44 rfl rfl (by simp [Value.oneCell']) ?_)
  refine j_nf [.c [1,1,1,1,1]] rfl ?_
  rw [show rl n (rplS f g j n) = rl n (rpl f g j) from rl_congr fun i hi=>by rw [rplS,if_pos hi]]
  refine j_givK 6 [4,5] [5,8,0,1] rfl (.agg 1 rfl rfl ld44 rfl .nil) rfl rfl rfl ⟨_,_,_,_,_,rfl,rfl,rfl⟩
end Go.Proofs.Ythahejfpdhcpiaa

namespace Go.Proofs.Ythahejfpdhcpiaa
open Go Go.Fw
set_option maxRecDepth 100000
set_option linter.unusedVariables false
set_option linter.unusedSimpArgs false
set_option maxHeartbeats 4000000
abbrev NegQ (r : Row) (n : Nat) (f : Nat → Rat) : Value → List Fact → List Blk → Prop:=fun v Φ β=>∃ r' : Row,v = .slice (ad r'.bo) n r'.cap ∧ Φ = [rowF RatE r' n (rl n fun k=>-f k),rowF RatE r n (rl n f)] ∧ β = [(r'.bo,44,r'.cs),(r.bo,44,r.cs)]
theorem rl_snoc (n : Nat) (f : Nat → Rat) : rl n f++[rt (f n)] = rl (n + 1) f:=(range_snoc (fun k=>rt (f k)) n).symm
theorem S_simplex_negativeH {r : Row} {n K : Nat} {f : Nat → Rat} (hn : n ≤ 1000) (hK : 1 ≤ K) (hK2 : K ≤ 4194304) (hf : ∀ k,k < n → bd K (f k)) : Ctr Try.prog 113 [.slice (ad r.bo) n r.cap] [(r.bo,44,r.cs)] [rowF RatE r n (rl n f)] (NegQ r n f):=by
 refine Ctr_of_j' (F:=F_simplex_negative) rfl fun C=>?_
 refine j_nf [.o [0] 0,.c [1]] rfl ?_
 refine j_run it 1 rfl (by simp) ?_
 refine j_nf [.o [1,0] 0,.c [1,1]] rfl ?_
 refine j_run it 1 rfl (by simp) ?_
 refine j_nf [.o [1,1,0,0] 0,.c [1,1,0,1],.c [1,1,1]] rfl ?_
 refine j_run it 1 rfl (by simp) ?_
 refine j_step rfl (x_len sl23 rfl ?_)
 refine j_run it 1 rfl (by simp) ?_
 refine j_nf [.c [1,1,0,1,0],.blk 0,.c [1,1,1]] rfl ?_
 refine j_row0 RatE 44 ?_
 refine j_loopG (X:=Nat × Row) [2,6,7] [1] (fun x=>[(3,.slice (ad x.2.bo) x.1 x.2.cap),(8,.int .i64 x.1)]) (fun x=>[(x.2.bo,44,x.2.cs),(r.bo,44,r.cs)]) (fun x=>[rowF RatE x.2 x.1 (rl x.1 fun k=>-f k)])
  (fun x=>x.1 ≤ n) (fun x=>n - x.1) (0,⟨none,0,[]⟩) [0] rfl rfl rfl (Nat.zero_le _) (by repeat (first | exact Fr.sub_nil _ | refine Fr.sub_cons rfl ?_)) rfl rfl ?_
 rintro ⟨k,r2⟩ hk ih
 simp only [List.cons_append,List.nil_append] at hk ih ⊢
 by_cases hkl : k < n
 ·refine j_rowB 1 rfl (by omega) fun b cap cs hr=>?_
  subst hr
  obtain ⟨y1,y2⟩:=bd_len (hf k hkl)
  refine j_nf [.o (pL 232) 0,.c (pL 233),.lp (pL 116),.blk 0,.c [1,1,1]] rfl ?_
  refine j_run it 1 rfl (by simp) ?_
  refine j_nf [.c (pL 466),.c (pL 467),.lp (pL 116),.blk 0,.c [1,1,1]] rfl ?_
  refine j_if rfl rfl (fun h1=>?_) (fun h1=>by exfalso;omega)
  refine j_nf [.o (pL 3736) 0,.c (pL 3737),.blk 1,.c (pL 935),.lp (pL 116),.blk 0,.c [1,1,1]] rfl ?_
  refine j_step rfl (x_idx_own (k) _ rfl rfl sl23 rfl (by omega) rfl ?_)
  refine j_step rfl (x_ldR_vw vw_RatE 1 1 (k) rfl rfl rfl ld44 rfl (by omega) fun z1 hz1 g1=>?_)
  dsimp only [vw_RatE,List.cons_append,List.nil_append,List.map_cons,List.map_nil]
  refine j_step rfl (x_alloc zo44 fun b1=>?_)
  refine j_step rfl (x_bst_all 0 rfl rfl rfl ld44 rfl rfl (by simp [Value.oneCell']) ?_)
  refine j_nf [.o (pL 3737) 0,.blk 1,.c (pL 935),.lp (pL 116),.blk 0,.c [1,1,1]] rfl ?_
  refine j_run it 1 rfl (by simp) ?_
  refine j_step rfl (x_bld_all 0 rfl rfl ld44 rfl ?_) --ok
  obtain rfl : z1 = rt (f k):=Option.some.inj (hz1.symm.trans (rl_get hkl))
  refine j_step rfl (x_call [0,1] rfl (S_rational_Neg (by first|omega|exact side _ (by assumption)|assumption|rfl|(simp;done)|(simp;omega)) (by first|omega|exact side _ (by assumption)|assumption|rfl|(simp;done)|(simp;omega))) rfl ?_)
  rintro _ _ _ ⟨pn1,cn1,pd1,cd1,rfl,rfl,rfl⟩
  simp only [List.cons_append,List.nil_append]
  simp only [vq_rt']
  refine j_step rfl (x_lit sl23 zo23e rfl rfl rfl rfl (by decide) (by decide) rfl fun b2=>?_)
  refine j_step rfl (x_appR (z:=((rt (-f k)).fst,((rt (-f k)).snd.fst,(rt (-f k)).snd.snd))) 2 0 4 rfl rfl rfl rfl rfl sl23 zo23e rfl (fun w A hG=>(rd_pair (v1:=[Value.bool (rt (-f k)).fst]) (rd_bool _) (rd_pair (v1:=[Value.slice pn1 (rt (-f k)).snd.fst.length cn1]) (rd_of_slF (hG _ (fact_mem (n:=0) rfl))) (rd_of_slF (hG _ (fact_mem (n:=1) rfl)))))) (by omega) _ by23e (by omega) fun r1=>?_)
  refine j_run it 1 rfl (by simp) ?_
  refine j_nf [.o (pL 935) 0,.lp (pL 116),.blk 0,.c [1,1,1]] rfl ?_
  refine j_run it 2 rfl (by repeat' first | exact trivial | apply And.intro | omega) ?_
  refine j_nfn 1 [.lp (pL 116),.blk 0,.c [1,1,1]] rfl ?_
  rw [show ((rt (-f k)).1,(rt (-f k)).2.1,(rt (-f k)).2.2) = rt (-f k) from rfl,rl_snoc k fun k=>-f k]
  refine j_toM [true,false,false,true] [0,6] (by repeat (first | exact Fr.sub_nil _ | refine Fr.sub_cons rfl ?_ | refine Fr.sub_consI rfl (by first | omega | (dsimp only;omega)) ?_ | refine Fr.sub_consS rfl (by first | omega | (dsimp only;omega)) (by first | omega | (dsimp only;omega)) ?_)) rfl rfl (ih (k + 1,r1) (by dsimp only;omega) (by dsimp only;omega))
 ·obtain rfl : n = k:=by omega
  refine j_nf [.o (pL 232) 0,.c (pL 233),.lp (pL 116),.blk 0,.c [1,1,1]] rfl ?_
  refine j_run it 1 rfl (by simp) ?_
  refine j_nf [.c (pL 466),.c (pL 467),.lp (pL 116),.blk 0,.c [1,1,1]] rfl ?_
  refine j_if rfl rfl (fun h1=>by exfalso;omega) (fun h1=>?_)
  refine j_nf [.o [1,1,1,0] 0,.c [1,1,1,1]] rfl ?_
  refine j_run it 2 rfl (by simp) ?_
  refine j_nf [.c [1,1,1,1]] rfl ?_
  refine j_givK 2 [0,1] [0,1] rfl (.tmp rfl .nil) rfl rfl rfl ⟨_,rfl,rfl,rfl⟩
structure DX where
 bs : Row
 os : Row
 fr : Row
 rw : Row
 gl : Row
 hd : Nat → Hd
 cs : Nat → List Value
 pn : Option Addr
 cn : Nat
 pd : Option Addr
 cd : Nat
def il (n : Nat) (f : Nat → Nat) : List Int:=(List.range n).map fun k=>(f k : Int)
theorem il_len {n : Nat} {f : Nat → Nat} : (il n f).length = n:=by simp [il]
theorem il_get {n i : Nat} {f : Nat → Nat} (h : i < n) : (il n f)[i]? = some (f i : Int):=by
 rw [il,List.getElem?_map,List.getElem?_range h];rfl
theorem il_set {n i : Nat} {f : Nat → Nat} {x : Nat} : (il n f).set i (x : Int) = il n (upd f i x):=by
 refine List.ext_getElem? fun j=>?_
 rw [List.getElem?_set]
 by_cases e : i = j
 ·subst e
  by_cases h : i < n
  ·rw [if_pos rfl,if_pos (by rw [il_len];exact h),il_get h,upd_self]
  ·rw [if_pos rfl,if_neg (by rw [il_len];exact h),List.getElem?_eq_none (by rw [il_len];omega)]
 ·rw [if_neg e]
  by_cases h : j < n
  ·rw [il_get h,il_get h,upd_ne fun h=>e h.symm]
  ·rw [List.getElem?_eq_none (by rw [il_len];omega),List.getElem?_eq_none (by rw [il_len];omega)]
abbrev dicC (x : DX) (p : PD) (left : Int) : List Value:=[.slice (ad x.bs.bo) p.m x.bs.cap,.slice (ad x.os.bo) p.n x.os.cap,.slice (ad x.fr.bo) p.m x.fr.cap,.slice (ad x.rw.bo) p.m x.rw.cap,.slice (ad x.gl.bo) p.n x.gl.cap,.bool (rt p.vv).1,.slice x.pn (rt p.vv).2.1.length x.cn,.slice x.pd (rt p.vv).2.2.length x.cd,.int .i64 left]
abbrev dicB (b : Nat) (x : DX) (p : PD) (left : Int) : List Blk :=
 (some b,69,dicC x p left)::(x.bs.bo,3,x.bs.cs)::(x.os.bo,3,x.os.cs)::(x.fr.bo,44,x.fr.cs)::(x.rw.bo,23,x.rw.cs)::(x.gl.bo,44,x.gl.cs)::famB 44 x.hd x.cs p.m []
abbrev dicF (x : DX) (p : PD) : List Fact :=
 [rowF I64 x.bs p.m (il p.m p.bs),rowF I64 x.os p.n (il p.n p.os),rowF RatE x.fr p.m (rl p.m p.fr),rowF hdE x.rw p.m (hdl x.hd p.m),rowF RatE x.gl p.n (rl p.n p.gl),matF RatE x.hd x.cs (fun h=>rl p.n (p.rw h)) p.m [],slF U32 x.pn (rt p.vv).2.1.length x.cn (rt p.vv).2.1,slF U32 x.pd (rt p.vv).2.2.length x.cd (rt p.vv).2.2]
end Go.Proofs.Ythahejfpdhcpiaa

namespace Go.Proofs.Ythahejfpdhcpiaa
open Go Go.Fw
set_option maxRecDepth 100000
set_option linter.unusedVariables false
set_option linter.unusedSimpArgs false
set_option maxHeartbeats 8000000
def pvS (f : Nat → Rat) (j : Nat) (v : Rat) (c k : Nat) : Rat:=if k < c ∧ k ≠ j then f k * v else f k
theorem pvS_zero (f : Nat → Rat) (j : Nat) (v : Rat) : pvS f j v 0 = f:=by
 funext k;rw [pvS,if_neg (fun h=>Nat.not_lt_zero _ h.1)]
theorem pvS_next (f : Nat → Rat) {j : Nat} (v : Rat) {c : Nat} (h : c ≠ j) : upd (pvS f j v c) c (f c * v) = pvS f j v (c + 1):=by
 funext k
 by_cases e : k = c
 ·subst e;rw [upd_self,pvS,if_pos ⟨Nat.lt_succ_self _,h⟩]
 ·rw [upd_ne e,pvS,pvS]
  by_cases e2 : k < c ∧ k ≠ j
  ·rw [if_pos e2,if_pos ⟨by omega,e2.2⟩]
  ·rw [if_neg e2,if_neg (fun h=>e2 ⟨by omega,h.2⟩)]
theorem pvS_same (f : Nat → Rat) (v : Rat) (c : Nat) : pvS f c v c = pvS f c v (c + 1):=by
 funext k
 rw [pvS,pvS]
 by_cases e2 : k < c ∧ k ≠ c
 ·rw [if_pos e2,if_pos ⟨by omega,e2.2⟩]
 ·rw [if_neg e2,if_neg (fun h=>e2 ⟨by omega,h.2⟩)]
theorem pvS_at (f : Nat → Rat) (j : Nat) (v : Rat) (c : Nat) : pvS f j v c c = f c:=by
 rw [pvS,if_neg (fun h=>Nat.lt_irrefl _ h.1)]
def pvG (f : Nat → Rat) (j k : Nat) : Rat:=if k = j then (f j)⁻¹ else f k * (f j)⁻¹
theorem pvG_eq {n j : Nat} (f : Nat → Rat) : rl n (upd (pvS f j (f j)⁻¹ n) j (f j)⁻¹) = rl n (pvG f j):=rl_congr fun k hk=>by
 by_cases e : k = j
 ·subst e;rw [upd_self,pvG,if_pos rfl]
 ·rw [upd_ne e,pvG,if_neg e,pvS,if_pos ⟨hk,e⟩]
theorem pvG_bd {n j K : Nat} {f : Nat → Rat} (hj : j < n) (hK : 1 ≤ K) (h : ∀ k,k < n → bd K (f k)) {k : Nat} (hk : k < n) : bd (K + K) (pvG f j k):=by
 rw [pvG]
 split
 ·exact bd_mono (rinv_bd (h j hj) hK) (by omega)
 ·exact bd_mul (h k hk) (rinv_bd (h j hj) hK) (by omega)
def pvF (fr : Nat → Rat) (rw : Nat → Nat → Rat) (i j : Nat) (h g : Nat) : Rat:=if g = i then fr i * (rw i j)⁻¹ else if g < h then fr g - rw g j * (fr i * (rw i j)⁻¹) else fr g
def pvR (rw : Nat → Nat → Rat) (i j : Nat) (h g k : Nat) : Rat:=if g < h then rpl (rw g) (pvG (rw i) j) j k else rw g k
theorem pvF_zero (fr : Nat → Rat) (rw : Nat → Nat → Rat) (i j : Nat) : upd fr i (fr i * (rw i j)⁻¹) = pvF fr rw i j 0:=by
 funext g
 by_cases e : g = i
 ·subst e;rw [upd_self,pvF,if_pos rfl]
 ·rw [upd_ne e,pvF,if_neg e,if_neg (Nat.not_lt_zero _)]
theorem pvF_next (fr : Nat → Rat) (rw : Nat → Nat → Rat) {i : Nat} (j : Nat) {h : Nat} (hi : h ≠ i) : upd (pvF fr rw i j h) h (fr h - rw h j * (fr i * (rw i j)⁻¹)) = pvF fr rw i j (h + 1):=by
 funext g
 by_cases e : g = h
 ·subst e;rw [upd_self,pvF,if_neg hi,if_pos (Nat.lt_succ_self _)]
 ·rw [upd_ne e,pvF,pvF]
  split
  ·rfl
  ·by_cases e2 : g < h
   ·rw [if_pos e2,if_pos (by omega)]
   ·rw [if_neg e2,if_neg (by omega)]
theorem pvF_at (fr : Nat → Rat) (rw : Nat → Nat → Rat) {i : Nat} (j : Nat) {h : Nat} (hi : h ≠ i) : pvF fr rw i j h h = fr h:=by
 rw [pvF,if_neg hi,if_neg (Nat.lt_irrefl _)]
theorem pvF_i (fr : Nat → Rat) (rw : Nat → Nat → Rat) (i j h : Nat) : pvF fr rw i j h i = fr i * (rw i j)⁻¹:=by rw [pvF,if_pos rfl]
theorem pvF_self (fr : Nat → Rat) (rw : Nat → Nat → Rat) (i j : Nat) : pvF fr rw i j i = pvF fr rw i j (i + 1):=by
 funext g
 rw [pvF,pvF]
 split
 ·rfl
 ·by_cases e2 : g < i
  ·rw [if_pos e2,if_pos (by omega)]
  ·rw [if_neg e2,if_neg (by omega)]
theorem pvF_skip (fr : Nat → Rat) (rw : Nat → Nat → Rat) (i j h : Nat) (hz : rw h j = 0) : pvF fr rw i j h = pvF fr rw i j (h + 1):=by
 funext g
 rw [pvF,pvF]
 split
 ·rfl
 ·by_cases e2 : g < h
  ·rw [if_pos e2,if_pos (by omega)]
  ·rw [if_neg e2]
   by_cases e3 : g = h
   ·subst e3;rw [if_pos (Nat.lt_succ_self _),hz];grind
   ·rw [if_neg (by omega)]
theorem pvR_zero (rw : Nat → Nat → Rat) (i j g : Nat) : pvR rw i j 0 g = rw g:=by funext k;rw [pvR,if_neg (Nat.not_lt_zero _)]
theorem pvR_at (rw : Nat → Nat → Rat) (i j h : Nat) : pvR rw i j h h = rw h:=by funext k;rw [pvR,if_neg (Nat.lt_irrefl _)]
theorem pvR_skip (rw : Nat → Nat → Rat) (i j h g : Nat) (hz : rw h j = 0) : pvR rw i j h g = pvR rw i j (h + 1) g:=by
 funext k
 rw [pvR,pvR]
 by_cases e2 : g < h
 ·rw [if_pos e2,if_pos (by omega)]
 ·rw [if_neg e2]
  by_cases e3 : g = h
  ·subst e3
   rw [if_pos (Nat.lt_succ_self _),rpl,hz]
   by_cases e4 : k = j
   ·subst e4;rw [if_pos rfl,hz];grind
   ·rw [if_neg e4];grind
  ·rw [if_neg (by omega)]
theorem pvR_ne (rw : Nat → Nat → Rat) (i j h g : Nat) (hg : g ≠ h) : pvR rw i j h g = pvR rw i j (h + 1) g:=by
 funext k
 rw [pvR,pvR]
 by_cases e2 : g < h
 ·rw [if_pos e2,if_pos (by omega)]
 ·rw [if_neg e2,if_neg (by omega)]
theorem pvR_next (rw : Nat → Nat → Rat) (i j h : Nat) : pvR rw i j (h + 1) h = rpl (rw h) (pvG (rw i) j) j:=by funext k;rw [pvR,if_pos (Nat.lt_succ_self _)]
theorem sign0 (q : Rat) : (vq ((rt q).1,(rt q).2.1,(rt q).2.2)).num.sign = 0 ↔ q = 0:=by
 rw [vq_rt',Int.sign_eq_zero_iff_zero,Rat.num_eq_zero]
theorem pivFr {p : PD} {i j : Nat} : rl p.m (pvF p.fr p.rw i j p.m) = rl p.m (piv p i j).fr:=rl_congr fun g hg=>by
 rw [pvF]
 show _ = if g = i then _ else _
 split
 ·rfl
 ·first
  | rfl
  | rw [if_pos hg]
theorem pivM {p : PD} {i j g : Nat} (hg : g < p.m) : upd (fun h=>rl p.n (pvR p.rw i j p.m h)) i (rl p.n (pvG (p.rw i) j)) g = rl p.n ((piv p i j).rw g):=by
 by_cases e : g = i
 ·subst e
  rw [upd_self]
  refine rl_congr fun k _=>?_
  show _ = if g = g then (if k = j then (p.rw g j)⁻¹ else p.rw g k * (p.rw g j)⁻¹) else _
  rw [if_pos rfl];rfl
 ·rw [upd_ne e]
  refine rl_congr fun k _=>?_
  show _ = if g = i then _ else (if k = j then -(p.rw g j * (p.rw i j)⁻¹) else p.rw g k - p.rw g j * (p.rw i k * (p.rw i j)⁻¹))
  rw [if_neg e,pvR,if_pos hg,rpl,pvG]
  by_cases e2 : k = j
  ·rw [if_pos e2,if_pos e2,if_pos e2];grind
  ·rw [if_neg e2,if_neg e2,if_neg e2]
theorem pivGl {p : PD} {i j : Nat} : rl p.n (fun k=>-rpl (fun k=>-p.gl k) (pvG (p.rw i) j) j k) = rl p.n (piv p i j).gl:=rl_congr fun k _=>by
 show _ = if k = j then -(p.gl j * (p.rw i j)⁻¹) else p.gl k - p.gl j * (p.rw i k * (p.rw i j)⁻¹)
 rw [rpl,pvG]
 by_cases e2 : k = j
 ·rw [if_pos e2,if_pos e2,if_pos e2];grind
 ·rw [if_neg e2,if_neg e2,if_neg e2];grind
theorem pivGl0 {p : PD} {i j : Nat} (hz : p.gl j = 0) : rl p.n p.gl = rl p.n (piv p i j).gl:=rl_congr fun k _=>by
 show _ = if k = j then -(p.gl j * (p.rw i j)⁻¹) else p.gl k - p.gl j * (p.rw i k * (p.rw i j)⁻¹)
 by_cases e2 : k = j
 ·rw [if_pos e2,e2,hz];grind
 ·rw [if_neg e2,hz];grind
abbrev PivQ (b : Nat) (p : PD) (left : Int) : Value → List Fact → List Blk → Prop:=fun v Φ β=>∃ x',v = .tuple #[] ∧ Φ = dicF x' p ∧ β = dicB b x' p left
abbrev PivS (b : Nat) (x : DX) (p : PD) (left : Int) : Value → List Fact → List Blk → Prop:=fun v Φ β=>∃ x',v = .tuple #[] ∧ Φ = dicF x' p ∧ β = dicB b x' p left ∧ x'.bs.bo = x.bs.bo ∧ x'.bs.cap = x.bs.cap
theorem S_simplex_dictionary__pivot {b : Nat} {x : DX} {p : PD} {left : Int} {i j K : Nat} (hi : i < p.m) (hj : j < p.n) (hm : p.m ≤ 100) (hn : p.n ≤ 100) (hl : -1000000 ≤ left) (hl2 : left ≤ 1000000) (hK : 1 ≤ K) (hK2 : K ≤ 1000000) (hb : PB K p) (hbs : ∀ h,h < p.m → p.bs h ≤ 1000000) (hos : ∀ k,k < p.n → p.os k ≤ 1000000) (ha : p.rw i j ≠ 0) :
  Ctr Try.prog 79 [.pointer (some ⟨b,0,none⟩),.int .i64 i,.int .i64 j] (dicB b x p left) (dicF x p) (PivS b x (piv p i j) (left - 1)):=by
 refine Ctr_of_j' (F:=F_simplex_dictionary__pivot) rfl fun C=>?_
 obtain ⟨bs,os,fr,rw',gl,hd,cs,pn,cn,pd,cd⟩:=x
 obtain ⟨m,n,pbs,pos,pfr,prw,pgl,pvv⟩:=p
 simp only [dicB,dicF,dicC] at *
 refine j_rowB 0 rfl (by omega) fun bbs cbs ebs h=>?_
 subst h
 refine j_rowB 1 rfl (by omega) fun bos cos eos h=>?_
 subst h
 refine j_rowB 2 rfl (by omega) fun bfr cfr efr h=>?_
 subst h
 refine j_rowB 3 rfl (by omega) fun brw crw erw h=>?_
 subst h
 refine j_rowB 4 rfl (by omega) fun bgl cgl egl h=>?_
 subst h
 refine j_hdlen 5 rfl fun hlen=>?_
 have hN : (hd i).2.1 = n:=by rw [hlen i hi rfl,rl_len]
 refine j_focusL 6 (i) 5 (n) rfl rfl (by first | assumption | omega) (by first | rfl | assumption | (simp [memB_cons,memB];done) | (simp [memB_cons,memB];omega)) (by first | assumption | omega) fun r1 hr1=>?_
 simp only [List.take_succ_cons,List.take_zero,List.cons_append,List.nil_append]
 refine j_rowB 0 rfl (by omega) fun br cr er h=>?_
 subst h
 have z1:=rl_get (f:=prw i) hj
 have ha : prw i j ≠ 0:=ha
 have w1:=il_get (f:=pos) hj
 have w2:=il_get (f:=pbs) hi
 have w4:=hos j hj
 have w5:=hbs i hi
 have w3:=rl_get (f:=pfr) hi
 obtain ⟨y1,y2⟩:=bd_len (hb.rw i j hi hj)
 obtain ⟨y3,y4⟩:=bd_len (bd_one hK)
 refine j_nf [.o [0] 0,.c [1]] rfl ?_
 refine j_run it 2 rfl (by simp) ?_
 refine j_step rfl (x_field rfl fd69_6 ?_)
 refine j_step rfl (x_bld 1 rfl rfl ld3 rfl ?_)
 refine j_run it 2 rfl (by repeat' first | exact trivial | apply And.intro | omega) ?_
 refine j_step rfl (x_field rfl fd69_6 ?_)
 refine j_step rfl (x_bst1 1 rfl rfl rfl rfl ld3 rfl (Nat.le_of_ble_eq_true rfl) ?_)
 refine j_nf [.c [1,0],.c [1,1]] rfl ?_
 (apply j_drawKW (x0:=none) it mx 0 16 [14] 1;(· rfl);(· rfl);(· rfl);(· decide))
 simp only [List.drop_zero]
 (apply lxk_rq;(· rfl);(· exact d_x fun _=>x_call [] rfl (S_simplex_one) rfl (by rintro _ _ _ ⟨pn1,cn1,pd1,cd1,rfl,rfl,rfl⟩;exact (dk_rq 0 1 rfl rfl)));intro pn1 cn1 pd1 cd1)
 (apply lxk_run 2;(· rfl);(· simp))
 (apply lxk_eq;(· rfl);(· exact d_x fun _=>x_field rfl fd69_3 dk_eq))
 (apply lxk_eq;(· rfl);(· exact d_bld 1 rfl rfl ld24 rfl))
 (apply lxk_run 1;(· rfl);(· simp))
 (apply lxk_eq;(· rfl);(· exact d_x fun _=>x_idx_own (i) (i) rfl rfl sl24 rfl (by omega) (Nat.mul_one _) dk_eq))
 (apply lxk_eq;(· rfl);(· exact d_ldR_hd 5 5 (i) rfl rfl rfl ld23 rfl (by assumption)))
 dsimp only
 (apply lxk_run 1;(· rfl);(· simp))
 (apply lxk_eq;(· rfl);(· exact d_x fun _=>x_idx_own (j) _ rfl rfl sl23 rfl (by omega) rfl dk_eq))
 (apply lxk_vw vw_RatE;(· rfl);(· exact d_ldR_vw vw_RatE 0 0 (j) rfl rfl rfl ld44 rfl (by assumption));intro g1)
 dsimp only [vw_RatE,List.cons_append,List.nil_append,List.map_cons,List.map_nil]
 (apply lxk_fa (val:=(fun g=>Value.tuple #[Value.agg #[Value.bool (rt (1 * (prw i j)⁻¹)).fst,Value.slice (g 0).fst (rt (1 * (prw i j)⁻¹)).snd.fst.length (g 1).snd.fst,Value.slice (g 2).fst (rt (1 * (prw i j)⁻¹)).snd.snd.length (g 3).snd.fst],Value.int IntKind.i64 0])) (f:=(fun g=>[slF U32 (g 0).fst (rt (1 * (prw i j)⁻¹)).snd.fst.length (g 1).snd.fst (rt (1 * (prw i j)⁻¹)).snd.fst,slF U32 (g 2).fst (rt (1 * (prw i j)⁻¹)).snd.snd.length (g 3).snd.fst (rt (1 * (prw i j)⁻¹)).snd.snd]));(· rfl);(· exact d_x fun _=>x_call [2,3,0,1] rfl (S_rational_Div (by first|omega|exact side _ (by assumption)|assumption|rfl|(simp;done)|(simp;omega)) (by first|omega|exact side _ (by assumption)|assumption|rfl|(simp;done)|(simp;omega)) (by first|omega|exact side _ (by assumption)|assumption|rfl|(simp;done)|(simp;omega)) (by first|omega|exact side _ (by assumption)|assumption|rfl|(simp;done)|(simp;omega)) (by first|omega|exact side _ (by assumption)|assumption|rfl|(simp;done)|(simp;omega)) (by first|omega|exact side _ (by assumption)|assumption|rfl|(simp;done)|(simp;omega)) (by first|omega|exact side _ (by assumption)|assumption|rfl|(simp;done)|(simp;omega))) rfl (by rintro _ _ _ ⟨png0,cng1,pdg2,cdg3,rfl,rfl,rfl⟩;exact fun _ _ _ hG=>⟨(fun | 0=>(png0,0,0,[]) | 1=>(none,cng1,0,[]) | 2=>(pdg2,0,0,[]) | 3=>(none,cdg3,0,[]) | _=>default),rfl,fun g hg=>drop_own (hG _ (List.mem_append_left _ hg))⟩));intro g2;dsimp only [List.map_cons,List.map_nil])
 (apply lxk_fa (val:=fun g=>Value.tuple #[Value.agg #[Value.bool (rt (1 * (prw i j)⁻¹)).fst,Value.slice (g 0).1 ((rt (1 * (prw i j)⁻¹)).snd.fst.length) (g 0).2.1,Value.slice (g 1).1 ((rt (1 * (prw i j)⁻¹)).snd.snd.length) (g 1).2.1],Value.int IntKind.i64 0]) (f:=fun g=>[slF (U32) (g 0).1 ((rt (1 * (prw i j)⁻¹)).snd.fst.length) (g 0).2.1 ((rt (1 * (prw i j)⁻¹)).snd.fst),slF (U32) (g 1).1 ((rt (1 * (prw i j)⁻¹)).snd.snd.length) (g 1).2.1 ((rt (1 * (prw i j)⁻¹)).snd.snd)]);(· rfl);(· exact d_x fun _=>x_pv it rfl (by trivial) (fun _ _ _ hG=>⟨(fun | 0=>((g2 0).fst,(g2 1).snd.fst,0,[]) | 1=>((g2 2).fst,(g2 3).snd.fst,0,[]) | _=>default),rfl,fun g hg=>by (simp only [List.mem_cons,List.not_mem_nil,or_false] at hg;rcases hg with rfl | rfl;(· exact drop_own (hG _ (fact_mem (n:=0) rfl)));(· exact drop_own (hG _ (fact_mem (n:=1) rfl))))⟩));intro g3;dsimp only [List.map_cons,List.map_nil,List.cons_append,List.nil_append])
 (apply lxk_fa (val:=fun g=>Value.agg #[Value.bool (rt (1 * (prw i j)⁻¹)).fst,Value.slice (g 0).1 ((rt (1 * (prw i j)⁻¹)).snd.fst.length) (g 0).2.1,Value.slice (g 1).1 ((rt (1 * (prw i j)⁻¹)).snd.snd.length) (g 1).2.1]) (f:=fun g=>[slF (U32) (g 0).1 ((rt (1 * (prw i j)⁻¹)).snd.fst.length) (g 0).2.1 ((rt (1 * (prw i j)⁻¹)).snd.fst),slF (U32) (g 1).1 ((rt (1 * (prw i j)⁻¹)).snd.snd.length) (g 1).2.1 ((rt (1 * (prw i j)⁻¹)).snd.snd)]);(· rfl);(· exact d_x fun _=>x_pv it rfl (by trivial) (fun _ _ _ hG=>⟨(fun | 0=>((g3 0).fst,(g3 0).snd.fst,0,[]) | 1=>((g3 1).fst,(g3 1).snd.fst,0,[]) | _=>default),rfl,fun g hg=>by (simp only [List.mem_cons,List.not_mem_nil,or_false] at hg;rcases hg with rfl | rfl;(· exact drop_own (hG _ (fact_mem (n:=0) rfl)));(· exact drop_own (hG _ (fact_mem (n:=1) rfl))))⟩));intro g4;dsimp only [List.map_cons,List.map_nil,List.cons_append,List.nil_append])
 (apply lxk_eq;(· rfl);(· exact d_x fun _=>x_pv it rfl (by trivial) dk_eq))
 (apply lxk_alloc;(· rfl);(· exact zo44);intro b1)
 refine lxk_endW rfl ?_
 (rotate_left;rfl;rotate_right)
 simp only [List.map_cons,List.map_nil,List.cons_append,List.nil_append]
 refine win_step it rfl rfl ⟨⟨_,_,_,_,rfl,rfl,rfl,rfl,rfl,rfl,(by first | trivial | (repeat' first | exact trivial | apply And.intro | omega))⟩,trivial⟩ (x_bst_all 0 rfl rfl rfl ld44 rfl rfl (by simp [Value.oneCell']) ?_)
 refine win_end it ⟨⟨_,_,_,_,rfl,rfl,rfl,rfl,rfl,rfl,(by first | trivial | (repeat' first | exact trivial | apply And.intro | omega))⟩,trivial⟩ ?_
 refine j_run it 1 rfl (by simp) ?_
 refine j_nf [.c [1,1,0],.c [1,1,1]] rfl ?_
 rw [Rat.one_mul]
 have y5 : bd K (prw i j)⁻¹:=rinv_bd (hb.rw i j hi hj) hK
 have side2 : ∀ x : Rat,bd K x → ∀ r ∈ [((rt x).1,(rt x).2.1,(rt x).2.2),(((rt (prw i j)⁻¹).1,(rt (prw i j)⁻¹).2.1,(rt (prw i j)⁻¹).2.2) : Rt)],r.2.1.length ≤ K ∧ r.2.2.length ≤ K:=by
  intro x hx r hr
  simp only [List.mem_cons,List.not_mem_nil,or_false] at hr
  rcases hr with rfl | rfl
  ·exact bd_len hx
  ·exact bd_len y5
 have side:=side2 _ (hb.fr i hi)
 (apply j_drawKW (x0:=none) it mx 0 25 [9] 1;(· rfl);(· rfl);(· rfl);(· decide))
 simp only [List.drop_zero]
 (apply lxk_run 2;(· rfl);(· simp))
 (apply lxk_eq;(· rfl);(· exact d_x fun _=>x_field rfl fd69_0 dk_eq))
 (apply lxk_eq;(· rfl);(· exact d_bld 2 rfl rfl ld67 rfl))
 (apply lxk_run 3;(· rfl);(· simp))
 (apply lxk_eq;(· rfl);(· exact d_x fun _=>x_field rfl fd69_1 dk_eq))
 (apply lxk_eq;(· rfl);(· exact d_bld 2 rfl rfl ld67 rfl))
 (apply lxk_run 3;(· rfl);(· simp))
 (apply lxk_eq;(· rfl);(· exact d_x fun _=>x_field rfl fd69_1 dk_eq))
 (apply lxk_eq;(· rfl);(· exact d_bld 2 rfl rfl ld67 rfl))
 (apply lxk_run 1;(· rfl);(· simp))
 (apply lxk_eq;(· rfl);(· exact d_x fun _=>x_idx_own (j) (j) rfl rfl sl67 rfl (by omega) (Nat.mul_one _) dk_eq))
 (apply lxk_eq;(· rfl);(· exact d_ldR_int 4 13 (j) rfl rfl rfl ld3 rfl (by assumption)))
 (apply lxk_run 2;(· rfl);(· simp))
 (apply lxk_eq;(· rfl);(· exact d_x fun _=>x_field rfl fd69_0 dk_eq))
 (apply lxk_eq;(· rfl);(· exact d_bld 2 rfl rfl ld67 rfl))
 (apply lxk_run 1;(· rfl);(· simp))
 (apply lxk_eq;(· rfl);(· exact d_x fun _=>x_idx_own (i) (i) rfl rfl sl67 rfl (by omega) (Nat.mul_one _) dk_eq))
 (apply lxk_eq;(· rfl);(· exact d_ldR_int 3 12 (i) rfl rfl rfl ld3 rfl (by assumption)))
 (apply lxk_eq;(· rfl);(· exact d_x fun _=>x_idx_own (i) (i) rfl rfl sl67 rfl (by omega) (Nat.mul_one _) dk_eq))
 refine lxk_endW rfl ?_
 (rotate_left;rfl;rotate_right)
 simp only [List.map_cons,List.map_nil,List.cons_append,List.nil_append]
 refine win_step it rfl rfl ⟨⟨_,_,_,_,rfl,rfl,rfl,rfl,rfl,rfl,(by first | trivial | (repeat' first | exact trivial | apply And.intro | omega))⟩,trivial⟩ (x_stR (vs:=[Value.int IntKind.i64 ↑(pos j)]) (z:=(↑(pos j) : Int)) 3 12 (i) rfl rfl rfl rfl rfl ld3 (Nat.mul_one _).symm (by omega) (fun w A hG=>(rd_int (by first | (simp only [InR];omega) | (simp [InR];done)))) fun cs1=>?_)
 refine win_end it ⟨⟨_,_,_,_,rfl,rfl,rfl,rfl,rfl,rfl,(by first | trivial | (repeat' first | exact trivial | apply And.intro | omega))⟩,trivial⟩ ?_
 refine j_step rfl (x_idx_own (j) (j) rfl rfl sl67 rfl (by omega) (Nat.mul_one _) ?_)
 refine j_step rfl (x_stR (vs:=[Value.int IntKind.i64 ↑(pbs i)]) (z:=(↑(pbs i) : Int)) 4 14 (j) rfl rfl rfl rfl rfl ld3 (Nat.mul_one _).symm (by omega) (fun w A hG=>(rd_int (by first | (simp only [InR];omega) | (simp [InR];done)))) fun cs2=>?_)
 refine j_nf [.c [1,1,1,0],.c [1,1,1,1]] rfl ?_
 (apply j_drawK it mx 15;(· rfl);(· rfl))
 (apply lxk_run 2;(· rfl);(· simp))
 (apply lxk_eq;(· rfl);(· exact d_x fun _=>x_field rfl fd69_2 dk_eq))
 (apply lxk_eq;(· rfl);(· exact d_bld 2 rfl rfl ld23 rfl))
 (apply lxk_run 3;(· rfl);(· simp))
 (apply lxk_eq;(· rfl);(· exact d_x fun _=>x_field rfl fd69_2 dk_eq))
 (apply lxk_eq;(· rfl);(· exact d_bld 2 rfl rfl ld23 rfl))
 (apply lxk_run 1;(· rfl);(· simp))
 (apply lxk_eq;(· rfl);(· exact d_x fun _=>x_idx_own (i) _ rfl rfl sl23 rfl (by omega) rfl dk_eq))
 (apply lxk_vw vw_RatE;(· rfl);(· exact d_ldR_vw vw_RatE 5 16 (i) rfl rfl rfl ld44 rfl (by assumption));intro g5)
 dsimp only [vw_RatE,List.cons_append,List.nil_append,List.map_cons,List.map_nil]
 (apply lxk_eq;(· rfl);(· exact d_bld_all 0 rfl rfl ld44 rfl))
 (apply lxk_sl;(· rfl);(· exact d_x fun _=>x_lit sl23 zo23e rfl rfl rfl rfl (by decide) (by decide) rfl fun b2=>dk_all (E:=RatE) [[Value.bool (rt (pfr i)).fst,Value.slice (g5 0).fst (rt (pfr i)).snd.fst.length (g5 0).snd.fst,Value.slice (g5 1).fst (rt (pfr i)).snd.snd.length (g5 1).snd.fst],[Value.bool (rt (prw i j)⁻¹).fst,Value.slice (g4 0).fst (rt (prw i j)⁻¹).snd.fst.length (g4 0).snd.fst,Value.slice (g4 1).fst (rt (prw i j)⁻¹).snd.snd.length (g4 1).snd.fst]] [((rt (pfr i)).fst,(rt (pfr i)).snd.fst,(rt (pfr i)).snd.snd),((rt (prw i j)⁻¹).fst,(rt (prw i j)⁻¹).snd.fst,(rt (prw i j)⁻¹).snd.snd)] (fun w A hG=>(allrd_cons (rd_rt (hG _ (fact_mem (n:=0) rfl)) (hG _ (fact_mem (n:=1) rfl))) (allrd_cons (rd_rt (hG _ (fact_mem (n:=4) rfl)) (hG _ (fact_mem (n:=5) rfl))) allrd_nil))) rfl rfl rfl (by first | decide | exact Nat.le_of_ble_eq_true rfl));intro pa1 ca1)
 (apply lxk_rq;(· rfl);(· exact d_x fun _=>x_call [0] rfl (S_rational_Mul (by first|omega|exact side _ (by assumption)|assumption|rfl|(simp;done)|(simp;omega)) (by first|omega|exact side _ (by assumption)|assumption|rfl|(simp;done)|(simp;omega)) (by first|omega|exact side _ (by assumption)|assumption|rfl|(simp;done)|(simp;omega)) (by first|omega|exact side _ (by assumption)|assumption|rfl|(simp;done)|(simp;omega))) rfl (by rintro _ _ _ ⟨pn2,cn2,pd2,cd2,rfl,rfl,rfl⟩;exact (dk_rq 0 1 rfl rfl)));intro pn2 cn2 pd2 cd2)
 simp only [vq_rt']
 refine lxk_end rfl ?_
 simp only [List.map_cons,List.map_nil,List.cons_append,List.nil_append]
 refine j_step rfl (x_idx_own (i) _ rfl rfl sl23 rfl (by omega) rfl ?_)
 refine j_step rfl (x_stR (vs:=[Value.bool (rt (prodQ [((rt (pfr i)).fst,(rt (pfr i)).snd.fst,(rt (pfr i)).snd.snd),((rt (prw i j)⁻¹).fst,(rt (prw i j)⁻¹).snd.fst,(rt (prw i j)⁻¹).snd.snd)])).fst,Value.slice pn2 (rt (prodQ [((rt (pfr i)).fst,(rt (pfr i)).snd.fst,(rt (pfr i)).snd.snd),((rt (prw i j)⁻¹).fst,(rt (prw i j)⁻¹).snd.fst,(rt (prw i j)⁻¹).snd.snd)])).snd.fst.length cn2,Value.slice pd2 (rt (prodQ [((rt (pfr i)).fst,(rt (pfr i)).snd.fst,(rt (pfr i)).snd.snd),((rt (prw i j)⁻¹).fst,(rt (prw i j)⁻¹).snd.fst,(rt (prw i j)⁻¹).snd.snd)])).snd.snd.length cd2]) (z:=((rt (prodQ [((rt (pfr i)).fst,(rt (pfr i)).snd.fst,(rt (pfr i)).snd.snd),((rt (prw i j)⁻¹).fst,(rt (prw i j)⁻¹).snd.fst,(rt (prw i j)⁻¹).snd.snd)])).fst,((rt (prodQ [((rt (pfr i)).fst,(rt (pfr i)).snd.fst,(rt (pfr i)).snd.snd),((rt (prw i j)⁻¹).fst,(rt (prw i j)⁻¹).snd.fst,(rt (prw i j)⁻¹).snd.snd)])).snd.fst,(rt (prodQ [((rt (pfr i)).fst,(rt (pfr i)).snd.fst,(rt (pfr i)).snd.snd),((rt (prw i j)⁻¹).fst,(rt (prw i j)⁻¹).snd.fst,(rt (prw i j)⁻¹).snd.snd)])).snd.snd))) 5 21 (i) rfl rfl rfl rfl rfl ld44 rfl (by omega) (fun w A hG=>(rd_pair (v1:=[Value.bool (rt (prodQ [((rt (pfr i)).fst,(rt (pfr i)).snd.fst,(rt (pfr i)).snd.snd),((rt (prw i j)⁻¹).fst,(rt (prw i j)⁻¹).snd.fst,(rt (prw i j)⁻¹).snd.snd)])).fst]) (rd_bool _) (rd_pair (v1:=[Value.slice pn2 (rt (prodQ [((rt (pfr i)).fst,(rt (pfr i)).snd.fst,(rt (pfr i)).snd.snd),((rt (prw i j)⁻¹).fst,(rt (prw i j)⁻¹).snd.fst,(rt (prw i j)⁻¹).snd.snd)])).snd.fst.length cn2]) (rd_of_slF (hG _ (fact_mem (n:=0) rfl))) (rd_of_slF (hG _ (fact_mem (n:=1) rfl)))))) fun cs3=>?_)
 refine j_nf [.o (pL 124) 0,.c (pL 125),.c [1,1,1,1,1]] rfl ?_
 refine j_run it 2 rfl (by simp) ?_
 refine j_step rfl (x_field rfl fd69_3 ?_)
 refine j_step rfl (x_bld 2 rfl rfl ld24 rfl ?_)
 refine j_run it 1 rfl (by simp) ?_
 refine j_step rfl (x_idx_own (i) (i) rfl rfl sl24 rfl (by omega) (Nat.mul_one _) ?_)
 refine j_step rfl (x_ldR_hd 6 23 (i) rfl rfl rfl ld23 rfl (by assumption) ?_)
 refine j_step rfl (x_len sl23 rfl ?_)
 refine j_run it 1 rfl (by simp) ?_
 refine j_nf [.c (pL 250),.blk 0,.c [1,1,1,1,1]] rfl ?_
 rw [prod2R,show ((rt (pfr i * (prw i j)⁻¹)).1,(rt (pfr i * (prw i j)⁻¹)).2.1,(rt (pfr i * (prw i j)⁻¹)).2.2) = rt (pfr i * (prw i j)⁻¹) from rfl,rl_set,il_set,il_set]
 rw [show rl n (prw i) = rl n (pvS (prw i) j (prw i j)⁻¹ 0) by rw [pvS_zero]]
 refine j_loopG (X:=Nat × List Value) [0,1,2,6,82] [0,6,7,8,9,19,23,24,26,27] (fun x=>[(83,.int .i64 (x.1 : Int))])
  (fun x=>(some b1,44,[.bool (rt (prw i j)⁻¹).1,.slice (g4 0).1 (rt (prw i j)⁻¹).2.1.length (g4 0).2.1,.slice (g4 1).1 (rt (prw i j)⁻¹).2.2.length (g4 1).2.1])::(some br,44,x.2)::(some b,69,[.slice (ad (some bbs)) m cbs,.slice (ad (some bos)) n cos,.slice (ad (some bfr)) m cfr,.slice (ad (some brw)) m crw,.slice (ad (some bgl)) n cgl,.bool (rt pvv).1,.slice pn (rt pvv).2.1.length cn,.slice pd (rt pvv).2.2.length cd,.int .i64 (left - 1)])::(some bbs,3,cs1)::(some bos,3,cs2)::(some bfr,44,cs3)::(some brw,23,erw)::(some bgl,44,egl)::famB 44 hd cs m [i])
  (fun x=>[rowF RatE ⟨some br,cr,x.2⟩ n (rl n (pvS (prw i) j (prw i j)⁻¹ x.1))])
  (fun x=>x.1 ≤ n) (fun x=>n - x.1) (0,er) [18] rfl rfl rfl (Nat.zero_le _) (by repeat (first | exact Fr.sub_nil _ | refine Fr.sub_cons rfl ?_)) rfl rfl ?_
 rintro ⟨k,csr⟩ hk ih
 simp only [List.cons_append,List.nil_append] at hk ih ⊢
 by_cases hkl : k < n
 ·have z1 : (rl n (pvS (prw i) j (prw i j)⁻¹ k))[k]? = some (rt (prw i k)):=by rw [rl_get hkl,pvS_at]
  have side:=side2 _ (hb.rw i k hi hkl)
  by_cases hkj : k = j
  ·subst hkj
   refine j_nf [.o (pL 1000) 0,.c (pL 1001),.lp (pL 500),.blk 0,.c [1,1,1,1,1]] rfl ?_
   refine j_run it 1 rfl (by simp) ?_
   refine j_nf [.c (pL 2002),.c (pL 2003),.lp (pL 500),.blk 0,.c [1,1,1,1,1]] rfl ?_
   refine j_if rfl rfl (fun h1=>?_) (fun h1=>by exfalso;omega)
   refine j_nf [.o (pL 16024) 0,.c (pL 16025),.blk 1,.c (pL 4007),.lp (pL 500),.blk 0,.c [1,1,1,1,1]] rfl ?_
   refine j_run it 2 rfl (by simp) ?_
   refine j_nf [.o (pL 32050) 0,.c (pL 32051),.blk 1,.c (pL 4007),.lp (pL 500),.blk 0,.c [1,1,1,1,1]] rfl ?_
   refine j_run it 3 rfl (by simp) ?_
   refine j_nf [.c (pL 32051),.blk 1,.c (pL 4007),.lp (pL 500),.blk 0,.c [1,1,1,1,1]] rfl ?_
   refine j_ifn rfl rfl (fun h2=>by exfalso;omega) (fun h2=>?_)
   refine j_nf [.o (pL 4007) 0,.lp (pL 500),.blk 0,.c [1,1,1,1,1]] rfl ?_
   refine j_run it 2 rfl (by repeat' first | exact trivial | apply And.intro | omega) ?_
   refine j_nfn 1 [.lp (pL 500),.blk 0,.c [1,1,1,1,1]] rfl ?_
   rw [pvS_same]
   refine j_to [0,1,2,3,4,5,6,7,8,9,10] (by repeat (first | exact Fr.sub_nil _ | refine Fr.sub_cons rfl ?_ | refine Fr.sub_consI rfl (by first | omega | (dsimp only;omega)) ?_ | refine Fr.sub_consS rfl (by first | omega | (dsimp only;omega)) (by first | omega | (dsimp only;omega)) ?_)) rfl rfl (ih (k + 1,csr) (by dsimp only;omega) (by dsimp only;omega))
  ·refine j_nf [.o (pL 1000) 0,.c (pL 1001),.lp (pL 500),.blk 0,.c [1,1,1,1,1]] rfl ?_
   refine j_run it 1 rfl (by simp) ?_
   refine j_nf [.c (pL 2002),.c (pL 2003),.lp (pL 500),.blk 0,.c [1,1,1,1,1]] rfl ?_
   refine j_if rfl rfl (fun h1=>?_) (fun h1=>by exfalso;omega)
   refine j_nf [.o (pL 16024) 0,.c (pL 16025),.blk 1,.c (pL 4007),.lp (pL 500),.blk 0,.c [1,1,1,1,1]] rfl ?_
   refine j_run it 2 rfl (by simp) ?_
   refine j_nf [.o (pL 32050) 0,.c (pL 32051),.blk 1,.c (pL 4007),.lp (pL 500),.blk 0,.c [1,1,1,1,1]] rfl ?_
   refine j_run it 3 rfl (by simp) ?_
   refine j_nf [.c (pL 32051),.blk 1,.c (pL 4007),.lp (pL 500),.blk 0,.c [1,1,1,1,1]] rfl ?_
   refine j_ifn rfl rfl (fun h2=>?_) (fun h2=>by exfalso;omega)
   (apply j_drawK it mx 21;(· rfl);(· rfl))
   (apply lxk_run 2;(· rfl);(· simp))
   (apply lxk_eq;(· rfl);(· exact d_x fun _=>x_field rfl fd69_3 dk_eq))
   (apply lxk_eq;(· rfl);(· exact d_bld 2 rfl rfl ld24 rfl))
   (apply lxk_run 1;(· rfl);(· simp))
   (apply lxk_eq;(· rfl);(· exact d_x fun _=>x_idx_own (i) (i) rfl rfl sl24 rfl (by omega) (Nat.mul_one _) dk_eq))
   (apply lxk_eq;(· rfl);(· exact d_ldR_hd 6 7 (i) rfl rfl rfl ld23 rfl (by assumption)))
   dsimp only
   (apply lxk_run 3;(· rfl);(· simp))
   (apply lxk_eq;(· rfl);(· exact d_x fun _=>x_field rfl fd69_3 dk_eq))
   (apply lxk_eq;(· rfl);(· exact d_bld 2 rfl rfl ld24 rfl))
   (apply lxk_run 1;(· rfl);(· simp))
   (apply lxk_eq;(· rfl);(· exact d_x fun _=>x_idx_own (i) (i) rfl rfl sl24 rfl (by omega) (Nat.mul_one _) dk_eq))
   (apply lxk_eq;(· rfl);(· exact d_ldR_hd 6 7 (i) rfl rfl rfl ld23 rfl (by assumption)))
   dsimp only
   (apply lxk_run 1;(· rfl);(· simp))
   (apply lxk_eq;(· rfl);(· exact d_x fun _=>x_idx_own (k) _ rfl rfl sl23 rfl (by omega) rfl dk_eq))
   (apply lxk_vw vw_RatE;(· rfl);(· exact d_ldR_vw vw_RatE 1 0 (k) rfl rfl rfl ld44 rfl (by assumption));intro g6)
   dsimp only [vw_RatE,List.cons_append,List.nil_append,List.map_cons,List.map_nil]
   (apply lxk_eq;(· rfl);(· exact d_bld_all 0 rfl rfl ld44 rfl))
   (apply lxk_sl;(· rfl);(· exact d_x fun _=>x_lit sl23 zo23e rfl rfl rfl rfl (by decide) (by decide) rfl fun b2=>dk_all (E:=RatE) [[Value.bool (rt (prw i k)).fst,Value.slice (g6 0).fst (rt (prw i k)).snd.fst.length (g6 0).snd.fst,Value.slice (g6 1).fst (rt (prw i k)).snd.snd.length (g6 1).snd.fst],[Value.bool (rt (prw i j)⁻¹).fst,Value.slice (g4 0).fst (rt (prw i j)⁻¹).snd.fst.length (g4 0).snd.fst,Value.slice (g4 1).fst (rt (prw i j)⁻¹).snd.snd.length (g4 1).snd.fst]] [((rt (prw i k)).fst,(rt (prw i k)).snd.fst,(rt (prw i k)).snd.snd),((rt (prw i j)⁻¹).fst,(rt (prw i j)⁻¹).snd.fst,(rt (prw i j)⁻¹).snd.snd)] (fun w A hG=>(allrd_cons (rd_rt (hG _ (fact_mem (n:=0) rfl)) (hG _ (fact_mem (n:=1) rfl))) (allrd_cons (rd_rt (hG _ (fact_mem (n:=6) rfl)) (hG _ (fact_mem (n:=7) rfl))) allrd_nil))) rfl rfl rfl (by first | decide | exact Nat.le_of_ble_eq_true rfl));intro pa2 ca2)
   (apply lxk_rq;(· rfl);(· exact d_x fun _=>x_call [0] rfl (S_rational_Mul (by first|omega|exact side _ (by assumption)|assumption|rfl|(simp;done)|(simp;omega)) (by first|omega|exact side _ (by assumption)|assumption|rfl|(simp;done)|(simp;omega)) (by first|omega|exact side _ (by assumption)|assumption|rfl|(simp;done)|(simp;omega)) (by first|omega|exact side _ (by assumption)|assumption|rfl|(simp;done)|(simp;omega))) rfl (by rintro _ _ _ ⟨pn3,cn3,pd3,cd3,rfl,rfl,rfl⟩;exact (dk_rq 0 1 rfl rfl)));intro pn3 cn3 pd3 cd3)
   simp only [vq_rt']
   refine lxk_end rfl ?_
   simp only [List.map_cons,List.map_nil,List.cons_append,List.nil_append]
   refine j_step rfl (x_idx_own (k) _ rfl rfl sl23 rfl (by omega) rfl ?_)
   refine j_step rfl (x_stR (vs:=[Value.bool (rt (prodQ [((rt (prw i k)).fst,(rt (prw i k)).snd.fst,(rt (prw i k)).snd.snd),((rt (prw i j)⁻¹).fst,(rt (prw i j)⁻¹).snd.fst,(rt (prw i j)⁻¹).snd.snd)])).fst,Value.slice pn3 (rt (prodQ [((rt (prw i k)).fst,(rt (prw i k)).snd.fst,(rt (prw i k)).snd.snd),((rt (prw i j)⁻¹).fst,(rt (prw i j)⁻¹).snd.fst,(rt (prw i j)⁻¹).snd.snd)])).snd.fst.length cn3,Value.slice pd3 (rt (prodQ [((rt (prw i k)).fst,(rt (prw i k)).snd.fst,(rt (prw i k)).snd.snd),((rt (prw i j)⁻¹).fst,(rt (prw i j)⁻¹).snd.fst,(rt (prw i j)⁻¹).snd.snd)])).snd.snd.length cd3]) (z:=((rt (prodQ [((rt (prw i k)).fst,(rt (prw i k)).snd.fst,(rt (prw i k)).snd.snd),((rt (prw i j)⁻¹).fst,(rt (prw i j)⁻¹).snd.fst,(rt (prw i j)⁻¹).snd.snd)])).fst,((rt (prodQ [((rt (prw i k)).fst,(rt (prw i k)).snd.fst,(rt (prw i k)).snd.snd),((rt (prw i j)⁻¹).fst,(rt (prw i j)⁻¹).snd.fst,(rt (prw i j)⁻¹).snd.snd)])).snd.fst,(rt (prodQ [((rt (prw i k)).fst,(rt (prw i k)).snd.fst,(rt (prw i k)).snd.snd),((rt (prw i j)⁻¹).fst,(rt (prw i j)⁻¹).snd.fst,(rt (prw i j)⁻¹).snd.snd)])).snd.snd))) 1 5 (k) rfl rfl rfl rfl rfl ld44 rfl (by omega) (fun w A hG=>(rd_pair (v1:=[Value.bool (rt (prodQ [((rt (prw i k)).fst,(rt (prw i k)).snd.fst,(rt (prw i k)).snd.snd),((rt (prw i j)⁻¹).fst,(rt (prw i j)⁻¹).snd.fst,(rt (prw i j)⁻¹).snd.snd)])).fst]) (rd_bool _) (rd_pair (v1:=[Value.slice pn3 (rt (prodQ [((rt (prw i k)).fst,(rt (prw i k)).snd.fst,(rt (prw i k)).snd.snd),((rt (prw i j)⁻¹).fst,(rt (prw i j)⁻¹).snd.fst,(rt (prw i j)⁻¹).snd.snd)])).snd.fst.length cn3]) (rd_of_slF (hG _ (fact_mem (n:=0) rfl))) (rd_of_slF (hG _ (fact_mem (n:=1) rfl)))))) fun cs4=>?_)
   refine j_nf [.o (pL 4007) 0,.lp (pL 500),.blk 0,.c [1,1,1,1,1]] rfl ?_
   refine j_run it 2 rfl (by repeat' first | exact trivial | apply And.intro | omega) ?_
   refine j_nfn 1 [.lp (pL 500),.blk 0,.c [1,1,1,1,1]] rfl ?_
   rw [prod2R,show ((rt (prw i k * (prw i j)⁻¹)).1,(rt (prw i k * (prw i j)⁻¹)).2.1,(rt (prw i k * (prw i j)⁻¹)).2.2) = rt (prw i k * (prw i j)⁻¹) from rfl,rl_set,pvS_next (prw i) _ hkj]
   refine j_to [0,7,8,9,10,11,12,13,14,15,16] (by repeat (first | exact Fr.sub_nil _ | refine Fr.sub_cons rfl ?_ | refine Fr.sub_consI rfl (by first | omega | (dsimp only;omega)) ?_ | refine Fr.sub_consS rfl (by first | omega | (dsimp only;omega)) (by first | omega | (dsimp only;omega)) ?_)) rfl rfl (ih (k + 1,cs4) (by dsimp only;omega) (by dsimp only;omega))
 ·obtain rfl : n = k:=by omega
  refine j_nf [.o (pL 1000) 0,.c (pL 1001),.lp (pL 500),.blk 0,.c [1,1,1,1,1]] rfl ?_
  refine j_run it 1 rfl (by simp) ?_
  refine j_nf [.c (pL 2002),.c (pL 2003),.lp (pL 500),.blk 0,.c [1,1,1,1,1]] rfl ?_
  refine j_if rfl rfl (fun h1=>by exfalso;omega) (fun h1=>?_)
  refine j_nf [.c (pL 126),.c (pL 127)] rfl ?_
  (apply j_drawK it mx 9;(· rfl);(· rfl))
  (apply lxk_run 2;(· rfl);(· simp))
  (apply lxk_eq;(· rfl);(· exact d_x fun _=>x_field rfl fd69_3 dk_eq))
  (apply lxk_eq;(· rfl);(· exact d_bld 2 rfl rfl ld24 rfl))
  (apply lxk_run 1;(· rfl);(· simp))
  (apply lxk_eq;(· rfl);(· exact d_x fun _=>x_idx_own (i) (i) rfl rfl sl24 rfl (by omega) (Nat.mul_one _) dk_eq))
  (apply lxk_eq;(· rfl);(· exact d_ldR_hd 6 7 (i) rfl rfl rfl ld23 rfl (by assumption)))
  dsimp only
  (apply lxk_run 1;(· rfl);(· simp))
  (apply lxk_eq;(· rfl);(· exact d_bld_all 0 rfl rfl ld44 rfl))
  refine lxk_end rfl ?_
  simp only [List.map_cons,List.map_nil,List.cons_append,List.nil_append]
  refine j_step rfl (x_idx_own (j) _ rfl rfl sl23 rfl (by omega) rfl ?_)
  refine j_step rfl (x_stR (vs:=[Value.bool (rt (prw i j)⁻¹).fst,Value.slice (g4 0).fst (rt (prw i j)⁻¹).snd.fst.length (g4 0).snd.fst,Value.slice (g4 1).fst (rt (prw i j)⁻¹).snd.snd.length (g4 1).snd.fst]) (z:=((rt (prw i j)⁻¹).fst,((rt (prw i j)⁻¹).snd.fst,(rt (prw i j)⁻¹).snd.snd))) 1 0 (j) rfl rfl rfl rfl rfl ld44 rfl (by omega) (fun w A hG=>(rd_pair (v1:=[Value.bool (rt (prw i j)⁻¹).fst]) (rd_bool _) (rd_pair (v1:=[Value.slice (g4 0).fst (rt (prw i j)⁻¹).snd.fst.length (g4 0).snd.fst]) (rd_of_slF (hG _ (fact_mem (n:=4) rfl))) (rd_of_slF (hG _ (fact_mem (n:=5) rfl)))))) fun cs4=>?_)
  refine j_nf [.o (pL 508) 0,.c (pL 509),.c (pL 255)] rfl ?_
  refine j_run it 2 rfl (by simp) ?_
  refine j_step rfl (x_field rfl fd69_3 ?_)
  refine j_step rfl (x_bld 2 rfl rfl ld24 rfl ?_)
  refine j_step rfl (x_len sl24 rfl ?_)
  refine j_run it 1 rfl (by simp) ?_
  refine j_nf [.c (pL 1018),.blk 2,.c (pL 255)] rfl ?_
  rw [show ((rt (prw i j)⁻¹).1,(rt (prw i j)⁻¹).2.1,(rt (prw i j)⁻¹).2.2) = rt (prw i j)⁻¹ from rfl,rl_set,pvG_eq,pvF_zero]
  refine j_matCongr (fun h=>rl n (pvR prw i j 0 h)) 7 rfl (fun h _=>by rw [pvR_zero]) ?_
  refine j_loopG (X:=Nat × (Nat → List Value) × List Value) [0,1,2,126] [1,4,5,6,7,9,10,11,12] (fun x=>[(127,.int .i64 (x.1 : Int))])
   (fun x=>(some b1,44,[.bool (rt (prw i j)⁻¹).1,.slice (g4 0).1 (rt (prw i j)⁻¹).2.1.length (g4 0).2.1,.slice (g4 1).1 (rt (prw i j)⁻¹).2.2.length (g4 1).2.1])::(some br,44,cs4)::(some b,69,[.slice (ad (some bbs)) m cbs,.slice (ad (some bos)) n cos,.slice (ad (some bfr)) m cfr,.slice (ad (some brw)) m crw,.slice (ad (some bgl)) n cgl,.bool (rt pvv).1,.slice pn (rt pvv).2.1.length cn,.slice pd (rt pvv).2.2.length cd,.int .i64 (left - 1)])::(some bbs,3,cs1)::(some bos,3,cs2)::(some bfr,44,x.2.2)::(some brw,23,erw)::(some bgl,44,egl)::famB 44 hd x.2.1 m [i])
   (fun x=>[matF RatE hd x.2.1 (fun h=>rl n (pvR prw i j x.1 h)) m [i],rowF RatE ⟨some bfr,cfr,x.2.2⟩ m (rl m (pvF pfr prw i j x.1))])
   (fun x=>x.1 ≤ m) (fun x=>m - x.1) (0,cs,cs3) [0,3] rfl rfl rfl (Nat.zero_le _) (by repeat (first | exact Fr.sub_nil _ | refine Fr.sub_cons rfl ?_)) rfl rfl ?_
  rintro ⟨h,cs,csf⟩ hh ih
  simp only [List.cons_append,List.nil_append] at hh ih ⊢
  by_cases hhl : h < m
  ·by_cases hhi : h = i
   ·subst hhi
    refine j_nf [.o (pL 4072) 0,.c (pL 4073),.lp (pL 2036),.blk 2,.c (pL 255)] rfl ?_
    refine j_run it 1 rfl (by simp) ?_
    refine j_nf [.c (pL 8146),.c (pL 8147),.lp (pL 2036),.blk 2,.c (pL 255)] rfl ?_
    refine j_if rfl rfl (fun h2=>?_) (fun h2=>by exfalso;omega)
    refine j_nf [.o (pL 65176) 0,.c (pL 65177),.blk 3,.c (pL 16295),.lp (pL 2036),.blk 2,.c (pL 255)] rfl ?_
    refine j_run it 2 rfl (by simp) ?_
    refine j_nf [.o (pL 130354) 0,.c (pL 130355),.blk 3,.c (pL 16295),.lp (pL 2036),.blk 2,.c (pL 255)] rfl ?_
    refine j_run it 4 rfl (by simp) ?_
    refine j_split_ndec (t:=133) rfl (fun h3=>by exfalso;omega) (fun h3=>?_)
    refine j_run it 13 rfl (by simp) ?_
    refine j_nf [.c (pL 130355),.blk 3,.c (pL 16295),.lp (pL 2036),.blk 2,.c (pL 255)] rfl ?_
    refine j_false rfl rfl ?_
    refine j_nf [.o (pL 16295) 0,.lp (pL 2036),.blk 2,.c (pL 255)] rfl ?_
    refine j_run it 2 rfl (by repeat' first | exact trivial | apply And.intro | omega) ?_
    refine j_nfn 1 [.lp (pL 2036),.blk 2,.c (pL 255)] rfl ?_
    refine j_matCongrS (fun g=>rl n (pvR prw h j (h + 1) g)) 0 rfl (fun g _ hs=>by rw [pvR_ne prw h j h g (by rintro rfl;simp [memB_cons,memB] at hs)]) ?_
    rw [pvF_self pfr prw h j]
    refine j_to [0,2,3,4,5,6,7,8,9,10,11] (by repeat (first | exact Fr.sub_nil _ | refine Fr.sub_cons rfl ?_ | refine Fr.sub_consI rfl (by first | omega | (dsimp only;omega)) ?_ | refine Fr.sub_consS rfl (by first | omega | (dsimp only;omega)) (by first | omega | (dsimp only;omega)) ?_)) rfl rfl (ih (h + 1,cs,csf) (by dsimp only;omega) (by dsimp only;omega))
   ·have hN : (hd h).2.1 = n:=by rw [hlen h hhl rfl,rl_len]
    have hmb : memB h [i] = false:=by rw [memB_cons,decide_eq_false hhi];rfl
    refine j_focusL 8 (h) 0 (n) rfl rfl (by first | assumption | omega) (by first | rfl | assumption | (simp [memB_cons,memB];done) | (simp [memB_cons,memB];omega)) (by first | assumption | omega) fun r1 hr2=>?_
    simp only [List.take_succ_cons,List.take_zero,List.cons_append,List.nil_append]
    refine j_rowB 0 rfl (by omega) fun br2 cr2 er2 hr2=>?_
    subst hr2
    have z9 : (rl n (pvR prw i j h h))[j]? = some (rt (prw h j)):=by rw [rl_get hj,pvR_at]
    refine j_nf [.o (pL 4072) 0,.c (pL 4073),.lp (pL 2036),.blk 2,.c (pL 255)] rfl ?_
    refine j_run it 1 rfl (by simp) ?_
    refine j_nf [.c (pL 8146),.c (pL 8147),.lp (pL 2036),.blk 2,.c (pL 255)] rfl ?_
    refine j_if rfl rfl (fun h2=>?_) (fun h2=>by exfalso;omega)
    refine j_nf [.o (pL 65176) 0,.c (pL 65177),.blk 3,.c (pL 16295),.lp (pL 2036),.blk 2,.c (pL 255)] rfl ?_
    refine j_run it 2 rfl (by simp) ?_
    refine j_nf [.o (pL 130354) 0,.c (pL 130355),.blk 3,.c (pL 16295),.lp (pL 2036),.blk 2,.c (pL 255)] rfl ?_
    refine j_run it 4 rfl (by simp) ?_
    refine j_split_ndec (t:=133) rfl (fun h3=>?_) (fun h3=>by exfalso;omega)
    refine j_run it 2 rfl (by simp) ?_
    refine j_gstep rfl rfl (x_field rfl fd69_3 ?_)
    refine j_gstep rfl rfl (x_bld 3 rfl rfl ld24 rfl ?_)
    refine j_run it 1 rfl (by simp) ?_
    refine j_gstep rfl rfl (x_idx_own (h) (h) rfl rfl sl24 rfl (by omega) (Nat.mul_one _) ?_)
    refine j_gstep rfl rfl (x_ldR_hd 7 9 (h) rfl rfl rfl ld23 rfl (by assumption) ?_)
    refine j_run it 1 rfl (by simp) ?_
    refine j_gstep rfl rfl (x_idx_own (j) _ rfl rfl sl23 rfl (by omega) rfl ?_)
    refine j_gstep rfl rfl (x_ldR_vw vw_RatE 0 0 (j) rfl rfl rfl ld44 rfl (by omega) fun z2 hz1 g6=>?_)
    dsimp only [vw_RatE,List.cons_append,List.nil_append,List.map_cons,List.map_nil]
    refine j_gstep rfl rfl (x_call [0,1] rfl (S_rational_Sign) rfl ?_)
    rintro _ _ _ ⟨rfl,rfl,rfl⟩
    simp only [List.cons_append,List.nil_append]
    refine j_run it 2 rfl (by simp) ?_
    refine j_nf [.c (pL 130355),.blk 3,.c (pL 16295),.lp (pL 2036),.blk 2,.c (pL 255)] rfl ?_
    refine j_ifn rfl rfl (fun h4=>?_) (fun h4=>?_)
    ·obtain rfl : z2 = rt (prw h j):=Option.some.inj (hz1.symm.trans z9)
     refine j_selT 9 [0,2,1,3,4,5,6,7,8] rfl rfl ?_
     simp only [List.cons_append,List.nil_append,List.drop_succ_cons,List.drop_zero]
     apply j_drawKB it mx 2 35
     ·rfl
     ·rfl
     ·rfl
     have v1 : (rl m (pvF pfr prw i j h))[h]? = some (rt (pfr h)):=by rw [rl_get hhl,pvF_at _ _ _ hhi]
     have v2 : (rl m (pvF pfr prw i j h))[i]? = some (rt (pfr i * (prw i j)⁻¹)):=by rw [rl_get hi,pvF_i]
     rw [pvR_at]
     have c_simplex_replaced:=fun {r r2 : Row} {pn1 pd1 pn2 pd2 : Option Addr} {cn1 cd1 cn2 cd2 : Nat}=>S_simplex_replaced (r:=r) (r2:=r2) (n:=n) (j:=j) (K:=K + K) (f:=prw h) (g:=pvG (prw i) j) (free:=pfr h) (term:=pfr i * (prw i j)⁻¹) (pn1:=pn1) (pd1:=pd1) (pn2:=pn2) (pd2:=pd2) (cn1:=cn1) (cd1:=cd1) (cn2:=cn2) (cd2:=cd2) hj (by omega) (by omega) (by omega) (fun k hk=>bd_mono (hb.rw h k hhl hk) (by omega)) (fun k hk=>pvG_bd hj hK (fun k hk=>hb.rw i k hi hk) hk) (bd_mono (hb.fr h hhl) (by omega)) (bd_mul (hb.fr i hi) y5 (by omega))
     (apply lxk_run 2;(· rfl);(· simp))
     (apply lxk_eq;(· rfl);(· exact d_x fun _=>x_field rfl fd69_2 dk_eq))
     (apply lxk_eq;(· rfl);(· exact d_bld 1 rfl rfl ld23 rfl))
     (apply lxk_run 3;(· rfl);(· simp))
     (apply lxk_eq;(· rfl);(· exact d_x fun _=>x_field rfl fd69_3 dk_eq))
     (apply lxk_eq;(· rfl);(· exact d_bld 1 rfl rfl ld24 rfl))
     (apply lxk_run 1;(· rfl);(· simp))
     (apply lxk_eq;(· rfl);(· exact d_x fun _=>x_idx_own (h) (h) rfl rfl sl24 rfl (by omega) (Nat.mul_one _) dk_eq))
     (apply lxk_eq;(· rfl);(· exact d_ldR_hd 5 11 (h) rfl rfl rfl ld23 rfl (by assumption)))
     dsimp only
     (apply lxk_run 2;(· rfl);(· simp))
     (apply lxk_eq;(· rfl);(· exact d_x fun _=>x_field rfl fd69_3 dk_eq))
     (apply lxk_eq;(· rfl);(· exact d_bld 1 rfl rfl ld24 rfl))
     (apply lxk_run 1;(· rfl);(· simp))
     (apply lxk_eq;(· rfl);(· exact d_x fun _=>x_idx_own (i) (i) rfl rfl sl24 rfl (by omega) (Nat.mul_one _) dk_eq))
     (apply lxk_eq;(· rfl);(· exact d_ldR_hd 5 11 (i) rfl rfl rfl ld23 rfl (by assumption)))
     dsimp only
     (apply lxk_run 3;(· rfl);(· simp))
     (apply lxk_eq;(· rfl);(· exact d_x fun _=>x_field rfl fd69_2 dk_eq))
     (apply lxk_eq;(· rfl);(· exact d_bld 1 rfl rfl ld23 rfl))
     (apply lxk_run 1;(· rfl);(· simp))
     (apply lxk_eq;(· rfl);(· exact d_x fun _=>x_idx_own (h) _ rfl rfl sl23 rfl (by omega) rfl dk_eq))
     (apply lxk_vw vw_RatE;(· rfl);(· exact d_ldR_vw vw_RatE 4 5 (h) rfl rfl rfl ld44 rfl (by assumption));intro g7)
     dsimp only [vw_RatE,List.cons_append,List.nil_append,List.map_cons,List.map_nil]
     (apply lxk_run 2;(· rfl);(· simp))
     (apply lxk_eq;(· rfl);(· exact d_x fun _=>x_field rfl fd69_2 dk_eq))
     (apply lxk_eq;(· rfl);(· exact d_bld 1 rfl rfl ld23 rfl))
     (apply lxk_run 1;(· rfl);(· simp))
     (apply lxk_eq;(· rfl);(· exact d_x fun _=>x_idx_own (i) _ rfl rfl sl23 rfl (by omega) rfl dk_eq))
     (apply lxk_vw vw_RatE;(· rfl);(· exact d_ldR_vw vw_RatE 4 5 (i) rfl rfl rfl ld44 rfl (by assumption));intro g8)
     dsimp only [vw_RatE,List.cons_append,List.nil_append,List.map_cons,List.map_nil]
     (apply lxk_callH (val:=(fun g=>Value.agg #[Value.bool (rt (pfr h - prw h j * (pfr i * (prw i j)⁻¹))).fst,Value.slice (g 1).fst (rt (pfr h - prw h j * (pfr i * (prw i j)⁻¹))).snd.fst.length (g 2).snd.fst,Value.slice (g 3).fst (rt (pfr h - prw h j * (pfr i * (prw i j)⁻¹))).snd.snd.length (g 4).snd.fst])) (bl:=(fun g=>[(some br2,44,(g 0).snd.snd.snd),(some br,44,cs4)])) (fa:=(fun g=>[rowF RatE { bo:=some br2,cap:=cr2,cs:=(g 0).snd.snd.snd } n (rl n (rpl (prw h) (pvG (prw i) j) j)),rowF RatE { bo:=some br,cap:=cr,cs:=cs4 } n (rl n (pvG (prw i) j)),slF U32 (g 1).fst (rt (pfr h - prw h j * (pfr i * (prw i j)⁻¹))).snd.fst.length (g 2).snd.fst (rt (pfr h - prw h j * (pfr i * (prw i j)⁻¹))).snd.fst,slF U32 (g 3).fst (rt (pfr h - prw h j * (pfr i * (prw i j)⁻¹))).snd.snd.length (g 4).snd.fst (rt (pfr h - prw h j * (pfr i * (prw i j)⁻¹))).snd.snd])) [6,10,2,3,0,1];(· rfl);(· rfl);(· exact c_simplex_replaced (r:=⟨some br2,cr2,er2⟩) (r2:=⟨some br,cr,cs4⟩));(· rfl);(· rintro _ _ _ ⟨cs'g0,png1,cng2,pdg3,cdg4,rfl,rfl,rfl⟩;exact ⟨(fun | 0=>(none,0,0,cs'g0) | 1=>(png1,0,0,[]) | 2=>(none,cng2,0,[]) | 3=>(pdg3,0,0,[]) | 4=>(none,cdg4,0,[]) | _=>default),rfl,rfl,rfl,fun _ hg=>hg⟩);intro g9;dsimp only [List.map_cons,List.map_nil,List.cons_append,List.nil_append])
     refine lxk_end rfl ?_
     simp only [List.map_cons,List.map_nil,List.cons_append,List.nil_append]
     refine j_step rfl (x_idx_own (h) _ rfl rfl sl23 rfl (by omega) rfl ?_)
     refine j_step rfl (x_stR (vs:=[Value.bool (rt (pfr h - prw h j * (pfr i * (prw i j)⁻¹))).fst,Value.slice (g9 1).fst (rt (pfr h - prw h j * (pfr i * (prw i j)⁻¹))).snd.fst.length (g9 2).snd.fst,Value.slice (g9 3).fst (rt (pfr h - prw h j * (pfr i * (prw i j)⁻¹))).snd.snd.length (g9 4).snd.fst]) (z:=((rt (pfr h - prw h j * (pfr i * (prw i j)⁻¹))).fst,((rt (pfr h - prw h j * (pfr i * (prw i j)⁻¹))).snd.fst,(rt (pfr h - prw h j * (pfr i * (prw i j)⁻¹))).snd.snd))) 6 13 (h) rfl rfl rfl rfl rfl ld44 rfl (by omega) (fun w A hG=>(rd_pair (v1:=[Value.bool (rt (pfr h - prw h j * (pfr i * (prw i j)⁻¹))).fst]) (rd_bool _) (rd_pair (v1:=[Value.slice (g9 1).fst (rt (pfr h - prw h j * (pfr i * (prw i j)⁻¹))).snd.fst.length (g9 2).snd.fst]) (rd_of_slF (hG _ (fact_mem (n:=2) rfl))) (rd_of_slF (hG _ (fact_mem (n:=3) rfl)))))) fun cs5=>?_)
     refine j_nf [.o (pL 16295) 0,.lp (pL 2036),.blk 2,.c (pL 255)] rfl ?_
     refine j_run it 2 rfl (by repeat' first | exact trivial | apply And.intro | omega) ?_
     refine j_nfn 1 [.lp (pL 2036),.blk 2,.c (pL 255)] rfl ?_
     rw [show ((rt (pfr h - prw h j * (pfr i * (prw i j)⁻¹))).1,(rt (pfr h - prw h j * (pfr i * (prw i j)⁻¹))).2.1,(rt (pfr h - prw h j * (pfr i * (prw i j)⁻¹))).2.2) = rt (pfr h - prw h j * (pfr i * (prw i j)⁻¹)) from rfl,rl_set,pvF_next pfr prw j hhi]
     refine j_unfocusL 8 (h) 0 1 12 rfl rfl rfl rfl (by first | assumption | omega) (by first | rfl | assumption | (simp [memB_cons,memB];done) | (simp [memB_cons,memB];omega)) ?_
     simp only [List.eraseIdx_cons_zero,List.eraseIdx_cons_succ,List.take_succ_cons,List.take_zero,List.cons_append,List.nil_append]
     rw [upd_id (hdl_at hr2 hhl)]
     refine j_matCongrS (fun g=>rl n (pvR prw i j (h + 1) g)) 0 rfl (fun g _ _=>by
      by_cases e : g = h
      ·subst e;rw [upd_self,pvR_next]
      ·rw [upd_ne e,pvR_ne prw i j h g e]) ?_
     refine j_toXT 8 [1,0,2,3,4,5,6,7] [0,2,4,18,19,20,21,22,23,24,25] (by repeat (first | exact Fr.sub_nil _ | refine Fr.sub_cons rfl ?_ | refine Fr.sub_consI rfl (by first | omega | (dsimp only;omega)) ?_ | refine Fr.sub_consS rfl (by first | omega | (dsimp only;omega)) (by first | omega | (dsimp only;omega)) ?_)) rfl rfl rfl rfl (ih (h + 1,upd cs h (g9 0).2.2.2,cs5) (by dsimp only;omega) (by dsimp only;omega))
    ·obtain rfl : z2 = rt (prw h j):=Option.some.inj (hz1.symm.trans z9)
     have hz : prw h j = 0:=(sign0 _).1 (by first | assumption | exact Decidable.of_not_not (by assumption))
     refine j_nf [.o (pL 16295) 0,.lp (pL 2036),.blk 2,.c (pL 255)] rfl ?_
     refine j_run it 2 rfl (by repeat' first | exact trivial | apply And.intro | omega) ?_
     refine j_nfn 1 [.lp (pL 2036),.blk 2,.c (pL 255)] rfl ?_
     refine j_unfocusL 8 (h) 0 2 3 rfl rfl rfl rfl (by first | assumption | omega) (by first | rfl | assumption | (simp [memB_cons,memB];done) | (simp [memB_cons,memB];omega)) ?_
     simp only [List.eraseIdx_cons_zero,List.eraseIdx_cons_succ,List.take_succ_cons,List.take_zero,List.cons_append,List.nil_append]
     rw [upd_id (hdl_at hr2 hhl)]
     refine j_matCongrS (fun g=>rl n (pvR prw i j (h + 1) g)) 0 rfl (fun g _ _=>by
      by_cases e : g = h
      ·subst e;rw [upd_self,pvR_at,pvR_next,← pvR_next,← pvR_skip prw i j g g hz,pvR_at]
      ·rw [upd_ne e,pvR_ne prw i j h g e]) ?_
     rw [pvF_skip pfr prw i j h hz]
     refine j_to [0,7,8,9,10,11,12,13,14,15,16] (by repeat (first | exact Fr.sub_nil _ | refine Fr.sub_cons rfl ?_ | refine Fr.sub_consI rfl (by first | omega | (dsimp only;omega)) ?_ | refine Fr.sub_consS rfl (by first | omega | (dsimp only;omega)) (by first | omega | (dsimp only;omega)) ?_)) rfl rfl (ih (h + 1,upd cs h er2,csf) (by dsimp only;omega) (by dsimp only;omega))
  ·obtain rfl : m = h:=by omega
   have z9:=rl_get (f:=pgl) hj
   refine j_nf [.o (pL 4072) 0,.c (pL 4073),.lp (pL 2036),.blk 2,.c (pL 255)] rfl ?_
   refine j_run it 1 rfl (by simp) ?_
   refine j_nf [.c (pL 8146),.c (pL 8147),.lp (pL 2036),.blk 2,.c (pL 255)] rfl ?_
   refine j_if rfl rfl (fun h2=>by exfalso;omega) (fun h2=>?_)
   refine j_nf [.o (pL 510) 0,.c (pL 511)] rfl ?_
   refine j_run it 2 rfl (by simp) ?_
   refine j_step rfl (x_field rfl fd69_4 ?_)
   refine j_step rfl (x_bld 2 rfl rfl ld23 rfl ?_)
   refine j_run it 1 rfl (by simp) ?_
   refine j_step rfl (x_idx_own (j) _ rfl rfl sl23 rfl (by omega) rfl ?_)
   refine j_step rfl (x_ldR_vw vw_RatE 7 8 (j) rfl rfl rfl ld44 rfl (by omega) fun z2 hz1 g6=>?_)
   dsimp only [vw_RatE,List.cons_append,List.nil_append,List.map_cons,List.map_nil]
   refine j_step rfl (x_call [0,1] rfl (S_rational_Sign) rfl ?_)
   rintro _ _ _ ⟨rfl,rfl,rfl⟩
   simp only [List.cons_append,List.nil_append]
   refine j_run it 1 rfl (by simp) ?_
   refine j_nf [.c (pL 511)] rfl ?_
   refine j_ifn rfl rfl (fun h3=>?_) (fun h3=>?_)
   ·obtain rfl : z2 = rt (pgl j):=Option.some.inj (hz1.symm.trans z9)
    have v2 : (rl m (pvF pfr prw i j m))[i]? = some (rt (pfr i * (prw i j)⁻¹)):=by rw [rl_get hi,pvF_i]
    have c_simplex_negative:=fun {r : Row}=>S_simplex_negativeH (r:=r) (n:=n) (K:=K) (f:=pgl) (by omega) hK (by omega) fun k hk=>hb.gl k hk
    refine j_nf [.o (pL 2044) 0,.c (pL 2045)] rfl ?_
    refine j_run it 2 rfl (by simp) ?_
    refine j_step rfl (x_field rfl fd69_4 ?_)
    refine j_step rfl (x_bld 2 rfl rfl ld23 rfl ?_)
    refine j_step rfl (x_callB 7 [10] rfl rfl (c_simplex_negative (r:=⟨some bgl,cgl,egl⟩)) rfl ?_)
    rintro _ _ _ ⟨r'1,rfl,rfl,rfl⟩
    simp only [List.cons_append,List.nil_append]
    refine j_run it 1 rfl (by simp) ?_
    refine j_nf [.c (pL 4090),.c (pL 4091)] rfl ?_
    simp only [List.eraseIdx_cons_zero,List.eraseIdx_cons_succ]
    refine j_rowB 0 rfl (by omega) fun bmn cmn emn hr=>?_
    subst hr
    refine j_selT 9 [0,3,1,2,4,5,6,7,8] rfl rfl ?_
    simp only [List.cons_append,List.nil_append,List.drop_succ_cons,List.drop_zero]
    apply j_drawKB it mx 2 22
    ·rfl
    ·rfl
    ·rfl
    have c_simplex_replaced:=fun {r r2 : Row} {pn1 pd1 pn2 pd2 : Option Addr} {cn1 cd1 cn2 cd2 : Nat}=>S_simplex_replaced (r:=r) (r2:=r2) (n:=n) (j:=j) (K:=K + K) (f:=fun k=>-pgl k) (g:=pvG (prw i) j) (free:=pvv) (term:=pfr i * (prw i j)⁻¹) (pn1:=pn1) (pd1:=pd1) (pn2:=pn2) (pd2:=pd2) (cn1:=cn1) (cd1:=cd1) (cn2:=cn2) (cd2:=cd2) hj (by omega) (by omega) (by omega) (fun k hk=>bd_mono (bd_neg (hb.gl k hk)) (by omega)) (fun k hk=>pvG_bd hj hK (fun k hk=>hb.rw i k hi hk) hk) (bd_mono hb.vv (by omega)) (bd_mul (hb.fr i hi) y5 (by omega))
    have c_simplex_negative:=fun {r : Row}=>S_simplex_negativeH (r:=r) (n:=n) (K:=4 * K + 1) (f:=rpl (fun k=>-pgl k) (pvG (prw i) j) j) (by omega) (by omega) (by omega) fun k hk=>by
     refine bd_mono (bd_sub (j:=K) (k:=K + (K + K)) (?_ : bd K (if k = j then 0 else -pgl k)) (bd_mul (bd_neg (hb.gl j hj)) (pvG_bd hj hK (fun k hk=>hb.rw i k hi hk) hk) (by omega))) (by omega)
     split
     ·exact bd_zero hK
     ·exact bd_neg (hb.gl k hk)
    (apply lxk_run 4;(· rfl);(· simp))
    (apply lxk_eq;(· rfl);(· exact d_x fun _=>x_field rfl fd69_3 dk_eq))
    (apply lxk_eq;(· rfl);(· exact d_bld 2 rfl rfl ld24 rfl))
    (apply lxk_run 1;(· rfl);(· simp))
    (apply lxk_eq;(· rfl);(· exact d_x fun _=>x_idx_own (i) (i) rfl rfl sl24 rfl (by omega) (Nat.mul_one _) dk_eq))
    (apply lxk_eq;(· rfl);(· exact d_ldR_hd 6 11 (i) rfl rfl rfl ld23 rfl (by assumption)))
    dsimp only
    (apply lxk_run 3;(· rfl);(· simp))
    (apply lxk_eq;(· rfl);(· exact d_x fun _=>x_field rfl fd69_5 dk_eq))
    (apply lxk_eq;(· rfl);(· exact d_bld_agg 2 rfl rfl ld44 rfl rfl))
    (apply lxk_run 2;(· rfl);(· simp))
    (apply lxk_eq;(· rfl);(· exact d_x fun _=>x_field rfl fd69_2 dk_eq))
    (apply lxk_eq;(· rfl);(· exact d_bld 2 rfl rfl ld23 rfl))
    (apply lxk_run 1;(· rfl);(· simp))
    (apply lxk_eq;(· rfl);(· exact d_x fun _=>x_idx_own (i) _ rfl rfl sl23 rfl (by omega) rfl dk_eq))
    (apply lxk_vw vw_RatE;(· rfl);(· exact d_ldR_vw vw_RatE 5 5 (i) rfl rfl rfl ld44 rfl (by assumption));intro g7)
    dsimp only [vw_RatE,List.cons_append,List.nil_append,List.map_cons,List.map_nil]
    (apply lxk_callH (val:=(fun g=>Value.agg #[Value.bool (rt (pvv - -pgl j * (pfr i * (prw i j)⁻¹))).fst,Value.slice (g 1).fst (rt (pvv - -pgl j * (pfr i * (prw i j)⁻¹))).snd.fst.length (g 2).snd.fst,Value.slice (g 3).fst (rt (pvv - -pgl j * (pfr i * (prw i j)⁻¹))).snd.snd.length (g 4).snd.fst])) (bl:=(fun g=>[(some bmn,44,(g 0).snd.snd.snd),(some br,44,cs4)])) (fa:=(fun g=>[rowF RatE { bo:=some bmn,cap:=cmn,cs:=(g 0).snd.snd.snd } n (rl n (rpl (fun k=>-pgl k) (pvG (prw i) j) j)),rowF RatE { bo:=some br,cap:=cr,cs:=cs4 } n (rl n (pvG (prw i) j)),slF U32 (g 1).fst (rt (pvv - -pgl j * (pfr i * (prw i j)⁻¹))).snd.fst.length (g 2).snd.fst (rt (pvv - -pgl j * (pfr i * (prw i j)⁻¹))).snd.fst,slF U32 (g 3).fst (rt (pvv - -pgl j * (pfr i * (prw i j)⁻¹))).snd.snd.length (g 4).snd.fst (rt (pvv - -pgl j * (pfr i * (prw i j)⁻¹))).snd.snd])) [2,8,15,16,0,1];(· rfl);(· rfl);(· exact c_simplex_replaced (r:=⟨some bmn,cmn,emn⟩) (r2:=⟨some br,cr,cs4⟩));(· rfl);(· rintro _ _ _ ⟨cs'g0,png1,cng2,pdg3,cdg4,rfl,rfl,rfl⟩;exact ⟨(fun | 0=>(none,0,0,cs'g0) | 1=>(png1,0,0,[]) | 2=>(none,cng2,0,[]) | 3=>(pdg3,0,0,[]) | 4=>(none,cdg4,0,[]) | _=>default),rfl,rfl,rfl,fun _ hg=>hg⟩);intro g8;dsimp only [List.map_cons,List.map_nil,List.cons_append,List.nil_append])
    refine lxk_end rfl ?_
    simp only [List.map_cons,List.map_nil,List.cons_append,List.nil_append]
    refine j_run it 1 rfl (by simp) ?_
    refine j_step rfl (x_field rfl fd69_5 ?_)
    refine j_step rfl (x_bst (vs:=[Value.bool (rt (pvv - -pgl j * (pfr i * (prw i j)⁻¹))).fst,Value.slice (g8 1).fst (rt (pvv - -pgl j * (pfr i * (prw i j)⁻¹))).snd.fst.length (g8 2).snd.fst,Value.slice (g8 3).fst (rt (pvv - -pgl j * (pfr i * (prw i j)⁻¹))).snd.snd.length (g8 4).snd.fst]) 4 rfl rfl rfl rfl ld44 (by simp [Value.oneCell']) (Nat.le_of_ble_eq_true rfl) rfl ?_)
    refine j_nf [.o (pL 4091) 0] rfl ?_
    refine j_run it 2 rfl (by simp) ?_
    refine j_step rfl (x_callB 0 [0] rfl rfl (c_simplex_negative (r:=⟨some bmn,cmn,(g8 0).snd.snd.2⟩)) rfl ?_)
    rintro _ _ _ ⟨r'1,rfl,rfl,rfl⟩
    simp only [List.cons_append,List.nil_append]
    refine j_run it 1 rfl (by simp) ?_
    refine j_step rfl (x_field rfl fd69_4 ?_)
    refine j_step rfl (x_bst1 5 rfl rfl rfl rfl ld23 rfl (Nat.le_of_ble_eq_true rfl) ?_)
    refine j_nf [] rfl ?_
    refine j_selT 10 [2,5,6,7,8,9,0] rfl rfl ?_
    refine j_unfocusL 6 (i) 0 3 12 rfl rfl rfl rfl (by first | assumption | omega) (by first | rfl | assumption | (simp [memB_cons,memB];done) | (simp [memB_cons,memB];omega)) ?_
    simp only [List.eraseIdx_cons_zero,List.eraseIdx_cons_succ,List.take_succ_cons,List.take_zero,List.cons_append,List.nil_append]
    rw [upd_id (hdl_at hr1 hi)]
    refine j_matCongr (fun g=>rl n ((piv ⟨m,n,pbs,pos,pfr,prw,pgl,pvv⟩ i j).rw g)) 0 rfl (fun g hg=>pivM (p:=⟨m,n,pbs,pos,pfr,prw,pgl,pvv⟩) hg) ?_
    rw [pivFr (p:=⟨m,n,pbs,pos,pfr,prw,pgl,pvv⟩),pivGl (p:=⟨m,n,pbs,pos,pfr,prw,pgl,pvv⟩),show pvv - -pgl j * (pfr i * (prw i j)⁻¹) = (piv ⟨m,n,pbs,pos,pfr,prw,pgl,pvv⟩ i j).vv by show _ = pvv + pgl j * (pfr i * (prw i j)⁻¹);grind]
    refine j_gives_end [18,17,15,21,2,0,6,7] rfl rfl ⟨⟨⟨some bbs,cbs,cs1⟩,⟨some bos,cos,cs2⟩,⟨some bfr,cfr,csf⟩,⟨some brw,crw,erw⟩,r'1,hd,upd cs i cs4,(g8 1).1,(g8 2).2.1,(g8 3).1,(g8 4).2.1⟩,rfl,rfl,rfl,rfl,rfl⟩
   ·obtain rfl : z2 = rt (pgl j):=Option.some.inj (hz1.symm.trans z9)
    have hz : pgl j = 0:=(sign0 _).1 (by first | assumption | exact Decidable.of_not_not (by assumption))
    refine j_nf [] rfl ?_
    refine j_unfocusL 7 (i) 1 4 2 rfl rfl rfl rfl (by first | assumption | omega) (by first | rfl | assumption | (simp [memB_cons,memB];done) | (simp [memB_cons,memB];omega)) ?_
    simp only [List.eraseIdx_cons_zero,List.eraseIdx_cons_succ,List.take_succ_cons,List.take_zero,List.cons_append,List.nil_append]
    rw [upd_id (hdl_at hr1 hi)]
    refine j_matCongr (fun g=>rl n ((piv ⟨m,n,pbs,pos,pfr,prw,pgl,pvv⟩ i j).rw g)) 0 rfl (fun g hg=>pivM (p:=⟨m,n,pbs,pos,pfr,prw,pgl,pvv⟩) hg) ?_
    have e3 : (piv ⟨m,n,pbs,pos,pfr,prw,pgl,pvv⟩ i j).vv = pvv:=by show pvv + pgl j * (pfr i * (prw i j)⁻¹) = pvv;rw [hz];grind
    rw [pivFr (p:=⟨m,n,pbs,pos,pfr,prw,pgl,pvv⟩),pivGl0 (p:=⟨m,n,pbs,pos,pfr,prw,pgl,pvv⟩) (i:=i) (j:=j) hz]
    refine j_selT 7 [1,2,3,4,5,6] rfl rfl ?_
    refine j_gives_end [8,7,5,11,12,0,13,14] rfl rfl ⟨⟨⟨some bbs,cbs,cs1⟩,⟨some bos,cos,cs2⟩,⟨some bfr,cfr,csf⟩,⟨some brw,crw,erw⟩,⟨some bgl,cgl,egl⟩,hd,upd cs i cs4,pn,cn,pd,cd⟩,rfl,?_,?_,rfl,rfl⟩
    ·simp only [dicF,e3];rfl
    ·simp only [dicB,dicC,e3];rfl
end Go.Proofs.Ythahejfpdhcpiaa

namespace Go.Proofs.Ythahejfpdhcpiaa
open Go Go.Fw
set_option maxRecDepth 100000
set_option linter.unusedVariables false
set_option linter.unusedSimpArgs false
set_option maxHeartbeats 8000000
theorem signP (q : Rat) : 0 < q.num.sign ↔ 0 < q:=by
 rw [Int.sign_pos_iff,← Rat.not_le]
 have h:=Rat.num_nonneg (q:=-q)
 rw [Rat.neg_num] at h
 have h2 : 0 ≤ -q ↔ q ≤ 0:=by constructor <;> intro h <;> grind
 rw [← h2,← h];omega
def entQ (p : PD) (k : Nat) (best : Int) : Prop:=(best = -1 ∧ ∀ c,c < k → p.gl c ≤ 0) ∨ ∃ j : Nat,best = j ∧ j < k ∧ 0 < p.gl j ∧ ∀ c,c < k → 0 < p.gl c → p.os j ≤ p.os c
theorem entQ_skip {p : PD} {k : Nat} {best : Int} (h : entQ p k best) (hn : ¬ 0 < p.gl k) : entQ p (k + 1) best:=by
 rcases h with ⟨e,h⟩ | ⟨j,e,h1,h2,h⟩
 ·refine .inl ⟨e,fun c hc=>?_⟩
  rcases Nat.lt_succ_iff_lt_or_eq.1 hc with h3 | rfl
  ·exact h c h3
  ·exact Rat.not_lt.1 hn
 ·refine .inr ⟨j,e,by omega,h2,fun c hc hc2=>?_⟩
  rcases Nat.lt_succ_iff_lt_or_eq.1 hc with h3 | rfl
  ·exact h c h3 hc2
  ·exact absurd hc2 hn
theorem entQ_first {p : PD} {k : Nat} (h : ∀ c,c < k → p.gl c ≤ 0) (hp : 0 < p.gl k) : entQ p (k + 1) k :=
 .inr ⟨k,rfl,Nat.lt_succ_self k,hp,fun c hc hc2=>by
  rcases Nat.lt_succ_iff_lt_or_eq.1 hc with h3 | rfl
  ·exact absurd hc2 (Rat.not_lt.2 (h c h3))
  ·exact Nat.le_refl _⟩
theorem entQ_less {p : PD} {k j : Nat} (h : ∀ c,c < k → 0 < p.gl c → p.os j ≤ p.os c) (hp : 0 < p.gl k) (hl : p.os k < p.os j) : entQ p (k + 1) k :=
 .inr ⟨k,rfl,Nat.lt_succ_self k,hp,fun c hc hc2=>by
  rcases Nat.lt_succ_iff_lt_or_eq.1 hc with h3 | rfl
  ·have:=h c h3 hc2;omega
  ·exact Nat.le_refl _⟩
theorem entQ_keep {p : PD} {k j : Nat} (hj : j < k) (h2 : 0 < p.gl j) (h : ∀ c,c < k → 0 < p.gl c → p.os j ≤ p.os c) (hl : ¬ p.os k < p.os j) : entQ p (k + 1) j :=
 .inr ⟨j,rfl,by omega,h2,fun c hc hc2=>by
  rcases Nat.lt_succ_iff_lt_or_eq.1 hc with h3 | rfl
  ·exact h c h3 hc2
  ·omega⟩
abbrev DicQ (b : Nat) (x : DX) (p : PD) (left : Int) (q : Int → Prop) : Value → List Fact → List Blk → Prop:=fun v Φ β=>∃ z : Int,v = .int .i64 z ∧ q z ∧ Φ = dicF x p ∧ β = dicB b x p left
theorem S_simplex_dictionary__enter {b : Nat} {x : DX} {p : PD} {left : Int} (hn : p.n ≤ 100) (hos : ∀ k,k < p.n → p.os k ≤ 1000000) :
  Ctr Try.prog 84 [.pointer (some ⟨b,0,none⟩)] (dicB b x p left) (dicF x p) (DicQ b x p left (entQ p p.n)):=by
 refine Ctr_of_j' (F:=F_simplex_dictionary__enter) rfl fun C=>?_
 obtain ⟨bs,os,fr,rw',gl,hd,cs,pn,cn,pd,cd⟩:=x
 obtain ⟨m,n,pbs,pos,pfr,prw,pgl,pvv⟩:=p
 simp only [dicB,dicF,dicC] at *
 refine j_nf [.o [0] 0,.c [1]] rfl ?_
 refine j_run it 1 rfl (by simp) ?_
 refine j_nf [.o [1,0] 0,.c [1,1]] rfl ?_
 refine j_run it 1 rfl (by simp) ?_
 refine j_nf [.o [1,1,0,0] 0,.c [1,1,0,1],.c [1,1,1]] rfl ?_
 refine j_run it 2 rfl (by simp) ?_
 refine j_step rfl (x_field rfl fd69_4 ?_)
 refine j_step rfl (x_bld 0 rfl rfl ld23 rfl ?_)
 refine j_step rfl (x_len sl23 rfl ?_)
 refine j_run it 1 rfl (by simp) ?_
 refine j_nf [.c [1,1,0,1,0],.blk 0,.c [1,1,1]] rfl ?_
 refine j_loopG (X:=Nat × Int) [0,2,9,10] [0,1,2,3,4,5,6,7] (fun x=>[(11,.int .i64 (x.1 : Int)),(3,.int .i64 x.2)])
  (fun _=>(some b,69,[.slice (ad bs.bo) m bs.cap,.slice (ad os.bo) n os.cap,.slice (ad fr.bo) m fr.cap,.slice (ad rw'.bo) m rw'.cap,.slice (ad gl.bo) n gl.cap,.bool (rt pvv).1,.slice pn (rt pvv).2.1.length cn,.slice pd (rt pvv).2.2.length cd,.int .i64 left])::(bs.bo,3,bs.cs)::(os.bo,3,os.cs)::(fr.bo,44,fr.cs)::(rw'.bo,23,rw'.cs)::(gl.bo,44,gl.cs)::famB 44 hd cs m [])
  (fun _=>[])
  (fun x=>x.1 ≤ n ∧ entQ ⟨m,n,pbs,pos,pfr,prw,pgl,pvv⟩ x.1 x.2) (fun x=>n - x.1) (0,-1) [] rfl rfl rfl ⟨Nat.zero_le _,.inl ⟨rfl,fun c hc=>by omega⟩⟩ (by repeat (first | exact Fr.sub_nil _ | refine Fr.sub_cons rfl ?_)) rfl rfl ?_
 rintro ⟨k,best⟩ ⟨hk,hq⟩ ih
 simp only [List.cons_append,List.nil_append] at hk ih ⊢
 by_cases hkl : k < n
 ·refine j_rowB 4 rfl (by omega) fun bgl cgl egl h=>?_
  subst h
  refine j_rowB 1 rfl (by omega) fun bos cos eos h=>?_
  subst h
  have z1:=rl_get (f:=pgl) hkl
  have w1:=il_get (f:=pos) hkl
  have w4:=hos k hkl
  have hs:=signP (pgl k)
  refine j_nf [.o (pL 232) 0,.c (pL 233),.lp (pL 116),.blk 0,.c [1,1,1]] rfl ?_
  refine j_run it 1 rfl (by simp) ?_
  refine j_nf [.c (pL 466),.c (pL 467),.lp (pL 116),.blk 0,.c [1,1,1]] rfl ?_
  refine j_if rfl rfl (fun h1=>?_) (fun h1=>by exfalso;omega)
  refine j_nf [.o (pL 3736) 0,.c (pL 3737),.blk 1,.c (pL 935),.lp (pL 116),.blk 0,.c [1,1,1]] rfl ?_
  refine j_run it 1 rfl (by simp) ?_
  refine j_step rfl (x_idx_own (k) _ rfl rfl sl23 rfl (by omega) rfl ?_)
  refine j_step rfl (x_ldR_vw vw_RatE 5 4 (k) rfl rfl rfl ld44 rfl (by omega) fun z2 hz1 g1=>?_)
  dsimp only [vw_RatE,List.cons_append,List.nil_append,List.map_cons,List.map_nil]
  refine j_step rfl (x_alloc zo44 fun b1=>?_)
  obtain rfl : z2 = rt (pgl k):=Option.some.inj (hz1.symm.trans z1)
  by_cases hg : 0 < pgl k
  case neg =>
   have hs : ¬ 0 < (pgl k).num.sign:=fun e=>hg (hs.1 e)
   refine j_run it 1 rfl (by simp) ?_
   refine j_step rfl (x_bst_all 0 rfl rfl rfl ld44 rfl rfl (by simp [Value.oneCell']) ?_)
   refine j_nf [.c (pL 7474),.c (pL 7475),.blk 1,.c (pL 935),.lp (pL 116),.blk 0,.c [1,1,1]] rfl ?_
   (apply j_drawK it mx 24;(· rfl);(· rfl))
   (apply lxk_eq;(· rfl);(· exact d_bld_all 0 rfl rfl ld44 rfl))
   (apply lxk_eq;(· rfl);(· exact d_x fun _=>x_call [0,1] rfl (S_rational_Sign) rfl (by rintro _ _ _ ⟨rfl,rfl,rfl⟩;exact dk_eq)))
   simp only [vq_rt']
   (apply lxk_eq;(· rfl);(· exact d_x fun _=>x_false it rfl (by trivial) (by omega) dk_eq))
   (apply lxk_run 2;(· rfl);(· simp))
   (apply lxk_run 16;(· rfl);(· simp))
   (apply lxk_run 3;(· rfl);(· simp))
   refine lxk_end rfl ?_
   simp only [List.map_cons,List.map_nil,List.cons_append,List.nil_append]
   refine j_nf [.c (pL 7475),.blk 1,.c (pL 935),.lp (pL 116),.blk 0,.c [1,1,1]] rfl ?_
   refine j_false rfl rfl ?_
   refine j_nf [.o (pL 935) 0,.lp (pL 116),.blk 0,.c [1,1,1]] rfl ?_
   refine j_run it 2 rfl (by repeat' first | exact trivial | apply And.intro | omega) ?_
   refine j_nfn 1 [.lp (pL 116),.blk 0,.c [1,1,1]] rfl ?_
   refine j_toXT 7 [1,2,3,4,5,6] [2,3,4,5,6,7,8,9] (by repeat (first | exact Fr.sub_nil _ | refine Fr.sub_cons rfl ?_ | refine Fr.sub_consI rfl (by first | omega | (dsimp only;omega)) ?_ | refine Fr.sub_consS rfl (by first | omega | (dsimp only;omega)) (by first | omega | (dsimp only;omega)) ?_)) rfl rfl rfl rfl (ih (k + 1,best) (by dsimp only;omega) ⟨by dsimp only;omega,entQ_skip hq hg⟩)
  have hs:=hs.2 hg
  rcases hq with ⟨rfl,hq⟩ | ⟨j,rfl,hj,hj2,hq⟩
  ·refine j_run it 1 rfl (by simp) ?_
   refine j_step rfl (x_bst_all 0 rfl rfl rfl ld44 rfl rfl (by simp [Value.oneCell']) ?_)
   refine j_nf [.c (pL 7474),.c (pL 7475),.blk 1,.c (pL 935),.lp (pL 116),.blk 0,.c [1,1,1]] rfl ?_
   (apply j_drawK it mx 24;(· rfl);(· rfl))
   (apply lxk_eq;(· rfl);(· exact d_bld_all 0 rfl rfl ld44 rfl))
   (apply lxk_eq;(· rfl);(· exact d_x fun _=>x_call [0,1] rfl (S_rational_Sign) rfl (by rintro _ _ _ ⟨rfl,rfl,rfl⟩;exact dk_eq)))
   simp only [vq_rt']
   (apply lxk_eq;(· rfl);(· exact d_x fun _=>x_true it rfl (by trivial) (by omega) dk_eq))
   (apply lxk_run 2;(· rfl);(· simp))
   (apply lxk_eq;(· rfl);(· exact d_x fun _=>x_true it rfl (by trivial) (by omega) dk_eq))
   (apply lxk_run 15;(· rfl);(· simp))
   (apply lxk_run 3;(· rfl);(· simp))
   refine lxk_end rfl ?_
   simp only [List.map_cons,List.map_nil,List.cons_append,List.nil_append]
   refine j_nf [.c (pL 7475),.blk 1,.c (pL 935),.lp (pL 116),.blk 0,.c [1,1,1]] rfl ?_
   refine j_true rfl rfl ?_
   refine j_nf [.o (pL 14950) 0,.blk 1,.c (pL 935),.lp (pL 116),.blk 0,.c [1,1,1]] rfl ?_
   refine j_run it 2 rfl (by simp) ?_
   refine j_nf [.o (pL 935) 0,.lp (pL 116),.blk 0,.c [1,1,1]] rfl ?_
   refine j_run it 2 rfl (by repeat' first | exact trivial | apply And.intro | omega) ?_
   refine j_nfn 1 [.lp (pL 116),.blk 0,.c [1,1,1]] rfl ?_
   refine j_toXT 7 [1,2,3,4,5,6] [2,3,4,5,6,7,8,9] (by repeat (first | exact Fr.sub_nil _ | refine Fr.sub_cons rfl ?_ | refine Fr.sub_consI rfl (by first | omega | (dsimp only;omega)) ?_ | refine Fr.sub_consS rfl (by first | omega | (dsimp only;omega)) (by first | omega | (dsimp only;omega)) ?_)) rfl rfl rfl rfl (ih (k + 1,k) (by dsimp only;omega) ⟨by dsimp only;omega,entQ_first hq hg⟩)
  ·have w2:=il_get (f:=pos) (show j < n by dsimp only at hj;omega)
   have w5:=hos j (by show j < n;dsimp only at hj;omega)
   refine j_run it 1 rfl (by simp) ?_
   refine j_step rfl (x_bst_all 0 rfl rfl rfl ld44 rfl rfl (by simp [Value.oneCell']) ?_)
   refine j_nf [.c (pL 7474),.c (pL 7475),.blk 1,.c (pL 935),.lp (pL 116),.blk 0,.c [1,1,1]] rfl ?_
   (apply j_drawK it mx 24;(· rfl);(· rfl))
   (apply lxk_eq;(· rfl);(· exact d_bld_all 0 rfl rfl ld44 rfl))
   (apply lxk_eq;(· rfl);(· exact d_x fun _=>x_call [0,1] rfl (S_rational_Sign) rfl (by rintro _ _ _ ⟨rfl,rfl,rfl⟩;exact dk_eq)))
   simp only [vq_rt']
   (apply lxk_eq;(· rfl);(· exact d_x fun _=>x_true it rfl (by trivial) (by omega) dk_eq))
   (apply lxk_run 2;(· rfl);(· simp))
   (apply lxk_eq;(· rfl);(· exact d_x fun _=>x_false it rfl (by trivial) (by omega) dk_eq))
   (apply lxk_run 3;(· rfl);(· simp))
   (apply lxk_eq;(· rfl);(· exact d_x fun _=>x_field rfl fd69_1 dk_eq))
   (apply lxk_eq;(· rfl);(· exact d_bld 1 rfl rfl ld67 rfl))
   (apply lxk_run 1;(· rfl);(· simp))
   (apply lxk_eq;(· rfl);(· exact d_x fun _=>x_idx_own (k) (k) rfl rfl sl67 rfl (by omega) (Nat.mul_one _) dk_eq))
   (apply lxk_eq;(· rfl);(· exact d_ldR_int 3 3 (k) rfl rfl rfl ld3 rfl (by assumption)))
   (apply lxk_run 2;(· rfl);(· simp))
   (apply lxk_eq;(· rfl);(· exact d_x fun _=>x_field rfl fd69_1 dk_eq))
   (apply lxk_eq;(· rfl);(· exact d_bld 1 rfl rfl ld67 rfl))
   (apply lxk_run 1;(· rfl);(· simp))
   (apply lxk_eq;(· rfl);(· exact d_x fun _=>x_idx_own (j) (j) rfl rfl sl67 rfl (by omega) (Nat.mul_one _) dk_eq))
   (apply lxk_eq;(· rfl);(· exact d_ldR_int 3 3 (j) rfl rfl rfl ld3 rfl (by assumption)))
   (apply lxk_run 3;(· rfl);(· simp))
   refine lxk_end rfl ?_
   simp only [List.map_cons,List.map_nil,List.cons_append,List.nil_append]
   refine j_nf [.c (pL 7475),.blk 1,.c (pL 935),.lp (pL 116),.blk 0,.c [1,1,1]] rfl ?_
   refine j_if rfl rfl (fun h2=>?_) (fun h2=>?_)
   ·refine j_nf [.o (pL 14950) 0,.blk 1,.c (pL 935),.lp (pL 116),.blk 0,.c [1,1,1]] rfl ?_
    refine j_run it 2 rfl (by simp) ?_
    refine j_nf [.o (pL 935) 0,.lp (pL 116),.blk 0,.c [1,1,1]] rfl ?_
    refine j_run it 2 rfl (by repeat' first | exact trivial | apply And.intro | omega) ?_
    refine j_nfn 1 [.lp (pL 116),.blk 0,.c [1,1,1]] rfl ?_
    refine j_toXT 7 [1,2,3,4,5,6] [2,3,4,5,6,7,8,9] (by repeat (first | exact Fr.sub_nil _ | refine Fr.sub_cons rfl ?_ | refine Fr.sub_consI rfl (by first | omega | (dsimp only;omega)) ?_ | refine Fr.sub_consS rfl (by first | omega | (dsimp only;omega)) (by first | omega | (dsimp only;omega)) ?_)) rfl rfl rfl rfl (ih (k + 1,k) (by dsimp only;omega) ⟨by dsimp only;omega,entQ_less (p:=⟨m,n,pbs,pos,pfr,prw,pgl,pvv⟩) hq hg (by show pos k < pos j;omega)⟩)
   ·refine j_nf [.o (pL 935) 0,.lp (pL 116),.blk 0,.c [1,1,1]] rfl ?_
    refine j_run it 2 rfl (by repeat' first | exact trivial | apply And.intro | omega) ?_
    refine j_nfn 1 [.lp (pL 116),.blk 0,.c [1,1,1]] rfl ?_
    refine j_toXT 7 [1,2,3,4,5,6] [2,3,4,5,6,7,8,9] (by repeat (first | exact Fr.sub_nil _ | refine Fr.sub_cons rfl ?_ | refine Fr.sub_consI rfl (by first | omega | (dsimp only;omega)) ?_ | refine Fr.sub_consS rfl (by first | omega | (dsimp only;omega)) (by first | omega | (dsimp only;omega)) ?_)) rfl rfl rfl rfl (ih (k + 1,j) (by dsimp only;omega) ⟨by dsimp only;omega,entQ_keep (p:=⟨m,n,pbs,pos,pfr,prw,pgl,pvv⟩) hj hj2 hq (by show ¬ pos k < pos j;omega)⟩)
 ·obtain rfl : n = k:=by omega
  refine j_nf [.o (pL 232) 0,.c (pL 233),.lp (pL 116),.blk 0,.c [1,1,1]] rfl ?_
  refine j_run it 1 rfl (by simp) ?_
  refine j_nf [.c (pL 466),.c (pL 467),.lp (pL 116),.blk 0,.c [1,1,1]] rfl ?_
  refine j_if rfl rfl (fun h1=>by exfalso;omega) (fun h1=>?_)
  refine j_nf [.o [1,1,1,0] 0,.c [1,1,1,1]] rfl ?_
  refine j_run it 2 rfl (by simp) ?_
  refine j_nf [.c [1,1,1,1]] rfl ?_
  refine j_givK 6 [0,1,2,3,4,5] [0,1,2,3,4,5,6,7] rfl (.tmp rfl .nil) rfl rfl rfl ⟨_,rfl,hq,rfl,rfl⟩
end Go.Proofs.Ythahejfpdhcpiaa

namespace Go.Proofs.Ythahejfpdhcpiaa
open Go Go.Fw
set_option maxRecDepth 100000
set_option linter.unusedVariables false
set_option linter.unusedSimpArgs false
set_option maxHeartbeats 8000000
theorem signL (q : Rat) : q.num.sign ≤ 0 ↔ ¬ 0 < q:=by
 rw [← signP];omega
theorem signV (q : Rat) : (vq ((rt q).1,(rt q).2.1,(rt q).2.2)).num.sign ≤ 0 ↔ ¬ 0 < q:=by rw [vq_rt',signL]
theorem signN (q : Rat) : q.num.sign < 0 ↔ q < 0:=by
 rw [Int.sign_neg_iff]
 have h:=Rat.num_nonneg (q:=q)
 rw [← Rat.not_le,← h];omega
theorem signZ (q : Rat) : q.num.sign = 0 ↔ q = 0:=by rw [Int.sign_eq_zero_iff_zero,Rat.num_eq_zero]
abbrev LvX:=Nat × Int × Rt × (Option Addr × Nat × Option Addr × Nat) × (Nat → List Value)
abbrev DicX (b : Nat) (p : PD) (left : Int) (q : Int → Prop) : Value → List Fact → List Blk → Prop:=fun v Φ β=>∃ (x : DX) (z : Int),v = .int .i64 z ∧ q z ∧ Φ = dicF x p ∧ β = dicB b x p left
theorem S_simplex_dictionary__leave {b : Nat} {x : DX} {p : PD} {left : Int} {j K : Nat} {pf : Int} (hj : j < p.n) (hm : p.m ≤ 100) (hn : p.n ≤ 100) (hK : 1 ≤ K) (hK2 : K ≤ 1000000) (hb : PB K p) (hbs : ∀ h,h < p.m → p.bs h ≤ 1000000) (hp1 : -1000000 ≤ pf) (hp2 : pf ≤ 1000000) :
  Ctr Try.prog 85 [.pointer (some ⟨b,0,none⟩),.int .i64 j,.int .i64 pf] (dicB b x p left) (dicF x p) (DicX b p left (lvQ p j pf p.m)):=by
 refine Ctr_of_j' (F:=F_simplex_dictionary__leave) rfl fun C=>?_
 obtain ⟨bs,os,fr,rw',gl,hd,cs,pn,cn,pd,cd⟩:=x
 obtain ⟨m,n,pbs,pos,pfr,prw,pgl,pvv⟩:=p
 simp only [dicB,dicF,dicC] at *
 refine j_add (slF U32 none 0 0 []) (fun w A _=>slF_nil _ _ _ _ _) ?_
 refine j_nf [.o [0] 0,.c [1]] rfl ?_
 refine j_run it 1 rfl (by simp) ?_
 refine j_nf [.o [1,0] 0,.c [1,1]] rfl ?_
 refine j_run it 1 rfl (by simp) ?_
 refine j_nf [.o [1,1,0] 0,.c [1,1,1]] rfl ?_
 refine j_step rfl (x_alloc zo44 fun b1=>?_)
 refine j_nf [.o [1,1,1,0,0] 0,.c [1,1,1,0,1],.c [1,1,1,1]] rfl ?_
 refine j_run it 2 rfl (by simp) ?_
 refine j_step rfl (x_field rfl fd69_3 ?_)
 refine j_step rfl (x_bld 1 rfl rfl ld24 rfl ?_)
 refine j_step rfl (x_len sl24 rfl ?_)
 refine j_run it 1 rfl (by simp) ?_
 refine j_nf [.c (pL 122),.blk 0,.c [1,1,1,1]] rfl ?_
 refine j_loopG (X:=LvX) [0,1,2,6,8,17] [1,2,3,4,5,7,8] (fun x=>[(18,.int .i64 (x.1 : Int)),(7,.int .i64 x.2.1)])
  (fun x=>(some b1,44,[.bool x.2.2.1.1,.slice x.2.2.2.1.1 x.2.2.1.2.1.length x.2.2.2.1.2.1,.slice x.2.2.2.1.2.2.1 x.2.2.1.2.2.length x.2.2.2.1.2.2.2])::(some b,69,[.slice (ad bs.bo) m bs.cap,.slice (ad os.bo) n os.cap,.slice (ad fr.bo) m fr.cap,.slice (ad rw'.bo) m rw'.cap,.slice (ad gl.bo) n gl.cap,.bool (rt pvv).1,.slice pn (rt pvv).2.1.length cn,.slice pd (rt pvv).2.2.length cd,.int .i64 left])::(bs.bo,3,bs.cs)::(os.bo,3,os.cs)::(fr.bo,44,fr.cs)::(rw'.bo,23,rw'.cs)::(gl.bo,44,gl.cs)::famB 44 hd x.2.2.2.2 m [])
  (fun x=>[slF U32 x.2.2.2.1.1 x.2.2.1.2.1.length x.2.2.2.1.2.1 x.2.2.1.2.1,slF U32 x.2.2.2.1.2.2.1 x.2.2.1.2.2.length x.2.2.2.1.2.2.2 x.2.2.1.2.2,matF RatE hd x.2.2.2.2 (fun h=>rl n (prw h)) m []])
  (fun x=>x.1 ≤ m ∧ lvQ ⟨m,n,pbs,pos,pfr,prw,pgl,pvv⟩ j pf x.1 x.2.1 ∧ ∀ i : Nat,x.2.1 = i → x.2.2.1 = rt (lm ⟨m,n,pbs,pos,pfr,prw,pgl,pvv⟩ j i)) (fun x=>m - x.1) (0,-1,(false,[],[]),(none,0,none,0),cs) [0,0,6] rfl rfl rfl ⟨Nat.zero_le _,lvQ_zero _ _ _,fun i h=>absurd h (by show ¬ (-1 : Int) = (i : Int);omega)⟩ (by repeat (first | exact Fr.sub_nil _ | refine Fr.sub_cons rfl ?_)) rfl rfl ?_
 rintro ⟨k,best,⟨g,N,D⟩,⟨pl,cl,ql,el⟩,cs⟩ ⟨hk,hq,hr⟩ ih
 simp only [List.cons_append,List.nil_append] at hk hq hr ih ⊢
 by_cases hkl : k < m
 ·refine j_hdlen 2 rfl fun hlen=>?_
  have hN : (hd k).2.1 = n:=by rw [hlen k hkl rfl,rl_len]
  refine j_rowB 5 rfl (by omega) fun bfr cfr efr h=>?_
  subst h
  refine j_rowB 3 rfl (by omega) fun bbs cbs ebs h=>?_
  subst h
  refine j_focusL 7 (k) 2 (n) rfl rfl (by first | assumption | omega) (by first | rfl | assumption | (simp [memB_cons,memB];done) | (simp [memB_cons,memB];omega)) (by first | assumption | omega) fun r1 hr1=>?_
  simp only [List.take_succ_cons,List.take_zero,List.cons_append,List.nil_append]
  refine j_rowB 0 rfl (by omega) fun br cr er h=>?_
  subst h
  have z1:=rl_get (f:=prw k) hj
  have z3:=rl_get (f:=pfr) hkl
  have w1:=il_get (f:=pbs) hkl
  have w4:=hbs k hkl
  have hs:=signP (prw k j)
  refine j_nf [.o (pL 488) 0,.c (pL 489),.lp (pL 244),.blk 0,.c [1,1,1,1]] rfl ?_
  refine j_run it 1 rfl (by simp) ?_
  refine j_nf [.c (pL 978),.c (pL 979),.lp (pL 244),.blk 0,.c [1,1,1,1]] rfl ?_
  refine j_if rfl rfl (fun h1=>?_) (fun h1=>by exfalso;omega)
  refine j_nf [.o (pL 7832) 0,.c (pL 7833),.blk 1,.c (pL 1959),.lp (pL 244),.blk 0,.c [1,1,1,1]] rfl ?_
  refine j_run it 2 rfl (by simp) ?_
  refine j_nf [.o (pL 31332) 0,.c (pL 31333),.c (pL 15667),.blk 1,.c (pL 1959),.lp (pL 244),.blk 0,.c [1,1,1,1]] rfl ?_
  refine j_run it 2 rfl (by simp) ?_
  refine j_step rfl (x_field rfl fd69_3 ?_)
  refine j_step rfl (x_bld 2 rfl rfl ld24 rfl ?_)
  refine j_run it 1 rfl (by simp) ?_
  refine j_rowB 8 rfl (by omega) fun b2 cap1 cs1 hr2=>?_
  subst hr2
  dsimp only
  refine j_step rfl (x_idx_own (k) (k) rfl rfl sl24 rfl (by omega) (Nat.mul_one _) ?_)
  refine j_step rfl (x_ldR_hd 6 8 (k) rfl rfl rfl ld23 rfl (by assumption) ?_)
  refine j_run it 1 rfl (by simp) ?_
  refine j_step rfl (x_idx_own (j) _ rfl rfl sl23 rfl (by omega) rfl ?_)
  refine j_step rfl (x_ldR_vw vw_RatE 0 0 (j) rfl rfl rfl ld44 rfl (by omega) fun z2 hz1 g1=>?_)
  dsimp only [vw_RatE,List.cons_append,List.nil_append,List.map_cons,List.map_nil]
  refine j_step rfl (x_call [0,1] rfl (S_rational_Sign) rfl ?_)
  rintro _ _ _ ⟨rfl,rfl,rfl⟩
  simp only [List.cons_append,List.nil_append]
  refine j_run it 1 rfl (by simp) ?_
  refine j_nf [.c (pL 31333),.c (pL 15667),.blk 1,.c (pL 1959),.lp (pL 244),.blk 0,.c [1,1,1,1]] rfl ?_
  obtain rfl : z2 = rt (prw k j):=Option.some.inj (hz1.symm.trans z1)
  refine j_if rfl rfl (fun h2=>?_) (fun h2=>?_)
  ·have hg : ¬ 0 < prw k j:=(signV _).1 (by assumption)
   refine j_nf [.o (pL 1959) 0,.lp (pL 244),.blk 0,.c [1,1,1,1]] rfl ?_
   refine j_run it 2 rfl (by repeat' first | exact trivial | apply And.intro | omega) ?_
   refine j_nfn 1 [.lp (pL 244),.blk 0,.c [1,1,1,1]] rfl ?_
   refine j_unfocusL 7 (k) 0 2 3 rfl rfl rfl rfl (by first | assumption | omega) (by first | rfl | assumption | (simp [memB_cons,memB];done) | (simp [memB_cons,memB];omega)) ?_
   simp only [List.eraseIdx_cons_zero,List.eraseIdx_cons_succ,List.take_succ_cons,List.take_zero,List.cons_append,List.nil_append]
   rw [upd_id (hdl_at hr1 hkl)]
   refine j_matCongrS (fun g=>rl n (prw g)) 0 rfl (fun g _ _=>by
     by_cases e : g = k
     ·subst e;rw [upd_self]
     ·rw [upd_ne e]) ?_
   refine j_to [6,7,0,9,10,11,12,13,14,15] (by repeat (first | exact Fr.sub_nil _ | refine Fr.sub_cons rfl ?_ | refine Fr.sub_consI rfl (by first | omega | (dsimp only;omega)) ?_ | refine Fr.sub_consS rfl (by first | omega | (dsimp only;omega)) (by first | omega | (dsimp only;omega)) ?_)) rfl rfl (ih (k + 1,best,(g,N,D),(pl,cl,ql,el),upd cs k er) (by dsimp only;omega) ⟨by dsimp only;omega,lvQ_skip hq (Rat.not_lt.1 hg),hr⟩)
  ·have hg : 0 < prw k j:=Decidable.of_not_not (fun e=>absurd ((signV _).2 e) (by assumption))
   have hne : prw k j ≠ 0:=fun e=>by rw [e] at hg;exact absurd hg (by decide)
   obtain ⟨y1,y2⟩:=bd_len (hb.rw k j hkl hj)
   obtain ⟨y3,y4⟩:=bd_len (hb.fr k hkl)
   have y5 : bd (K + K) (pfr k * (prw k j)⁻¹):=bd_mul (hb.fr k hkl) (rinv_bd (hb.rw k j hkl hj) hK) (by omega)
   obtain ⟨y6,y7⟩:=bd_len y5
   refine j_nf [.c (pL 31334),.c (pL 31335),.blk 1,.c (pL 1959),.lp (pL 244),.blk 0,.c [1,1,1,1]] rfl ?_
   (apply j_drawKW (x0:=none) it mx 0 22 [20] 1;(· rfl);(· rfl);(· rfl);(· decide))
   simp only [List.drop_zero]
   (apply lxk_run 2;(· rfl);(· simp))
   (apply lxk_eq;(· rfl);(· exact d_x fun _=>x_field rfl fd69_2 dk_eq))
   (apply lxk_eq;(· rfl);(· exact d_bld 2 rfl rfl ld23 rfl))
   (apply lxk_run 1;(· rfl);(· simp))
   (apply lxk_eq;(· rfl);(· exact d_x fun _=>x_idx_own (k) _ rfl rfl sl23 rfl (by omega) rfl dk_eq))
   (apply lxk_vw vw_RatE;(· rfl);(· exact d_ldR_vw vw_RatE 5 9 (k) rfl rfl rfl ld44 rfl (by assumption));intro g2)
   dsimp only [vw_RatE,List.cons_append,List.nil_append,List.map_cons,List.map_nil]
   (apply lxk_run 2;(· rfl);(· simp))
   (apply lxk_eq;(· rfl);(· exact d_x fun _=>x_field rfl fd69_3 dk_eq))
   (apply lxk_eq;(· rfl);(· exact d_bld 2 rfl rfl ld24 rfl))
   (apply lxk_run 1;(· rfl);(· simp))
   (apply lxk_eq;(· rfl);(· exact d_x fun _=>x_idx_own (k) (k) rfl rfl sl24 rfl (by omega) (Nat.mul_one _) dk_eq))
   (apply lxk_eq;(· rfl);(· exact d_ldR_hd 6 10 (k) rfl rfl rfl ld23 rfl (by assumption)))
   dsimp only
   (apply lxk_run 1;(· rfl);(· simp))
   (apply lxk_eq;(· rfl);(· exact d_x fun _=>x_idx_own (j) _ rfl rfl sl23 rfl (by omega) rfl dk_eq))
   (apply lxk_vw vw_RatE;(· rfl);(· exact d_ldR_vw vw_RatE 0 2 (j) rfl rfl rfl ld44 rfl (by assumption));intro g3)
   dsimp only [vw_RatE,List.cons_append,List.nil_append,List.map_cons,List.map_nil]
   (apply lxk_fa (val:=(fun g=>Value.tuple #[Value.agg #[Value.bool (rt (pfr k * (prw k j)⁻¹)).fst,Value.slice (g 0).fst (rt (pfr k * (prw k j)⁻¹)).snd.fst.length (g 1).snd.fst,Value.slice (g 2).fst (rt (pfr k * (prw k j)⁻¹)).snd.snd.length (g 3).snd.fst],Value.int IntKind.i64 0])) (f:=(fun g=>[slF U32 (g 0).fst (rt (pfr k * (prw k j)⁻¹)).snd.fst.length (g 1).snd.fst (rt (pfr k * (prw k j)⁻¹)).snd.fst,slF U32 (g 2).fst (rt (pfr k * (prw k j)⁻¹)).snd.snd.length (g 3).snd.fst (rt (pfr k * (prw k j)⁻¹)).snd.snd]));(· rfl);(· exact d_x fun _=>x_call [2,3,0,1] rfl (S_rational_Div (by first|omega|exact side _ (by assumption)|assumption|rfl|(simp;done)|(simp;omega)) (by first|omega|exact side _ (by assumption)|assumption|rfl|(simp;done)|(simp;omega)) (by first|omega|exact side _ (by assumption)|assumption|rfl|(simp;done)|(simp;omega)) (by first|omega|exact side _ (by assumption)|assumption|rfl|(simp;done)|(simp;omega)) (by first|omega|exact side _ (by assumption)|assumption|rfl|(simp;done)|(simp;omega)) (by first|omega|exact side _ (by assumption)|assumption|rfl|(simp;done)|(simp;omega)) (by first|omega|exact side _ (by assumption)|assumption|rfl|(simp;done)|(simp;omega))) rfl (by rintro _ _ _ ⟨png0,cng1,pdg2,cdg3,rfl,rfl,rfl⟩;exact fun _ _ _ hG=>⟨(fun | 0=>(png0,0,0,[]) | 1=>(none,cng1,0,[]) | 2=>(pdg2,0,0,[]) | 3=>(none,cdg3,0,[]) | _=>default),rfl,fun g hg=>drop_own (hG _ (List.mem_append_left _ hg))⟩));intro g4;dsimp only [List.map_cons,List.map_nil])
   simp only [vq_rt']
   (apply lxk_fa (val:=fun g=>Value.tuple #[Value.agg #[Value.bool (rt (pfr k * (prw k j)⁻¹)).fst,Value.slice (g 0).1 ((rt (pfr k * (prw k j)⁻¹)).snd.fst.length) (g 0).2.1,Value.slice (g 1).1 ((rt (pfr k * (prw k j)⁻¹)).snd.snd.length) (g 1).2.1],Value.int IntKind.i64 0]) (f:=fun g=>[slF (U32) (g 0).1 ((rt (pfr k * (prw k j)⁻¹)).snd.fst.length) (g 0).2.1 ((rt (pfr k * (prw k j)⁻¹)).snd.fst),slF (U32) (g 1).1 ((rt (pfr k * (prw k j)⁻¹)).snd.snd.length) (g 1).2.1 ((rt (pfr k * (prw k j)⁻¹)).snd.snd)]);(· rfl);(· exact d_x fun _=>x_pv it rfl (by trivial) (fun _ _ _ hG=>⟨(fun | 0=>((g4 0).fst,(g4 1).snd.fst,0,[]) | 1=>((g4 2).fst,(g4 3).snd.fst,0,[]) | _=>default),rfl,fun g hg=>by (simp only [List.mem_cons,List.not_mem_nil,or_false] at hg;rcases hg with rfl | rfl;(· exact drop_own (hG _ (fact_mem (n:=0) rfl)));(· exact drop_own (hG _ (fact_mem (n:=1) rfl))))⟩));intro g5;dsimp only [List.map_cons,List.map_nil,List.cons_append,List.nil_append])
   (apply lxk_fa (val:=fun g=>Value.agg #[Value.bool (rt (pfr k * (prw k j)⁻¹)).fst,Value.slice (g 0).1 ((rt (pfr k * (prw k j)⁻¹)).snd.fst.length) (g 0).2.1,Value.slice (g 1).1 ((rt (pfr k * (prw k j)⁻¹)).snd.snd.length) (g 1).2.1]) (f:=fun g=>[slF (U32) (g 0).1 ((rt (pfr k * (prw k j)⁻¹)).snd.fst.length) (g 0).2.1 ((rt (pfr k * (prw k j)⁻¹)).snd.fst),slF (U32) (g 1).1 ((rt (pfr k * (prw k j)⁻¹)).snd.snd.length) (g 1).2.1 ((rt (pfr k * (prw k j)⁻¹)).snd.snd)]);(· rfl);(· exact d_x fun _=>x_pv it rfl (by trivial) (fun _ _ _ hG=>⟨(fun | 0=>((g5 0).fst,(g5 0).snd.fst,0,[]) | 1=>((g5 1).fst,(g5 1).snd.fst,0,[]) | _=>default),rfl,fun g hg=>by (simp only [List.mem_cons,List.not_mem_nil,or_false] at hg;rcases hg with rfl | rfl;(· exact drop_own (hG _ (fact_mem (n:=0) rfl)));(· exact drop_own (hG _ (fact_mem (n:=1) rfl))))⟩));intro g6;dsimp only [List.map_cons,List.map_nil,List.cons_append,List.nil_append])
   (apply lxk_eq;(· rfl);(· exact d_x fun _=>x_pv it rfl (by trivial) dk_eq))
   (apply lxk_alloc;(· rfl);(· exact zo44);intro b3)
   refine lxk_endW rfl ?_
   (rotate_left;rfl;rotate_right)
   simp only [List.map_cons,List.map_nil,List.cons_append,List.nil_append]
   refine win_step it rfl rfl ⟨⟨_,_,_,_,rfl,rfl,rfl,rfl,rfl,rfl,(by first | trivial | (repeat' first | exact trivial | apply And.intro | omega))⟩,trivial⟩ (x_bst_all 0 rfl rfl rfl ld44 rfl rfl (by simp [Value.oneCell']) ?_)
   refine win_end it ⟨⟨_,_,_,_,rfl,rfl,rfl,rfl,rfl,rfl,(by first | trivial | (repeat' first | exact trivial | apply And.intro | omega))⟩,trivial⟩ ?_
   refine j_run it 1 rfl (by simp) ?_
   refine j_nf [.o (pL 62670) 0,.c (pL 62671),.blk 1,.c (pL 1959),.lp (pL 244),.blk 0,.c [1,1,1,1]] rfl ?_
   refine j_run it 1 rfl (by simp) ?_
   rcases hq with ⟨rfl,hq⟩ | ⟨i,rfl,hi,hp,hq⟩
   ·refine j_nf [.o (pL 250684) 0,.c (pL 250685),.c (pL 125343),.blk 1,.c (pL 1959),.lp (pL 244),.blk 0,.c [1,1,1,1]] rfl ?_
    refine j_run it 2 rfl (by simp) ?_
    refine j_nf [.c (pL 250685),.c (pL 125343),.blk 1,.c (pL 1959),.lp (pL 244),.blk 0,.c [1,1,1,1]] rfl ?_
    refine j_if rfl rfl (fun h3=>by exfalso;omega) (fun h3=>?_)
    refine j_nf [.c (pL 250686),.c (pL 250687),.blk 1,.c (pL 1959),.lp (pL 244),.blk 0,.c [1,1,1,1]] rfl ?_
    (apply j_drawK it mx 45;(· rfl);(· rfl))
    (apply lxk_run 1;(· rfl);(· simp))
    (apply lxk_eq;(· rfl);(· exact d_x fun _=>x_true it rfl (by trivial) (by omega) dk_eq))
    (apply lxk_run 2;(· rfl);(· simp))
    (apply lxk_run 10;(· rfl);(· simp))
    (apply lxk_run 11;(· rfl);(· simp))
    (apply lxk_run 16;(· rfl);(· simp))
    (apply lxk_run 4;(· rfl);(· simp))
    refine lxk_end rfl ?_
    simp only [List.map_cons,List.map_nil,List.cons_append,List.nil_append]
    refine j_nf [.c (pL 250687),.blk 1,.c (pL 1959),.lp (pL 244),.blk 0,.c [1,1,1,1]] rfl ?_
    refine j_true rfl rfl ?_
    (apply j_drawK it mx 3;(· rfl);(· rfl))
    (apply lxk_run 1;(· rfl);(· simp))
    (apply lxk_eq;(· rfl);(· exact d_bld_all 0 rfl rfl ld44 rfl))
    (apply lxk_run 1;(· rfl);(· simp))
    refine lxk_end rfl ?_
    simp only [List.map_cons,List.map_nil,List.cons_append,List.nil_append]
    refine j_step rfl (x_bst_all 2 rfl rfl rfl ld44 rfl rfl (by simp [Value.oneCell']) ?_)
    refine j_nf [.o (pL 1959) 0,.lp (pL 244),.blk 0,.c [1,1,1,1]] rfl ?_
    refine j_run it 2 rfl (by repeat' first | exact trivial | apply And.intro | omega) ?_
    refine j_nfn 1 [.lp (pL 244),.blk 0,.c [1,1,1,1]] rfl ?_
    refine j_unfocusL 8 (k) 1 12 13 rfl rfl rfl rfl (by first | assumption | omega) (by first | rfl | assumption | (simp [memB_cons,memB];done) | (simp [memB_cons,memB];omega)) ?_
    simp only [List.eraseIdx_cons_zero,List.eraseIdx_cons_succ,List.take_succ_cons,List.take_zero,List.cons_append,List.nil_append]
    rw [upd_id (hdl_at hr1 hkl)]
    refine j_matCongrS (fun g=>rl n (prw g)) 0 rfl (fun g _ _=>by
      by_cases e : g = k
      ·subst e;rw [upd_self]
      ·rw [upd_ne e]) ?_
    have hr2 : ∀ i' : Nat,((k : Nat) : Int) = (i' : Int) → rt (pfr k * (prw k j)⁻¹) = rt (lm ⟨m,n,pbs,pos,pfr,prw,pgl,pvv⟩ j i'):=fun i' e=>by
     obtain rfl : k = i':=by omega
     rfl
    refine j_toXT 8 [1,2,3,4,5,6,7] [2,3,0,19,20,21,22,23,24,25] (by repeat (first | exact Fr.sub_nil _ | refine Fr.sub_cons rfl ?_ | refine Fr.sub_consI rfl (by first | omega | (dsimp only;omega)) ?_ | refine Fr.sub_consS rfl (by first | omega | (dsimp only;omega)) (by first | omega | (dsimp only;omega)) ?_)) rfl rfl rfl rfl (ih (k + 1,(k : Int),rt (pfr k * (prw k j)⁻¹),((g6 0).1,(g6 0).2.1,(g6 1).1,(g6 1).2.1),upd cs k er) (by dsimp only;omega) ⟨by dsimp only;omega,lvQ_first (p:=⟨m,n,pbs,pos,pfr,prw,pgl,pvv⟩) hq hg,hr2⟩)
   ·have him : i < m:=by omega
    have w2:=il_get (f:=pbs) him
    have w5:=hbs i him
    have hr':=hr i rfl
    change (g,N,D) = rt (pfr i * (prw i j)⁻¹) at hr'
    obtain rfl : g = (rt (pfr i * (prw i j)⁻¹)).1:=by rw [← hr']
    obtain rfl : N = (rt (pfr i * (prw i j)⁻¹)).2.1:=by rw [← hr']
    obtain rfl : D = (rt (pfr i * (prw i j)⁻¹)).2.2:=by rw [← hr']
    have y8 : bd (K + K) (pfr i * (prw i j)⁻¹):=bd_mul (hb.fr i him) (rinv_bd (hb.rw i j him hj) hK) (by omega)
    obtain ⟨y9,y10⟩:=bd_len y8
    have hq' : lvQ ⟨m,n,pbs,pos,pfr,prw,pgl,pvv⟩ j pf k i:=.inr ⟨i,rfl,hi,hp,hq⟩
    refine j_nf [.o (pL 250684) 0,.c (pL 250685),.c (pL 125343),.blk 1,.c (pL 1959),.lp (pL 244),.blk 0,.c [1,1,1,1]] rfl ?_
    refine j_run it 2 rfl (by simp) ?_
    refine j_nf [.c (pL 250685),.c (pL 125343),.blk 1,.c (pL 1959),.lp (pL 244),.blk 0,.c [1,1,1,1]] rfl ?_
    refine j_if rfl rfl (fun h3=>?_) (fun h3=>by exfalso;omega)
    refine j_nf [.o (pL 501370) 0,.c (pL 125343),.blk 1,.c (pL 1959),.lp (pL 244),.blk 0,.c [1,1,1,1]] rfl ?_
    refine j_step rfl (x_bld_all 0 rfl rfl ld44 rfl ?_)
    refine j_step rfl (x_bld_all 2 rfl rfl ld44 rfl ?_)
    refine j_step rfl (x_call [0,1,14,15] rfl (S_rational_Cmp (by first|omega|exact side _ (by assumption)|assumption|rfl|(simp;done)|(simp;omega)) (by first|omega|exact side _ (by assumption)|assumption|rfl|(simp;done)|(simp;omega)) (by first|omega|exact side _ (by assumption)|assumption|rfl|(simp;done)|(simp;omega)) (by first|omega|exact side _ (by assumption)|assumption|rfl|(simp;done)|(simp;omega))) rfl ?_)
    rintro _ _ _ ⟨rfl,rfl,rfl⟩
    simp only [List.cons_append,List.nil_append]
    simp only [vq_rt']
    refine j_run it 1 rfl (by simp) ?_
    refine j_nf [.c (pL 250686),.c (pL 250687),.blk 1,.c (pL 1959),.lp (pL 244),.blk 0,.c [1,1,1,1]] rfl ?_
    by_cases c1 : pfr k * (prw k j)⁻¹ < pfr i * (prw i j)⁻¹
    ·have hc : (pfr k * (prw k j)⁻¹ - pfr i * (prw i j)⁻¹).num.sign < 0:=(signN _).2 (by grind)
     (apply j_drawK it mx 45;(· rfl);(· rfl))
     (apply lxk_run 1;(· rfl);(· simp))
     (apply lxk_eq;(· rfl);(· exact d_x fun _=>x_true it rfl (by trivial) (by omega) dk_eq))
     (apply lxk_run 2;(· rfl);(· simp))
     (apply lxk_run 10;(· rfl);(· simp))
     (apply lxk_run 11;(· rfl);(· simp))
     (apply lxk_run 16;(· rfl);(· simp))
     (apply lxk_run 4;(· rfl);(· simp))
     refine lxk_end rfl ?_
     simp only [List.map_cons,List.map_nil,List.cons_append,List.nil_append]
     refine j_nf [.c (pL 250687),.blk 1,.c (pL 1959),.lp (pL 244),.blk 0,.c [1,1,1,1]] rfl ?_
     refine j_true rfl rfl ?_
     (apply j_drawK it mx 3;(· rfl);(· rfl))
     (apply lxk_run 1;(· rfl);(· simp))
     (apply lxk_eq;(· rfl);(· exact d_bld_all 0 rfl rfl ld44 rfl))
     (apply lxk_run 1;(· rfl);(· simp))
     refine lxk_end rfl ?_
     simp only [List.map_cons,List.map_nil,List.cons_append,List.nil_append]
     refine j_step rfl (x_bst_all 2 rfl rfl rfl ld44 rfl rfl (by simp [Value.oneCell']) ?_)
     refine j_nf [.o (pL 1959) 0,.lp (pL 244),.blk 0,.c [1,1,1,1]] rfl ?_
     refine j_run it 2 rfl (by repeat' first | exact trivial | apply And.intro | omega) ?_
     refine j_nfn 1 [.lp (pL 244),.blk 0,.c [1,1,1,1]] rfl ?_
     refine j_unfocusL 8 (k) 1 12 13 rfl rfl rfl rfl (by first | assumption | omega) (by first | rfl | assumption | (simp [memB_cons,memB];done) | (simp [memB_cons,memB];omega)) ?_
     simp only [List.eraseIdx_cons_zero,List.eraseIdx_cons_succ,List.take_succ_cons,List.take_zero,List.cons_append,List.nil_append]
     rw [upd_id (hdl_at hr1 hkl)]
     refine j_matCongrS (fun g=>rl n (prw g)) 0 rfl (fun g _ _=>by
       by_cases e : g = k
       ·subst e;rw [upd_self]
       ·rw [upd_ne e]) ?_
     have hr2 : ∀ i' : Nat,((k : Nat) : Int) = (i' : Int) → rt (pfr k * (prw k j)⁻¹) = rt (lm ⟨m,n,pbs,pos,pfr,prw,pgl,pvv⟩ j i'):=fun i' e=>by
      obtain rfl : k = i':=by omega
      rfl
     refine j_toXT 8 [1,2,3,4,5,6,7] [2,3,0,19,20,21,22,23,24,25] (by repeat (first | exact Fr.sub_nil _ | refine Fr.sub_cons rfl ?_ | refine Fr.sub_consI rfl (by first | omega | (dsimp only;omega)) ?_ | refine Fr.sub_consS rfl (by first | omega | (dsimp only;omega)) (by first | omega | (dsimp only;omega)) ?_)) rfl rfl rfl rfl (ih (k + 1,(k : Int),rt (pfr k * (prw k j)⁻¹),((g6 0).1,(g6 0).2.1,(g6 1).1,(g6 1).2.1),upd cs k er) (by dsimp only;omega) ⟨by dsimp only;omega,lvQ_less (p:=⟨m,n,pbs,pos,pfr,prw,pgl,pvv⟩) hq' hg c1,hr2⟩)
    ·by_cases c2 : pfr k * (prw k j)⁻¹ = pfr i * (prw i j)⁻¹
     ·have hc : (pfr k * (prw k j)⁻¹ - pfr i * (prw i j)⁻¹).num.sign = 0:=(signZ _).2 (by grind)
      by_cases c3 : (pbs i : Int) = pf
      ·(apply j_drawK it mx 45;(· rfl);(· rfl))
       (apply lxk_run 1;(· rfl);(· simp))
       (apply lxk_eq;(· rfl);(· exact d_x fun _=>x_false it rfl (by trivial) (by omega) dk_eq))
       (apply lxk_run 2;(· rfl);(· simp))
       (apply lxk_eq;(· rfl);(· exact d_x fun _=>x_true it rfl (by trivial) (by omega) dk_eq))
       (apply lxk_run 3;(· rfl);(· simp))
       (apply lxk_eq;(· rfl);(· exact d_x fun _=>x_field rfl fd69_0 dk_eq))
       (apply lxk_eq;(· rfl);(· exact d_bld 3 rfl rfl ld67 rfl))
       (apply lxk_run 1;(· rfl);(· simp))
       (apply lxk_eq;(· rfl);(· exact d_x fun _=>x_idx_own (i) (i) rfl rfl sl67 rfl (by omega) (Nat.mul_one _) dk_eq))
       (apply lxk_eq;(· rfl);(· exact d_ldR_int 4 17 (i) rfl rfl rfl ld3 rfl (by assumption)))
       (apply lxk_run 1;(· rfl);(· simp))
       (apply lxk_eq;(· rfl);(· exact d_x fun _=>x_falseN it rfl (by trivial) (by omega) dk_eq))
       (apply lxk_run 10;(· rfl);(· simp))
       (apply lxk_run 16;(· rfl);(· simp))
       (apply lxk_run 4;(· rfl);(· simp))
       refine lxk_end rfl ?_
       simp only [List.map_cons,List.map_nil,List.cons_append,List.nil_append]
       refine j_nf [.c (pL 250687),.blk 1,.c (pL 1959),.lp (pL 244),.blk 0,.c [1,1,1,1]] rfl ?_
       refine j_false rfl rfl ?_
       refine j_nf [.o (pL 1959) 0,.lp (pL 244),.blk 0,.c [1,1,1,1]] rfl ?_
       refine j_run it 2 rfl (by repeat' first | exact trivial | apply And.intro | omega) ?_
       refine j_nfn 1 [.lp (pL 244),.blk 0,.c [1,1,1,1]] rfl ?_
       refine j_unfocusL 8 (k) 1 12 13 rfl rfl rfl rfl (by first | assumption | omega) (by first | rfl | assumption | (simp [memB_cons,memB];done) | (simp [memB_cons,memB];omega)) ?_
       simp only [List.eraseIdx_cons_zero,List.eraseIdx_cons_succ,List.take_succ_cons,List.take_zero,List.cons_append,List.nil_append]
       rw [upd_id (hdl_at hr1 hkl)]
       refine j_matCongrS (fun g=>rl n (prw g)) 0 rfl (fun g _ _=>by
         by_cases e : g = k
         ·subst e;rw [upd_self]
         ·rw [upd_ne e]) ?_
       have hr2 : ∀ i' : Nat,((i : Nat) : Int) = (i' : Int) → rt (pfr i * (prw i j)⁻¹) = rt (lm ⟨m,n,pbs,pos,pfr,prw,pgl,pvv⟩ j i'):=fun i' e=>by
        obtain rfl : i = i':=by omega
        rfl
       refine j_toXT 8 [1,2,3,4,5,6,7] [16,17,0,19,20,21,22,23,24,25] (by repeat (first | exact Fr.sub_nil _ | refine Fr.sub_cons rfl ?_ | refine Fr.sub_consI rfl (by first | omega | (dsimp only;omega)) ?_ | refine Fr.sub_consS rfl (by first | omega | (dsimp only;omega)) (by first | omega | (dsimp only;omega)) ?_)) rfl rfl rfl rfl (ih (k + 1,(i : Int),rt (pfr i * (prw i j)⁻¹),(pl,cl,ql,el),upd cs k er) (by dsimp only;omega) ⟨by dsimp only;omega,lvQ_keep (p:=⟨m,n,pbs,pos,pfr,prw,pgl,pvv⟩) hq' (by show pfr i * (prw i j)⁻¹ ≤ pfr k * (prw k j)⁻¹;rw [c2];exact Rat.le_refl) (fun _=>.inl c3),hr2⟩)
      ·by_cases c4 : (pbs k : Int) = pf
       ·(apply j_drawK it mx 45;(· rfl);(· rfl))
        (apply lxk_run 1;(· rfl);(· simp))
        (apply lxk_eq;(· rfl);(· exact d_x fun _=>x_false it rfl (by trivial) (by omega) dk_eq))
        (apply lxk_run 2;(· rfl);(· simp))
        (apply lxk_eq;(· rfl);(· exact d_x fun _=>x_true it rfl (by trivial) (by omega) dk_eq))
        (apply lxk_run 3;(· rfl);(· simp))
        (apply lxk_eq;(· rfl);(· exact d_x fun _=>x_field rfl fd69_0 dk_eq))
        (apply lxk_eq;(· rfl);(· exact d_bld 3 rfl rfl ld67 rfl))
        (apply lxk_run 1;(· rfl);(· simp))
        (apply lxk_eq;(· rfl);(· exact d_x fun _=>x_idx_own (i) (i) rfl rfl sl67 rfl (by omega) (Nat.mul_one _) dk_eq))
        (apply lxk_eq;(· rfl);(· exact d_ldR_int 4 17 (i) rfl rfl rfl ld3 rfl (by assumption)))
        (apply lxk_run 1;(· rfl);(· simp))
        (apply lxk_eq;(· rfl);(· exact d_x fun _=>x_trueN it rfl (by trivial) (by omega) dk_eq))
        (apply lxk_run 4;(· rfl);(· simp))
        (apply lxk_eq;(· rfl);(· exact d_x fun _=>x_field rfl fd69_0 dk_eq))
        (apply lxk_eq;(· rfl);(· exact d_bld 3 rfl rfl ld67 rfl))
        (apply lxk_run 1;(· rfl);(· simp))
        (apply lxk_eq;(· rfl);(· exact d_x fun _=>x_idx_own (k) (k) rfl rfl sl67 rfl (by omega) (Nat.mul_one _) dk_eq))
        (apply lxk_eq;(· rfl);(· exact d_ldR_int 4 17 (k) rfl rfl rfl ld3 rfl (by assumption)))
        (apply lxk_run 1;(· rfl);(· simp))
        (apply lxk_eq;(· rfl);(· exact d_x fun _=>x_true it rfl (by trivial) (by omega) dk_eq))
        (apply lxk_run 15;(· rfl);(· simp))
        (apply lxk_run 4;(· rfl);(· simp))
        refine lxk_end rfl ?_
        simp only [List.map_cons,List.map_nil,List.cons_append,List.nil_append]
        refine j_nf [.c (pL 250687),.blk 1,.c (pL 1959),.lp (pL 244),.blk 0,.c [1,1,1,1]] rfl ?_
        refine j_true rfl rfl ?_
        (apply j_drawK it mx 3;(· rfl);(· rfl))
        (apply lxk_run 1;(· rfl);(· simp))
        (apply lxk_eq;(· rfl);(· exact d_bld_all 0 rfl rfl ld44 rfl))
        (apply lxk_run 1;(· rfl);(· simp))
        refine lxk_end rfl ?_
        simp only [List.map_cons,List.map_nil,List.cons_append,List.nil_append]
        refine j_step rfl (x_bst_all 2 rfl rfl rfl ld44 rfl rfl (by simp [Value.oneCell']) ?_)
        refine j_nf [.o (pL 1959) 0,.lp (pL 244),.blk 0,.c [1,1,1,1]] rfl ?_
        refine j_run it 2 rfl (by repeat' first | exact trivial | apply And.intro | omega) ?_
        refine j_nfn 1 [.lp (pL 244),.blk 0,.c [1,1,1,1]] rfl ?_
        refine j_unfocusL 8 (k) 1 12 13 rfl rfl rfl rfl (by first | assumption | omega) (by first | rfl | assumption | (simp [memB_cons,memB];done) | (simp [memB_cons,memB];omega)) ?_
        simp only [List.eraseIdx_cons_zero,List.eraseIdx_cons_succ,List.take_succ_cons,List.take_zero,List.cons_append,List.nil_append]
        rw [upd_id (hdl_at hr1 hkl)]
        refine j_matCongrS (fun g=>rl n (prw g)) 0 rfl (fun g _ _=>by
          by_cases e : g = k
          ·subst e;rw [upd_self]
          ·rw [upd_ne e]) ?_
        have hr2 : ∀ i' : Nat,((k : Nat) : Int) = (i' : Int) → rt (pfr k * (prw k j)⁻¹) = rt (lm ⟨m,n,pbs,pos,pfr,prw,pgl,pvv⟩ j i'):=fun i' e=>by
         obtain rfl : k = i':=by omega
         rfl
        refine j_toXT 8 [1,2,3,4,5,6,7] [2,3,0,19,20,21,22,23,24,25] (by repeat (first | exact Fr.sub_nil _ | refine Fr.sub_cons rfl ?_ | refine Fr.sub_consI rfl (by first | omega | (dsimp only;omega)) ?_ | refine Fr.sub_consS rfl (by first | omega | (dsimp only;omega)) (by first | omega | (dsimp only;omega)) ?_)) rfl rfl rfl rfl (ih (k + 1,(k : Int),rt (pfr k * (prw k j)⁻¹),((g6 0).1,(g6 0).2.1,(g6 1).1,(g6 1).2.1),upd cs k er) (by dsimp only;omega) ⟨by dsimp only;omega,lvQ_tie (p:=⟨m,n,pbs,pos,pfr,prw,pgl,pvv⟩) hq' hg c2 c3 (.inl c4),hr2⟩)
       ·by_cases c5 : pbs k < pbs i
        ·(apply j_drawK it mx 45;(· rfl);(· rfl))
         (apply lxk_run 1;(· rfl);(· simp))
         (apply lxk_eq;(· rfl);(· exact d_x fun _=>x_false it rfl (by trivial) (by omega) dk_eq))
         (apply lxk_run 2;(· rfl);(· simp))
         (apply lxk_eq;(· rfl);(· exact d_x fun _=>x_true it rfl (by trivial) (by omega) dk_eq))
         (apply lxk_run 3;(· rfl);(· simp))
         (apply lxk_eq;(· rfl);(· exact d_x fun _=>x_field rfl fd69_0 dk_eq))
         (apply lxk_eq;(· rfl);(· exact d_bld 3 rfl rfl ld67 rfl))
         (apply lxk_run 1;(· rfl);(· simp))
         (apply lxk_eq;(· rfl);(· exact d_x fun _=>x_idx_own (i) (i) rfl rfl sl67 rfl (by omega) (Nat.mul_one _) dk_eq))
         (apply lxk_eq;(· rfl);(· exact d_ldR_int 4 17 (i) rfl rfl rfl ld3 rfl (by assumption)))
         (apply lxk_run 1;(· rfl);(· simp))
         (apply lxk_eq;(· rfl);(· exact d_x fun _=>x_trueN it rfl (by trivial) (by omega) dk_eq))
         (apply lxk_run 4;(· rfl);(· simp))
         (apply lxk_eq;(· rfl);(· exact d_x fun _=>x_field rfl fd69_0 dk_eq))
         (apply lxk_eq;(· rfl);(· exact d_bld 3 rfl rfl ld67 rfl))
         (apply lxk_run 1;(· rfl);(· simp))
         (apply lxk_eq;(· rfl);(· exact d_x fun _=>x_idx_own (k) (k) rfl rfl sl67 rfl (by omega) (Nat.mul_one _) dk_eq))
         (apply lxk_eq;(· rfl);(· exact d_ldR_int 4 17 (k) rfl rfl rfl ld3 rfl (by assumption)))
         (apply lxk_run 1;(· rfl);(· simp))
         (apply lxk_eq;(· rfl);(· exact d_x fun _=>x_false it rfl (by trivial) (by omega) dk_eq))
         (apply lxk_run 3;(· rfl);(· simp))
         (apply lxk_eq;(· rfl);(· exact d_x fun _=>x_field rfl fd69_0 dk_eq))
         (apply lxk_eq;(· rfl);(· exact d_bld 3 rfl rfl ld67 rfl))
         (apply lxk_run 1;(· rfl);(· simp))
         (apply lxk_eq;(· rfl);(· exact d_x fun _=>x_idx_own (k) (k) rfl rfl sl67 rfl (by omega) (Nat.mul_one _) dk_eq))
         (apply lxk_eq;(· rfl);(· exact d_ldR_int 4 17 (k) rfl rfl rfl ld3 rfl (by assumption)))
         (apply lxk_run 2;(· rfl);(· simp))
         (apply lxk_eq;(· rfl);(· exact d_x fun _=>x_field rfl fd69_0 dk_eq))
         (apply lxk_eq;(· rfl);(· exact d_bld 3 rfl rfl ld67 rfl))
         (apply lxk_run 1;(· rfl);(· simp))
         (apply lxk_eq;(· rfl);(· exact d_x fun _=>x_idx_own (i) (i) rfl rfl sl67 rfl (by omega) (Nat.mul_one _) dk_eq))
         (apply lxk_eq;(· rfl);(· exact d_ldR_int 4 17 (i) rfl rfl rfl ld3 rfl (by assumption)))
         (apply lxk_eq;(· rfl);(· exact d_x fun _=>x_true it rfl (by trivial) (by omega) dk_eq))
         (apply lxk_run 3;(· rfl);(· simp))
         refine lxk_end rfl ?_
         simp only [List.map_cons,List.map_nil,List.cons_append,List.nil_append]
         refine j_nf [.c (pL 250687),.blk 1,.c (pL 1959),.lp (pL 244),.blk 0,.c [1,1,1,1]] rfl ?_
         refine j_true rfl rfl ?_
         (apply j_drawK it mx 3;(· rfl);(· rfl))
         (apply lxk_run 1;(· rfl);(· simp))
         (apply lxk_eq;(· rfl);(· exact d_bld_all 0 rfl rfl ld44 rfl))
         (apply lxk_run 1;(· rfl);(· simp))
         refine lxk_end rfl ?_
         simp only [List.map_cons,List.map_nil,List.cons_append,List.nil_append]
         refine j_step rfl (x_bst_all 2 rfl rfl rfl ld44 rfl rfl (by simp [Value.oneCell']) ?_)
         refine j_nf [.o (pL 1959) 0,.lp (pL 244),.blk 0,.c [1,1,1,1]] rfl ?_
         refine j_run it 2 rfl (by repeat' first | exact trivial | apply And.intro | omega) ?_
         refine j_nfn 1 [.lp (pL 244),.blk 0,.c [1,1,1,1]] rfl ?_
         refine j_unfocusL 8 (k) 1 12 13 rfl rfl rfl rfl (by first | assumption | omega) (by first | rfl | assumption | (simp [memB_cons,memB];done) | (simp [memB_cons,memB];omega)) ?_
         simp only [List.eraseIdx_cons_zero,List.eraseIdx_cons_succ,List.take_succ_cons,List.take_zero,List.cons_append,List.nil_append]
         rw [upd_id (hdl_at hr1 hkl)]
         refine j_matCongrS (fun g=>rl n (prw g)) 0 rfl (fun g _ _=>by
           by_cases e : g = k
           ·subst e;rw [upd_self]
           ·rw [upd_ne e]) ?_
         have hr2 : ∀ i' : Nat,((k : Nat) : Int) = (i' : Int) → rt (pfr k * (prw k j)⁻¹) = rt (lm ⟨m,n,pbs,pos,pfr,prw,pgl,pvv⟩ j i'):=fun i' e=>by
          obtain rfl : k = i':=by omega
          rfl
         refine j_toXT 8 [1,2,3,4,5,6,7] [2,3,0,19,20,21,22,23,24,25] (by repeat (first | exact Fr.sub_nil _ | refine Fr.sub_cons rfl ?_ | refine Fr.sub_consI rfl (by first | omega | (dsimp only;omega)) ?_ | refine Fr.sub_consS rfl (by first | omega | (dsimp only;omega)) (by first | omega | (dsimp only;omega)) ?_)) rfl rfl rfl rfl (ih (k + 1,(k : Int),rt (pfr k * (prw k j)⁻¹),((g6 0).1,(g6 0).2.1,(g6 1).1,(g6 1).2.1),upd cs k er) (by dsimp only;omega) ⟨by dsimp only;omega,lvQ_tie (p:=⟨m,n,pbs,pos,pfr,prw,pgl,pvv⟩) hq' hg c2 c3 (.inr c5),hr2⟩)
        ·(apply j_drawK it mx 45;(· rfl);(· rfl))
         (apply lxk_run 1;(· rfl);(· simp))
         (apply lxk_eq;(· rfl);(· exact d_x fun _=>x_false it rfl (by trivial) (by omega) dk_eq))
         (apply lxk_run 2;(· rfl);(· simp))
         (apply lxk_eq;(· rfl);(· exact d_x fun _=>x_true it rfl (by trivial) (by omega) dk_eq))
         (apply lxk_run 3;(· rfl);(· simp))
         (apply lxk_eq;(· rfl);(· exact d_x fun _=>x_field rfl fd69_0 dk_eq))
         (apply lxk_eq;(· rfl);(· exact d_bld 3 rfl rfl ld67 rfl))
         (apply lxk_run 1;(· rfl);(· simp))
         (apply lxk_eq;(· rfl);(· exact d_x fun _=>x_idx_own (i) (i) rfl rfl sl67 rfl (by omega) (Nat.mul_one _) dk_eq))
         (apply lxk_eq;(· rfl);(· exact d_ldR_int 4 17 (i) rfl rfl rfl ld3 rfl (by assumption)))
         (apply lxk_run 1;(· rfl);(· simp))
         (apply lxk_eq;(· rfl);(· exact d_x fun _=>x_trueN it rfl (by trivial) (by omega) dk_eq))
         (apply lxk_run 4;(· rfl);(· simp))
         (apply lxk_eq;(· rfl);(· exact d_x fun _=>x_field rfl fd69_0 dk_eq))
         (apply lxk_eq;(· rfl);(· exact d_bld 3 rfl rfl ld67 rfl))
         (apply lxk_run 1;(· rfl);(· simp))
         (apply lxk_eq;(· rfl);(· exact d_x fun _=>x_idx_own (k) (k) rfl rfl sl67 rfl (by omega) (Nat.mul_one _) dk_eq))
         (apply lxk_eq;(· rfl);(· exact d_ldR_int 4 17 (k) rfl rfl rfl ld3 rfl (by assumption)))
         (apply lxk_run 1;(· rfl);(· simp))
         (apply lxk_eq;(· rfl);(· exact d_x fun _=>x_false it rfl (by trivial) (by omega) dk_eq))
         (apply lxk_run 3;(· rfl);(· simp))
         (apply lxk_eq;(· rfl);(· exact d_x fun _=>x_field rfl fd69_0 dk_eq))
         (apply lxk_eq;(· rfl);(· exact d_bld 3 rfl rfl ld67 rfl))
         (apply lxk_run 1;(· rfl);(· simp))
         (apply lxk_eq;(· rfl);(· exact d_x fun _=>x_idx_own (k) (k) rfl rfl sl67 rfl (by omega) (Nat.mul_one _) dk_eq))
         (apply lxk_eq;(· rfl);(· exact d_ldR_int 4 17 (k) rfl rfl rfl ld3 rfl (by assumption)))
         (apply lxk_run 2;(· rfl);(· simp))
         (apply lxk_eq;(· rfl);(· exact d_x fun _=>x_field rfl fd69_0 dk_eq))
         (apply lxk_eq;(· rfl);(· exact d_bld 3 rfl rfl ld67 rfl))
         (apply lxk_run 1;(· rfl);(· simp))
         (apply lxk_eq;(· rfl);(· exact d_x fun _=>x_idx_own (i) (i) rfl rfl sl67 rfl (by omega) (Nat.mul_one _) dk_eq))
         (apply lxk_eq;(· rfl);(· exact d_ldR_int 4 17 (i) rfl rfl rfl ld3 rfl (by assumption)))
         (apply lxk_eq;(· rfl);(· exact d_x fun _=>x_false it rfl (by trivial) (by omega) dk_eq))
         (apply lxk_run 3;(· rfl);(· simp))
         refine lxk_end rfl ?_
         simp only [List.map_cons,List.map_nil,List.cons_append,List.nil_append]
         refine j_nf [.c (pL 250687),.blk 1,.c (pL 1959),.lp (pL 244),.blk 0,.c [1,1,1,1]] rfl ?_
         refine j_false rfl rfl ?_
         refine j_nf [.o (pL 1959) 0,.lp (pL 244),.blk 0,.c [1,1,1,1]] rfl ?_
         refine j_run it 2 rfl (by repeat' first | exact trivial | apply And.intro | omega) ?_
         refine j_nfn 1 [.lp (pL 244),.blk 0,.c [1,1,1,1]] rfl ?_
         refine j_unfocusL 8 (k) 1 12 13 rfl rfl rfl rfl (by first | assumption | omega) (by first | rfl | assumption | (simp [memB_cons,memB];done) | (simp [memB_cons,memB];omega)) ?_
         simp only [List.eraseIdx_cons_zero,List.eraseIdx_cons_succ,List.take_succ_cons,List.take_zero,List.cons_append,List.nil_append]
         rw [upd_id (hdl_at hr1 hkl)]
         refine j_matCongrS (fun g=>rl n (prw g)) 0 rfl (fun g _ _=>by
           by_cases e : g = k
           ·subst e;rw [upd_self]
           ·rw [upd_ne e]) ?_
         have hr2 : ∀ i' : Nat,((i : Nat) : Int) = (i' : Int) → rt (pfr i * (prw i j)⁻¹) = rt (lm ⟨m,n,pbs,pos,pfr,prw,pgl,pvv⟩ j i'):=fun i' e=>by
          obtain rfl : i = i':=by omega
          rfl
         refine j_toXT 8 [1,2,3,4,5,6,7] [16,17,0,19,20,21,22,23,24,25] (by repeat (first | exact Fr.sub_nil _ | refine Fr.sub_cons rfl ?_ | refine Fr.sub_consI rfl (by first | omega | (dsimp only;omega)) ?_ | refine Fr.sub_consS rfl (by first | omega | (dsimp only;omega)) (by first | omega | (dsimp only;omega)) ?_)) rfl rfl rfl rfl (ih (k + 1,(i : Int),rt (pfr i * (prw i j)⁻¹),(pl,cl,ql,el),upd cs k er) (by dsimp only;omega) ⟨by dsimp only;omega,lvQ_keep (p:=⟨m,n,pbs,pos,pfr,prw,pgl,pvv⟩) hq' (by show pfr i * (prw i j)⁻¹ ≤ pfr k * (prw k j)⁻¹;rw [c2];exact Rat.le_refl) (fun _=>.inr ⟨c4,Nat.le_of_not_lt c5⟩),hr2⟩)
     ·have hc : 0 < (pfr k * (prw k j)⁻¹ - pfr i * (prw i j)⁻¹).num.sign:=(signP _).2 (by grind)
      (apply j_drawK it mx 45;(· rfl);(· rfl))
      (apply lxk_run 1;(· rfl);(· simp))
      (apply lxk_eq;(· rfl);(· exact d_x fun _=>x_false it rfl (by trivial) (by omega) dk_eq))
      (apply lxk_run 2;(· rfl);(· simp))
      (apply lxk_eq;(· rfl);(· exact d_x fun _=>x_false it rfl (by trivial) (by omega) dk_eq))
      (apply lxk_run 9;(· rfl);(· simp))
      (apply lxk_run 11;(· rfl);(· simp))
      (apply lxk_run 16;(· rfl);(· simp))
      (apply lxk_run 4;(· rfl);(· simp))
      refine lxk_end rfl ?_
      simp only [List.map_cons,List.map_nil,List.cons_append,List.nil_append]
      refine j_nf [.c (pL 250687),.blk 1,.c (pL 1959),.lp (pL 244),.blk 0,.c [1,1,1,1]] rfl ?_
      refine j_false rfl rfl ?_
      refine j_nf [.o (pL 1959) 0,.lp (pL 244),.blk 0,.c [1,1,1,1]] rfl ?_
      refine j_run it 2 rfl (by repeat' first | exact trivial | apply And.intro | omega) ?_
      refine j_nfn 1 [.lp (pL 244),.blk 0,.c [1,1,1,1]] rfl ?_
      refine j_unfocusL 8 (k) 1 12 13 rfl rfl rfl rfl (by first | assumption | omega) (by first | rfl | assumption | (simp [memB_cons,memB];done) | (simp [memB_cons,memB];omega)) ?_
      simp only [List.eraseIdx_cons_zero,List.eraseIdx_cons_succ,List.take_succ_cons,List.take_zero,List.cons_append,List.nil_append]
      rw [upd_id (hdl_at hr1 hkl)]
      refine j_matCongrS (fun g=>rl n (prw g)) 0 rfl (fun g _ _=>by
        by_cases e : g = k
        ·subst e;rw [upd_self]
        ·rw [upd_ne e]) ?_
      have hr2 : ∀ i' : Nat,((i : Nat) : Int) = (i' : Int) → rt (pfr i * (prw i j)⁻¹) = rt (lm ⟨m,n,pbs,pos,pfr,prw,pgl,pvv⟩ j i'):=fun i' e=>by
       obtain rfl : i = i':=by omega
       rfl
      refine j_toXT 8 [1,2,3,4,5,6,7] [16,17,0,19,20,21,22,23,24,25] (by repeat (first | exact Fr.sub_nil _ | refine Fr.sub_cons rfl ?_ | refine Fr.sub_consI rfl (by first | omega | (dsimp only;omega)) ?_ | refine Fr.sub_consS rfl (by first | omega | (dsimp only;omega)) (by first | omega | (dsimp only;omega)) ?_)) rfl rfl rfl rfl (ih (k + 1,(i : Int),rt (pfr i * (prw i j)⁻¹),(pl,cl,ql,el),upd cs k er) (by dsimp only;omega) ⟨by dsimp only;omega,lvQ_keep (p:=⟨m,n,pbs,pos,pfr,prw,pgl,pvv⟩) hq' (by show pfr i * (prw i j)⁻¹ ≤ pfr k * (prw k j)⁻¹;exact Rat.not_lt.1 c1) (fun e=>absurd e c2),hr2⟩)
 ·obtain rfl : m = k:=by omega
  refine j_nf [.o (pL 488) 0,.c (pL 489),.lp (pL 244),.blk 0,.c [1,1,1,1]] rfl ?_
  refine j_run it 1 rfl (by simp) ?_
  refine j_nf [.c (pL 978),.c (pL 979),.lp (pL 244),.blk 0,.c [1,1,1,1]] rfl ?_
  refine j_if rfl rfl (fun h1=>by exfalso;omega) (fun h1=>?_)
  refine j_nf [.o [1,1,1,1,0] 0,.c [1,1,1,1,1]] rfl ?_
  refine j_run it 2 rfl (by simp) ?_
  refine j_nf [.c [1,1,1,1,1]] rfl ?_
  refine j_givK 7 [1,2,3,4,5,6] [3,4,5,6,7,2,8,9] rfl (.tmp rfl .nil) rfl rfl rfl ⟨⟨bs,os,fr,rw',gl,hd,cs,pn,cn,pd,cd⟩,_,rfl,hq,rfl,rfl⟩
end Go.Proofs.Ythahejfpdhcpiaa

namespace Go.Proofs.Ythahejfpdhcpiaa
open Go Go.Fw
set_option maxRecDepth 100000
set_option linter.unusedVariables false
set_option linter.unusedSimpArgs false
set_option maxHeartbeats 8000000
structure ClimbE (N : Nat) (q p' : PD) (pf left left' e j : Int) : Prop where
 run : Run N q p'
 hf : ∀ h,h < p'.m → 0 ≤ p'.fr h
 l1 : left - ((2 ^ N : Nat) : Int) ≤ left'
 l2 : left' ≤ left
 why : (e = 0 ∧ j = 0 ∧ ((∀ k,k < p'.n → p'.gl k ≤ 0) ∨ ∃ k,k < p'.n ∧ (p'.os k : Int) = pf)) ∨ (e = 1 ∧ ∃ k : Nat,j = k ∧ k < p'.n ∧ 0 < p'.gl k ∧ ∀ h,h < p'.m → p'.rw h k ≤ 0)
abbrev ClimbQ (b N : Nat) (q : PD) (pf left : Int) : Value → List Fact → List Blk → Prop:=fun v Φ β=>∃ (x : DX) (p' : PD) (left' e j : Int),v = .tuple #[.int .i64 e,.int .i64 j] ∧ ClimbE N q p' pf left left' e j ∧ Φ = dicF x p' ∧ β = dicB b x p' left'
theorem S_simplex_dictionary__climb {b : Nat} {x : DX} {p q : PD} {left pf : Int} {N K : Nat} (g0 : Good N q) (run : Run N q p) (hf : ∀ h,h < p.m → 0 ≤ p.fr h) (hm : p.m ≤ 100) (hn : p.n ≤ 100) (hN : N ≤ 17) (hK : 1 ≤ K) (hb : PB K q) (hsz : szP' K q.m ≤ 1000000) (hl : -500000 ≤ left) (hl2 : left < 0) (hp1 : -1000000 ≤ pf) (hp2 : pf ≤ 1000000) :
  Ctr Try.prog 45 [.pointer (some ⟨b,0,none⟩),.int .i64 pf] (dicB b x p left) (dicF x p) (ClimbQ b N q pf left):=by
 refine Ctr_of_j' (F:=F_simplex_dictionary__climb) rfl fun C=>?_
 have hpow : 2 ^ N ≤ 131072:=Nat.le_trans (Nat.pow_le_pow_right (by decide) hN) (by decide)
 refine j_nf [.o [0] 0,.c [1]] rfl ?_
 refine j_run it 2 rfl (by simp) ?_
 refine j_nf [.c [1,0],.blk 0] rfl ?_
 have em0:=run.m
 have en0:=run.n
 refine j_loopG (X:=PD × List PD × DX) [0,1] [] (fun _=>[])
  (fun x=>dicB b x.2.2 x.1 (left - x.2.1.length)) (fun x=>dicF x.2.2 x.1)
  (fun x=>Climb N (x.1::x.2.1) ∧ Run N q x.1) (fun x=>2 ^ N - x.2.1.length) (p,[],x) [0,1,2,3,4,5,6,7] rfl rfl rfl ⟨.one _ run.g hf,run⟩ (by repeat (first | exact Fr.sub_nil _ | refine Fr.sub_cons rfl ?_)) (by show dicB b x p left = dicB b x p (left - ((0 : Nat) : Int));rw [show left - ((0 : Nat) : Int) = left by omega]) rfl ?_
 rintro ⟨p,l,x⟩ ⟨hc,run⟩ ih
 simp only [List.cons_append,List.nil_append] at hc run ih ⊢
 have hlen:=hc.len
 rw [List.length_cons] at hlen
 obtain ⟨g,hf⟩:=hc.good p (.head _)
 have em:=run.m
 have en:=run.n
 have hm' : p.m ≤ 100:=by omega
 have hn' : p.n ≤ 100:=by omega
 have hos : ∀ k,k < p.n → p.os k ≤ 1000000:=fun k hk=>by have:=g.oN k hk;omega
 have hbs : ∀ h,h < p.m → p.bs h ≤ 1000000:=fun h hh=>by have:=g.bN h hh;omega
 have c_simplex_dictionary__enter:=S_simplex_dictionary__enter (b:=b) (x:=x) (left:=left - l.length) hn' hos
 refine j_nf [.o [1,0,0,0,0] 0,.c [1,0,0,0,1],.blk 1,.lp [1,0,0],.blk 0] rfl ?_
 refine j_run it 1 rfl (by simp) ?_
 refine j_step rfl (x_callA 0 [0,1,2,3,4,5,6,7] rfl rfl (c_simplex_dictionary__enter) rfl ?_)
 rintro _ _ _ ⟨z1,rfl,h1,rfl,rfl⟩
 simp only [List.cons_append,List.nil_append]
 rcases h1 with ⟨rfl,top⟩ | ⟨j,rfl,hj,up,low⟩
 ·refine j_run it 1 rfl (by simp) ?_
  refine j_nf [.o (pL 196) 0,.c (pL 197),.c (pL 99),.blk 1,.lp [1,0,0],.blk 0] rfl ?_
  refine j_run it 2 rfl (by simp) ?_
  refine j_nf [.c (pL 197),.c (pL 99),.blk 1,.lp [1,0,0],.blk 0] rfl ?_
  refine j_if rfl rfl (fun h1=>?_) (fun h1=>by exfalso;omega)
  refine j_nf [.o (pL 788) 0,.c (pL 789),.c (pL 99),.blk 1,.lp [1,0,0],.blk 0] rfl ?_
  refine j_run it 2 rfl (by simp) ?_
  refine j_nf [.c (pL 789),.c (pL 99),.blk 1,.lp [1,0,0],.blk 0] rfl ?_
  refine j_givK 0 [] [0,1,2,3,4,5,6,7] rfl (.tmp rfl (.tmp rfl .nil)) rfl rfl rfl ⟨x,p,left - l.length,_,_,rfl,⟨run,hf,by omega,by omega,.inl ⟨rfl,rfl,.inl top⟩⟩,rfl,rfl⟩
 ·have hPB:=run.size g0 hK hb (by omega)
  have c_simplex_dictionary__leave:=S_simplex_dictionary__leave (b:=b) (x:=x) (left:=left - l.length) (pf:=pf) hj hm' hn' (szP'_pos hK _) hsz hPB hbs hp1 hp2
  refine j_run it 1 rfl (by simp) ?_
  refine j_nf [.o (pL 196) 0,.c (pL 197),.c (pL 99),.blk 1,.lp [1,0,0],.blk 0] rfl ?_
  refine j_run it 2 rfl (by simp) ?_
  refine j_nf [.c (pL 197),.c (pL 99),.blk 1,.lp [1,0,0],.blk 0] rfl ?_
  refine j_if rfl rfl (fun h1=>by exfalso;omega) (fun h1=>?_)
  refine j_nf [.o (pL 198) 0,.c (pL 199),.blk 1,.lp [1,0,0],.blk 0] rfl ?_
  refine j_run it 3 rfl (by simp) ?_
  refine j_step rfl (x_callA 0 [0,1,2,3,4,5,6,7] rfl rfl (c_simplex_dictionary__leave) rfl ?_)
  rintro _ _ _ ⟨x1,z1,rfl,h2,rfl,rfl⟩
  simp only [List.cons_append,List.nil_append]
  rcases h2 with ⟨rfl,free⟩ | ⟨i,rfl,hi,hp,hmin⟩
  ·refine j_run it 1 rfl (by simp) ?_
   refine j_nf [.o (pL 1592) 0,.c (pL 1593),.blk 2,.c (pL 399),.blk 1,.lp [1,0,0],.blk 0] rfl ?_
   refine j_run it 3 rfl (by simp) ?_
   refine j_nf [.c (pL 1593),.blk 2,.c (pL 399),.blk 1,.lp [1,0,0],.blk 0] rfl ?_
   refine j_if rfl rfl (fun h2=>?_) (fun h2=>by exfalso;omega)
   refine j_nf [.o (pL 6372) 0,.c (pL 6373),.blk 2,.c (pL 399),.blk 1,.lp [1,0,0],.blk 0] rfl ?_
   refine j_run it 3 rfl (by simp) ?_
   refine j_nf [.c (pL 6373),.blk 2,.c (pL 399),.blk 1,.lp [1,0,0],.blk 0] rfl ?_
   refine j_givK 0 [] [0,1,2,3,4,5,6,7] rfl (.tmp rfl (.tmp rfl .nil)) rfl rfl rfl ⟨x1,p,left - l.length,_,_,rfl,⟨run,hf,by omega,by omega,.inr ⟨rfl,j,rfl,hj,up,free⟩⟩,rfl,rfl⟩
  ·have hq2 : lvQ p j pf p.m i:=.inr ⟨i,rfl,hi,hp,hmin⟩
   have hne : p.rw i j ≠ 0:=fun e=>by rw [e] at hp;exact absurd hp (by decide)
   have c_simplex_dictionary__pivot:=fun {x : DX}=>S_simplex_dictionary__pivot (b:=b) (x:=x) (left:=left - l.length) hi hj hm' hn' (by omega) (by omega) (szP'_pos hK _) hsz hPB hbs hos hne
   refine j_rowB 0 rfl (by omega) fun bbs cbs ebs h=>?_
   obtain ⟨bs,os,fr,rw',gl,hd,cs,pn,cn,pd,cd⟩:=x1
   dsimp only at h
   subst h
   have w1:=il_get (f:=p.bs) hi
   have w4:=hbs i hi
   by_cases hgone : (p.bs i : Int) = pf
   ·refine j_run it 1 rfl (by simp) ?_
    refine j_nf [.o (pL 1592) 0,.c (pL 1593),.blk 2,.c (pL 399),.blk 1,.lp [1,0,0],.blk 0] rfl ?_
    refine j_run it 3 rfl (by simp) ?_
    refine j_nf [.c (pL 1593),.blk 2,.c (pL 399),.blk 1,.lp [1,0,0],.blk 0] rfl ?_
    refine j_if rfl rfl (fun h2=>by exfalso;omega) (fun h2=>?_)
    refine j_nf [.o (pL 6374) 0,.c (pL 6375),.blk 2,.c (pL 399),.blk 1,.lp [1,0,0],.blk 0] rfl ?_
    refine j_run it 2 rfl (by simp) ?_
    refine j_step rfl (x_field rfl fd69_6 ?_)
    refine j_step rfl (x_bld 0 rfl rfl ld3 rfl ?_)
    refine j_run it 2 rfl (by simp) ?_
    refine j_nf [.c (pL 6375),.blk 2,.c (pL 399),.blk 1,.lp [1,0,0],.blk 0] rfl ?_
    refine j_if rfl rfl (fun h3=>by exfalso;omega) (fun h3=>?_)
    refine j_nf [.o (pL 798) 0,.c (pL 799),.blk 1,.lp [1,0,0],.blk 0] rfl ?_
    refine j_run it 2 rfl (by simp) ?_
    refine j_step rfl (x_field rfl fd69_0 ?_)
    refine j_step rfl (x_bld 0 rfl rfl ld67 rfl ?_)
    refine j_run it 1 rfl (by simp) ?_
    refine j_step rfl (x_idx_own (i) (i) rfl rfl sl67 rfl (by omega) (Nat.mul_one _) ?_)
    refine j_step rfl (x_ldR_int 1 0 (i) rfl rfl rfl ld3 rfl (by assumption) fun hr1=>?_)
    refine j_run it 1 rfl (by simp) ?_
    refine j_nf [.o (pL 1598) 0,.c (pL 1599),.blk 1,.lp [1,0,0],.blk 0] rfl ?_
    refine j_run it 3 rfl (by simp) ?_
    refine j_step rfl (x_callA 0 [0,1,2,3,4,5,6,7] rfl rfl (c_simplex_dictionary__pivot) rfl ?_)
    rintro _ _ _ ⟨x'1,rfl,rfl,rfl,h4,h5⟩
    simp only [List.cons_append,List.nil_append]
    refine j_nf [.o (pL 3198) 0,.c (pL 3199),.blk 1,.lp [1,0,0],.blk 0] rfl ?_
    refine j_run it 3 rfl (by simp) ?_
    refine j_nf [.c (pL 3199),.blk 1,.lp [1,0,0],.blk 0] rfl ?_
    refine j_if rfl rfl (fun h6=>?_) (fun h6=>by exfalso;omega)
    refine j_nf [.o (pL 12796) 0,.c (pL 12797),.blk 1,.lp [1,0,0],.blk 0] rfl ?_
    refine j_run it 2 rfl (by simp) ?_
    refine j_nf [.c (pL 12797),.blk 1,.lp [1,0,0],.blk 0] rfl ?_
    refine j_givK 0 [] [0,1,2,3,4,5,6,7] rfl (.tmp rfl (.tmp rfl .nil)) rfl rfl rfl ⟨x'1,piv p i j,left - l.length - 1,_,_,rfl,⟨run.piv hi hj hne,piv_fr hf hi hp (lvQ_min hq2).2.2,by omega,by omega,.inl ⟨rfl,rfl,.inr ⟨j,hj,by show (((if j = j then p.bs i else p.os j) : Nat) : Int) = pf;rw [if_pos rfl];exact hgone⟩⟩⟩,rfl,rfl⟩
   ·refine j_run it 1 rfl (by simp) ?_
    refine j_nf [.o (pL 1592) 0,.c (pL 1593),.blk 2,.c (pL 399),.blk 1,.lp [1,0,0],.blk 0] rfl ?_
    refine j_run it 3 rfl (by simp) ?_
    refine j_nf [.c (pL 1593),.blk 2,.c (pL 399),.blk 1,.lp [1,0,0],.blk 0] rfl ?_
    refine j_if rfl rfl (fun h2=>by exfalso;omega) (fun h2=>?_)
    refine j_nf [.o (pL 6374) 0,.c (pL 6375),.blk 2,.c (pL 399),.blk 1,.lp [1,0,0],.blk 0] rfl ?_
    refine j_run it 2 rfl (by simp) ?_
    refine j_step rfl (x_field rfl fd69_6 ?_)
    refine j_step rfl (x_bld 0 rfl rfl ld3 rfl ?_)
    refine j_run it 2 rfl (by simp) ?_
    refine j_nf [.c (pL 6375),.blk 2,.c (pL 399),.blk 1,.lp [1,0,0],.blk 0] rfl ?_
    refine j_if rfl rfl (fun h3=>by exfalso;omega) (fun h3=>?_)
    refine j_nf [.o (pL 798) 0,.c (pL 799),.blk 1,.lp [1,0,0],.blk 0] rfl ?_
    refine j_run it 2 rfl (by simp) ?_
    refine j_step rfl (x_field rfl fd69_0 ?_)
    refine j_step rfl (x_bld 0 rfl rfl ld67 rfl ?_)
    refine j_run it 1 rfl (by simp) ?_
    refine j_step rfl (x_idx_own (i) (i) rfl rfl sl67 rfl (by omega) (Nat.mul_one _) ?_)
    refine j_step rfl (x_ldR_int 1 0 (i) rfl rfl rfl ld3 rfl (by assumption) fun hr1=>?_)
    refine j_run it 1 rfl (by simp) ?_
    refine j_nf [.o (pL 1598) 0,.c (pL 1599),.blk 1,.lp [1,0,0],.blk 0] rfl ?_
    refine j_run it 3 rfl (by simp) ?_
    refine j_step rfl (x_callA 0 [0,1,2,3,4,5,6,7] rfl rfl (c_simplex_dictionary__pivot) rfl ?_)
    rintro _ _ _ ⟨x'1,rfl,rfl,rfl,h4,h5⟩
    simp only [List.cons_append,List.nil_append]
    refine j_nf [.o (pL 3198) 0,.c (pL 3199),.blk 1,.lp [1,0,0],.blk 0] rfl ?_
    refine j_run it 3 rfl (by simp) ?_
    refine j_nf [.c (pL 3199),.blk 1,.lp [1,0,0],.blk 0] rfl ?_
    refine j_if rfl rfl (fun h6=>by exfalso;omega) (fun h6=>?_)
    refine j_nfn 2 [.lp [1,0,0],.blk 0] rfl ?_
    rw [show left - (l.length : Int) - 1 = left - ((p::l).length : Int) by rw [List.length_cons];omega]
    refine j_to [0,1,2,3,4,5,6,7] (by repeat (first | exact Fr.sub_nil _ | refine Fr.sub_cons rfl ?_ | refine Fr.sub_consI rfl (by first | omega | (dsimp only;omega)) ?_ | refine Fr.sub_consS rfl (by first | omega | (dsimp only;omega)) (by first | omega | (dsimp only;omega)) ?_)) rfl rfl (ih (piv p i j,p::l,x'1) (by simp only [List.length_cons];omega) ⟨.more p l i j hc (choice_of hj up low hq2 hgone),run.piv hi hj hne⟩)
end Go.Proofs.Ythahejfpdhcpiaa

namespace Go.Proofs.Ythahejfpdhcpiaa
open Go Go.Fw
set_option maxRecDepth 100000
set_option linter.unusedVariables false
set_option linter.unusedSimpArgs false
set_option maxHeartbeats 8000000
def vals (p : PD) (n0 : Nat) : Nat → Nat → Rat
 | 0=>fun _=>0
 | k + 1=>if p.bs k < n0 then upd (vals p n0 k) (p.bs k) (p.fr k) else vals p n0 k
theorem vals_in {p : PD} {n0 k : Nat} (h : p.bs k < n0) : vals p n0 (k + 1) = upd (vals p n0 k) (p.bs k) (p.fr k):=by rw [vals,if_pos h]
theorem vals_out {p : PD} {n0 k : Nat} (h : ¬ p.bs k < n0) : vals p n0 (k + 1) = vals p n0 k:=by rw [vals,if_neg h]
abbrev RowQ (b : Nat) (x : DX) (p : PD) (left : Int) (n0 : Nat) (f : Nat → Rat) : Value → List Fact → List Blk → Prop:=fun v Φ β=>∃ (pa : Option Addr) (ca : Nat),v = .slice pa n0 ca ∧ Φ = slF RatE pa n0 ca (rl n0 f)::dicF x p ∧ β = dicB b x p left
theorem S_simplex_dictionary__values {b : Nat} {x : DX} {p : PD} {left : Int} {n0 K : Nat} (hn0 : n0 ≤ 100) (hm : p.m ≤ 100) (hK : 1 ≤ K) (hK2 : K ≤ 1000000) (hfr : ∀ h,h < p.m → bd K (p.fr h)) (hbs : ∀ h,h < p.m → p.bs h ≤ 1000000) :
  Ctr Try.prog 46 [.pointer (some ⟨b,0,none⟩),.int .i64 n0] (dicB b x p left) (dicF x p) (RowQ b x p left n0 (vals p n0 p.m)):=by
 refine Ctr_of_j' (F:=F_simplex_dictionary__values) rfl fun C=>?_
 obtain ⟨bs,os,fr,rw',gl,hd,cs,pn,cn,pd,cd⟩:=x
 obtain ⟨m,n,pbs,pos,pfr,prw,pgl,pvv⟩:=p
 simp only [dicB,dicF,dicC] at *
 refine j_nf [.o [0] 0,.c [1]] rfl ?_
 refine j_run it 1 rfl (by simp) ?_
 refine j_nf [.o [1,0] 0,.c [1,1]] rfl ?_
 refine j_run it 1 rfl (by simp) ?_
 refine j_step rfl (x_makeR RatE default (n0) _ rfl rfl sl23 zo23e rfl rfl by23e (by omega) (by omega) (by omega) rz44 fun b1 cs1=>?_)
 refine j_run it 1 rfl (by simp) ?_
 refine j_nf [.o [1,1,0,0] 0,.c [1,1,0,1],.c [1,1,1]] rfl ?_
 refine j_run it 1 rfl (by simp) ?_
 refine j_step rfl (x_len sl23 rfl ?_)
 refine j_run it 1 rfl (by simp) ?_
 refine j_nf [.c [1,1,0,1,0],.blk 0,.c [1,1,1]] rfl ?_
 rw [← mapTo_zero (fun _=>rt 0)]
 refine j_loopG (X:=Nat × List Value) [0,1,4,5,12] [1,2,3,4,5,6,7,8] (fun x=>[(13,.int .i64 (x.1 : Int))])
  (fun x=>(some b1,44,x.2)::(some b,69,[.slice (ad bs.bo) m bs.cap,.slice (ad os.bo) n os.cap,.slice (ad fr.bo) m fr.cap,.slice (ad rw'.bo) m rw'.cap,.slice (ad gl.bo) n gl.cap,.bool (rt pvv).1,.slice pn (rt pvv).2.1.length cn,.slice pd (rt pvv).2.2.length cd,.int .i64 left])::(bs.bo,3,bs.cs)::(os.bo,3,os.cs)::(fr.bo,44,fr.cs)::(rw'.bo,23,rw'.cs)::(gl.bo,44,gl.cs)::famB 44 hd cs m [])
  (fun x=>[rowF RatE ⟨some b1,n0,x.2⟩ n0 (mapTo (fun _=>rt 0) default n0 x.1)])
  (fun x=>x.1 ≤ n0) (fun x=>n0 - x.1) (0,cs1) [0] rfl rfl rfl (Nat.zero_le _) (by repeat (first | exact Fr.sub_nil _ | refine Fr.sub_cons rfl ?_)) rfl rfl ?_
 rintro ⟨k,cs2⟩ hk ih
 simp only [List.cons_append,List.nil_append] at hk ih ⊢
 by_cases hkl : k < n0
 ·refine j_nf [.o (pL 232) 0,.c (pL 233),.lp (pL 116),.blk 0,.c [1,1,1]] rfl ?_
  refine j_run it 1 rfl (by simp) ?_
  refine j_nf [.c (pL 466),.c (pL 467),.lp (pL 116),.blk 0,.c [1,1,1]] rfl ?_
  refine j_if rfl rfl (fun h1=>?_) (fun h1=>by exfalso;omega)
  refine j_nf [.o (pL 3736) 0,.c (pL 3737),.blk 1,.c (pL 935),.lp (pL 116),.blk 0,.c [1,1,1]] rfl ?_
  refine j_run it 2 rfl (by simp) ?_
  refine j_nf [.o (pL 3737) 0,.blk 1,.c (pL 935),.lp (pL 116),.blk 0,.c [1,1,1]] rfl ?_
  refine j_run it 2 rfl (by simp) ?_
  refine j_step rfl (x_call [] rfl (S_simplex_zero) rfl ?_)
  rintro _ _ _ ⟨pn1,cn1,pd1,cd1,rfl,rfl,rfl⟩
  simp only [List.cons_append,List.nil_append]
  refine j_step rfl (x_idx_own (k) _ rfl rfl sl23 rfl (by omega) rfl ?_)
  refine j_step rfl (x_stR (vs:=[Value.bool (rt 0).fst,Value.slice pn1 (rt 0).snd.fst.length cn1,Value.slice pd1 (rt 0).snd.snd.length cd1]) (z:=((rt 0).fst,((rt 0).snd.fst,(rt 0).snd.snd))) 0 2 (k) rfl rfl rfl rfl rfl ld44 rfl (by omega) (fun w A hG=>(rd_pair (v1:=[Value.bool (rt 0).fst]) (rd_bool _) (rd_pair (v1:=[Value.slice pn1 (rt 0).snd.fst.length cn1]) (rd_of_slF (hG _ (fact_mem (n:=0) rfl))) (rd_of_slF (hG _ (fact_mem (n:=1) rfl)))))) fun cs3=>?_)
  refine j_nf [.o (pL 935) 0,.lp (pL 116),.blk 0,.c [1,1,1]] rfl ?_
  refine j_run it 2 rfl (by repeat' first | exact trivial | apply And.intro | omega) ?_
  refine j_nfn 1 [.lp (pL 116),.blk 0,.c [1,1,1]] rfl ?_
  rw [show ((rt 0).1,(rt 0).2.1,(rt 0).2.2) = (fun _=>rt 0) k from rfl,mapTo_set (fun _=>rt 0)]
  refine j_to [0,4,5,6,7,8,9,10,11] (by repeat (first | exact Fr.sub_nil _ | refine Fr.sub_cons rfl ?_ | refine Fr.sub_consI rfl (by first | omega | (dsimp only;omega)) ?_ | refine Fr.sub_consS rfl (by first | omega | (dsimp only;omega)) (by first | omega | (dsimp only;omega)) ?_)) rfl rfl (ih (k + 1,cs3) (by dsimp only;omega) (by dsimp only;omega))
 ·obtain rfl : n0 = k:=by omega
  refine j_nf [.o (pL 232) 0,.c (pL 233),.lp (pL 116),.blk 0,.c [1,1,1]] rfl ?_
  refine j_run it 1 rfl (by simp) ?_
  refine j_nf [.c (pL 466),.c (pL 467),.lp (pL 116),.blk 0,.c [1,1,1]] rfl ?_
  refine j_if rfl rfl (fun h1=>by exfalso;omega) (fun h1=>?_)
  refine j_nf [.o [1,1,1,0,0] 0,.c [1,1,1,0,1],.c [1,1,1,1]] rfl ?_
  refine j_run it 2 rfl (by simp) ?_
  refine j_step rfl (x_field rfl fd69_0 ?_)
  refine j_step rfl (x_bld 1 rfl rfl ld67 rfl ?_)
  refine j_step rfl (x_len sl67 rfl ?_)
  refine j_run it 1 rfl (by simp) ?_
  refine j_nf [.c (pL 122),.blk 2,.c [1,1,1,1]] rfl ?_
  rw [mapTo_all,show (List.range n0).map (fun _=>rt 0) = rl n0 (vals ⟨m,n,pbs,pos,pfr,prw,pgl,pvv⟩ n0 0) from rfl]
  refine j_loopG (X:=Nat × List Value) [0,1,4,5,24,25] [1,2,3,4,5,6,7,8] (fun x=>[(26,.int .i64 (x.1 : Int))])
   (fun x=>(some b1,44,x.2)::(some b,69,[.slice (ad bs.bo) m bs.cap,.slice (ad os.bo) n os.cap,.slice (ad fr.bo) m fr.cap,.slice (ad rw'.bo) m rw'.cap,.slice (ad gl.bo) n gl.cap,.bool (rt pvv).1,.slice pn (rt pvv).2.1.length cn,.slice pd (rt pvv).2.2.length cd,.int .i64 left])::(bs.bo,3,bs.cs)::(os.bo,3,os.cs)::(fr.bo,44,fr.cs)::(rw'.bo,23,rw'.cs)::(gl.bo,44,gl.cs)::famB 44 hd cs m [])
   (fun x=>[rowF RatE ⟨some b1,n0,x.2⟩ n0 (rl n0 (vals ⟨m,n,pbs,pos,pfr,prw,pgl,pvv⟩ n0 x.1))])
   (fun x=>x.1 ≤ m) (fun x=>m - x.1) (0,cs2) [0] rfl rfl rfl (Nat.zero_le _) (by repeat (first | exact Fr.sub_nil _ | refine Fr.sub_cons rfl ?_)) rfl rfl ?_
  rintro ⟨k,cs3⟩ hk ih
  simp only [List.cons_append,List.nil_append] at hk ih ⊢
  by_cases hkl : k < m
  ·refine j_rowB 3 rfl (by omega) fun bfr cfr efr h=>?_
   subst h
   refine j_rowB 1 rfl (by omega) fun bbs cbs ebs h=>?_
   subst h
   have z3:=rl_get (f:=pfr) hkl
   have w1:=il_get (f:=pbs) hkl
   have w4:=hbs k hkl
   obtain ⟨y3,y4⟩:=bd_len (hfr k hkl)
   by_cases hv : pbs k < n0
   ·refine j_nf [.o (pL 488) 0,.c (pL 489),.lp (pL 244),.blk 2,.c [1,1,1,1]] rfl ?_
    refine j_run it 1 rfl (by simp) ?_
    refine j_nf [.c (pL 978),.c (pL 979),.lp (pL 244),.blk 2,.c [1,1,1,1]] rfl ?_
    refine j_if rfl rfl (fun h2=>?_) (fun h2=>by exfalso;omega)
    refine j_nf [.o (pL 7832) 0,.c (pL 7833),.blk 3,.c (pL 1959),.lp (pL 244),.blk 2,.c [1,1,1,1]] rfl ?_
    refine j_run it 1 rfl (by simp) ?_
    refine j_step rfl (x_idx_own (k) (k) rfl rfl sl67 rfl (by omega) (Nat.mul_one _) ?_)
    refine j_step rfl (x_ldR_int 2 1 (k) rfl rfl rfl ld3 rfl (by assumption) fun hr1=>?_)
    refine j_run it 2 rfl (by simp) ?_
    refine j_nf [.o (pL 15666) 0,.c (pL 15667),.blk 3,.c (pL 1959),.lp (pL 244),.blk 2,.c [1,1,1,1]] rfl ?_
    refine j_run it 3 rfl (by simp) ?_
    refine j_nf [.c (pL 15667),.blk 3,.c (pL 1959),.lp (pL 244),.blk 2,.c [1,1,1,1]] rfl ?_
    refine j_if rfl rfl (fun h3=>?_) (fun h3=>by exfalso;omega)
    refine j_nf [.o (pL 31334) 0,.blk 3,.c (pL 1959),.lp (pL 244),.blk 2,.c [1,1,1,1]] rfl ?_
    refine j_run it 4 rfl (by simp) ?_
    refine j_step rfl (x_field rfl fd69_2 ?_)
    refine j_step rfl (x_bld 1 rfl rfl ld23 rfl ?_)
    refine j_run it 1 rfl (by simp) ?_
    refine j_step rfl (x_idx_own (k) _ rfl rfl sl23 rfl (by omega) rfl ?_)
    refine j_step rfl (x_ldR_vw vw_RatE 4 3 (k) rfl rfl rfl ld44 rfl (by omega) fun z1 hz1 g1=>?_)
    dsimp only [vw_RatE,List.cons_append,List.nil_append,List.map_cons,List.map_nil] --ok
    obtain rfl : z1 = rt (pfr k):=Option.some.inj (hz1.symm.trans z3)
    refine j_step rfl (x_call [0,1] rfl (S_rational_Trim (by first|omega|exact side _ (by assumption)|assumption|rfl|(simp;done)|(simp;omega)) (by first|omega|exact side _ (by assumption)|assumption|rfl|(simp;done)|(simp;omega))) rfl ?_)
    rintro _ _ _ ⟨pn1,cn1,pd1,cd1,rfl,rfl,rfl⟩
    simp only [List.cons_append,List.nil_append]
    simp only [vq_rt']
    refine j_step rfl (x_idx_own (pbs k) _ rfl rfl sl23 rfl (by omega) rfl ?_)
    refine j_step rfl (x_stR (vs:=[Value.bool (rt (pfr k)).fst,Value.slice pn1 (rt (pfr k)).snd.fst.length cn1,Value.slice pd1 (rt (pfr k)).snd.snd.length cd1]) (z:=((rt (pfr k)).fst,((rt (pfr k)).snd.fst,(rt (pfr k)).snd.snd))) 0 4 (pbs k) rfl rfl rfl rfl rfl ld44 rfl (by omega) (fun w A hG=>(rd_pair (v1:=[Value.bool (rt (pfr k)).fst]) (rd_bool _) (rd_pair (v1:=[Value.slice pn1 (rt (pfr k)).snd.fst.length cn1]) (rd_of_slF (hG _ (fact_mem (n:=0) rfl))) (rd_of_slF (hG _ (fact_mem (n:=1) rfl)))))) fun cs4=>?_)
    refine j_nf [.o (pL 1959) 0,.lp (pL 244),.blk 2,.c [1,1,1,1]] rfl ?_
    refine j_run it 2 rfl (by repeat' first | exact trivial | apply And.intro | omega) ?_
    refine j_nfn 1 [.lp (pL 244),.blk 2,.c [1,1,1,1]] rfl ?_
    rw [show ((rt (pfr k)).1,(rt (pfr k)).2.1,(rt (pfr k)).2.2) = rt (pfr k) from rfl,rl_set,← vals_in (p:=⟨m,n,pbs,pos,pfr,prw,pgl,pvv⟩) hv]
    refine j_to [0,6,7,8,9,10,11,12,13] (by repeat (first | exact Fr.sub_nil _ | refine Fr.sub_cons rfl ?_ | refine Fr.sub_consI rfl (by first | omega | (dsimp only;omega)) ?_ | refine Fr.sub_consS rfl (by first | omega | (dsimp only;omega)) (by first | omega | (dsimp only;omega)) ?_)) rfl rfl (ih (k + 1,cs4) (by dsimp only;omega) (by dsimp only;omega))
   ·refine j_nf [.o (pL 488) 0,.c (pL 489),.lp (pL 244),.blk 2,.c [1,1,1,1]] rfl ?_
    refine j_run it 1 rfl (by simp) ?_
    refine j_nf [.c (pL 978),.c (pL 979),.lp (pL 244),.blk 2,.c [1,1,1,1]] rfl ?_
    refine j_if rfl rfl (fun h2=>?_) (fun h2=>by exfalso;omega)
    refine j_nf [.o (pL 7832) 0,.c (pL 7833),.blk 3,.c (pL 1959),.lp (pL 244),.blk 2,.c [1,1,1,1]] rfl ?_
    refine j_run it 1 rfl (by simp) ?_
    refine j_step rfl (x_idx_own (k) (k) rfl rfl sl67 rfl (by omega) (Nat.mul_one _) ?_)
    refine j_step rfl (x_ldR_int 2 1 (k) rfl rfl rfl ld3 rfl (by assumption) fun hr1=>?_)
    refine j_run it 2 rfl (by simp) ?_
    refine j_nf [.o (pL 15666) 0,.c (pL 15667),.blk 3,.c (pL 1959),.lp (pL 244),.blk 2,.c [1,1,1,1]] rfl ?_
    refine j_run it 3 rfl (by simp) ?_
    refine j_nf [.c (pL 15667),.blk 3,.c (pL 1959),.lp (pL 244),.blk 2,.c [1,1,1,1]] rfl ?_
    refine j_if rfl rfl (fun h3=>by exfalso;omega) (fun h3=>?_)
    refine j_nf [.o (pL 1959) 0,.lp (pL 244),.blk 2,.c [1,1,1,1]] rfl ?_
    refine j_run it 2 rfl (by repeat' first | exact trivial | apply And.intro | omega) ?_
    refine j_nfn 1 [.lp (pL 244),.blk 2,.c [1,1,1,1]] rfl ?_
    rw [← vals_out (p:=⟨m,n,pbs,pos,pfr,prw,pgl,pvv⟩) hv]
    refine j_to [0,1,2,3,4,5,6,7,8] (by repeat (first | exact Fr.sub_nil _ | refine Fr.sub_cons rfl ?_ | refine Fr.sub_consI rfl (by first | omega | (dsimp only;omega)) ?_ | refine Fr.sub_consS rfl (by first | omega | (dsimp only;omega)) (by first | omega | (dsimp only;omega)) ?_)) rfl rfl (ih (k + 1,cs3) (by dsimp only;omega) (by dsimp only;omega))
  ·obtain rfl : m = k:=by omega
   refine j_nf [.o (pL 488) 0,.c (pL 489),.lp (pL 244),.blk 2,.c [1,1,1,1]] rfl ?_
   refine j_run it 1 rfl (by simp) ?_
   refine j_nf [.c (pL 978),.c (pL 979),.lp (pL 244),.blk 2,.c [1,1,1,1]] rfl ?_
   refine j_if rfl rfl (fun h2=>by exfalso;omega) (fun h2=>?_)
   refine j_nf [.o [1,1,1,1,0] 0,.c [1,1,1,1,1]] rfl ?_
   refine j_run it 2 rfl (by simp) ?_
   refine j_nf [.c [1,1,1,1,1]] rfl ?_
   refine j_pubR 0 0 rfl rfl (by show n0 * 56 ≤ 140737488355328;omega) ?_
   refine j_givK 6 [0,1,2,3,4,5] [0,2,3,4,5,6,7,8,9] rfl (.tmp rfl .nil) rfl rfl rfl ⟨_,_,rfl,rfl,rfl⟩
end Go.Proofs.Ythahejfpdhcpiaa

namespace Go.Proofs.Ythahejfpdhcpiaa
open Go Go.Fw
set_option maxRecDepth 100000
set_option linter.unusedVariables false
set_option linter.unusedSimpArgs false
set_option maxHeartbeats 8000000
def prc (p : PD) (n0 m0 : Nat) : Nat → Nat → Rat
 | 0=>fun _=>0
 | k + 1=>if n0 ≤ p.os k ∧ p.os k < n0 + m0 then upd (prc p n0 m0 k) (p.os k - n0) (-p.gl k) else prc p n0 m0 k
theorem prc_in {p : PD} {n0 m0 k : Nat} (h : n0 ≤ p.os k) (h2 : p.os k < n0 + m0) : prc p n0 m0 (k + 1) = upd (prc p n0 m0 k) (p.os k - n0) (-p.gl k):=by rw [prc,if_pos ⟨h,h2⟩]
theorem prc_out {p : PD} {n0 m0 k : Nat} (h : ¬ (n0 ≤ p.os k ∧ p.os k < n0 + m0)) : prc p n0 m0 (k + 1) = prc p n0 m0 k:=by rw [prc,if_neg h]
theorem S_simplex_dictionary__prices {b : Nat} {x : DX} {p : PD} {left : Int} {n0 m0 K : Nat} (hn0 : n0 ≤ 100) (hm0 : m0 ≤ 100) (hn : p.n ≤ 101) (hK : 1 ≤ K) (hK2 : K ≤ 1000000) (hgl : ∀ h,h < p.n → bd K (p.gl h)) (hos : ∀ h,h < p.n → p.os h ≤ 1000000) :
  Ctr Try.prog 42 [.pointer (some ⟨b,0,none⟩),.int .i64 n0,.int .i64 m0] (dicB b x p left) (dicF x p) (RowQ b x p left m0 (prc p n0 m0 p.n)):=by
 refine Ctr_of_j' (F:=F_simplex_dictionary__prices) rfl fun C=>?_
 obtain ⟨bs,os,fr,rw',gl,hd,cs,pn,cn,pd,cd⟩:=x
 obtain ⟨m,n,pbs,pos,pfr,prw,pgl,pvv⟩:=p
 simp only [dicB,dicF,dicC] at *
 refine j_nf [.o [0] 0,.c [1]] rfl ?_
 refine j_run it 1 rfl (by simp) ?_
 refine j_nf [.o [1,0] 0,.c [1,1]] rfl ?_
 refine j_run it 1 rfl (by simp) ?_
 refine j_step rfl (x_makeR RatE default (m0) _ rfl rfl sl23 zo23e rfl rfl by23e (by omega) (by omega) (by omega) rz44 fun b1 cs1=>?_)
 refine j_run it 1 rfl (by simp) ?_
 refine j_nf [.o [1,1,0,0] 0,.c [1,1,0,1],.c [1,1,1]] rfl ?_
 refine j_run it 1 rfl (by simp) ?_
 refine j_step rfl (x_len sl23 rfl ?_)
 refine j_run it 1 rfl (by simp) ?_
 refine j_nf [.c [1,1,0,1,0],.blk 0,.c [1,1,1]] rfl ?_
 rw [← mapTo_zero (fun _=>rt 0)]
 refine j_loopG (X:=Nat × List Value) [0,1,2,6,7,14] [1,2,3,4,5,6,7,8] (fun x=>[(15,.int .i64 (x.1 : Int))])
  (fun x=>(some b1,44,x.2)::(some b,69,[.slice (ad bs.bo) m bs.cap,.slice (ad os.bo) n os.cap,.slice (ad fr.bo) m fr.cap,.slice (ad rw'.bo) m rw'.cap,.slice (ad gl.bo) n gl.cap,.bool (rt pvv).1,.slice pn (rt pvv).2.1.length cn,.slice pd (rt pvv).2.2.length cd,.int .i64 left])::(bs.bo,3,bs.cs)::(os.bo,3,os.cs)::(fr.bo,44,fr.cs)::(rw'.bo,23,rw'.cs)::(gl.bo,44,gl.cs)::famB 44 hd cs m [])
  (fun x=>[rowF RatE ⟨some b1,m0,x.2⟩ m0 (mapTo (fun _=>rt 0) default m0 x.1)])
  (fun x=>x.1 ≤ m0) (fun x=>m0 - x.1) (0,cs1) [0] rfl rfl rfl (Nat.zero_le _) (by repeat (first | exact Fr.sub_nil _ | refine Fr.sub_cons rfl ?_)) rfl rfl ?_
 rintro ⟨k,cs2⟩ hk ih
 simp only [List.cons_append,List.nil_append] at hk ih ⊢
 by_cases hkl : k < m0
 ·refine j_nf [.o (pL 232) 0,.c (pL 233),.lp (pL 116),.blk 0,.c [1,1,1]] rfl ?_
  refine j_run it 1 rfl (by simp) ?_
  refine j_nf [.c (pL 466),.c (pL 467),.lp (pL 116),.blk 0,.c [1,1,1]] rfl ?_
  refine j_if rfl rfl (fun h1=>?_) (fun h1=>by exfalso;omega)
  refine j_nf [.o (pL 3736) 0,.c (pL 3737),.blk 1,.c (pL 935),.lp (pL 116),.blk 0,.c [1,1,1]] rfl ?_
  refine j_run it 2 rfl (by simp) ?_
  refine j_nf [.o (pL 3737) 0,.blk 1,.c (pL 935),.lp (pL 116),.blk 0,.c [1,1,1]] rfl ?_
  refine j_run it 2 rfl (by simp) ?_
  refine j_step rfl (x_call [] rfl (S_simplex_zero) rfl ?_)
  rintro _ _ _ ⟨pn1,cn1,pd1,cd1,rfl,rfl,rfl⟩
  simp only [List.cons_append,List.nil_append]
  refine j_step rfl (x_idx_own (k) _ rfl rfl sl23 rfl (by omega) rfl ?_)
  refine j_step rfl (x_stR (vs:=[Value.bool (rt 0).fst,Value.slice pn1 (rt 0).snd.fst.length cn1,Value.slice pd1 (rt 0).snd.snd.length cd1]) (z:=((rt 0).fst,((rt 0).snd.fst,(rt 0).snd.snd))) 0 2 (k) rfl rfl rfl rfl rfl ld44 rfl (by omega) (fun w A hG=>(rd_pair (v1:=[Value.bool (rt 0).fst]) (rd_bool _) (rd_pair (v1:=[Value.slice pn1 (rt 0).snd.fst.length cn1]) (rd_of_slF (hG _ (fact_mem (n:=0) rfl))) (rd_of_slF (hG _ (fact_mem (n:=1) rfl)))))) fun cs3=>?_)
  refine j_nf [.o (pL 935) 0,.lp (pL 116),.blk 0,.c [1,1,1]] rfl ?_
  refine j_run it 2 rfl (by repeat' first | exact trivial | apply And.intro | omega) ?_
  refine j_nfn 1 [.lp (pL 116),.blk 0,.c [1,1,1]] rfl ?_
  rw [show ((rt 0).1,(rt 0).2.1,(rt 0).2.2) = (fun _=>rt 0) k from rfl,mapTo_set (fun _=>rt 0)]
  refine j_to [0,4,5,6,7,8,9,10,11] (by repeat (first | exact Fr.sub_nil _ | refine Fr.sub_cons rfl ?_ | refine Fr.sub_consI rfl (by first | omega | (dsimp only;omega)) ?_ | refine Fr.sub_consS rfl (by first | omega | (dsimp only;omega)) (by first | omega | (dsimp only;omega)) ?_)) rfl rfl (ih (k + 1,cs3) (by dsimp only;omega) (by dsimp only;omega))
 ·obtain rfl : m0 = k:=by omega
  refine j_nf [.o (pL 232) 0,.c (pL 233),.lp (pL 116),.blk 0,.c [1,1,1]] rfl ?_
  refine j_run it 1 rfl (by simp) ?_
  refine j_nf [.c (pL 466),.c (pL 467),.lp (pL 116),.blk 0,.c [1,1,1]] rfl ?_
  refine j_if rfl rfl (fun h1=>by exfalso;omega) (fun h1=>?_)
  refine j_nf [.o [1,1,1,0,0] 0,.c [1,1,1,0,1],.c [1,1,1,1]] rfl ?_
  refine j_run it 2 rfl (by simp) ?_
  refine j_step rfl (x_field rfl fd69_1 ?_)
  refine j_step rfl (x_bld 1 rfl rfl ld67 rfl ?_)
  refine j_step rfl (x_len sl67 rfl ?_)
  refine j_run it 1 rfl (by simp) ?_
  refine j_nf [.c (pL 122),.blk 2,.c [1,1,1,1]] rfl ?_
  rw [mapTo_all,show (List.range m0).map (fun _=>rt 0) = rl m0 (prc ⟨m,n,pbs,pos,pfr,prw,pgl,pvv⟩ n0 m0 0) from rfl]
  refine j_loopG (X:=Nat × List Value) [0,1,2,6,7,26,27] [1,2,3,4,5,6,7,8] (fun x=>[(28,.int .i64 (x.1 : Int))])
   (fun x=>(some b1,44,x.2)::(some b,69,[.slice (ad bs.bo) m bs.cap,.slice (ad os.bo) n os.cap,.slice (ad fr.bo) m fr.cap,.slice (ad rw'.bo) m rw'.cap,.slice (ad gl.bo) n gl.cap,.bool (rt pvv).1,.slice pn (rt pvv).2.1.length cn,.slice pd (rt pvv).2.2.length cd,.int .i64 left])::(bs.bo,3,bs.cs)::(os.bo,3,os.cs)::(fr.bo,44,fr.cs)::(rw'.bo,23,rw'.cs)::(gl.bo,44,gl.cs)::famB 44 hd cs m [])
   (fun x=>[rowF RatE ⟨some b1,m0,x.2⟩ m0 (rl m0 (prc ⟨m,n,pbs,pos,pfr,prw,pgl,pvv⟩ n0 m0 x.1))])
   (fun x=>x.1 ≤ n) (fun x=>n - x.1) (0,cs2) [0] rfl rfl rfl (Nat.zero_le _) (by repeat (first | exact Fr.sub_nil _ | refine Fr.sub_cons rfl ?_)) rfl rfl ?_
  rintro ⟨k,cs3⟩ hk ih
  simp only [List.cons_append,List.nil_append] at hk ih ⊢
  by_cases hkl : k < n
  ·refine j_rowB 5 rfl (by omega) fun bgl cgl egl h=>?_
   subst h
   refine j_rowB 2 rfl (by omega) fun bos cos eos h=>?_
   subst h
   have z3:=rl_get (f:=pgl) hkl
   have w1:=il_get (f:=pos) hkl
   have w4:=hos k hkl
   obtain ⟨y3,y4⟩:=bd_len (hgl k hkl)
   by_cases hv : n0 ≤ pos k
   ·by_cases hv2 : pos k < n0 + m0
    ·refine j_nf [.o (pL 488) 0,.c (pL 489),.lp (pL 244),.blk 2,.c [1,1,1,1]] rfl ?_
     refine j_run it 1 rfl (by simp) ?_
     refine j_nf [.c (pL 978),.c (pL 979),.lp (pL 244),.blk 2,.c [1,1,1,1]] rfl ?_
     refine j_if rfl rfl (fun h2=>?_) (fun h2=>by exfalso;omega)
     refine j_nf [.o (pL 7832) 0,.c (pL 7833),.blk 3,.c (pL 1959),.lp (pL 244),.blk 2,.c [1,1,1,1]] rfl ?_
     refine j_run it 1 rfl (by simp) ?_
     refine j_step rfl (x_idx_own (k) (k) rfl rfl sl67 rfl (by omega) (Nat.mul_one _) ?_)
     refine j_step rfl (x_ldR_int 3 2 (k) rfl rfl rfl ld3 rfl (by assumption) fun hr1=>?_)
     refine j_run it 2 rfl (by simp) ?_
     refine j_nf [.o (pL 15666) 0,.c (pL 15667),.blk 3,.c (pL 1959),.lp (pL 244),.blk 2,.c [1,1,1,1]] rfl ?_
     refine j_run it 4 rfl (by simp) ?_
     refine j_split_dec (t:=36) rfl (fun h3=>?_) (fun h3=>by exfalso;omega)
     refine j_run it 6 rfl (by repeat' first | exact trivial | apply And.intro | omega) ?_
     refine j_nf [.c (pL 15667),.blk 3,.c (pL 1959),.lp (pL 244),.blk 2,.c [1,1,1,1]] rfl ?_
     refine j_if rfl rfl (fun h4=>?_) (fun h4=>by exfalso;omega)
     refine j_nf [.o (pL 31334) 0,.blk 3,.c (pL 1959),.lp (pL 244),.blk 2,.c [1,1,1,1]] rfl ?_
     refine j_run it 6 rfl (by repeat' first | exact trivial | apply And.intro | omega) ?_
     refine j_step rfl (x_field rfl fd69_4 ?_)
     refine j_step rfl (x_bld 1 rfl rfl ld23 rfl ?_)
     refine j_run it 1 rfl (by simp) ?_
     refine j_step rfl (x_idx_own (k) _ rfl rfl sl23 rfl (by omega) rfl ?_)
     refine j_step rfl (x_ldR_vw vw_RatE 6 5 (k) rfl rfl rfl ld44 rfl (by omega) fun z1 hz1 g1=>?_)
     dsimp only [vw_RatE,List.cons_append,List.nil_append,List.map_cons,List.map_nil] --ok
     obtain rfl : z1 = rt (pgl k):=Option.some.inj (hz1.symm.trans z3)
     refine j_step rfl (x_call [0,1] rfl (S_rational_Neg (by first|omega|exact side _ (by assumption)|assumption|rfl|(simp;done)|(simp;omega)) (by first|omega|exact side _ (by assumption)|assumption|rfl|(simp;done)|(simp;omega))) rfl ?_)
     rintro _ _ _ ⟨pn1,cn1,pd1,cd1,rfl,rfl,rfl⟩
     simp only [List.cons_append,List.nil_append]
     simp only [vq_rt']
     refine j_step rfl (x_idx_own ((pos k) - (n0)) _ rfl rfl sl23 (by omega) (by omega) rfl ?_)
     refine j_step rfl (x_stR (vs:=[Value.bool (rt (-pgl k)).fst,Value.slice pn1 (rt (-pgl k)).snd.fst.length cn1,Value.slice pd1 (rt (-pgl k)).snd.snd.length cd1]) (z:=((rt (-pgl k)).fst,((rt (-pgl k)).snd.fst,(rt (-pgl k)).snd.snd))) 0 4 (pos k - n0) rfl rfl rfl rfl rfl ld44 rfl (by omega) (fun w A hG=>(rd_pair (v1:=[Value.bool (rt (-pgl k)).fst]) (rd_bool _) (rd_pair (v1:=[Value.slice pn1 (rt (-pgl k)).snd.fst.length cn1]) (rd_of_slF (hG _ (fact_mem (n:=0) rfl))) (rd_of_slF (hG _ (fact_mem (n:=1) rfl)))))) fun cs4=>?_)
     refine j_nf [.o (pL 1959) 0,.lp (pL 244),.blk 2,.c [1,1,1,1]] rfl ?_
     refine j_run it 2 rfl (by repeat' first | exact trivial | apply And.intro | omega) ?_
     refine j_nfn 1 [.lp (pL 244),.blk 2,.c [1,1,1,1]] rfl ?_
     rw [show ((rt (-pgl k)).1,(rt (-pgl k)).2.1,(rt (-pgl k)).2.2) = rt (-pgl k) from rfl,rl_set,← prc_in (p:=⟨m,n,pbs,pos,pfr,prw,pgl,pvv⟩) hv hv2]
     refine j_to [0,6,7,8,9,10,11,12,13] (by repeat (first | exact Fr.sub_nil _ | refine Fr.sub_cons rfl ?_ | refine Fr.sub_consI rfl (by first | omega | (dsimp only;omega)) ?_ | refine Fr.sub_consS rfl (by first | omega | (dsimp only;omega)) (by first | omega | (dsimp only;omega)) ?_)) rfl rfl (ih (k + 1,cs4) (by dsimp only;omega) (by dsimp only;omega))
    ·refine j_nf [.o (pL 488) 0,.c (pL 489),.lp (pL 244),.blk 2,.c [1,1,1,1]] rfl ?_
     refine j_run it 1 rfl (by simp) ?_
     refine j_nf [.c (pL 978),.c (pL 979),.lp (pL 244),.blk 2,.c [1,1,1,1]] rfl ?_
     refine j_if rfl rfl (fun h2=>?_) (fun h2=>by exfalso;omega)
     refine j_nf [.o (pL 7832) 0,.c (pL 7833),.blk 3,.c (pL 1959),.lp (pL 244),.blk 2,.c [1,1,1,1]] rfl ?_
     refine j_run it 1 rfl (by simp) ?_
     refine j_step rfl (x_idx_own (k) (k) rfl rfl sl67 rfl (by omega) (Nat.mul_one _) ?_)
     refine j_step rfl (x_ldR_int 3 2 (k) rfl rfl rfl ld3 rfl (by assumption) fun hr1=>?_)
     refine j_run it 2 rfl (by simp) ?_
     refine j_nf [.o (pL 15666) 0,.c (pL 15667),.blk 3,.c (pL 1959),.lp (pL 244),.blk 2,.c [1,1,1,1]] rfl ?_
     refine j_run it 4 rfl (by simp) ?_
     refine j_split_dec (t:=36) rfl (fun h3=>?_) (fun h3=>by exfalso;omega)
     refine j_run it 6 rfl (by repeat' first | exact trivial | apply And.intro | omega) ?_
     refine j_nf [.c (pL 15667),.blk 3,.c (pL 1959),.lp (pL 244),.blk 2,.c [1,1,1,1]] rfl ?_
     refine j_if rfl rfl (fun h4=>by exfalso;omega) (fun h4=>?_)
     refine j_nf [.o (pL 1959) 0,.lp (pL 244),.blk 2,.c [1,1,1,1]] rfl ?_
     refine j_run it 2 rfl (by repeat' first | exact trivial | apply And.intro | omega) ?_
     refine j_nfn 1 [.lp (pL 244),.blk 2,.c [1,1,1,1]] rfl ?_
     rw [← prc_out (p:=⟨m,n,pbs,pos,pfr,prw,pgl,pvv⟩) (fun h=>hv2 h.2)]
     refine j_to [0,1,2,3,4,5,6,7,8] (by repeat (first | exact Fr.sub_nil _ | refine Fr.sub_cons rfl ?_ | refine Fr.sub_consI rfl (by first | omega | (dsimp only;omega)) ?_ | refine Fr.sub_consS rfl (by first | omega | (dsimp only;omega)) (by first | omega | (dsimp only;omega)) ?_)) rfl rfl (ih (k + 1,cs3) (by dsimp only;omega) (by dsimp only;omega))
   ·refine j_nf [.o (pL 488) 0,.c (pL 489),.lp (pL 244),.blk 2,.c [1,1,1,1]] rfl ?_
    refine j_run it 1 rfl (by simp) ?_
    refine j_nf [.c (pL 978),.c (pL 979),.lp (pL 244),.blk 2,.c [1,1,1,1]] rfl ?_
    refine j_if rfl rfl (fun h2=>?_) (fun h2=>by exfalso;omega)
    refine j_nf [.o (pL 7832) 0,.c (pL 7833),.blk 3,.c (pL 1959),.lp (pL 244),.blk 2,.c [1,1,1,1]] rfl ?_
    refine j_run it 1 rfl (by simp) ?_
    refine j_step rfl (x_idx_own (k) (k) rfl rfl sl67 rfl (by omega) (Nat.mul_one _) ?_)
    refine j_step rfl (x_ldR_int 3 2 (k) rfl rfl rfl ld3 rfl (by assumption) fun hr1=>?_)
    refine j_run it 2 rfl (by simp) ?_
    refine j_nf [.o (pL 15666) 0,.c (pL 15667),.blk 3,.c (pL 1959),.lp (pL 244),.blk 2,.c [1,1,1,1]] rfl ?_
    refine j_run it 4 rfl (by simp) ?_
    refine j_split_dec (t:=36) rfl (fun h3=>by exfalso;omega) (fun h3=>?_)
    refine j_run it 6 rfl (by simp) ?_
    refine j_nf [.c (pL 15667),.blk 3,.c (pL 1959),.lp (pL 244),.blk 2,.c [1,1,1,1]] rfl ?_
    refine j_false rfl rfl ?_
    refine j_nf [.o (pL 1959) 0,.lp (pL 244),.blk 2,.c [1,1,1,1]] rfl ?_
    refine j_run it 2 rfl (by repeat' first | exact trivial | apply And.intro | omega) ?_
    refine j_nfn 1 [.lp (pL 244),.blk 2,.c [1,1,1,1]] rfl ?_
    rw [← prc_out (p:=⟨m,n,pbs,pos,pfr,prw,pgl,pvv⟩) (fun h=>hv h.1)]
    refine j_to [0,1,2,3,4,5,6,7,8] (by repeat (first | exact Fr.sub_nil _ | refine Fr.sub_cons rfl ?_ | refine Fr.sub_consI rfl (by first | omega | (dsimp only;omega)) ?_ | refine Fr.sub_consS rfl (by first | omega | (dsimp only;omega)) (by first | omega | (dsimp only;omega)) ?_)) rfl rfl (ih (k + 1,cs3) (by dsimp only;omega) (by dsimp only;omega))
  ·obtain rfl : n = k:=by omega
   refine j_nf [.o (pL 488) 0,.c (pL 489),.lp (pL 244),.blk 2,.c [1,1,1,1]] rfl ?_
   refine j_run it 1 rfl (by simp) ?_
   refine j_nf [.c (pL 978),.c (pL 979),.lp (pL 244),.blk 2,.c [1,1,1,1]] rfl ?_
   refine j_if rfl rfl (fun h2=>by exfalso;omega) (fun h2=>?_)
   refine j_nf [.o [1,1,1,1,0] 0,.c [1,1,1,1,1]] rfl ?_
   refine j_run it 2 rfl (by simp) ?_
   refine j_nf [.c [1,1,1,1,1]] rfl ?_
   refine j_pubR 0 0 rfl rfl (by show m0 * 56 ≤ 140737488355328;omega) ?_
   refine j_givK 6 [0,1,2,3,4,5] [0,2,3,4,5,6,7,8,9] rfl (.tmp rfl .nil) rfl rfl rfl ⟨_,_,rfl,rfl,rfl⟩
end Go.Proofs.Ythahejfpdhcpiaa

namespace Go.Proofs.Ythahejfpdhcpiaa
open Go Go.Fw
set_option maxRecDepth 100000
set_option linter.unusedVariables false
set_option linter.unusedSimpArgs false
set_option maxHeartbeats 8000000
def rayF (p : PD) (n0 j : Nat) : Nat → Nat → Rat
 | 0=>if p.os j < n0 then upd (fun _=>0) (p.os j) 1 else fun _=>0
 | k + 1=>if p.bs k < n0 then upd (rayF p n0 j k) (p.bs k) (-p.rw k j) else rayF p n0 j k
theorem rayF_in {p : PD} {n0 j k : Nat} (h : p.bs k < n0) : rayF p n0 j (k + 1) = upd (rayF p n0 j k) (p.bs k) (-p.rw k j):=by rw [rayF,if_pos h]
theorem rayF_out {p : PD} {n0 j k : Nat} (h : ¬ p.bs k < n0) : rayF p n0 j (k + 1) = rayF p n0 j k:=by rw [rayF,if_neg h]
theorem rayF_z {p : PD} {n0 j : Nat} (h : p.os j < n0) : rayF p n0 j 0 = upd (fun _=>0) (p.os j) 1:=by rw [rayF,if_pos h]
theorem rayF_n {p : PD} {n0 j : Nat} (h : ¬ p.os j < n0) : rayF p n0 j 0 = fun _=>0:=by rw [rayF,if_neg h]
abbrev RowX (b : Nat) (p : PD) (left : Int) (n0 : Nat) (f : Nat → Rat) : Value → List Fact → List Blk → Prop:=fun v Φ β=>∃ (x : DX) (pa : Option Addr) (ca : Nat),v = .slice pa n0 ca ∧ Φ = slF RatE pa n0 ca (rl n0 f)::dicF x p ∧ β = dicB b x p left
theorem S_simplex_dictionary__ray {b : Nat} {x : DX} {p : PD} {left : Int} {n0 j K : Nat} (hj : j < p.n) (hn0 : n0 ≤ 100) (hm : p.m ≤ 100) (hn : p.n ≤ 101) (hK : 1 ≤ K) (hK2 : K ≤ 1000000) (hrw : ∀ h,h < p.m → bd K (p.rw h j)) (hbs : ∀ h,h < p.m → p.bs h ≤ 1000000) (hos : p.os j ≤ 1000000) :
  Ctr Try.prog 47 [.pointer (some ⟨b,0,none⟩),.int .i64 n0,.int .i64 j] (dicB b x p left) (dicF x p) (RowX b p left n0 (rayF p n0 j p.m)):=by
 refine Ctr_of_j' (F:=F_simplex_dictionary__ray) rfl fun C=>?_
 obtain ⟨bs,os,fr,rw',gl,hd,cs,pn,cn,pd,cd⟩:=x
 obtain ⟨m,n,pbs,pos,pfr,prw,pgl,pvv⟩:=p
 simp only [dicB,dicF,dicC] at *
 refine j_nf [.o [0] 0,.c [1]] rfl ?_
 refine j_run it 1 rfl (by simp) ?_
 refine j_nf [.o [1,0] 0,.c [1,1]] rfl ?_
 refine j_run it 1 rfl (by simp) ?_
 refine j_step rfl (x_makeR RatE default (n0) _ rfl rfl sl23 zo23e rfl rfl by23e (by omega) (by omega) (by omega) rz44 fun b1 cs1=>?_)
 refine j_run it 1 rfl (by simp) ?_
 refine j_nf [.o [1,1,0,0] 0,.c [1,1,0,1],.c [1,1,1]] rfl ?_
 refine j_run it 1 rfl (by simp) ?_
 refine j_step rfl (x_len sl23 rfl ?_)
 refine j_run it 1 rfl (by simp) ?_
 refine j_nf [.c [1,1,0,1,0],.blk 0,.c [1,1,1]] rfl ?_
 rw [← mapTo_zero (fun _=>rt 0)]
 refine j_loopG (X:=Nat × List Value) [0,1,2,6,7,14] [1,2,3,4,5,6,7,8] (fun x=>[(15,.int .i64 (x.1 : Int))])
  (fun x=>(some b1,44,x.2)::(some b,69,[.slice (ad bs.bo) m bs.cap,.slice (ad os.bo) n os.cap,.slice (ad fr.bo) m fr.cap,.slice (ad rw'.bo) m rw'.cap,.slice (ad gl.bo) n gl.cap,.bool (rt pvv).1,.slice pn (rt pvv).2.1.length cn,.slice pd (rt pvv).2.2.length cd,.int .i64 left])::(bs.bo,3,bs.cs)::(os.bo,3,os.cs)::(fr.bo,44,fr.cs)::(rw'.bo,23,rw'.cs)::(gl.bo,44,gl.cs)::famB 44 hd cs m [])
  (fun x=>[rowF RatE ⟨some b1,n0,x.2⟩ n0 (mapTo (fun _=>rt 0) default n0 x.1)])
  (fun x=>x.1 ≤ n0) (fun x=>n0 - x.1) (0,cs1) [0] rfl rfl rfl (Nat.zero_le _) (by repeat (first | exact Fr.sub_nil _ | refine Fr.sub_cons rfl ?_)) rfl rfl ?_
 rintro ⟨k,cs2⟩ hk ih
 simp only [List.cons_append,List.nil_append] at hk ih ⊢
 by_cases hkl : k < n0
 ·refine j_nf [.o (pL 232) 0,.c (pL 233),.lp (pL 116),.blk 0,.c [1,1,1]] rfl ?_
  refine j_run it 1 rfl (by simp) ?_
  refine j_nf [.c (pL 466),.c (pL 467),.lp (pL 116),.blk 0,.c [1,1,1]] rfl ?_
  refine j_if rfl rfl (fun h1=>?_) (fun h1=>by exfalso;omega)
  refine j_nf [.o (pL 3736) 0,.c (pL 3737),.blk 1,.c (pL 935),.lp (pL 116),.blk 0,.c [1,1,1]] rfl ?_
  refine j_run it 2 rfl (by simp) ?_
  refine j_nf [.o (pL 3737) 0,.blk 1,.c (pL 935),.lp (pL 116),.blk 0,.c [1,1,1]] rfl ?_
  refine j_run it 2 rfl (by simp) ?_
  refine j_step rfl (x_call [] rfl (S_simplex_zero) rfl ?_)
  rintro _ _ _ ⟨pn1,cn1,pd1,cd1,rfl,rfl,rfl⟩
  simp only [List.cons_append,List.nil_append]
  refine j_step rfl (x_idx_own (k) _ rfl rfl sl23 rfl (by omega) rfl ?_)
  refine j_step rfl (x_stR (vs:=[Value.bool (rt 0).fst,Value.slice pn1 (rt 0).snd.fst.length cn1,Value.slice pd1 (rt 0).snd.snd.length cd1]) (z:=((rt 0).fst,((rt 0).snd.fst,(rt 0).snd.snd))) 0 2 (k) rfl rfl rfl rfl rfl ld44 rfl (by omega) (fun w A hG=>(rd_pair (v1:=[Value.bool (rt 0).fst]) (rd_bool _) (rd_pair (v1:=[Value.slice pn1 (rt 0).snd.fst.length cn1]) (rd_of_slF (hG _ (fact_mem (n:=0) rfl))) (rd_of_slF (hG _ (fact_mem (n:=1) rfl)))))) fun cs3=>?_)
  refine j_nf [.o (pL 935) 0,.lp (pL 116),.blk 0,.c [1,1,1]] rfl ?_
  refine j_run it 2 rfl (by repeat' first | exact trivial | apply And.intro | omega) ?_
  refine j_nfn 1 [.lp (pL 116),.blk 0,.c [1,1,1]] rfl ?_
  rw [show ((rt 0).1,(rt 0).2.1,(rt 0).2.2) = (fun _=>rt 0) k from rfl,mapTo_set (fun _=>rt 0)]
  refine j_to [0,4,5,6,7,8,9,10,11] (by repeat (first | exact Fr.sub_nil _ | refine Fr.sub_cons rfl ?_ | refine Fr.sub_consI rfl (by first | omega | (dsimp only;omega)) ?_ | refine Fr.sub_consS rfl (by first | omega | (dsimp only;omega)) (by first | omega | (dsimp only;omega)) ?_)) rfl rfl (ih (k + 1,cs3) (by dsimp only;omega) (by dsimp only;omega))
 ·obtain rfl : n0 = k:=by omega
  refine j_rowB 2 rfl (by omega) fun bos cos eos h=>?_
  subst h
  have w2:=il_get (f:=pos) hj
  have w5 : pos j ≤ 1000000:=hos
  by_cases hv : pos j < n0
  ·refine j_nf [.o (pL 232) 0,.c (pL 233),.lp (pL 116),.blk 0,.c [1,1,1]] rfl ?_
   refine j_run it 1 rfl (by simp) ?_
   refine j_nf [.c (pL 466),.c (pL 467),.lp (pL 116),.blk 0,.c [1,1,1]] rfl ?_
   refine j_if rfl rfl (fun h1=>by exfalso;omega) (fun h1=>?_)
   refine j_nf [.o [1,1,1,0,0] 0,.c [1,1,1,0,1],.c [1,1,1,1]] rfl ?_
   refine j_run it 2 rfl (by simp) ?_
   refine j_step rfl (x_field rfl fd69_1 ?_)
   refine j_step rfl (x_bld 1 rfl rfl ld67 rfl ?_)
   refine j_run it 1 rfl (by simp) ?_
   refine j_step rfl (x_idx_own (j) (j) rfl rfl sl67 rfl (by omega) (Nat.mul_one _) ?_)
   refine j_step rfl (x_ldR_int 3 2 (j) rfl rfl rfl ld3 rfl (by assumption) fun hr1=>?_)
   refine j_run it 2 rfl (by simp) ?_
   refine j_nf [.c [1,1,1,0,1],.c [1,1,1,1]] rfl ?_
   refine j_if rfl rfl (fun h2=>?_) (fun h2=>by exfalso;omega)
   (apply j_drawK it mx 9;(· rfl);(· rfl))
   (apply lxk_run 3;(· rfl);(· simp))
   (apply lxk_eq;(· rfl);(· exact d_x fun _=>x_field rfl fd69_1 dk_eq))
   (apply lxk_eq;(· rfl);(· exact d_bld 1 rfl rfl ld67 rfl))
   (apply lxk_run 1;(· rfl);(· simp))
   (apply lxk_eq;(· rfl);(· exact d_x fun _=>x_idx_own (j) (j) rfl rfl sl67 rfl (by omega) (Nat.mul_one _) dk_eq))
   (apply lxk_eq;(· rfl);(· exact d_ldR_int 3 2 (j) rfl rfl rfl ld3 rfl (by assumption)))
   (apply lxk_rq;(· rfl);(· exact d_x fun _=>x_call [] rfl (S_simplex_one) rfl (by rintro _ _ _ ⟨pn1,cn1,pd1,cd1,rfl,rfl,rfl⟩;exact (dk_rq 0 1 rfl rfl)));intro pn1 cn1 pd1 cd1)
   refine lxk_end rfl ?_
   simp only [List.map_cons,List.map_nil,List.cons_append,List.nil_append]
   refine j_step rfl (x_idx_own (pos j) _ rfl rfl sl23 rfl (by omega) rfl ?_)
   refine j_step rfl (x_stR (vs:=[Value.bool (rt 1).fst,Value.slice pn1 (rt 1).snd.fst.length cn1,Value.slice pd1 (rt 1).snd.snd.length cd1]) (z:=((rt 1).fst,((rt 1).snd.fst,(rt 1).snd.snd))) 0 2 (pos j) rfl rfl rfl rfl rfl ld44 rfl (by omega) (fun w A hG=>(rd_pair (v1:=[Value.bool (rt 1).fst]) (rd_bool _) (rd_pair (v1:=[Value.slice pn1 (rt 1).snd.fst.length cn1]) (rd_of_slF (hG _ (fact_mem (n:=0) rfl))) (rd_of_slF (hG _ (fact_mem (n:=1) rfl)))))) fun cs3=>?_)
   refine j_nf [.o (pL 124) 0,.c (pL 125),.c [1,1,1,1,1]] rfl ?_
   refine j_run it 2 rfl (by simp) ?_
   refine j_step rfl (x_field rfl fd69_0 ?_)
   refine j_step rfl (x_bld 1 rfl rfl ld67 rfl ?_)
   refine j_step rfl (x_len sl67 rfl ?_)
   refine j_run it 1 rfl (by simp) ?_
   refine j_nf [.c (pL 250),.blk 2,.c [1,1,1,1,1]] rfl ?_
   rw [mapTo_all,show (List.range n0).map (fun _=>rt 0) = rl n0 (fun _=>0) from rfl,show ((rt 1).1,(rt 1).2.1,(rt 1).2.2) = rt 1 from rfl,rl_set,← rayF_z (p:=⟨m,n,pbs,pos,pfr,prw,pgl,pvv⟩) hv]
   refine j_loopG (X:=Nat × List Value × (Nat → List Value)) [0,1,2,6,7,45,46] [4,5,6,7,8,10,11] (fun x=>[(47,.int .i64 (x.1 : Int))])
    (fun x=>(some b1,44,x.2.1)::(some b,69,[.slice (ad bs.bo) m bs.cap,.slice (ad (some bos)) n cos,.slice (ad fr.bo) m fr.cap,.slice (ad rw'.bo) m rw'.cap,.slice (ad gl.bo) n gl.cap,.bool (rt pvv).1,.slice pn (rt pvv).2.1.length cn,.slice pd (rt pvv).2.2.length cd,.int .i64 left])::(bs.bo,3,bs.cs)::(some bos,3,eos)::(fr.bo,44,fr.cs)::(rw'.bo,23,rw'.cs)::(gl.bo,44,gl.cs)::famB 44 hd x.2.2 m [])
    (fun x=>[rowF RatE ⟨some b1,n0,x.2.1⟩ n0 (rl n0 (rayF ⟨m,n,pbs,pos,pfr,prw,pgl,pvv⟩ n0 j x.1)),matF RatE hd x.2.2 (fun h=>rl n (prw h)) m []])
    (fun x=>x.1 ≤ m) (fun x=>m - x.1) (0,cs3,cs) [0,9] rfl rfl rfl (Nat.zero_le _) (by repeat (first | exact Fr.sub_nil _ | refine Fr.sub_cons rfl ?_)) rfl rfl ?_
   rintro ⟨k,cs3,cs⟩ hk ih
   simp only [List.cons_append,List.nil_append] at hk ih ⊢
   by_cases hkl : k < m
   ·refine j_hdlen 1 rfl fun hlen=>?_
    have hN : (hd k).2.1 = n:=by rw [hlen k hkl rfl,rl_len]
    refine j_rowB 2 rfl (by omega) fun bbs cbs ebs h=>?_
    subst h
    have w1:=il_get (f:=pbs) hkl
    have w4:=hbs k hkl
    obtain ⟨y3,y4⟩:=bd_len (hrw k hkl)
    by_cases hv : pbs k < n0
    ·refine j_focusL 7 (k) 1 (n) rfl rfl (by first | assumption | omega) (by first | rfl | assumption | (simp [memB_cons,memB];done) | (simp [memB_cons,memB];omega)) (by first | assumption | omega) fun r1 hr2=>?_
     simp only [List.take_succ_cons,List.take_zero,List.cons_append,List.nil_append]
     refine j_rowB 0 rfl (by omega) fun br cr er h=>?_
     subst h
     have z3:=rl_get (f:=prw k) hj
     refine j_nf [.o (pL 1000) 0,.c (pL 1001),.lp (pL 500),.blk 2,.c [1,1,1,1,1]] rfl ?_
     refine j_run it 1 rfl (by simp) ?_
     refine j_nf [.c (pL 2002),.c (pL 2003),.lp (pL 500),.blk 2,.c [1,1,1,1,1]] rfl ?_
     refine j_if rfl rfl (fun h3=>?_) (fun h3=>by exfalso;omega)
     refine j_nf [.o (pL 16024) 0,.c (pL 16025),.blk 3,.c (pL 4007),.lp (pL 500),.blk 2,.c [1,1,1,1,1]] rfl ?_
     refine j_run it 1 rfl (by simp) ?_
     refine j_step rfl (x_idx_own (k) (k) rfl rfl sl67 rfl (by omega) (Nat.mul_one _) ?_)
     refine j_step rfl (x_ldR_int 3 4 (k) rfl rfl rfl ld3 rfl (by assumption) fun hr3=>?_)
     refine j_run it 2 rfl (by simp) ?_
     refine j_nf [.o (pL 32050) 0,.c (pL 32051),.blk 3,.c (pL 4007),.lp (pL 500),.blk 2,.c [1,1,1,1,1]] rfl ?_
     refine j_run it 3 rfl (by simp) ?_
     refine j_nf [.c (pL 32051),.blk 3,.c (pL 4007),.lp (pL 500),.blk 2,.c [1,1,1,1,1]] rfl ?_
     refine j_if rfl rfl (fun h4=>?_) (fun h4=>by exfalso;omega)
     refine j_nf [.o (pL 64102) 0,.blk 3,.c (pL 4007),.lp (pL 500),.blk 2,.c [1,1,1,1,1]] rfl ?_
     refine j_run it 4 rfl (by simp) ?_
     refine j_step rfl (x_field rfl fd69_3 ?_)
     refine j_step rfl (x_bld 2 rfl rfl ld24 rfl ?_)
     refine j_run it 1 rfl (by simp) ?_
     refine j_rowB 7 rfl (by omega) fun b2 cap1 cs4 hr4=>?_
     subst hr4
     dsimp only
     refine j_step rfl (x_idx_own (k) (k) rfl rfl sl24 rfl (by omega) (Nat.mul_one _) ?_)
     refine j_step rfl (x_ldR_hd 6 7 (k) rfl rfl rfl ld23 rfl (by assumption) ?_)
     refine j_run it 1 rfl (by simp) ?_
     refine j_step rfl (x_idx_own (j) _ rfl rfl sl23 rfl (by omega) rfl ?_)
     refine j_step rfl (x_ldR_vw vw_RatE 0 0 (j) rfl rfl rfl ld44 rfl (by omega) fun z1 hz1 g1=>?_)
     dsimp only [vw_RatE,List.cons_append,List.nil_append,List.map_cons,List.map_nil] --ok
     obtain rfl : z1 = rt (prw k j):=Option.some.inj (hz1.symm.trans z3)
     refine j_step rfl (x_call [0,1] rfl (S_rational_Neg (by first|omega|exact side _ (by assumption)|assumption|rfl|(simp;done)|(simp;omega)) (by first|omega|exact side _ (by assumption)|assumption|rfl|(simp;done)|(simp;omega))) rfl ?_)
     rintro _ _ _ ⟨pn2,cn2,pd2,cd2,rfl,rfl,rfl⟩
     simp only [List.cons_append,List.nil_append]
     simp only [vq_rt']
     refine j_step rfl (x_idx_own (pbs k) _ rfl rfl sl23 rfl (by omega) rfl ?_)
     refine j_step rfl (x_stR (vs:=[Value.bool (rt (-prw k j)).fst,Value.slice pn2 (rt (-prw k j)).snd.fst.length cn2,Value.slice pd2 (rt (-prw k j)).snd.snd.length cd2]) (z:=((rt (-prw k j)).fst,((rt (-prw k j)).snd.fst,(rt (-prw k j)).snd.snd))) 1 6 (pbs k) rfl rfl rfl rfl rfl ld44 rfl (by omega) (fun w A hG=>(rd_pair (v1:=[Value.bool (rt (-prw k j)).fst]) (rd_bool _) (rd_pair (v1:=[Value.slice pn2 (rt (-prw k j)).snd.fst.length cn2]) (rd_of_slF (hG _ (fact_mem (n:=0) rfl))) (rd_of_slF (hG _ (fact_mem (n:=1) rfl)))))) fun cs5=>?_)
     refine j_nf [.o (pL 4007) 0,.lp (pL 500),.blk 2,.c [1,1,1,1,1]] rfl ?_
     refine j_run it 2 rfl (by repeat' first | exact trivial | apply And.intro | omega) ?_
     refine j_nfn 1 [.lp (pL 500),.blk 2,.c [1,1,1,1,1]] rfl ?_
     rw [show ((rt (-prw k j)).1,(rt (-prw k j)).2.1,(rt (-prw k j)).2.2) = rt (-prw k j) from rfl,rl_set,← rayF_in (p:=⟨m,n,pbs,pos,pfr,prw,pgl,pvv⟩) hv]
     refine j_unfocusL 7 (k) 0 5 6 rfl rfl rfl rfl (by first | assumption | omega) (by first | rfl | assumption | (simp [memB_cons,memB];done) | (simp [memB_cons,memB];omega)) ?_
     simp only [List.eraseIdx_cons_zero,List.eraseIdx_cons_succ,List.take_succ_cons,List.take_zero,List.cons_append,List.nil_append]
     rw [upd_id (hdl_at (by assumption) hkl)]
     refine j_matCongrS (fun g=>rl n (prw g)) 0 rfl (fun g _ _=>by
       by_cases e : g = k
       ·subst e;rw [upd_self]
       ·rw [upd_ne e]) ?_
     refine j_to [2,0,11,12,13,14,15,16,17] (by repeat (first | exact Fr.sub_nil _ | refine Fr.sub_cons rfl ?_ | refine Fr.sub_consI rfl (by first | omega | (dsimp only;omega)) ?_ | refine Fr.sub_consS rfl (by first | omega | (dsimp only;omega)) (by first | omega | (dsimp only;omega)) ?_)) rfl rfl (ih (k + 1,cs5,upd cs k er) (by dsimp only;omega) (by dsimp only;omega))
    ·refine j_nf [.o (pL 1000) 0,.c (pL 1001),.lp (pL 500),.blk 2,.c [1,1,1,1,1]] rfl ?_
     refine j_run it 1 rfl (by simp) ?_
     refine j_nf [.c (pL 2002),.c (pL 2003),.lp (pL 500),.blk 2,.c [1,1,1,1,1]] rfl ?_
     refine j_if rfl rfl (fun h3=>?_) (fun h3=>by exfalso;omega)
     refine j_nf [.o (pL 16024) 0,.c (pL 16025),.blk 3,.c (pL 4007),.lp (pL 500),.blk 2,.c [1,1,1,1,1]] rfl ?_
     refine j_run it 1 rfl (by simp) ?_
     refine j_step rfl (x_idx_own (k) (k) rfl rfl sl67 rfl (by omega) (Nat.mul_one _) ?_)
     refine j_step rfl (x_ldR_int 2 2 (k) rfl rfl rfl ld3 rfl (by assumption) fun hr2=>?_)
     refine j_run it 2 rfl (by simp) ?_
     refine j_nf [.o (pL 32050) 0,.c (pL 32051),.blk 3,.c (pL 4007),.lp (pL 500),.blk 2,.c [1,1,1,1,1]] rfl ?_
     refine j_run it 3 rfl (by simp) ?_
     refine j_nf [.c (pL 32051),.blk 3,.c (pL 4007),.lp (pL 500),.blk 2,.c [1,1,1,1,1]] rfl ?_
     refine j_if rfl rfl (fun h4=>by exfalso;omega) (fun h4=>?_)
     refine j_nf [.o (pL 4007) 0,.lp (pL 500),.blk 2,.c [1,1,1,1,1]] rfl ?_
     refine j_run it 2 rfl (by repeat' first | exact trivial | apply And.intro | omega) ?_
     refine j_nfn 1 [.lp (pL 500),.blk 2,.c [1,1,1,1,1]] rfl ?_
     rw [← rayF_out (p:=⟨m,n,pbs,pos,pfr,prw,pgl,pvv⟩) hv]
     refine j_to [0,1,2,3,4,5,6,7,8] (by repeat (first | exact Fr.sub_nil _ | refine Fr.sub_cons rfl ?_ | refine Fr.sub_consI rfl (by first | omega | (dsimp only;omega)) ?_ | refine Fr.sub_consS rfl (by first | omega | (dsimp only;omega)) (by first | omega | (dsimp only;omega)) ?_)) rfl rfl (ih (k + 1,cs3,cs) (by dsimp only;omega) (by dsimp only;omega))
   ·obtain rfl : m = k:=by omega
    refine j_nf [.o (pL 1000) 0,.c (pL 1001),.lp (pL 500),.blk 2,.c [1,1,1,1,1]] rfl ?_
    refine j_run it 1 rfl (by simp) ?_
    refine j_nf [.c (pL 2002),.c (pL 2003),.lp (pL 500),.blk 2,.c [1,1,1,1,1]] rfl ?_
    refine j_if rfl rfl (fun h3=>by exfalso;omega) (fun h3=>?_)
    refine j_nf [.o (pL 126) 0,.c (pL 127)] rfl ?_
    refine j_run it 2 rfl (by simp) ?_
    refine j_nf [.c (pL 127)] rfl ?_
    refine j_pubR 0 0 rfl rfl (by show n0 * 56 ≤ 140737488355328;omega) ?_
    refine j_givK 6 [0,1,2,3,4,5] [0,3,4,5,6,7,2,8,9] rfl (.tmp rfl .nil) rfl rfl rfl ⟨⟨bs,⟨some bos,cos,eos⟩,fr,rw',gl,hd,cs,pn,cn,pd,cd⟩,_,_,rfl,rfl,rfl⟩
  ·refine j_nf [.o (pL 232) 0,.c (pL 233),.lp (pL 116),.blk 0,.c [1,1,1]] rfl ?_
   refine j_run it 1 rfl (by simp) ?_
   refine j_nf [.c (pL 466),.c (pL 467),.lp (pL 116),.blk 0,.c [1,1,1]] rfl ?_
   refine j_if rfl rfl (fun h1=>by exfalso;omega) (fun h1=>?_)
   refine j_nf [.o [1,1,1,0,0] 0,.c [1,1,1,0,1],.c [1,1,1,1]] rfl ?_
   refine j_run it 2 rfl (by simp) ?_
   refine j_step rfl (x_field rfl fd69_1 ?_)
   refine j_step rfl (x_bld 1 rfl rfl ld67 rfl ?_)
   refine j_run it 1 rfl (by simp) ?_
   refine j_step rfl (x_idx_own (j) (j) rfl rfl sl67 rfl (by omega) (Nat.mul_one _) ?_)
   refine j_step rfl (x_ldR_int 3 2 (j) rfl rfl rfl ld3 rfl (by assumption) fun hr1=>?_)
   refine j_run it 2 rfl (by simp) ?_
   refine j_nf [.c [1,1,1,0,1],.c [1,1,1,1]] rfl ?_
   refine j_if rfl rfl (fun h2=>by exfalso;omega) (fun h2=>?_)
   refine j_nf [.o (pL 124) 0,.c (pL 125),.c [1,1,1,1,1]] rfl ?_
   refine j_run it 2 rfl (by simp) ?_
   refine j_step rfl (x_field rfl fd69_0 ?_)
   refine j_step rfl (x_bld 1 rfl rfl ld67 rfl ?_)
   refine j_step rfl (x_len sl67 rfl ?_)
   refine j_run it 1 rfl (by simp) ?_
   refine j_nf [.c (pL 250),.blk 2,.c [1,1,1,1,1]] rfl ?_
   rw [mapTo_all,show (List.range n0).map (fun _=>rt 0) = rl n0 (fun _=>0) from rfl,← rayF_n (p:=⟨m,n,pbs,pos,pfr,prw,pgl,pvv⟩) hv]
   refine j_loopG (X:=Nat × List Value × (Nat → List Value)) [0,1,2,6,7,45,46] [1,2,3,4,5,7,8] (fun x=>[(47,.int .i64 (x.1 : Int))])
    (fun x=>(some b1,44,x.2.1)::(some b,69,[.slice (ad bs.bo) m bs.cap,.slice (ad (some bos)) n cos,.slice (ad fr.bo) m fr.cap,.slice (ad rw'.bo) m rw'.cap,.slice (ad gl.bo) n gl.cap,.bool (rt pvv).1,.slice pn (rt pvv).2.1.length cn,.slice pd (rt pvv).2.2.length cd,.int .i64 left])::(bs.bo,3,bs.cs)::(some bos,3,eos)::(fr.bo,44,fr.cs)::(rw'.bo,23,rw'.cs)::(gl.bo,44,gl.cs)::famB 44 hd x.2.2 m [])
    (fun x=>[rowF RatE ⟨some b1,n0,x.2.1⟩ n0 (rl n0 (rayF ⟨m,n,pbs,pos,pfr,prw,pgl,pvv⟩ n0 j x.1)),matF RatE hd x.2.2 (fun h=>rl n (prw h)) m []])
    (fun x=>x.1 ≤ m) (fun x=>m - x.1) (0,cs2,cs) [0,6] rfl rfl rfl (Nat.zero_le _) (by repeat (first | exact Fr.sub_nil _ | refine Fr.sub_cons rfl ?_)) rfl rfl ?_
   rintro ⟨k,cs3,cs⟩ hk ih
   simp only [List.cons_append,List.nil_append] at hk ih ⊢
   by_cases hkl : k < m
   ·refine j_hdlen 1 rfl fun hlen=>?_
    have hN : (hd k).2.1 = n:=by rw [hlen k hkl rfl,rl_len]
    refine j_rowB 2 rfl (by omega) fun bbs cbs ebs h=>?_
    subst h
    have w1:=il_get (f:=pbs) hkl
    have w4:=hbs k hkl
    obtain ⟨y3,y4⟩:=bd_len (hrw k hkl)
    by_cases hv : pbs k < n0
    ·refine j_focusL 7 (k) 1 (n) rfl rfl (by first | assumption | omega) (by first | rfl | assumption | (simp [memB_cons,memB];done) | (simp [memB_cons,memB];omega)) (by first | assumption | omega) fun r1 hr2=>?_
     simp only [List.take_succ_cons,List.take_zero,List.cons_append,List.nil_append]
     refine j_rowB 0 rfl (by omega) fun br cr er h=>?_
     subst h
     have z3:=rl_get (f:=prw k) hj
     refine j_nf [.o (pL 1000) 0,.c (pL 1001),.lp (pL 500),.blk 2,.c [1,1,1,1,1]] rfl ?_
     refine j_run it 1 rfl (by simp) ?_
     refine j_nf [.c (pL 2002),.c (pL 2003),.lp (pL 500),.blk 2,.c [1,1,1,1,1]] rfl ?_
     refine j_if rfl rfl (fun h3=>?_) (fun h3=>by exfalso;omega)
     refine j_nf [.o (pL 16024) 0,.c (pL 16025),.blk 3,.c (pL 4007),.lp (pL 500),.blk 2,.c [1,1,1,1,1]] rfl ?_
     refine j_run it 1 rfl (by simp) ?_
     refine j_step rfl (x_idx_own (k) (k) rfl rfl sl67 rfl (by omega) (Nat.mul_one _) ?_)
     refine j_step rfl (x_ldR_int 3 4 (k) rfl rfl rfl ld3 rfl (by assumption) fun hr3=>?_)
     refine j_run it 2 rfl (by simp) ?_
     refine j_nf [.o (pL 32050) 0,.c (pL 32051),.blk 3,.c (pL 4007),.lp (pL 500),.blk 2,.c [1,1,1,1,1]] rfl ?_
     refine j_run it 3 rfl (by simp) ?_
     refine j_nf [.c (pL 32051),.blk 3,.c (pL 4007),.lp (pL 500),.blk 2,.c [1,1,1,1,1]] rfl ?_
     refine j_if rfl rfl (fun h4=>?_) (fun h4=>by exfalso;omega)
     refine j_nf [.o (pL 64102) 0,.blk 3,.c (pL 4007),.lp (pL 500),.blk 2,.c [1,1,1,1,1]] rfl ?_
     refine j_run it 4 rfl (by simp) ?_
     refine j_step rfl (x_field rfl fd69_3 ?_)
     refine j_step rfl (x_bld 2 rfl rfl ld24 rfl ?_)
     refine j_run it 1 rfl (by simp) ?_
     refine j_rowB 7 rfl (by omega) fun b2 cap1 cs4 hr4=>?_
     subst hr4
     dsimp only
     refine j_step rfl (x_idx_own (k) (k) rfl rfl sl24 rfl (by omega) (Nat.mul_one _) ?_)
     refine j_step rfl (x_ldR_hd 6 7 (k) rfl rfl rfl ld23 rfl (by assumption) ?_)
     refine j_run it 1 rfl (by simp) ?_
     refine j_step rfl (x_idx_own (j) _ rfl rfl sl23 rfl (by omega) rfl ?_)
     refine j_step rfl (x_ldR_vw vw_RatE 0 0 (j) rfl rfl rfl ld44 rfl (by omega) fun z1 hz1 g1=>?_)
     dsimp only [vw_RatE,List.cons_append,List.nil_append,List.map_cons,List.map_nil] --ok
     obtain rfl : z1 = rt (prw k j):=Option.some.inj (hz1.symm.trans z3)
     refine j_step rfl (x_call [0,1] rfl (S_rational_Neg (by first|omega|exact side _ (by assumption)|assumption|rfl|(simp;done)|(simp;omega)) (by first|omega|exact side _ (by assumption)|assumption|rfl|(simp;done)|(simp;omega))) rfl ?_)
     rintro _ _ _ ⟨pn1,cn1,pd1,cd1,rfl,rfl,rfl⟩
     simp only [List.cons_append,List.nil_append]
     simp only [vq_rt']
     refine j_step rfl (x_idx_own (pbs k) _ rfl rfl sl23 rfl (by omega) rfl ?_)
     refine j_step rfl (x_stR (vs:=[Value.bool (rt (-prw k j)).fst,Value.slice pn1 (rt (-prw k j)).snd.fst.length cn1,Value.slice pd1 (rt (-prw k j)).snd.snd.length cd1]) (z:=((rt (-prw k j)).fst,((rt (-prw k j)).snd.fst,(rt (-prw k j)).snd.snd))) 1 6 (pbs k) rfl rfl rfl rfl rfl ld44 rfl (by omega) (fun w A hG=>(rd_pair (v1:=[Value.bool (rt (-prw k j)).fst]) (rd_bool _) (rd_pair (v1:=[Value.slice pn1 (rt (-prw k j)).snd.fst.length cn1]) (rd_of_slF (hG _ (fact_mem (n:=0) rfl))) (rd_of_slF (hG _ (fact_mem (n:=1) rfl)))))) fun cs5=>?_)
     refine j_nf [.o (pL 4007) 0,.lp (pL 500),.blk 2,.c [1,1,1,1,1]] rfl ?_
     refine j_run it 2 rfl (by repeat' first | exact trivial | apply And.intro | omega) ?_
     refine j_nfn 1 [.lp (pL 500),.blk 2,.c [1,1,1,1,1]] rfl ?_
     rw [show ((rt (-prw k j)).1,(rt (-prw k j)).2.1,(rt (-prw k j)).2.2) = rt (-prw k j) from rfl,rl_set,← rayF_in (p:=⟨m,n,pbs,pos,pfr,prw,pgl,pvv⟩) hv]
     refine j_unfocusL 7 (k) 0 5 6 rfl rfl rfl rfl (by first | assumption | omega) (by first | rfl | assumption | (simp [memB_cons,memB];done) | (simp [memB_cons,memB];omega)) ?_
     simp only [List.eraseIdx_cons_zero,List.eraseIdx_cons_succ,List.take_succ_cons,List.take_zero,List.cons_append,List.nil_append]
     rw [upd_id (hdl_at (by assumption) hkl)]
     refine j_matCongrS (fun g=>rl n (prw g)) 0 rfl (fun g _ _=>by
       by_cases e : g = k
       ·subst e;rw [upd_self]
       ·rw [upd_ne e]) ?_
     refine j_to [2,0,11,12,13,14,15,16,17] (by repeat (first | exact Fr.sub_nil _ | refine Fr.sub_cons rfl ?_ | refine Fr.sub_consI rfl (by first | omega | (dsimp only;omega)) ?_ | refine Fr.sub_consS rfl (by first | omega | (dsimp only;omega)) (by first | omega | (dsimp only;omega)) ?_)) rfl rfl (ih (k + 1,cs5,upd cs k er) (by dsimp only;omega) (by dsimp only;omega))
    ·refine j_nf [.o (pL 1000) 0,.c (pL 1001),.lp (pL 500),.blk 2,.c [1,1,1,1,1]] rfl ?_
     refine j_run it 1 rfl (by simp) ?_
     refine j_nf [.c (pL 2002),.c (pL 2003),.lp (pL 500),.blk 2,.c [1,1,1,1,1]] rfl ?_
     refine j_if rfl rfl (fun h3=>?_) (fun h3=>by exfalso;omega)
     refine j_nf [.o (pL 16024) 0,.c (pL 16025),.blk 3,.c (pL 4007),.lp (pL 500),.blk 2,.c [1,1,1,1,1]] rfl ?_
     refine j_run it 1 rfl (by simp) ?_
     refine j_step rfl (x_idx_own (k) (k) rfl rfl sl67 rfl (by omega) (Nat.mul_one _) ?_)
     refine j_step rfl (x_ldR_int 2 2 (k) rfl rfl rfl ld3 rfl (by assumption) fun hr2=>?_)
     refine j_run it 2 rfl (by simp) ?_
     refine j_nf [.o (pL 32050) 0,.c (pL 32051),.blk 3,.c (pL 4007),.lp (pL 500),.blk 2,.c [1,1,1,1,1]] rfl ?_
     refine j_run it 3 rfl (by simp) ?_
     refine j_nf [.c (pL 32051),.blk 3,.c (pL 4007),.lp (pL 500),.blk 2,.c [1,1,1,1,1]] rfl ?_
     refine j_if rfl rfl (fun h4=>by exfalso;omega) (fun h4=>?_)
     refine j_nf [.o (pL 4007) 0,.lp (pL 500),.blk 2,.c [1,1,1,1,1]] rfl ?_
     refine j_run it 2 rfl (by repeat' first | exact trivial | apply And.intro | omega) ?_
     refine j_nfn 1 [.lp (pL 500),.blk 2,.c [1,1,1,1,1]] rfl ?_
     rw [← rayF_out (p:=⟨m,n,pbs,pos,pfr,prw,pgl,pvv⟩) hv]
     refine j_to [0,1,2,3,4,5,6,7,8] (by repeat (first | exact Fr.sub_nil _ | refine Fr.sub_cons rfl ?_ | refine Fr.sub_consI rfl (by first | omega | (dsimp only;omega)) ?_ | refine Fr.sub_consS rfl (by first | omega | (dsimp only;omega)) (by first | omega | (dsimp only;omega)) ?_)) rfl rfl (ih (k + 1,cs3,cs) (by dsimp only;omega) (by dsimp only;omega))
   ·obtain rfl : m = k:=by omega
    refine j_nf [.o (pL 1000) 0,.c (pL 1001),.lp (pL 500),.blk 2,.c [1,1,1,1,1]] rfl ?_
    refine j_run it 1 rfl (by simp) ?_
    refine j_nf [.c (pL 2002),.c (pL 2003),.lp (pL 500),.blk 2,.c [1,1,1,1,1]] rfl ?_
    refine j_if rfl rfl (fun h3=>by exfalso;omega) (fun h3=>?_)
    refine j_nf [.o (pL 126) 0,.c (pL 127)] rfl ?_
    refine j_run it 2 rfl (by simp) ?_
    refine j_nf [.c (pL 127)] rfl ?_
    refine j_pubR 0 0 rfl rfl (by show n0 * 56 ≤ 140737488355328;omega) ?_
    refine j_givK 6 [0,1,2,3,4,5] [0,3,4,5,6,7,2,8,9] rfl (.tmp rfl .nil) rfl rfl rfl ⟨⟨bs,⟨some bos,cos,eos⟩,fr,rw',gl,hd,cs,pn,cn,pd,cd⟩,_,_,rfl,rfl,rfl⟩
end Go.Proofs.Ythahejfpdhcpiaa

namespace Go.Proofs.Ythahejfpdhcpiaa
open Go Go.Fw
set_option maxRecDepth 100000
set_option linter.unusedVariables false
set_option linter.unusedSimpArgs false
set_option maxHeartbeats 8000000
theorem S_rational_Add {pa : Option Addr} {n ca K : Nat} {ls : List Rt} (hK : 1 ≤ K) (hL : ∀ r ∈ ls,r.2.1.length ≤ K ∧ r.2.2.length ≤ K) (hn : (K + 1) * ls.length ≤ 33554432) :
  Ctr Try.prog 81 [.slice pa n ca] [] [slF RatE pa n ca ls] (RtV (rt (sumQ ls))):=by
 refine Ctr_of_j' (F:=F_rational_Add) rfl fun C=>?_
 refine j_len 0 rfl fun e1 hb _=>?_
 subst e1
 have hb' : ls.length * 56 ≤ 140737488355328:=hb
 refine rts_range 0 rfl fun hr=>?_
 have hok : ∀ r ∈ ls,okR K r:=fun r h=>⟨(hr r h).1,(hr r h).2,(hL r h).1,(hL r h).2⟩
 refine j_add (slF U32 none 0 0 []) (fun w A _=>slF_nil _ _ _ _ _) ?_
 refine j_nf [.o [0] 0,.c [1]] rfl ?_
 refine j_step rfl (x_alloc zo44 fun b1=>?_)
 refine j_nf [.o [1,0] 0,.c [1,1]] rfl ?_
 refine j_step rfl (x_call [] rfl (S_rational_one) rfl ?_)
 rintro _ _ _ ⟨pa1,ca1,rfl,rfl,rfl⟩
 simp only [List.cons_append,List.nil_append]
 refine j_step rfl (x_build (cs:=[Value.bool false,Value.slice none 0 0,Value.slice pa1 [1].length ca1]) st44 zo44 rfl rfl ?_)
 refine j_step rfl (x_alloc zo44 fun b2=>?_)
 refine j_step rfl (x_bst_all 0 rfl rfl rfl ld44 rfl rfl (by simp [Value.oneCell']) ?_)
 refine j_nf [.o [1,1,0,0] 0,.c [1,1,0,1],.c [1,1,1]] rfl ?_
 refine j_run it 1 rfl (by simp) ?_
 refine j_step rfl (x_len sl23 rfl ?_)
 refine j_run it 1 rfl (by simp) ?_
 refine j_nf [.c [1,1,0,1,0],.blk 0,.c [1,1,1]] rfl ?_
 simp only [setB]
 refine j_loopG (X:=Nat × Rat × (Option Addr × Nat) × (Option Addr × Nat)) [2,3,8,9] [2] (fun x=>[(10,.int .i64 (x.1 : Int))])
  (fun x=>[(some b2,44,[.bool (rt x.2.1).1,.slice x.2.2.1.1 (rt x.2.1).2.1.length x.2.2.1.2,.slice x.2.2.2.1 (rt x.2.1).2.2.length x.2.2.2.2]),(some b1,44,[.bool false,.slice none 0 0,.slice none 0 0])]) (fun x=>[slF U32 x.2.2.1.1 (rt x.2.1).2.1.length x.2.2.1.2 (rt x.2.1).2.1,slF U32 x.2.2.2.1 (rt x.2.1).2.2.length x.2.2.2.2 (rt x.2.1).2.2])
  (fun x=>x.1 ≤ ls.length ∧ x.2.1 = sumQ (ls.take x.1) ∧ bd ((K + 1) * x.1 + 1) x.2.1) (fun x=>ls.length - x.1) (0,0,(none,0),(pa1,ca1)) [1,0] rfl rfl rfl ⟨Nat.zero_le _,by simp [sumQ],bd_zero (by omega)⟩ (by repeat (first | exact Fr.sub_nil _ | refine Fr.sub_cons rfl ?_)) (by rw [rt_zero];rfl) (by rw [rt_zero];rfl) ?_
 rintro ⟨k,q,⟨pn,cn⟩,⟨pd,cd⟩⟩ ⟨hk,hq,hbq⟩ ih
 simp only [List.cons_append,List.nil_append] at hk hq hbq ih ⊢
 by_cases hkl : k < ls.length
 ·have hKk : (K + 1) * k + (K + 1) ≤ (K + 1) * ls.length:=by rw [← Nat.mul_succ];exact Nat.mul_le_mul_left _ hkl
  obtain ⟨z,hz⟩ : ∃ z,ls[k]? = some z:=⟨_,List.getElem?_eq_getElem hkl⟩
  have hm:=List.mem_of_getElem? hz
  obtain ⟨zg,zN,zD⟩:=z
  obtain ⟨y1,y2,y3,y4⟩:=hok _ hm
  obtain ⟨w1,w2⟩:=rt_len (g:=zg) (N:=zN) (D:=zD) y1 y2 y3 y4 hK
  obtain ⟨w3,w4⟩:=bd_len hbq
  dsimp only at y3 y4 ⊢
  refine j_nf [.o (pL 232) 0,.c (pL 233),.lp (pL 116),.blk 0,.c [1,1,1]] rfl ?_
  refine j_run it 1 rfl (by simp) ?_
  refine j_nf [.c (pL 466),.c (pL 467),.lp (pL 116),.blk 0,.c [1,1,1]] rfl ?_
  refine j_if rfl rfl (fun h1=>?_) (fun h1=>by exfalso;omega)
  refine j_nf [.o (pL 3736) 0,.c (pL 3737),.blk 1,.c (pL 935),.lp (pL 116),.blk 0,.c [1,1,1]] rfl ?_
  refine j_step rfl (x_idx 2 (k) rfl rfl rfl sl23 rfl (by omega) fun z1 hz1 b3 o1=>?_)
  refine j_step rfl (x_ld_rt 0 rfl rfl ld44 fun pa2 ca2 pa3 ca3=>?_)
  refine j_step rfl (x_alloc zo44 fun b4=>?_)
  obtain rfl : z1 = (zg,zN,zD):=Option.some.inj (hz1.symm.trans hz)
  have hst : bd ((K + 1) * (k + 1) + 1) (q + vq (zg,zN,zD)):=by
   have h1:=bd_add hbq (bd_vq (r:=(zg,zN,zD)) y1 y2 y3 y4 hK)
   have e : (K + 1) * (k + 1) = (K + 1) * k + (K + 1):=Nat.mul_succ _ _
   exact bd_mono h1 (by omega)
  refine j_step rfl (x_bst_all 0 rfl rfl rfl ld44 rfl rfl (by simp [Value.oneCell']) ?_)
  refine j_nf [.c (pL 3737),.blk 1,.c (pL 935),.lp (pL 116),.blk 0,.c [1,1,1]] rfl ?_
  (apply j_drawK it mx 4;(· rfl);(· rfl))
  (apply lxk_eq;(· rfl);(· exact d_bld_all 1 rfl rfl ld44 rfl))
  (apply lxk_eq;(· rfl);(· exact d_bld_all 0 rfl rfl ld44 rfl))
  (apply lxk_rq;(· rfl);(· exact d_x fun _=>x_call [0,1] rfl (S_rational_Trim (by first|omega|exact side _ (by assumption)|assumption|rfl|(simp;done)|(simp;omega)) (by first|omega|exact side _ (by assumption)|assumption|rfl|(simp;done)|(simp;omega))) rfl (by rintro _ _ _ ⟨pn1,cn1,pd1,cd1,rfl,rfl,rfl⟩;exact (dk_rq 0 1 rfl rfl)));intro pn1 cn1 pd1 cd1)
  simp only [vq_rt']
  (apply lxk_rq;(· rfl);(· exact d_x fun _=>x_call [5,6,0,1] rfl (S_rational_plus (by first|omega|exact side _ (by assumption)|assumption|rfl|(simp;done)|(simp;omega)) (by first|omega|exact side _ (by assumption)|assumption|rfl|(simp;done)|(simp;omega)) (by first|omega|exact side _ (by assumption)|assumption|rfl|(simp;done)|(simp;omega)) (by first|omega|exact side _ (by assumption)|assumption|rfl|(simp;done)|(simp;omega)) (by first|omega|exact side _ (by assumption)|assumption|rfl|(simp;done)|(simp;omega)) (by first|omega|exact side _ (by assumption)|assumption|rfl|(simp;done)|(simp;omega))) rfl (by rintro _ _ _ ⟨pn2,cn2,pd2,cd2,rfl,rfl,rfl⟩;exact (dk_rq 0 1 rfl rfl)));intro pn2 cn2 pd2 cd2)
  simp only [vq_rt']
  refine lxk_end rfl ?_
  simp only [List.map_cons,List.map_nil,List.cons_append,List.nil_append]
  refine j_step rfl (x_bst_all 1 rfl rfl rfl ld44 rfl rfl (by simp [Value.oneCell']) ?_)
  refine j_nf [.o (pL 935) 0,.lp (pL 116),.blk 0,.c [1,1,1]] rfl ?_
  refine j_run it 2 rfl (by repeat' first | exact trivial | apply And.intro | omega) ?_
  refine j_nfn 1 [.lp (pL 116),.blk 0,.c [1,1,1]] rfl ?_
  refine j_toM [false,true,true] [0,1,9] (by repeat (first | exact Fr.sub_nil _ | refine Fr.sub_cons rfl ?_ | refine Fr.sub_consI rfl (by first | omega | (dsimp only;omega)) ?_ | refine Fr.sub_consS rfl (by first | omega | (dsimp only;omega)) (by first | omega | (dsimp only;omega)) ?_)) rfl rfl (ih (k + 1,q + vq (zg,zN,zD),(pn2,cn2),(pd2,cd2)) (by simp only;omega) ⟨by simp only;omega,by simp only;rw [sumQ_take hz,hq],hst⟩)
 ·have ek : k = ls.length:=by omega
  subst ek
  rw [List.take_length] at hq
  subst hq
  refine j_nf [.o (pL 232) 0,.c (pL 233),.lp (pL 116),.blk 0,.c [1,1,1]] rfl ?_
  refine j_run it 1 rfl (by simp) ?_
  refine j_nf [.c (pL 466),.c (pL 467),.lp (pL 116),.blk 0,.c [1,1,1]] rfl ?_
  refine j_if rfl rfl (fun h1=>by exfalso;omega) (fun h1=>?_)
  refine j_nf [.o [1,1,1,0] 0,.c [1,1,1,1]] rfl ?_
  refine j_step rfl (x_bld_all 0 rfl rfl ld44 rfl ?_)
  refine j_step rfl (x_bst_all 1 rfl rfl rfl ld44 rfl rfl (by simp [Value.oneCell']) ?_)
  refine j_nf [.c [1,1,1,1]] rfl ?_
  simp only [setB]
  refine j_givC [0,1] rfl (.agg 1 rfl rfl ld44 rfl .nil) rfl ⟨_,_,_,_,rfl,rfl,rfl⟩
end Go.Proofs.Ythahejfpdhcpiaa
