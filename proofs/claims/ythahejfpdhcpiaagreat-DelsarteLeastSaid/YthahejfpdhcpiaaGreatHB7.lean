/-
The objective is set. The dictionary of the slacks. The outer variable that enters. The basic variable that leaves. The climb by Bland's rule. The prices. The direction of a ray. The first phase. The artificial variable goes. What Solve returns, in plain numbers. The walk of Solve.
-/
import Derived.Test.YthahejfpdhcpiaaGreatHB6
set_option linter.unusedVariables false
set_option linter.unusedSimpArgs false
namespace Go.Proofs.YthahejfpdhcpiaaGreat
open Go Go.Fw
set_option maxRecDepth 100000
set_option linter.unusedVariables false
set_option linter.unusedSimpArgs false
set_option maxHeartbeats 8000000
def aG0 (p : PD) (n0 : Nat) (Cv : Nat → Rat) (c : Nat) : Rat:=if p.os c < n0 then Cv (p.os c) else 0
def aCB (p : PD) (n0 : Nat) (Cv : Nat → Rat) (h : Nat) : Rat:=if p.bs h < n0 then Cv (p.bs h) else 0
def aG1 (p : PD) (n0 : Nat) (Cv : Nat → Rat) (k c : Nat) : Rat:=if c < k then aG0 p n0 Cv c else p.gl c
def aG2 (p : PD) (n0 : Nat) (Cv : Nat → Rat) (h c : Nat) : Rat:=aG0 p n0 Cv c - rs h (fun i=>aCB p n0 Cv i * p.rw i c)
def aG3 (p : PD) (n0 : Nat) (Cv : Nat → Rat) (h k c : Nat) : Rat:=if c < k then aG2 p n0 Cv (h + 1) c else aG2 p n0 Cv h c
def aV2 (p : PD) (n0 : Nat) (Cv : Nat → Rat) (h : Nat) : Rat:=rs h (fun i=>aCB p n0 Cv i * p.fr i)
section
variable {p : PD} {n0 : Nat} {Cv : Nat → Rat}
theorem aG1_zero : aG1 p n0 Cv 0 = p.gl:=by funext c;rw [aG1,if_neg (Nat.not_lt_zero _)]
theorem aG1_all : rl p.n (aG1 p n0 Cv p.n) = rl p.n (aG2 p n0 Cv 0):=rl_congr fun c hc=>by rw [aG1,if_pos hc,aG2,rs,Rat.sub_eq_add_neg,show (-(0 : Rat)) = 0 by decide,Rat.add_zero]
theorem aG1_in {k : Nat} (h : p.os k < n0) : upd (upd (aG1 p n0 Cv k) k 0) k (Cv (p.os k)) = aG1 p n0 Cv (k + 1):=by
 funext c
 by_cases e : c = k
 ·subst e;rw [upd_self,aG1,if_pos (Nat.lt_succ_self _),aG0,if_pos h]
 ·rw [upd_ne e,upd_ne e,aG1,aG1]
  by_cases h2 : c < k
  ·rw [if_pos h2,if_pos (by omega)]
  ·rw [if_neg h2,if_neg (by omega)]
theorem aG1_out {k : Nat} (h : ¬ p.os k < n0) : upd (aG1 p n0 Cv k) k 0 = aG1 p n0 Cv (k + 1):=by
 funext c
 by_cases e : c = k
 ·subst e;rw [upd_self,aG1,if_pos (Nat.lt_succ_self _),aG0,if_neg h]
 ·rw [upd_ne e,aG1,aG1]
  by_cases h2 : c < k
  ·rw [if_pos h2,if_pos (by omega)]
  ·rw [if_neg h2,if_neg (by omega)]
theorem aG2_out {h : Nat} (hb : ¬ p.bs h < n0) : aG2 p n0 Cv (h + 1) = aG2 p n0 Cv h:=by
 funext c;rw [aG2,aG2,rs,aCB,if_neg hb,Rat.zero_mul,Rat.add_zero]
theorem aV2_out {h : Nat} (hb : ¬ p.bs h < n0) : aV2 p n0 Cv (h + 1) = aV2 p n0 Cv h:=by
 rw [aV2,aV2,rs,aCB,if_neg hb,Rat.zero_mul,Rat.add_zero]
theorem aV2_in {h : Nat} (hb : p.bs h < n0) : aV2 p n0 Cv h + Cv (p.bs h) * p.fr h = aV2 p n0 Cv (h + 1):=by
 rw [aV2,aV2,rs,aCB,if_pos hb]
theorem aG3_zero {h : Nat} : aG3 p n0 Cv h 0 = aG2 p n0 Cv h:=by funext c;rw [aG3,if_neg (Nat.not_lt_zero _)]
theorem aG3_all {h : Nat} : rl p.n (aG3 p n0 Cv h p.n) = rl p.n (aG2 p n0 Cv (h + 1)):=rl_congr fun c hc=>by rw [aG3,if_pos hc]
theorem aG3_at {h k : Nat} : aG3 p n0 Cv h k k = aG2 p n0 Cv h k:=by rw [aG3,if_neg (Nat.lt_irrefl _)]
theorem aG3_next {h k : Nat} (hb : p.bs h < n0) : upd (aG3 p n0 Cv h k) k (aG2 p n0 Cv h k - Cv (p.bs h) * p.rw h k) = aG3 p n0 Cv h (k + 1):=by
 funext c
 by_cases e : c = k
 ·subst e;rw [upd_self,aG3,if_pos (Nat.lt_succ_self _),aG2,aG2,rs,aCB,if_pos hb];grind
 ·rw [upd_ne e,aG3,aG3]
  by_cases h2 : c < k
  ·rw [if_pos h2,if_pos (by omega)]
  ·rw [if_neg h2,if_neg (by omega)]
theorem aim_fr : aimP n0 Cv p = { p with gl:=aG2 p n0 Cv p.m,vv:=aV2 p n0 Cv p.m }:=rfl
theorem aCB_bd {Kc : Nat} (hK : 1 ≤ Kc) (hC : ∀ k,k < n0 → bd Kc (Cv k)) (h : Nat) : bd Kc (aCB p n0 Cv h):=by
 rw [aCB];split
 ·exact hC _ (by assumption)
 ·exact bd_zero hK
theorem aRS_bd {K Kc : Nat} (hK : 1 ≤ Kc) (hC : ∀ k,k < n0 → bd Kc (Cv k)) {f : Nat → Rat} : ∀ {h : Nat},(∀ i,i < h → bd K (f i)) → bd (h * (K + Kc + 1) + 1) (rs h (fun i=>aCB p n0 Cv i * f i)):=by
 intro h
 induction h with
 | zero=>intro _;exact bd_zero (by omega)
 | succ h ih =>
  intro hf
  rw [rs,Nat.succ_mul]
  exact bd_mono (bd_add (ih fun i hi=>hf i (by omega)) (bd_mul (aCB_bd hK hC h) (hf h (by omega)) (by omega))) (by omega)
theorem aL_le {h m K Kc L : Nat} (hh : h ≤ m) (hL : m * (K + Kc + 1) + Kc + 3 ≤ L) : h * (K + Kc + 1) + Kc + 3 ≤ L:=by
 have:=Nat.mul_le_mul_right (K + Kc + 1) hh;omega
theorem aG2_bd {K Kc L h : Nat} (hK : 1 ≤ Kc) (hC : ∀ k,k < n0 → bd Kc (Cv k)) (hh : h ≤ p.m) (hL : p.m * (K + Kc + 1) + Kc + 3 ≤ L) {c : Nat} (hf : ∀ i,i < p.m → bd K (p.rw i c)) : bd L (aG2 p n0 Cv h c):=by
 have h1 : bd Kc (aG0 p n0 Cv c):=by
  rw [aG0];split
  ·exact hC _ (by assumption)
  ·exact bd_zero hK
 have:=aL_le hh hL
 exact bd_mono (bd_sub h1 (aRS_bd hK hC fun i hi=>hf i (by omega))) (by omega)
theorem aV2_bd {K Kc L h : Nat} (hK : 1 ≤ Kc) (hC : ∀ k,k < n0 → bd Kc (Cv k)) (hh : h ≤ p.m) (hL : p.m * (K + Kc + 1) + Kc + 3 ≤ L) (hf : ∀ i,i < p.m → bd K (p.fr i)) : bd L (aV2 p n0 Cv h):=by
 have:=aL_le hh hL
 exact bd_mono (aRS_bd hK hC fun i hi=>hf i (by omega)) (by omega)
end
def cvOf (C : List Rt) (k : Nat) : Rat:=vq (C.getD k default)
theorem cvOf_at {C : List Rt} {k : Nat} {z : Rt} (h : C[k]? = some z) : cvOf C k = vq z:=by rw [cvOf,List.getD_eq_getElem?_getD,h];rfl
theorem S_simplex_dictionary__aim {b : Nat} {x : DX} {p : PD} {left : Int} {pc : Option Addr} {n0 cc K Kc L : Nat} {C : List Rt} (hm : p.m ≤ 100) (hn : p.n ≤ 100) (hn0 : n0 ≤ 100) (hK : 1 ≤ K) (hK2 : K ≤ 1000000) (hKc : 1 ≤ Kc) (hKc2 : Kc ≤ 1000000) (hC : ∀ r ∈ C,r.2.1.length ≤ Kc ∧ r.2.2.length ≤ Kc) (hL : p.m * (K + Kc + 1) + Kc + 3 ≤ L) (hL2 : L ≤ 16000000) (hfr : ∀ h,h < p.m → bd K (p.fr h)) (hrw : ∀ h k,h < p.m → k < p.n → bd K (p.rw h k)) (hbs : ∀ h,h < p.m → p.bs h ≤ 1000000) (hos : ∀ k,k < p.n → p.os k ≤ 1000000) :
  Ctr Tryz.prog 37 [.pointer (some ⟨b,0,none⟩),.slice pc n0 cc] (dicB b x p left) (slF RatE pc n0 cc C::dicF x p) (PivQ b (aimP n0 (cvOf C) p) left):=by
 refine Ctr_of_j' (F:=F_simplex_dictionary__aim) rfl fun C'=>?_
 refine j_len 0 rfl fun e1 hby _=>?_
 refine rts_range 0 rfl fun hrr=>?_
 have hCv : ∀ k,k < n0 → bd Kc (cvOf C k):=fun k hk=>by
  obtain ⟨z,hz⟩ : ∃ z,C[k]? = some z:=⟨_,List.getElem?_eq_getElem (by omega)⟩
  rw [cvOf_at hz]
  have hm:=List.mem_of_getElem? hz
  exact bd_vq (hrr z hm).1 (hrr z hm).2 (hC z hm).1 (hC z hm).2 hKc
 have b2:=fun {h c : Nat} (hh : h ≤ p.m) (hc : c < p.n)=>aG2_bd (p:=p) (n0:=n0) (Cv:=cvOf C) hKc hCv hh hL (c:=c) fun i hi=>hrw i c hi hc
 have b3:=fun {h : Nat} (hh : h ≤ p.m)=>aV2_bd (p:=p) (n0:=n0) (Cv:=cvOf C) hKc hCv hh hL hfr
 rw [aim_fr]
 obtain ⟨bs,os,fr,rw',gl,hd,cs,pn,cn,pd,cd⟩:=x
 obtain ⟨m,n,pbs,pos,pfr,prw,pgl,pvv⟩:=p
 simp only [dicB,dicF,dicC] at *
 refine j_nf [_,_] rfl ?_
 refine j_run it 1 rfl (by simp) ?_
 refine j_step rfl (x_call [] rfl (S_simplex_zero) rfl ?_)
 rintro _ _ _ ⟨pn1,cn1,pd1,cd1,rfl,rfl,rfl⟩
 simp only [List.cons_append,List.nil_append]
 refine j_run it 1 rfl (by simp) ?_
 refine j_step rfl (x_field rfl fd65_5 ?_)
 refine j_step rfl (x_bst (vs:=[Value.bool (rt 0).fst,Value.slice pn1 (rt 0).snd.fst.length cn1,Value.slice pd1 (rt 0).snd.snd.length cd1]) 0 rfl rfl rfl rfl ld26 (by simp [Value.oneCell']) (Nat.le_of_ble_eq_true rfl) rfl ?_)
 refine j_nf [_,_,_] rfl ?_
 refine j_run it 2 rfl (by simp) ?_
 refine j_step rfl (x_field rfl fd65_1 ?_)
 refine j_step rfl (x_bld 0 rfl rfl ld63 rfl ?_)
 refine j_step rfl (x_len sl63 rfl ?_)
 refine j_run it 1 rfl (by simp) ?_
 refine j_nf [_,_,_] rfl ?_
 rw [show rl n pgl = rl n (aG1 ⟨m,n,pbs,pos,pfr,prw,pgl,pvv⟩ n0 (cvOf C) 0) by rw [aG1_zero]]
 refine j_loopG (X:=Nat × Row) [0,1,16,17] [0,1,2,3,4,5,6,8] (fun x=>[(18,.int .i64 (x.1 : Int))])
  (fun x=>(some b,65,[.slice (ad bs.bo) m bs.cap,.slice (ad os.bo) n os.cap,.slice (ad fr.bo) m fr.cap,.slice (ad rw'.bo) m rw'.cap,.slice (ad x.2.bo) n x.2.cap,.bool (rt 0).1,.slice pn1 (rt 0).2.1.length cn1,.slice pd1 (rt 0).2.2.length cd1,.int .i64 left])::(bs.bo,3,bs.cs)::(os.bo,3,os.cs)::(fr.bo,26,fr.cs)::(rw'.bo,27,rw'.cs)::(x.2.bo,26,x.2.cs)::famB 26 hd cs m [])
  (fun x=>[rowF RatE x.2 n (rl n (aG1 ⟨m,n,pbs,pos,pfr,prw,pgl,pvv⟩ n0 (cvOf C) x.1))])
  (fun x=>x.1 ≤ n) (fun x=>n - x.1) (0,gl) [7] rfl rfl rfl (Nat.zero_le _) (by repeat (first | exact Fr.sub_nil _ | refine Fr.sub_cons rfl ?_)) rfl rfl ?_
 rintro ⟨k,gl⟩ hk ih
 simp only [List.cons_append,List.nil_append] at hk ih ⊢
 by_cases hkl : k < n
 ·refine j_rowB 0 rfl (by omega) fun bgl cgl egl h=>?_
  subst h
  refine j_rowB 5 rfl (by omega) fun bos cos eos h=>?_
  subst h
  have w1:=il_get (f:=pos) hkl
  have w4:=hos k hkl
  by_cases hv : pos k < n0
  ·obtain ⟨z,hz⟩ : ∃ z,C[pos k]? = some z:=⟨_,List.getElem?_eq_getElem (by omega)⟩
   have hC1:=hC z (List.mem_of_getElem? hz)
   have hg : C.getD (pos k) default = z:=by rw [List.getD_eq_getElem?_getD,hz];rfl
   rw [← hg] at hC1
   obtain ⟨y1,y2⟩:=hC1
   refine j_nf [_,_,_,_,_] rfl ?_
   refine j_run it 1 rfl (by simp) ?_
   refine j_nf [_,_,_,_,_] rfl ?_
   refine j_if rfl rfl (fun h1=>?_) (fun h1=>by exfalso;omega)
   refine j_nf [_,_,_,_,_,_,_] rfl ?_
   refine j_run it 1 rfl (by simp) ?_
   refine j_step rfl (x_idx_own (k) (k) rfl rfl sl63 rfl (by omega) (Nat.mul_one _) ?_)
   refine j_step rfl (x_ldR_int 2 5 (k) rfl rfl rfl ld3 rfl (by assumption) fun hr1=>?_)
   refine j_run it 2 rfl (by simp) ?_
   refine j_nf [_,_,_,_,_,_,_] rfl ?_
   (apply j_drawK it mx 6;(· rfl);(· rfl))
   (apply lxk_run 2;(· rfl);(· simp))
   (apply lxk_eq;(· rfl);(· exact d_x fun _=>x_field rfl fd65_4 dk_eq))
   (apply lxk_eq;(· rfl);(· exact d_bld 0 rfl rfl ld27 rfl))
   (apply lxk_run 1;(· rfl);(· simp))
   (apply lxk_rq;(· rfl);(· exact d_x fun _=>x_call [] rfl (S_simplex_zero) rfl (by rintro _ _ _ ⟨pn2,cn2,pd2,cd2,rfl,rfl,rfl⟩;exact (dk_rq 0 1 rfl rfl)));intro pn2 cn2 pd2 cd2)
   refine lxk_end rfl ?_
   simp only [List.map_cons,List.map_nil,List.cons_append,List.nil_append]
   refine j_step rfl (x_idx_own (k) _ rfl rfl sl27 rfl (by omega) rfl ?_)
   refine j_step rfl (x_stR (vs:=[Value.bool (rt 0).fst,Value.slice pn2 (rt 0).snd.fst.length cn2,Value.slice pd2 (rt 0).snd.snd.length cd2]) (z:=((rt 0).fst,((rt 0).snd.fst,(rt 0).snd.snd))) 5 2 (k) rfl rfl rfl rfl rfl ld26 rfl (by omega) (fun w A hG=>(rd_pair (v1:=[Value.bool (rt 0).fst]) (rd_bool _) (rd_pair (v1:=[Value.slice pn2 (rt 0).snd.fst.length cn2]) (rd_of_slF (hG _ (fact_mem (n:=0) rfl))) (rd_of_slF (hG _ (fact_mem (n:=1) rfl)))))) fun cs1=>?_)
   refine j_nf [_,_,_,_,_,_,_] rfl ?_
   refine j_run it 2 rfl (by simp) ?_
   refine j_step rfl (x_len sl27 rfl ?_)
   refine j_run it 1 rfl (by simp) ?_
   refine j_nf [_,_,_,_,_,_] rfl ?_
   refine j_if rfl rfl (fun h2=>?_) (fun h2=>by exfalso;omega)
   (apply j_drawK it mx 10;(· rfl);(· rfl))
   (apply lxk_run 2;(· rfl);(· simp))
   (apply lxk_eq;(· rfl);(· exact d_x fun _=>x_field rfl fd65_4 dk_eq))
   (apply lxk_eq;(· rfl);(· exact d_bld 0 rfl rfl ld27 rfl))
   (apply lxk_run 3;(· rfl);(· simp))
   (apply lxk_pt;(· rfl);(· exact d_x fun _=>x_idx 6 (pos k) rfl rfl rfl sl27 rfl (by omega) fun z1 hz1 b1 o1=>(dk_ptD default hz1 0 rfl));intro b1 o1)
   (apply lxk_rq;(· rfl);(· exact d_x fun _=>x_ld_rt 0 rfl rfl ld26 fun pa1 ca1 pa2 ca2=>(dk_rq 0 1 rfl rfl));intro pn3 cn3 pd3 cd3)
   (apply lxk_rq;(· rfl);(· exact d_x fun _=>x_call [0,1] rfl (S_rational_Trim (by omega) (by omega)) rfl (by rintro _ _ _ ⟨pn4,cn4,pd4,cd4,rfl,rfl,rfl⟩;exact (dk_rq 0 1 rfl rfl)));intro pn4 cn4 pd4 cd4)
   simp only [vq_rt']
   refine lxk_end rfl ?_
   simp only [List.map_cons,List.map_nil,List.cons_append,List.nil_append]
   refine j_step rfl (x_idx_own (k) _ rfl rfl sl27 rfl (by omega) rfl ?_)
   refine j_step rfl (x_stR (vs:=[Value.bool (rt (vq ((C.getD (pos k) default).fst,(C.getD (pos k) default).snd.fst,(C.getD (pos k) default).snd.snd))).fst,Value.slice pn4 (rt (vq ((C.getD (pos k) default).fst,(C.getD (pos k) default).snd.fst,(C.getD (pos k) default).snd.snd))).snd.fst.length cn4,Value.slice pd4 (rt (vq ((C.getD (pos k) default).fst,(C.getD (pos k) default).snd.fst,(C.getD (pos k) default).snd.snd))).snd.snd.length cd4]) (z:=((rt (vq ((C.getD (pos k) default).fst,(C.getD (pos k) default).snd.fst,(C.getD (pos k) default).snd.snd))).fst,((rt (vq ((C.getD (pos k) default).fst,(C.getD (pos k) default).snd.fst,(C.getD (pos k) default).snd.snd))).snd.fst,(rt (vq ((C.getD (pos k) default).fst,(C.getD (pos k) default).snd.fst,(C.getD (pos k) default).snd.snd))).snd.snd))) 5 5 (k) rfl rfl rfl rfl rfl ld26 rfl (by omega) (fun w A hG=>(rd_pair (v1:=[Value.bool (rt (vq ((C.getD (pos k) default).fst,(C.getD (pos k) default).snd.fst,(C.getD (pos k) default).snd.snd))).fst]) (rd_bool _) (rd_pair (v1:=[Value.slice pn4 (rt (vq ((C.getD (pos k) default).fst,(C.getD (pos k) default).snd.fst,(C.getD (pos k) default).snd.snd))).snd.fst.length cn4]) (rd_of_slF (hG _ (fact_mem (n:=0) rfl))) (rd_of_slF (hG _ (fact_mem (n:=1) rfl)))))) fun cs2=>?_)
   refine j_nf [_,_,_,_] rfl ?_
   refine j_run it 2 rfl ⟨trivial,⟨by omega,by omega⟩,trivial⟩ ?_
   refine j_nfn 1 [.lp [1,0,1,0,0],.blk 0,.c [1,1]] rfl ?_
   rw [show ((rt 0).1,(rt 0).2.1,(rt 0).2.2) = rt 0 from rfl,show ((rt (vq ((C.getD (pos k) default).1,(C.getD (pos k) default).2.1,(C.getD (pos k) default).2.2))).1,(rt (vq ((C.getD (pos k) default).1,(C.getD (pos k) default).2.1,(C.getD (pos k) default).2.2))).2.1,(rt (vq ((C.getD (pos k) default).1,(C.getD (pos k) default).2.1,(C.getD (pos k) default).2.2))).2.2) = rt (cvOf C (pos k)) from rfl,rl_set,rl_set,aG1_in (p:=⟨m,n,pbs,pos,pfr,prw,pgl,pvv⟩) hv]
   refine j_to [0,10,11,12,13,14,15,16,17] (by exact fra rfl) rfl rfl (ih (k + 1,⟨some bgl,cgl,cs2⟩) (by dsimp only;omega) (by dsimp only;omega))
  ·refine j_nf [_,_,_,_,_] rfl ?_
   refine j_run it 1 rfl (by simp) ?_
   refine j_nf [_,_,_,_,_] rfl ?_
   refine j_if rfl rfl (fun h1=>?_) (fun h1=>by exfalso;omega)
   refine j_nf [_,_,_,_,_,_,_] rfl ?_
   refine j_run it 1 rfl (by simp) ?_
   refine j_step rfl (x_idx_own (k) (k) rfl rfl sl63 rfl (by omega) (Nat.mul_one _) ?_)
   refine j_step rfl (x_ldR_int 2 5 (k) rfl rfl rfl ld3 rfl (by assumption) fun hr1=>?_)
   refine j_run it 2 rfl (by simp) ?_
   refine j_nf [_,_,_,_,_,_,_] rfl ?_
   (apply j_drawK it mx 6;(· rfl);(· rfl))
   (apply lxk_run 2;(· rfl);(· simp))
   (apply lxk_eq;(· rfl);(· exact d_x fun _=>x_field rfl fd65_4 dk_eq))
   (apply lxk_eq;(· rfl);(· exact d_bld 0 rfl rfl ld27 rfl))
   (apply lxk_run 1;(· rfl);(· simp))
   (apply lxk_rq;(· rfl);(· exact d_x fun _=>x_call [] rfl (S_simplex_zero) rfl (by rintro _ _ _ ⟨pn2,cn2,pd2,cd2,rfl,rfl,rfl⟩;exact (dk_rq 0 1 rfl rfl)));intro pn2 cn2 pd2 cd2)
   refine lxk_end rfl ?_
   simp only [List.map_cons,List.map_nil,List.cons_append,List.nil_append]
   refine j_step rfl (x_idx_own (k) _ rfl rfl sl27 rfl (by omega) rfl ?_)
   refine j_step rfl (x_stR (vs:=[Value.bool (rt 0).fst,Value.slice pn2 (rt 0).snd.fst.length cn2,Value.slice pd2 (rt 0).snd.snd.length cd2]) (z:=((rt 0).fst,((rt 0).snd.fst,(rt 0).snd.snd))) 5 2 (k) rfl rfl rfl rfl rfl ld26 rfl (by omega) (fun w A hG=>(rd_pair (v1:=[Value.bool (rt 0).fst]) (rd_bool _) (rd_pair (v1:=[Value.slice pn2 (rt 0).snd.fst.length cn2]) (rd_of_slF (hG _ (fact_mem (n:=0) rfl))) (rd_of_slF (hG _ (fact_mem (n:=1) rfl)))))) fun cs1=>?_)
   refine j_nf [_,_,_,_,_,_,_] rfl ?_
   refine j_run it 2 rfl (by simp) ?_
   refine j_step rfl (x_len sl27 rfl ?_)
   refine j_run it 1 rfl (by simp) ?_
   refine j_nf [_,_,_,_,_,_] rfl ?_
   refine j_if rfl rfl (fun h2=>by exfalso;omega) (fun h2=>?_)
   refine j_nf [_,_,_,_] rfl ?_
   refine j_run it 2 rfl ⟨trivial,⟨by omega,by omega⟩,trivial⟩ ?_
   refine j_nfn 1 [.lp [1,0,1,0,0],.blk 0,.c [1,1]] rfl ?_
   rw [show ((rt 0).1,(rt 0).2.1,(rt 0).2.2) = rt 0 from rfl,rl_set,aG1_out (p:=⟨m,n,pbs,pos,pfr,prw,pgl,pvv⟩) hv]
   refine j_to [0,4,5,6,7,8,9,10,11] (by exact fra rfl) rfl rfl (ih (k + 1,⟨some bgl,cgl,cs1⟩) (by dsimp only;omega) (by dsimp only;omega))
 ·obtain rfl : n = k:=by omega
  refine j_nf [_,_,_,_,_] rfl ?_
  refine j_run it 1 rfl (by simp) ?_
  refine j_nf [_,_,_,_,_] rfl ?_
  refine j_if rfl rfl (fun h1=>by exfalso;omega) (fun h1=>?_)
  refine j_nf [_,_] rfl ?_
  refine j_run it 2 rfl (by simp) ?_
  refine j_step rfl (x_field rfl fd65_0 ?_)
  refine j_step rfl (x_bld 0 rfl rfl ld63 rfl ?_)
  refine j_step rfl (x_len sl63 rfl ?_)
  refine j_run it 1 rfl (by simp) ?_
  refine j_nf [_,_] rfl ?_
  rw [aG1_all (p:=⟨m,n,pbs,pos,pfr,prw,pgl,pvv⟩),show rt 0 = rt (aV2 ⟨m,n,pbs,pos,pfr,prw,pgl,pvv⟩ n0 (cvOf C) 0) from rfl]
  refine j_loopG (X:=Nat × Row × (Option Addr × Nat × Option Addr × Nat) × (Nat → List Value)) [0,1,49,50] [3,4,5,6,7] (fun x=>[(51,.int .i64 (x.1 : Int))])
   (fun x=>(some b,65,[.slice (ad bs.bo) m bs.cap,.slice (ad os.bo) n os.cap,.slice (ad fr.bo) m fr.cap,.slice (ad rw'.bo) m rw'.cap,.slice (ad x.2.1.bo) n x.2.1.cap,.bool (rt (aV2 ⟨m,n,pbs,pos,pfr,prw,pgl,pvv⟩ n0 (cvOf C) x.1)).1,.slice x.2.2.1.1 (rt (aV2 ⟨m,n,pbs,pos,pfr,prw,pgl,pvv⟩ n0 (cvOf C) x.1)).2.1.length x.2.2.1.2.1,.slice x.2.2.1.2.2.1 (rt (aV2 ⟨m,n,pbs,pos,pfr,prw,pgl,pvv⟩ n0 (cvOf C) x.1)).2.2.length x.2.2.1.2.2.2,.int .i64 left])::(bs.bo,3,bs.cs)::(os.bo,3,os.cs)::(fr.bo,26,fr.cs)::(rw'.bo,27,rw'.cs)::(x.2.1.bo,26,x.2.1.cs)::famB 26 hd x.2.2.2 m [])
   (fun x=>[rowF RatE x.2.1 n (rl n (aG2 ⟨m,n,pbs,pos,pfr,prw,pgl,pvv⟩ n0 (cvOf C) x.1)),matF RatE hd x.2.2.2 (fun h=>rl n (prw h)) m [],slF U32 x.2.2.1.1 (rt (aV2 ⟨m,n,pbs,pos,pfr,prw,pgl,pvv⟩ n0 (cvOf C) x.1)).2.1.length x.2.2.1.2.1 (rt (aV2 ⟨m,n,pbs,pos,pfr,prw,pgl,pvv⟩ n0 (cvOf C) x.1)).2.1,slF U32 x.2.2.1.2.2.1 (rt (aV2 ⟨m,n,pbs,pos,pfr,prw,pgl,pvv⟩ n0 (cvOf C) x.1)).2.2.length x.2.2.1.2.2.2 (rt (aV2 ⟨m,n,pbs,pos,pfr,prw,pgl,pvv⟩ n0 (cvOf C) x.1)).2.2])
   (fun x=>x.1 ≤ m) (fun x=>m - x.1) (0,gl,(pn1,cn1,pd1,cd1),cs) [0,8,1,2] rfl rfl rfl (Nat.zero_le _) (by repeat (first | exact Fr.sub_nil _ | refine Fr.sub_cons rfl ?_)) rfl rfl ?_
  rintro ⟨k,gl,⟨pn2,cn2,pd2,cd2⟩,cs⟩ hk ih
  simp only [List.cons_append,List.nil_append] at hk ih ⊢
  by_cases hkl : k < m
  ·refine j_hdlen 1 rfl fun hlen=>?_
   have hN : (hd k).2.1 = n:=by rw [hlen k hkl rfl,rl_len]
   refine j_rowB 7 rfl (by omega) fun bfr cfr efr h=>?_
   subst h
   refine j_rowB 5 rfl (by omega) fun bbs cbs ebs h=>?_
   subst h
   refine j_rowB 8 rfl (by omega) fun brw crw erw h=>?_
   subst h
   have w1:=il_get (f:=pbs) hkl
   have w4:=hbs k hkl
   have z3:=rl_get (f:=pfr) hkl
   by_cases hv : pbs k < n0
   ·obtain ⟨z,hz⟩ : ∃ z,C[pbs k]? = some z:=⟨_,List.getElem?_eq_getElem (by omega)⟩
    have hC1:=hC z (List.mem_of_getElem? hz)
    have hg : C.getD (pbs k) default = z:=by rw [List.getD_eq_getElem?_getD,hz];rfl
    rw [← hg] at hC1
    obtain ⟨y1,y2⟩:=hC1
    have hL3:=aL_le (show 1 ≤ m by omega) hL
    have hbf:=hfr k hkl
    have hbp : bd (Kc + K) (cvOf C (pbs k) * pfr k):=bd_mul (hCv _ hv) hbf (by omega)
    have hbv:=b3 (h:=k) (by omega)
    have c_rational_Mul : ∀ {pa : Option Addr} {ca : Nat},Ctr Tryz.prog 63 [.slice pa 2 ca] [] [slF RatE pa 2 ca [((C.getD (pbs k) default).1,(C.getD (pbs k) default).2.1,(C.getD (pbs k) default).2.2),((rt (pfr k)).1,(rt (pfr k)).2.1,(rt (pfr k)).2.2)]] (RtV (rt (cvOf C (pbs k) * pfr k))):=fun {pa ca}=>by
     have h:=S_rational_Mul (pa:=pa) (n:=2) (ca:=ca) (K:=L) (ls:=[((C.getD (pbs k) default).1,(C.getD (pbs k) default).2.1,(C.getD (pbs k) default).2.2),((rt (pfr k)).1,(rt (pfr k)).2.1,(rt (pfr k)).2.2)]) (by omega) (fun r hr=>by
      simp only [List.mem_cons,List.not_mem_nil,or_false] at hr
      rcases hr with rfl | rfl
      ·exact ⟨Nat.le_trans y1 (by omega),Nat.le_trans y2 (by omega)⟩
      ·obtain ⟨u1,u2⟩:=bd_len hbf
       exact ⟨Nat.le_trans u1 (by omega),Nat.le_trans u2 (by omega)⟩) (by simp;omega) (by omega)
     rwa [prodQ_two,vq_rt',show vq ((C.getD (pbs k) default).1,(C.getD (pbs k) default).2.1,(C.getD (pbs k) default).2.2) = cvOf C (pbs k) from rfl] at h
    have c_rational_Add : ∀ {pa : Option Addr} {ca : Nat},Ctr Tryz.prog 62 [.slice pa 2 ca] [] [slF RatE pa 2 ca [((rt (aV2 ⟨m,n,pbs,pos,pfr,prw,pgl,pvv⟩ n0 (cvOf C) k)).1,(rt (aV2 ⟨m,n,pbs,pos,pfr,prw,pgl,pvv⟩ n0 (cvOf C) k)).2.1,(rt (aV2 ⟨m,n,pbs,pos,pfr,prw,pgl,pvv⟩ n0 (cvOf C) k)).2.2),((rt (cvOf C (pbs k) * pfr k)).1,(rt (cvOf C (pbs k) * pfr k)).2.1,(rt (cvOf C (pbs k) * pfr k)).2.2)]] (RtV (rt (aV2 ⟨m,n,pbs,pos,pfr,prw,pgl,pvv⟩ n0 (cvOf C) (k + 1)))):=fun {pa ca}=>by
     have h:=S_rational_Add (pa:=pa) (n:=2) (ca:=ca) (K:=L) (ls:=[((rt (aV2 ⟨m,n,pbs,pos,pfr,prw,pgl,pvv⟩ n0 (cvOf C) k)).1,(rt (aV2 ⟨m,n,pbs,pos,pfr,prw,pgl,pvv⟩ n0 (cvOf C) k)).2.1,(rt (aV2 ⟨m,n,pbs,pos,pfr,prw,pgl,pvv⟩ n0 (cvOf C) k)).2.2),((rt (cvOf C (pbs k) * pfr k)).1,(rt (cvOf C (pbs k) * pfr k)).2.1,(rt (cvOf C (pbs k) * pfr k)).2.2)]) (by omega) (fun r hr=>by
      simp only [List.mem_cons,List.not_mem_nil,or_false] at hr
      rcases hr with rfl | rfl
      ·exact bd_len hbv
      ·obtain ⟨u1,u2⟩:=bd_len hbp
       exact ⟨Nat.le_trans u1 (by omega),Nat.le_trans u2 (by omega)⟩) (by simp;omega)
     rwa [sumQ_two,vq_rt',vq_rt',aV2_in (p:=⟨m,n,pbs,pos,pfr,prw,pgl,pvv⟩) hv] at h
    refine j_nf [_,_,_,_] rfl ?_
    refine j_run it 1 rfl (by simp) ?_
    refine j_nf [_,_,_,_] rfl ?_
    refine j_if rfl rfl (fun h2=>?_) (fun h2=>by exfalso;omega)
    refine j_nf [_,_,_,_,_,_] rfl ?_
    refine j_run it 1 rfl (by simp) ?_
    refine j_step rfl (x_idx_own (k) (k) rfl rfl sl63 rfl (by omega) (Nat.mul_one _) ?_)
    refine j_step rfl (x_ldR_int 1 5 (k) rfl rfl rfl ld3 rfl (by assumption) fun hr1=>?_)
    refine j_run it 2 rfl (by simp) ?_
    refine j_nf [_,_,_,_,_,_,_] rfl ?_
    refine j_run it 2 rfl (by simp) ?_
    refine j_step rfl (x_len sl27 rfl ?_)
    refine j_run it 1 rfl (by simp) ?_
    refine j_nf [_,_,_,_,_,_] rfl ?_
    refine j_if rfl rfl (fun h3=>by exfalso;omega) (fun h3=>?_)
    refine j_nf [_,_,_,_,_,_] rfl ?_
    (apply j_drawK it mx 21;(· rfl);(· rfl))
    (apply lxk_run 3;(· rfl);(· simp))
    (apply lxk_eq;(· rfl);(· exact d_x fun _=>x_field rfl fd65_5 dk_eq))
    (apply lxk_eq;(· rfl);(· exact d_bld_agg 0 rfl rfl ld26 rfl rfl))
    (apply lxk_run 2;(· rfl);(· simp))
    (apply lxk_pt;(· rfl);(· exact d_x fun _=>x_idx 4 (pbs k) rfl rfl rfl sl27 rfl (by omega) fun z1 hz1 b1 o1=>(dk_ptD default hz1 0 rfl));intro b1 o1)
    (apply lxk_rq;(· rfl);(· exact d_x fun _=>x_ld_rt 0 rfl rfl ld26 fun pa1 ca1 pa2 ca2=>(dk_rq 0 1 rfl rfl));intro pn3 cn3 pd3 cd3)
    (apply lxk_run 2;(· rfl);(· simp))
    (apply lxk_eq;(· rfl);(· exact d_x fun _=>x_field rfl fd65_2 dk_eq))
    (apply lxk_eq;(· rfl);(· exact d_bld 0 rfl rfl ld27 rfl))
    (apply lxk_run 1;(· rfl);(· simp))
    (apply lxk_eq;(· rfl);(· exact d_x fun _=>x_idx_own (k) _ rfl rfl sl27 rfl (by omega) rfl dk_eq))
    (apply lxk_vw vw_RatE;(· rfl);(· exact d_ldR_vw vw_RatE 3 7 (k) rfl rfl rfl ld26 rfl (by assumption));intro g1)
    dsimp only [vw_RatE,List.cons_append,List.nil_append,List.map_cons,List.map_nil]
    (apply lxk_sl;(· rfl);(· exact d_x fun _=>x_lit sl27 zo27e rfl rfl rfl rfl (by decide) (by decide) rfl fun b4=>dk_all (E:=RatE) [[Value.bool (C.getD (pbs k) default).fst,Value.slice pn3 (C.getD (pbs k) default).snd.fst.length cn3,Value.slice pd3 (C.getD (pbs k) default).snd.snd.length cd3],[Value.bool (rt (pfr k)).fst,Value.slice (g1 0).fst (rt (pfr k)).snd.fst.length (g1 0).snd.fst,Value.slice (g1 1).fst (rt (pfr k)).snd.snd.length (g1 1).snd.fst]] [((C.getD (pbs k) default).fst,(C.getD (pbs k) default).snd.fst,(C.getD (pbs k) default).snd.snd),((rt (pfr k)).fst,(rt (pfr k)).snd.fst,(rt (pfr k)).snd.snd)] (fun w A hG=>(allrd_cons (rd_rt (hG _ (fact_mem (n:=2) rfl)) (hG _ (fact_mem (n:=3) rfl))) (allrd_cons (rd_rt (hG _ (fact_mem (n:=0) rfl)) (hG _ (fact_mem (n:=1) rfl))) allrd_nil))) rfl rfl rfl (by first | decide | exact Nat.le_of_ble_eq_true rfl));intro pa1 ca1)
    (apply lxk_rq;(· rfl);(· exact d_x fun _=>x_call [0] rfl (c_rational_Mul) rfl (by rintro _ _ _ ⟨pn4,cn4,pd4,cd4,rfl,rfl,rfl⟩;exact (dk_rq 0 1 rfl rfl)));intro pn4 cn4 pd4 cd4)
    simp only [vq_rt']
    (apply lxk_sl;(· rfl);(· exact d_x fun _=>x_lit sl27 zo27e rfl rfl rfl rfl (by decide) (by decide) rfl fun b4=>dk_all (E:=RatE) [[Value.bool (rt (aV2 { m:=m,n:=n,bs:=pbs,os:=pos,fr:=pfr,rw:=prw,gl:=pgl,vv:=pvv } n0 (cvOf C) k)).fst,Value.slice pn2 (rt (aV2 { m:=m,n:=n,bs:=pbs,os:=pos,fr:=pfr,rw:=prw,gl:=pgl,vv:=pvv } n0 (cvOf C) k)).snd.fst.length cn2,Value.slice pd2 (rt (aV2 { m:=m,n:=n,bs:=pbs,os:=pos,fr:=pfr,rw:=prw,gl:=pgl,vv:=pvv } n0 (cvOf C) k)).snd.snd.length cd2],[Value.bool (rt (cvOf C (pbs k) * pfr k)).fst,Value.slice pn4 (rt (cvOf C (pbs k) * pfr k)).snd.fst.length cn4,Value.slice pd4 (rt (cvOf C (pbs k) * pfr k)).snd.snd.length cd4]] [((rt (aV2 { m:=m,n:=n,bs:=pbs,os:=pos,fr:=pfr,rw:=prw,gl:=pgl,vv:=pvv } n0 (cvOf C) k)).fst,(rt (aV2 { m:=m,n:=n,bs:=pbs,os:=pos,fr:=pfr,rw:=prw,gl:=pgl,vv:=pvv } n0 (cvOf C) k)).snd.fst,(rt (aV2 { m:=m,n:=n,bs:=pbs,os:=pos,fr:=pfr,rw:=prw,gl:=pgl,vv:=pvv } n0 (cvOf C) k)).snd.snd),((rt (cvOf C (pbs k) * pfr k)).fst,(rt (cvOf C (pbs k) * pfr k)).snd.fst,(rt (cvOf C (pbs k) * pfr k)).snd.snd)] (fun w A hG=>(allrd_cons (rd_rt (hG _ (fact_mem (n:=10) rfl)) (hG _ (fact_mem (n:=11) rfl))) (allrd_cons (rd_rt (hG _ (fact_mem (n:=0) rfl)) (hG _ (fact_mem (n:=1) rfl))) allrd_nil))) rfl rfl rfl (by first | decide | exact Nat.le_of_ble_eq_true rfl));intro pa2 ca2)
    (apply lxk_rq;(· rfl);(· exact d_x fun _=>x_call [0] rfl (c_rational_Add) rfl (by rintro _ _ _ ⟨pn5,cn5,pd5,cd5,rfl,rfl,rfl⟩;exact (dk_rq 0 1 rfl rfl)));intro pn5 cn5 pd5 cd5)
    simp only [vq_rt']
    (apply lxk_run 1;(· rfl);(· simp))
    refine lxk_end rfl ?_
    simp only [List.map_cons,List.map_nil,List.cons_append,List.nil_append]
    refine j_step rfl (x_field rfl fd65_5 ?_)
    refine j_step rfl (x_bst (vs:=[Value.bool (rt (aV2 { m:=m,n:=n,bs:=pbs,os:=pos,fr:=pfr,rw:=prw,gl:=pgl,vv:=pvv } n0 (cvOf C) (k + 1))).fst,Value.slice pn5 (rt (aV2 { m:=m,n:=n,bs:=pbs,os:=pos,fr:=pfr,rw:=prw,gl:=pgl,vv:=pvv } n0 (cvOf C) (k + 1))).snd.fst.length cn5,Value.slice pd5 (rt (aV2 { m:=m,n:=n,bs:=pbs,os:=pos,fr:=pfr,rw:=prw,gl:=pgl,vv:=pvv } n0 (cvOf C) (k + 1))).snd.snd.length cd5]) 0 rfl rfl rfl rfl ld26 (by simp [Value.oneCell']) (Nat.le_of_ble_eq_true rfl) rfl ?_)
    refine j_nf [_,_,_,_,_,_] rfl ?_
    refine j_run it 2 rfl (by simp) ?_
    refine j_step rfl (x_field rfl fd65_4 ?_)
    refine j_step rfl (x_bld 0 rfl rfl ld27 rfl ?_)
    refine j_step rfl (x_len sl27 rfl ?_)
    refine j_run it 1 rfl (by simp) ?_
    refine j_nf [_,_,_,_,_,_] rfl ?_
    refine j_focusL 6 (k) 12 (n) rfl rfl (by first | assumption | omega) (by first | rfl | assumption | (simp [memB_cons,memB];done) | (simp [memB_cons,memB];omega)) (by first | assumption | omega) fun r1 hr2=>?_
    rw [← aG3_zero (p:=⟨m,n,pbs,pos,pfr,prw,pgl,pvv⟩) (n0:=n0) (Cv:=cvOf C) (h:=k)]
    refine j_loopG (X:=Nat × Row) [0,1,6,7,49,50,51,52,53,54,55,56,57,58,59,60,61,62,63,64,65,66,67,68,69,70,71,72,73,74,75,76,77,78,79,80,81,82,83,84,85,86] [0,1,2,3,17,18,19,20,21] (fun x=>[(87,.int .i64 (x.1 : Int))])
     (fun x=>(r1.bo,26,r1.cs)::(some b,65,[.slice (ad (some bbs)) m cbs,.slice (ad os.bo) n os.cap,.slice (ad (some bfr)) m cfr,.slice (ad (some brw)) m crw,.slice (ad x.2.bo) n x.2.cap,.bool (rt (aV2 ⟨m,n,pbs,pos,pfr,prw,pgl,pvv⟩ n0 (cvOf C) (k + 1))).1,.slice pn5 (rt (aV2 ⟨m,n,pbs,pos,pfr,prw,pgl,pvv⟩ n0 (cvOf C) (k + 1))).2.1.length cn5,.slice pd5 (rt (aV2 ⟨m,n,pbs,pos,pfr,prw,pgl,pvv⟩ n0 (cvOf C) (k + 1))).2.2.length cd5,.int .i64 left])::(some bbs,3,ebs)::(os.bo,3,os.cs)::(some bfr,26,efr)::(some brw,27,erw)::(x.2.bo,26,x.2.cs)::famB 26 hd cs m [k])
     (fun x=>[rowF RatE x.2 n (rl n (aG3 ⟨m,n,pbs,pos,pfr,prw,pgl,pvv⟩ n0 (cvOf C) k x.1))])
     (fun x=>x.1 ≤ n) (fun x=>n - x.1) (0,gl) [13] rfl rfl rfl (Nat.zero_le _) (by repeat (first | exact Fr.sub_nil _ | refine Fr.sub_cons rfl ?_)) rfl rfl ?_
    rintro ⟨j,gl⟩ hj ih2
    simp only [List.cons_append,List.nil_append] at hj ih2 ⊢
    by_cases hjl : j < n
    ·refine j_rowB 0 rfl (by omega) fun bgl cgl egl h=>?_
     subst h
     refine j_rowB 1 rfl (by omega) fun br cr er h=>?_
     subst h
     have z4 : (rl n (aG3 ⟨m,n,pbs,pos,pfr,prw,pgl,pvv⟩ n0 (cvOf C) k j))[j]? = some (rt (aG2 ⟨m,n,pbs,pos,pfr,prw,pgl,pvv⟩ n0 (cvOf C) k j)):=by rw [rl_get hjl,aG3_at]
     have z5:=rl_get (f:=prw k) hjl
     have hbr:=hrw k j hkl hjl
     obtain ⟨y3,y4⟩:=bd_len (b2 (h:=k) (c:=j) (by omega) hjl)
     have hbp : bd (Kc + K) (cvOf C (pbs k) * prw k j):=bd_mul (hCv _ hv) hbr (by omega)
     obtain ⟨y5,y6⟩:=bd_len hbp
     have c_rational_Mul : ∀ {pa : Option Addr} {ca : Nat},Ctr Tryz.prog 63 [.slice pa 2 ca] [] [slF RatE pa 2 ca [((C.getD (pbs k) default).1,(C.getD (pbs k) default).2.1,(C.getD (pbs k) default).2.2),((rt (prw k j)).1,(rt (prw k j)).2.1,(rt (prw k j)).2.2)]] (RtV (rt (cvOf C (pbs k) * prw k j))):=fun {pa ca}=>by
      have h:=S_rational_Mul (pa:=pa) (n:=2) (ca:=ca) (K:=L) (ls:=[((C.getD (pbs k) default).1,(C.getD (pbs k) default).2.1,(C.getD (pbs k) default).2.2),((rt (prw k j)).1,(rt (prw k j)).2.1,(rt (prw k j)).2.2)]) (by omega) (fun r hr=>by
       simp only [List.mem_cons,List.not_mem_nil,or_false] at hr
       rcases hr with rfl | rfl
       ·exact ⟨Nat.le_trans y1 (by omega),Nat.le_trans y2 (by omega)⟩
       ·obtain ⟨u1,u2⟩:=bd_len hbr
        exact ⟨Nat.le_trans u1 (by omega),Nat.le_trans u2 (by omega)⟩) (by simp;omega) (by omega)
      rwa [prodQ_two,vq_rt',show vq ((C.getD (pbs k) default).1,(C.getD (pbs k) default).2.1,(C.getD (pbs k) default).2.2) = cvOf C (pbs k) from rfl] at h
     refine j_nf [_,_,_,_,_,_,_,_] rfl ?_
     refine j_run it 1 rfl (by simp) ?_
     refine j_nf [_,_,_,_,_,_,_,_] rfl ?_
     refine j_if rfl rfl (fun h4=>?_) (fun h4=>by exfalso;omega)
     refine j_nf [_,_,_,_,_,_,_,_,_,_] rfl ?_
     refine j_run it 2 rfl (by simp) ?_
     refine j_nf [_,_,_,_,_,_,_,_,_] rfl ?_
     (apply j_drawK it mx 29;(· rfl);(· rfl))
     (apply lxk_run 2;(· rfl);(· simp))
     (apply lxk_eq;(· rfl);(· exact d_x fun _=>x_field rfl fd65_4 dk_eq))
     (apply lxk_eq;(· rfl);(· exact d_bld 1 rfl rfl ld27 rfl))
     (apply lxk_run 3;(· rfl);(· simp))
     (apply lxk_eq;(· rfl);(· exact d_x fun _=>x_field rfl fd65_4 dk_eq))
     (apply lxk_eq;(· rfl);(· exact d_bld 1 rfl rfl ld27 rfl))
     (apply lxk_run 1;(· rfl);(· simp))
     (apply lxk_eq;(· rfl);(· exact d_x fun _=>x_idx_own (j) _ rfl rfl sl27 rfl (by omega) rfl dk_eq))
     (apply lxk_vw vw_RatE;(· rfl);(· exact d_ldR_vw vw_RatE 6 0 (j) rfl rfl rfl ld26 rfl (by assumption));intro g2)
     dsimp only [vw_RatE,List.cons_append,List.nil_append,List.map_cons,List.map_nil]
     (apply lxk_run 2;(· rfl);(· simp))
     (apply lxk_pt;(· rfl);(· exact d_x fun _=>x_idx 5 (pbs k) rfl rfl rfl sl27 rfl (by omega) fun z1 hz1 b4 o2=>(dk_ptD default hz1 0 rfl));intro b4 o2)
     (apply lxk_rq;(· rfl);(· exact d_x fun _=>x_ld_rt 0 rfl rfl ld26 fun pa3 ca3 pa4 ca4=>(dk_rq 0 1 rfl rfl));intro pn6 cn6 pd6 cd6)
     (apply lxk_run 2;(· rfl);(· simp))
     (apply lxk_eq;(· rfl);(· exact d_x fun _=>x_field rfl fd65_3 dk_eq))
     (apply lxk_eq;(· rfl);(· exact d_bld 1 rfl rfl ld39 rfl))
     (apply lxk_run 1;(· rfl);(· simp))
     (apply lxk_eq;(· rfl);(· exact d_x fun _=>x_idx_own (k) (k) rfl rfl sl39 rfl (by omega) (Nat.mul_one _) dk_eq))
     (apply lxk_eq;(· rfl);(· exact d_ldR_hd 5 9 (k) rfl rfl rfl ld27 rfl (by assumption)))
     dsimp only
     (apply lxk_run 1;(· rfl);(· simp))
     (apply lxk_eq;(· rfl);(· exact d_x fun _=>x_idx_own (j) _ rfl rfl sl27 rfl (by omega) rfl dk_eq))
     (apply lxk_vw vw_RatE;(· rfl);(· exact d_ldR_vw vw_RatE 0 1 (j) rfl rfl rfl ld26 rfl (by assumption));intro g3)
     dsimp only [vw_RatE,List.cons_append,List.nil_append,List.map_cons,List.map_nil]
     (apply lxk_sl;(· rfl);(· exact d_x fun _=>x_lit sl27 zo27e rfl rfl rfl rfl (by decide) (by decide) rfl fun b5=>dk_all (E:=RatE) [[Value.bool (C.getD (pbs k) default).fst,Value.slice pn6 (C.getD (pbs k) default).snd.fst.length cn6,Value.slice pd6 (C.getD (pbs k) default).snd.snd.length cd6],[Value.bool (rt (prw k j)).fst,Value.slice (g3 0).fst (rt (prw k j)).snd.fst.length (g3 0).snd.fst,Value.slice (g3 1).fst (rt (prw k j)).snd.snd.length (g3 1).snd.fst]] [((C.getD (pbs k) default).fst,(C.getD (pbs k) default).snd.fst,(C.getD (pbs k) default).snd.snd),((rt (prw k j)).fst,(rt (prw k j)).snd.fst,(rt (prw k j)).snd.snd)] (fun w A hG=>(allrd_cons (rd_rt (hG _ (fact_mem (n:=2) rfl)) (hG _ (fact_mem (n:=3) rfl))) (allrd_cons (rd_rt (hG _ (fact_mem (n:=0) rfl)) (hG _ (fact_mem (n:=1) rfl))) allrd_nil))) rfl rfl rfl (by first | decide | exact Nat.le_of_ble_eq_true rfl));intro pa3 ca3)
     (apply lxk_rq;(· rfl);(· exact d_x fun _=>x_call [0] rfl (c_rational_Mul) rfl (by rintro _ _ _ ⟨pn7,cn7,pd7,cd7,rfl,rfl,rfl⟩;exact (dk_rq 0 1 rfl rfl)));intro pn7 cn7 pd7 cd7)
     simp only [vq_rt']
     (apply lxk_rq;(· rfl);(· exact d_x fun _=>x_call [8,9,0,1] rfl (S_rational_Sub (by omega) (by omega) (by omega) (by omega)) rfl (by rintro _ _ _ ⟨pn8,cn8,pd8,cd8,rfl,rfl,rfl⟩;exact (dk_rq 0 1 rfl rfl)));intro pn8 cn8 pd8 cd8)
     simp only [vq_rt']
     refine lxk_end rfl ?_
     simp only [List.map_cons,List.map_nil,List.cons_append,List.nil_append]
     refine j_step rfl (x_idx_own (j) _ rfl rfl sl27 rfl (by omega) rfl ?_)
     refine j_step rfl (x_stR (vs:=[Value.bool (rt (aG2 { m:=m,n:=n,bs:=pbs,os:=pos,fr:=pfr,rw:=prw,gl:=pgl,vv:=pvv } n0 (cvOf C) k j - cvOf C (pbs k) * prw k j)).fst,Value.slice pn8 (rt (aG2 { m:=m,n:=n,bs:=pbs,os:=pos,fr:=pfr,rw:=prw,gl:=pgl,vv:=pvv } n0 (cvOf C) k j - cvOf C (pbs k) * prw k j)).snd.fst.length cn8,Value.slice pd8 (rt (aG2 { m:=m,n:=n,bs:=pbs,os:=pos,fr:=pfr,rw:=prw,gl:=pgl,vv:=pvv } n0 (cvOf C) k j - cvOf C (pbs k) * prw k j)).snd.snd.length cd8]) (z:=((rt (aG2 { m:=m,n:=n,bs:=pbs,os:=pos,fr:=pfr,rw:=prw,gl:=pgl,vv:=pvv } n0 (cvOf C) k j - cvOf C (pbs k) * prw k j)).fst,((rt (aG2 { m:=m,n:=n,bs:=pbs,os:=pos,fr:=pfr,rw:=prw,gl:=pgl,vv:=pvv } n0 (cvOf C) k j - cvOf C (pbs k) * prw k j)).snd.fst,(rt (aG2 { m:=m,n:=n,bs:=pbs,os:=pos,fr:=pfr,rw:=prw,gl:=pgl,vv:=pvv } n0 (cvOf C) k j - cvOf C (pbs k) * prw k j)).snd.snd))) 6 12 (j) rfl rfl rfl rfl rfl ld26 rfl (by omega) (fun w A hG=>(rd_pair (v1:=[Value.bool (rt (aG2 { m:=m,n:=n,bs:=pbs,os:=pos,fr:=pfr,rw:=prw,gl:=pgl,vv:=pvv } n0 (cvOf C) k j - cvOf C (pbs k) * prw k j)).fst]) (rd_bool _) (rd_pair (v1:=[Value.slice pn8 (rt (aG2 { m:=m,n:=n,bs:=pbs,os:=pos,fr:=pfr,rw:=prw,gl:=pgl,vv:=pvv } n0 (cvOf C) k j - cvOf C (pbs k) * prw k j)).snd.fst.length cn8]) (rd_of_slF (hG _ (fact_mem (n:=0) rfl))) (rd_of_slF (hG _ (fact_mem (n:=1) rfl)))))) fun cs1=>?_)
     refine j_nf [_,_,_,_,_,_,_] rfl ?_
     refine j_run it 2 rfl ⟨trivial,⟨by omega,by omega⟩,trivial⟩ ?_
     refine j_nfn 1 [.lp (pL 62268),.blk 4,.blk 3,.c (pL 487),.lp [1,1,1,0,0],.blk 2] rfl ?_
     rw [show ((rt (aG2 ⟨m,n,pbs,pos,pfr,prw,pgl,pvv⟩ n0 (cvOf C) k j - cvOf C (pbs k) * prw k j)).1,(rt (aG2 ⟨m,n,pbs,pos,pfr,prw,pgl,pvv⟩ n0 (cvOf C) k j - cvOf C (pbs k) * prw k j)).2.1,(rt (aG2 ⟨m,n,pbs,pos,pfr,prw,pgl,pvv⟩ n0 (cvOf C) k j - cvOf C (pbs k) * prw k j)).2.2) = rt (aG2 ⟨m,n,pbs,pos,pfr,prw,pgl,pvv⟩ n0 (cvOf C) k j - cvOf C (pbs k) * prw k j) from rfl,rl_set,aG3_next (p:=⟨m,n,pbs,pos,pfr,prw,pgl,pvv⟩) hv]
     refine j_to [0,14,15,16,17,18,19,20,21,22] (by exact fra rfl) rfl rfl (ih2 (j + 1,⟨some bgl,cgl,cs1⟩) (by dsimp only;omega) (by dsimp only;omega))
    ·obtain rfl : n = j:=by omega
     refine j_nf [_,_,_,_,_,_,_,_] rfl ?_
     refine j_run it 1 rfl (by simp) ?_
     refine j_nf [_,_,_,_,_,_,_,_] rfl ?_
     refine j_if rfl rfl (fun h4=>by exfalso;omega) (fun h4=>?_)
     refine j_nf [_,_,_] rfl ?_
     refine j_run it 2 rfl ⟨trivial,⟨by omega,by omega⟩,trivial⟩ ?_
     refine j_nfn 1 [.lp [1,1,1,0,0],.blk 2] rfl ?_
     rw [aG3_all (p:=⟨m,n,pbs,pos,pfr,prw,pgl,pvv⟩)]
     refine j_unfocusL 6 (k) 0 1 2 rfl rfl rfl rfl (by first | assumption | omega) (by first | rfl | assumption | (simp [memB_cons,memB];done) | (simp [memB_cons,memB];omega)) ?_
     simp only [List.eraseIdx_cons_zero,List.eraseIdx_cons_succ,List.take_succ_cons,List.take_zero,List.cons_append,List.nil_append]
     rw [upd_id (hdl_at (by assumption) hkl)]
     refine j_matCongrS (fun g=>rl n (prw g)) 0 rfl (fun g _ _=>by
       by_cases e : g = k
       ·subst e;rw [upd_self]
       ·rw [upd_ne e]) ?_
     refine j_to [2,0,5,6,7,8,9,10,11] (by exact fra rfl) rfl rfl (ih (k + 1,gl,(pn5,cn5,pd5,cd5),upd cs k r1.cs) (by dsimp only;omega) (by dsimp only;omega))
   ·refine j_nf [_,_,_,_] rfl ?_
    refine j_run it 1 rfl (by simp) ?_
    refine j_nf [_,_,_,_] rfl ?_
    refine j_if rfl rfl (fun h2=>?_) (fun h2=>by exfalso;omega)
    refine j_nf [_,_,_,_,_,_] rfl ?_
    refine j_run it 1 rfl (by simp) ?_
    refine j_step rfl (x_idx_own (k) (k) rfl rfl sl63 rfl (by omega) (Nat.mul_one _) ?_)
    refine j_step rfl (x_ldR_int 1 5 (k) rfl rfl rfl ld3 rfl (by assumption) fun hr1=>?_)
    refine j_run it 2 rfl (by simp) ?_
    refine j_nf [_,_,_,_,_,_,_] rfl ?_
    refine j_run it 2 rfl (by simp) ?_
    refine j_step rfl (x_len sl27 rfl ?_)
    refine j_run it 1 rfl (by simp) ?_
    refine j_nf [_,_,_,_,_,_] rfl ?_
    refine j_if rfl rfl (fun h3=>?_) (fun h3=>by exfalso;omega)
    refine j_nf [_,_,_] rfl ?_
    refine j_run it 2 rfl ⟨trivial,⟨by omega,by omega⟩,trivial⟩ ?_
    refine j_nfn 1 [.lp [1,1,1,0,0],.blk 2] rfl ?_
    rw [← aG2_out (p:=⟨m,n,pbs,pos,pfr,prw,pgl,pvv⟩) hv,← aV2_out (p:=⟨m,n,pbs,pos,pfr,prw,pgl,pvv⟩) hv]
    refine j_to [0,1,2,3,4,5,6,7,8] (by exact fra rfl) rfl rfl (ih (k + 1,gl,(pn2,cn2,pd2,cd2),cs) (by dsimp only;omega) (by dsimp only;omega))
  ·obtain rfl : m = k:=by omega
   refine j_nf [_,_,_,_] rfl ?_
   refine j_run it 1 rfl (by simp) ?_
   refine j_nf [_,_,_,_] rfl ?_
   refine j_if rfl rfl (fun h2=>by exfalso;omega) (fun h2=>?_)
   refine j_nf [] rfl ?_
   refine j_gives_end [5,6,7,8,0,1,2,3] rfl rfl ⟨⟨bs,os,fr,rw',gl,hd,cs,pn2,cn2,pd2,cd2⟩,rfl,rfl,rfl⟩
open Go Go.Fw
set_option maxRecDepth 100000
set_option linter.unusedVariables false
set_option linter.unusedSimpArgs false
set_option maxHeartbeats 8000000
def mvOf (M : List (List Rt)) (h k : Nat) : Rat:=cvOf (M.getD h []) k
theorem il_snoc {n : Nat} {f : Nat → Nat} {x : Int} (h : x = (f n : Int)) : il n f++[x] = il (n + 1) f:=by rw [h];exact (range_snoc (fun k=>(f k : Int)) n).symm
theorem binom_small {n m : Nat} (hn : n ≤ 8) (hm : m ≤ 8) : binom (n + m + 1) m ≤ 1048576:=by
 have h : ∀ n,n < 9 → ∀ m,m < 9 → binom (n + m + 1) m ≤ 1048576:=by decide +kernel
 exact h n (by omega) m (by omega)
abbrev StartQ (p : PD) : Value → List Fact → List Blk → Prop:=fun v Φ β=>∃ (b : Nat) (x : DX),v = .pointer (some ⟨b,0,none⟩) ∧ Φ = dicF x p ∧ β = dicB b x p (-1)
theorem S_simplex_start {p1 p2 p3 : Option Addr} {n0 m c1 c2 c3 K : Nat} {C B : List Rt} {M : List (List Rt)} (hn0 : n0 ≤ 8) (hm : m ≤ 8) (hK2 : K ≤ 1000000) (hB : ∀ r ∈ B,r.2.1.length ≤ K ∧ r.2.2.length ≤ K) (hM : ∀ row ∈ M,row.length = n0 ∧ ∀ r ∈ row,r.2.1.length ≤ K ∧ r.2.2.length ≤ K) :
  Ctr Tryz.prog 31 [.agg #[.slice p1 n0 c1,.slice p2 m c2,.slice p3 m c3]] [] [slF RatE p1 n0 c1 C,slF (encSl RatE) p2 m c2 M,slF RatE p3 m c3 B] (StartQ (stP n0 m (mvOf M) (cvOf B))):=by
 refine Ctr_of_j' (F:=F_simplex_start) rfl fun Cx=>?_
 refine j_len 0 rfl fun e1 _ _=>?_
 refine j_len 1 rfl fun e2 _ _=>?_
 refine j_len 2 rfl fun e3 _ _=>?_
 refine j_nf [_,_] rfl ?_
 refine j_step rfl (x_box_agg rfl fun b1=>?_)
 refine j_run it 1 rfl (by simp) ?_
 refine j_nf [_,_] rfl ?_
 (apply j_drawK it mx 7;(· rfl);(· rfl))
 (apply lxk_eq;(· rfl);(· exact d_x fun _=>x_field rfl fd41_0 dk_eq))
 (apply lxk_eq;(· rfl);(· exact d_bld 0 rfl rfl ld27 rfl))
 (apply lxk_eq;(· rfl);(· exact d_x fun _=>x_len sl27 rfl dk_eq))
 (apply lxk_eq;(· rfl);(· exact d_x fun _=>x_field rfl fd41_1 dk_eq))
 (apply lxk_eq;(· rfl);(· exact d_bld 0 rfl rfl ld39 rfl))
 (apply lxk_eq;(· rfl);(· exact d_x fun _=>x_len sl39 rfl dk_eq))
 (apply lxk_run 1;(· rfl);(· simp))
 refine lxk_end rfl ?_
 simp only [List.map_cons,List.map_nil,List.cons_append,List.nil_append]
 refine j_run it 1 rfl (by simp) ?_
 refine j_nf [_,_] rfl ?_
 refine j_step rfl (x_call [] rfl (S_simplex_zero) rfl ?_)
 rintro _ _ _ ⟨pn1,cn1,pd1,cd1,rfl,rfl,rfl⟩
 simp only [List.cons_append,List.nil_append]
 refine j_step rfl (x_build (cs:=[Value.slice none 0 0,Value.slice none 0 0,Value.slice none 0 0,Value.slice none 0 0,Value.slice none 0 0,Value.bool (rt 0).fst,Value.slice pn1 (rt 0).snd.fst.length cn1,Value.slice pd1 (rt 0).snd.snd.length cd1,Value.int IntKind.i64 (-1)]) st65 zo65 rfl rfl ?_)
 refine j_step rfl (x_box_agg rfl fun b2=>?_)
 refine j_run it 1 rfl (by simp) ?_
 refine j_nf [_,_,_] rfl ?_
 refine j_run it 2 rfl (by simp) ?_
 refine j_nf [_,_,_] rfl ?_
 refine j_row0 RatE 26 ?_
 refine j_row0 hdE 27 ?_
 refine j_row0 RatE 26 ?_
 refine j_row0 I64 3 ?_
 refine j_row0 I64 3 ?_
 refine j_famNil RatE 26 0 ?_
 simp only [List.cons_append,List.nil_append]
 refine j_selT 7 [6,5,0,1,2,3,4] rfl rfl ?_
 simp only [List.cons_append,List.nil_append,List.drop_succ_cons,List.drop_zero]
 refine j_matCongr (fun h=>rl n0 (mvOf M h)) 0 rfl (fun i hi=>absurd hi (Nat.not_lt_zero _)) ?_
 refine j_loopG (X:=Nat × Row × Row × Row × (Nat → Hd) × (Nat → List Value)) [1,2,3,4,5,22] [3,6,7,8,9,10,11] (fun x=>[(23,.int .i64 (x.1 : Int))])
  (fun x=>(some b1,41,[.slice p1 n0 c1,.slice p2 m c2,.slice p3 m c3])::(some b2,65,[.slice (ad x.2.1.bo) x.1 x.2.1.cap,.slice none 0 0,.slice (ad x.2.2.1.bo) x.1 x.2.2.1.cap,.slice (ad x.2.2.2.1.bo) x.1 x.2.2.2.1.cap,.slice none 0 0,.bool (rt 0).1,.slice pn1 (rt 0).2.1.length cn1,.slice pd1 (rt 0).2.2.length cd1,.int .i64 (-1)])::(x.2.1.bo,3,x.2.1.cs)::(none,3,[])::(x.2.2.1.bo,26,x.2.2.1.cs)::(x.2.2.2.1.bo,27,x.2.2.2.1.cs)::(none,26,[])::famB 26 x.2.2.2.2.1 x.2.2.2.2.2 x.1 [])
  (fun x=>[rowF I64 x.2.1 x.1 (il x.1 (fun h=>n0 + h)),rowF RatE x.2.2.1 x.1 (rl x.1 (cvOf B)),rowF hdE x.2.2.2.1 x.1 (hdl x.2.2.2.2.1 x.1),matF RatE x.2.2.2.2.1 x.2.2.2.2.2 (fun h=>rl n0 (mvOf M h)) x.1 []])
  (fun x=>x.1 ≤ m) (fun x=>m - x.1) (0,⟨none,0,[]⟩,⟨none,0,[]⟩,⟨none,0,[]⟩,fun _=>(none,0,0),fun _=>[]) [2,4,5,0] rfl rfl rfl (Nat.zero_le _) (by repeat (first | exact Fr.sub_nil _ | refine Fr.sub_cons rfl ?_)) rfl rfl ?_
 rintro ⟨k,bs,fr,rw',hd,cs⟩ hk ih
 simp only [List.cons_append,List.nil_append] at hk ih ⊢
 by_cases hkl : k < m
 ·obtain ⟨z,hz⟩ : ∃ z,B[k]? = some z:=⟨_,List.getElem?_eq_getElem (by omega)⟩
  have hB1:=hB z (List.mem_of_getElem? hz)
  have hg : B.getD k default = z:=by rw [List.getD_eq_getElem?_getD,hz];rfl
  rw [← hg] at hB1
  obtain ⟨y1,y2⟩:=hB1
  refine j_nf [_,_,_,_,_] rfl ?_
  refine j_run it 1 rfl (by simp) ?_
  refine j_nf [_,_,_,_,_] rfl ?_
  refine j_if rfl rfl (fun h1=>?_) (fun h1=>by exfalso;omega)
  refine j_nf [_,_,_,_,_,_,_] rfl ?_
  refine j_run it 2 rfl (by simp) ?_
  refine j_nf [_,_,_,_,_,_,_] rfl ?_
  refine j_run it 3 rfl (by simp) ?_
  refine j_step rfl (x_field rfl fd65_0 ?_)
  refine j_step rfl (x_bld 1 rfl rfl ld63 rfl ?_)
  refine j_run it 3 rfl ⟨⟨by omega,by omega⟩,trivial,trivial,trivial⟩ ?_
  refine j_step rfl (x_lit sl63 zo63e rfl rfl rfl rfl (by decide) (by decide) rfl fun b3=>?_)
  refine j_step rfl (x_appR (z:=(↑n0 + ↑k : Int)) 3 0 0 rfl rfl rfl rfl rfl sl63 zo63e rfl (fun w A hG=>(rd_int (by first | (simp only [InR];omega) | (simp [InR];done)))) (by omega) _ by63e (by omega) fun r1=>?_)
  refine j_run it 1 rfl (by simp) ?_
  refine j_step rfl (x_field rfl fd65_0 ?_)
  refine j_step rfl (x_bst1 3 rfl rfl rfl rfl ld63 rfl (Nat.le_of_ble_eq_true rfl) ?_)
  refine j_nf [_,_,_,_,_,_,_] rfl ?_
  (refine j_selT 8 [5,0,1,2,3,4,6,7] rfl rfl ?_;apply j_drawKB it mx 1 14;(· rfl);(· rfl);(· rfl))
  (apply lxk_run 3;(· rfl);(· simp))
  (apply lxk_eq;(· rfl);(· exact d_x fun _=>x_field rfl fd65_2 dk_eq))
  (apply lxk_eq;(· rfl);(· exact d_bld 3 rfl rfl ld27 rfl))
  (apply lxk_eq;(· rfl);(· exact d_x fun _=>x_field rfl fd41_2 dk_eq))
  (apply lxk_eq;(· rfl);(· exact d_bld 2 rfl rfl ld27 rfl))
  (apply lxk_run 1;(· rfl);(· simp))
  (apply lxk_pt;(· rfl);(· exact d_x fun _=>x_idx 11 (k) rfl rfl rfl sl27 rfl (by omega) fun z1 hz1 b4 o1=>(dk_ptD default hz1 0 rfl));intro b4 o1)
  (apply lxk_rq;(· rfl);(· exact d_x fun _=>x_ld_rt 0 rfl rfl ld26 fun pa1 ca1 pa2 ca2=>(dk_rq 0 1 rfl rfl));intro pn2 cn2 pd2 cd2)
  (apply lxk_rq;(· rfl);(· exact d_x fun _=>x_call [0,1] rfl (S_rational_Trim (by omega) (by omega)) rfl (by rintro _ _ _ ⟨pn3,cn3,pd3,cd3,rfl,rfl,rfl⟩;exact (dk_rq 0 1 rfl rfl)));intro pn3 cn3 pd3 cd3)
  simp only [vq_rt']
  (apply lxk_sl;(· rfl);(· exact d_x fun _=>x_lit sl27 zo27e rfl rfl rfl rfl (by decide) (by decide) rfl fun b5=>dk_all (E:=RatE) [[Value.bool (rt (vq ((B.getD k default).fst,(B.getD k default).snd.fst,(B.getD k default).snd.snd))).fst,Value.slice pn3 (rt (vq ((B.getD k default).fst,(B.getD k default).snd.fst,(B.getD k default).snd.snd))).snd.fst.length cn3,Value.slice pd3 (rt (vq ((B.getD k default).fst,(B.getD k default).snd.fst,(B.getD k default).snd.snd))).snd.snd.length cd3]] [((rt (vq ((B.getD k default).fst,(B.getD k default).snd.fst,(B.getD k default).snd.snd))).fst,(rt (vq ((B.getD k default).fst,(B.getD k default).snd.fst,(B.getD k default).snd.snd))).snd.fst,(rt (vq ((B.getD k default).fst,(B.getD k default).snd.fst,(B.getD k default).snd.snd))).snd.snd)] (fun w A hG=>(allrd_cons (rd_rt (hG _ (fact_mem (n:=0) rfl)) (hG _ (fact_mem (n:=1) rfl))) allrd_nil)) rfl rfl rfl (by first | decide | exact Nat.le_of_ble_eq_true rfl));intro pa1 ca1)
  (apply lxk_app (m:=1) 8 0;(· rfl);(· rfl);(· rfl);(· rfl);(· rfl);(· exact sl27);(· exact zo27e);(· rfl);(· (first | omega | (simp;done)));(· (first | omega | (simp only [List.length_cons,List.length_nil];omega)));(· exact by27e);(· (first | omega | (simp only [List.length_cons,List.length_nil];omega)));intro b5 cap1 cs1)
  (apply lxk_run 1;(· rfl);(· simp))
  refine lxk_end rfl ?_
  simp only [List.map_cons,List.map_nil,List.cons_append,List.nil_append]
  refine j_step rfl (x_field rfl fd65_2 ?_)
  refine j_step rfl (x_bst1 4 rfl rfl rfl rfl ld27 rfl (Nat.le_of_ble_eq_true rfl) ?_)
  refine j_nf [_,_,_,_,_,_,_] rfl ?_
  refine j_run it 1 rfl (by simp) ?_
  refine j_nf [_,_,_,_,_,_,_,_] rfl ?_
  refine j_step rfl (x_field rfl fd41_1 ?_)
  refine j_step rfl (x_bld 3 rfl rfl ld39 rfl ?_)
  refine j_run it 1 rfl (by simp) ?_
  refine j_step rfl (x_idx 17 (k) rfl rfl rfl sl39 rfl (by omega) fun z1 hz1 b6 o2=>?_)
  refine j_step rfl (x_ld_sl 0 rfl rfl ld27 fun pa2 ca2=>?_)
  refine j_step rfl (x_len sl27 rfl ?_)
  refine j_run it 1 rfl (by simp) ?_
  refine j_nf [_,_,_,_,_,_,_,_] rfl ?_
  simp only [setB,Nat.zero_add,List.eraseIdx_cons_zero,List.eraseIdx_cons_succ,List.set_cons_zero,List.set_cons_succ,List.drop_succ_cons,List.drop_zero]
  rw [show ((rt (vq ((B.getD k default).1,(B.getD k default).2.1,(B.getD k default).2.2))).1,(rt (vq ((B.getD k default).1,(B.getD k default).2.1,(B.getD k default).2.2))).2.1,(rt (vq ((B.getD k default).1,(B.getD k default).2.1,(B.getD k default).2.2))).2.2) = rt (cvOf B k) from rfl,rl_snoc,il_snoc (show (n0 : Int) + k = ((n0 + k : Nat) : Int) by omega)]
  refine j_selT 8 [3,4,1,5,0,6,7] rfl rfl ?_
  simp only [List.cons_append,List.nil_append,List.drop_succ_cons,List.drop_zero]
  refine j_row0 RatE 26 ?_
  obtain ⟨hz1n,hz1K⟩:=hM z1 (List.mem_of_getElem? hz1)
  have hgM : M.getD k [] = z1:=by rw [List.getD_eq_getElem?_getD,hz1];rfl
  rw [hz1n]
  refine j_loopG (X:=Nat × Row) [1,2,3,4,5,6,22,23,24,25,26,27,28,29,30,31,32,33,34,35,36,37,38,39,40,41,42,43,44,45,46,47,48,49,50,51,52,53,54,55,56,57,58] [1,3,10,13,14,15,16,17,18,19,20,21] (fun x=>[(59,.int .i64 (x.1 : Int)),(7,.slice (ad x.2.bo) x.1 x.2.cap)])
   (fun x=>(x.2.bo,26,x.2.cs)::(some b1,41,[.slice p1 n0 c1,.slice p2 m c2,.slice p3 m c3])::(some b2,65,[.slice (ad r1.bo) (k + 1) r1.cap,.slice none 0 0,.slice (ad (some b5)) (k + 1) cap1,.slice (ad rw'.bo) k rw'.cap,.slice none 0 0,.bool (rt 0).1,.slice pn1 (rt 0).2.1.length cn1,.slice pd1 (rt 0).2.2.length cd1,.int .i64 (-1)])::(r1.bo,3,r1.cs)::(none,3,[])::(some b5,26,cs1)::(rw'.bo,27,rw'.cs)::(none,26,[])::famB 26 hd cs k [])
   (fun x=>[rowF RatE x.2 x.1 (rl x.1 (mvOf M k))])
   (fun x=>x.1 ≤ n0) (fun x=>n0 - x.1) (0,⟨none,0,[]⟩) [0] rfl rfl rfl (Nat.zero_le _) (by repeat (first | exact Fr.sub_nil _ | refine Fr.sub_cons rfl ?_)) rfl rfl ?_
  rintro ⟨j,r⟩ hj ih2
  simp only [List.cons_append,List.nil_append] at hj ih2 ⊢
  by_cases hjl : j < n0
  ·obtain ⟨zz,hzz⟩ : ∃ zz,z1[j]? = some zz:=⟨_,List.getElem?_eq_getElem (by omega)⟩
   obtain ⟨y3,y4⟩:=hz1K zz (List.mem_of_getElem? hzz)
   have hmv : mvOf M k j = vq (zz.1,zz.2.1,zz.2.2):=by rw [mvOf,hgM,cvOf_at hzz]
   refine j_nf [_,_,_,_,_,_,_,_,_,_] rfl ?_
   refine j_run it 1 rfl (by simp) ?_
   refine j_nf [_,_,_,_,_,_,_,_,_,_] rfl ?_
   refine j_if rfl rfl (fun h2=>?_) (fun h2=>by exfalso;omega)
   refine j_nf [_,_,_,_,_,_,_,_,_,_,_,_] rfl ?_
   refine j_step rfl (x_idx 1 (j) rfl rfl rfl sl27 rfl (by omega) fun z2 hz2 b7 o3=>?_)
   refine j_step rfl (x_ld_rt 0 rfl rfl ld26 fun pa3 ca3 pa4 ca4=>?_)
   refine j_step rfl (x_alloc zo26 fun b8=>?_)
   refine j_step rfl (x_bst_all 0 rfl rfl rfl ld26 rfl rfl (by simp [Value.oneCell']) ?_)
   refine j_nf [_,_,_,_,_,_,_,_,_,_,_] rfl ?_
   refine j_run it 1 rfl (by simp) ?_
   refine j_step rfl (x_bld_all 0 rfl rfl ld26 rfl ?_) --ok
   obtain rfl : z2 = zz:=Option.some.inj (hz2.symm.trans hzz)
   refine j_step rfl (x_call [0,1] rfl (S_rational_Trim (by omega) (by omega)) rfl ?_)
   rintro _ _ _ ⟨pn4,cn4,pd4,cd4,rfl,rfl,rfl⟩
   simp only [List.cons_append,List.nil_append]
   refine j_step rfl (x_lit sl27 zo27e rfl rfl rfl rfl (by decide) (by decide) rfl fun b9=>?_)
   refine j_step rfl (x_appR (z:=((rt (vq (z2.fst,z2.snd.fst,z2.snd.snd))).fst,((rt (vq (z2.fst,z2.snd.fst,z2.snd.snd))).snd.fst,(rt (vq (z2.fst,z2.snd.fst,z2.snd.snd))).snd.snd))) 2 0 5 rfl rfl rfl rfl rfl sl27 zo27e rfl (fun w A hG=>(rd_pair (v1:=[Value.bool (rt (vq (z2.fst,z2.snd.fst,z2.snd.snd))).fst]) (rd_bool _) (rd_pair (v1:=[Value.slice pn4 (rt (vq (z2.fst,z2.snd.fst,z2.snd.snd))).snd.fst.length cn4]) (rd_of_slF (hG _ (fact_mem (n:=0) rfl))) (rd_of_slF (hG _ (fact_mem (n:=1) rfl)))))) (by omega) _ by27e (by omega) fun r2=>?_)
   refine j_run it 1 rfl (by simp) ?_
   refine j_nf [_,_,_,_,_,_,_,_,_] rfl ?_
   refine j_run it 2 rfl ⟨trivial,⟨by omega,by omega⟩,trivial⟩ ?_
   refine j_nfn 1 [.lp (pL 1002740),.blk 2,.c (pL 125343),.blk 1,.c (pL 1959),.lp (pL 244),.blk 0,.c [1,1,1,1]] rfl ?_
   rw [← hmv,show ((rt (mvOf M k j)).1,(rt (mvOf M k j)).2.1,(rt (mvOf M k j)).2.2) = rt (mvOf M k j) from rfl,rl_snoc]
   refine j_toXT 10 [0,3,4,5,6,7,8,9] [0,7,8,9,10,11,12,13,14,15,16,17,18] (by exact fra rfl) rfl rfl rfl rfl (ih2 (j + 1,r2) (by dsimp only;omega) (by dsimp only;omega))
  ·obtain rfl : n0 = j:=by omega
   refine j_nf [_,_,_,_,_,_,_,_,_,_] rfl ?_
   refine j_run it 1 rfl (by simp) ?_
   refine j_nf [_,_,_,_,_,_,_,_,_,_] rfl ?_
   refine j_if rfl rfl (fun h2=>by exfalso;omega) (fun h2=>?_)
   refine j_nf [_,_,_,_,_,_] rfl ?_
   refine j_run it 3 rfl (by simp) ?_
   refine j_step rfl (x_field rfl fd65_3 ?_)
   refine j_step rfl (x_bld 2 rfl rfl ld39 rfl ?_)
   refine j_run it 1 rfl (by simp) ?_
   refine j_step rfl (x_lit sl39 zo39e rfl rfl rfl rfl (by decide) (by decide) rfl fun b7=>?_)
   refine j_step rfl (x_appR (z:=(r.bo,n0,r.cap)) 7 0 4 rfl rfl rfl rfl rfl sl39 zo39e rfl (fun w A hG=>(rd_hd _ _ _)) (by omega) _ by39e (by omega) fun r2=>?_)
   refine j_run it 1 rfl (by simp) ?_
   refine j_step rfl (x_field rfl fd65_3 ?_)
   refine j_step rfl (x_bst1 4 rfl rfl rfl rfl ld39 rfl (Nat.le_of_ble_eq_true rfl) ?_)
   refine j_nf [_,_,_,_] rfl ?_
   refine j_run it 2 rfl ⟨trivial,⟨by omega,by omega⟩,trivial⟩ ?_
   refine j_nfn 1 [.lp (pL 244),.blk 0,.c [1,1,1,1]] rfl ?_
   simp only [setB,Nat.zero_add,List.eraseIdx_cons_zero,List.eraseIdx_cons_succ,List.set_cons_zero,List.set_cons_succ,List.drop_succ_cons,List.drop_zero]
   refine j_push 8 2 1 6 rfl rfl rfl rfl ?_
   simp only [List.eraseIdx_cons_zero,List.eraseIdx_cons_succ,List.take_succ_cons,List.take_zero,List.cons_append,List.nil_append]
   rw [hdl_snoc]
   refine j_matCongr (fun h=>rl n0 (mvOf M h)) 0 rfl (fun g hg=>by
    by_cases e : g = k
    ·subst e;rw [upd_self]
    ·rw [upd_ne e]) ?_
   refine j_toXT 8 [2,3,4,5,6,0,7] [6,5,2,0,9,10,11,12,13,14,15] (by exact fra rfl) rfl rfl rfl rfl (ih (k + 1,r1,⟨some b5,cap1,cs1⟩,r2,upd hd k (r.bo,n0,r.cap),upd cs k r.cs) (by dsimp only;omega) (by dsimp only;omega))
 ·obtain rfl : m = k:=by omega
  refine j_nf [_,_,_,_,_] rfl ?_
  refine j_run it 1 rfl (by simp) ?_
  refine j_nf [_,_,_,_,_] rfl ?_
  refine j_if rfl rfl (fun h1=>by exfalso;omega) (fun h1=>?_)
  refine j_nf [_,_,_] rfl ?_
  refine j_run it 2 rfl (by simp) ?_
  refine j_nf [_,_,_] rfl ?_
  refine j_loopG (X:=Nat × Row × Row) [2,3,4,5,80] [0,1,2,3,6,7,8,9,10] (fun x=>[(81,.int .i64 (x.1 : Int))])
   (fun x=>(some b1,41,[.slice p1 n0 c1,.slice p2 m c2,.slice p3 m c3])::(some b2,65,[.slice (ad bs.bo) m bs.cap,.slice (ad x.2.1.bo) x.1 x.2.1.cap,.slice (ad fr.bo) m fr.cap,.slice (ad rw'.bo) m rw'.cap,.slice (ad x.2.2.bo) x.1 x.2.2.cap,.bool (rt 0).1,.slice pn1 (rt 0).2.1.length cn1,.slice pd1 (rt 0).2.2.length cd1,.int .i64 (-1)])::(bs.bo,3,bs.cs)::(x.2.1.bo,3,x.2.1.cs)::(fr.bo,26,fr.cs)::(rw'.bo,27,rw'.cs)::(x.2.2.bo,26,x.2.2.cs)::famB 26 hd cs m [])
   (fun x=>[rowF I64 x.2.1 x.1 (il x.1 (fun k=>k)),rowF RatE x.2.2 x.1 (rl x.1 (fun _=>0))])
   (fun x=>x.1 ≤ n0) (fun x=>n0 - x.1) (0,⟨none,0,[]⟩,⟨none,0,[]⟩) [4,5] rfl rfl rfl (Nat.zero_le _) (by repeat (first | exact Fr.sub_nil _ | refine Fr.sub_cons rfl ?_)) rfl rfl ?_
  rintro ⟨k,os,gl⟩ hk ih
  simp only [List.cons_append,List.nil_append] at hk ih ⊢
  by_cases hkl : k < n0
  ·refine j_selT 7 [0,1,2,3,6,4,5] rfl rfl ?_
   simp only [List.cons_append,List.nil_append,List.drop_succ_cons,List.drop_zero]
   refine j_nf [_,_,_,_,_] rfl ?_
   refine j_run it 1 rfl (by simp) ?_
   refine j_nf [_,_,_,_,_] rfl ?_
   refine j_if rfl rfl (fun h2=>?_) (fun h2=>by exfalso;omega)
   refine j_nf [_,_,_,_,_,_,_] rfl ?_
   refine j_run it 2 rfl (by simp) ?_
   refine j_nf [_,_,_,_,_,_,_] rfl ?_
   refine j_run it 3 rfl (by simp) ?_
   refine j_step rfl (x_field rfl fd65_1 ?_)
   refine j_step rfl (x_bld 1 rfl rfl ld63 rfl ?_)
   refine j_run it 1 rfl (by simp) ?_
   refine j_step rfl (x_lit sl63 zo63e rfl rfl rfl rfl (by decide) (by decide) rfl fun b3=>?_)
   refine j_step rfl (x_appR (z:=(↑k : Int)) 4 0 0 rfl rfl rfl rfl rfl sl63 zo63e rfl (fun w A hG=>(rd_int (by first | (simp only [InR];omega) | (simp [InR];done)))) (by omega) _ by63e (by omega) fun r1=>?_)
   refine j_run it 1 rfl (by simp) ?_
   refine j_step rfl (x_field rfl fd65_1 ?_)
   refine j_step rfl (x_bst1 3 rfl rfl rfl rfl ld63 rfl (Nat.le_of_ble_eq_true rfl) ?_)
   refine j_nf [_,_,_,_,_,_] rfl ?_
   (refine j_selT 8 [5,0,1,2,3,4,6,7] rfl rfl ?_;apply j_drawKB it mx 1 9;(· rfl);(· rfl);(· rfl))
   (apply lxk_run 3;(· rfl);(· simp))
   (apply lxk_eq;(· rfl);(· exact d_x fun _=>x_field rfl fd65_4 dk_eq))
   (apply lxk_eq;(· rfl);(· exact d_bld 3 rfl rfl ld27 rfl))
   (apply lxk_rq;(· rfl);(· exact d_x fun _=>x_call [] rfl (S_simplex_zero) rfl (by rintro _ _ _ ⟨pn2,cn2,pd2,cd2,rfl,rfl,rfl⟩;exact (dk_rq 0 1 rfl rfl)));intro pn2 cn2 pd2 cd2)
   (apply lxk_sl;(· rfl);(· exact d_x fun _=>x_lit sl27 zo27e rfl rfl rfl rfl (by decide) (by decide) rfl fun b4=>dk_all (E:=RatE) [[Value.bool (rt 0).fst,Value.slice pn2 (rt 0).snd.fst.length cn2,Value.slice pd2 (rt 0).snd.snd.length cd2]] [((rt 0).fst,(rt 0).snd.fst,(rt 0).snd.snd)] (fun w A hG=>(allrd_cons (rd_rt (hG _ (fact_mem (n:=0) rfl)) (hG _ (fact_mem (n:=1) rfl))) allrd_nil)) rfl rfl rfl (by first | decide | exact Nat.le_of_ble_eq_true rfl));intro pa1 ca1)
   (apply lxk_app (m:=1) 5 0;(· rfl);(· rfl);(· rfl);(· rfl);(· rfl);(· exact sl27);(· exact zo27e);(· rfl);(· (first | omega | (simp;done)));(· (first | omega | (simp only [List.length_cons,List.length_nil];omega)));(· exact by27e);(· (first | omega | (simp only [List.length_cons,List.length_nil];omega)));intro b4 cap1 cs1)
   (apply lxk_run 1;(· rfl);(· simp))
   refine lxk_end rfl ?_
   simp only [List.map_cons,List.map_nil,List.cons_append,List.nil_append]
   refine j_step rfl (x_field rfl fd65_4 ?_)
   refine j_step rfl (x_bst1 4 rfl rfl rfl rfl ld27 rfl (Nat.le_of_ble_eq_true rfl) ?_)
   refine j_nf [_,_,_,_] rfl ?_
   refine j_run it 2 rfl ⟨trivial,⟨by omega,by omega⟩,trivial⟩ ?_
   refine j_nfn 1 [.lp (pL 500),.blk 4,.c [1,1,1,1,1]] rfl ?_
   simp only [setB,Nat.zero_add,List.eraseIdx_cons_zero,List.eraseIdx_cons_succ,List.set_cons_zero,List.set_cons_succ,List.drop_succ_cons,List.drop_zero]
   rw [show ((rt 0).1,(rt 0).2.1,(rt 0).2.2) = rt ((fun _=>(0 : Rat)) k) from rfl,rl_snoc k (fun _=>(0 : Rat)),il_snoc (n:=k) (f:=fun k=>k) rfl]
   refine j_toXT 8 [3,4,5,1,6,7,0] [4,0,7,8,9,10,11,12,13,14,15] (by exact fra rfl) rfl rfl rfl rfl (ih (k + 1,r1,⟨some b4,cap1,cs1⟩) (by dsimp only;omega) (by dsimp only;omega))
  ·obtain rfl : n0 = k:=by omega
   have hbin : val (limbs (binom (n0 + m + 1) m)) ≤ val (limbs 1048576):=by
    rw [val_limbs,val_limbs];exact binom_small hn0 hm
   have hc : cmpN (val (limbs (binom (n0 + m + 1) m))) (val (limbs 1048576)) ≤ 0:=by
    rw [cmpN];split
    ·decide
    ·split
     ·omega
     ·decide
   refine j_nf [_,_,_,_,_] rfl ?_
   refine j_run it 1 rfl (by simp) ?_
   refine j_nf [_,_,_,_,_] rfl ?_
   refine j_if rfl rfl (fun h2=>by exfalso;omega) (fun h2=>?_)
   refine j_nf [_,_,_] rfl ?_
   refine j_run it 5 rfl ⟨trivial,⟨by omega,by omega⟩,⟨by omega,by omega⟩,trivial,trivial,trivial⟩ ?_
   refine j_recast (t:=109) (((((n0) + (m)) + 1) : Nat) : Int) rfl (by omega) ?_
   refine j_step rfl (x_call [] rfl (S_nat_Binomial (by omega)) rfl ?_)
   rintro _ _ _ ⟨pa1,ca1,rfl,rfl,rfl⟩
   simp only [List.cons_append,List.nil_append]
   refine j_run it 5 rfl (by simp) ?_
   refine j_nf [_,_,_] rfl ?_
   refine j_run it 4 rfl (by simp) ?_
   refine j_split_dec (t:=116) rfl (fun h3=>?_) (fun h3=>by exfalso;omega)
   refine j_gstep rfl rfl (x_call [] rfl (S_nat_Of (by simp)) rfl ?_)
   rintro _ _ _ ⟨pa2,ca2,rfl,rfl,rfl⟩
   simp only [List.cons_append,List.nil_append]
   simp only [decide_true]
   refine j_gstep rfl rfl (x_call [1,0] rfl (S_nat_Cmp) rfl ?_)
   rintro _ _ _ ⟨rfl,rfl,rfl⟩
   simp only [List.cons_append,List.nil_append]
   refine j_run it 2 rfl (by simp) ?_
   refine j_nf [_,_] rfl ?_
   refine j_if rfl rfl (fun h4=>by exfalso;omega) (fun h4=>?_)
   refine j_nf [_,_] rfl ?_
   refine j_run it 2 rfl (by simp) ?_
   refine j_nf [_] rfl ?_
   refine j_givK 7 [1,2,3,4,5,6] [4,2,5,6,3,7,8,9] rfl (.tmp rfl .nil) rfl rfl rfl ⟨b2,⟨bs,os,fr,rw',gl,hd,cs,pn1,cn1,pd1,cd1⟩,rfl,rfl,rfl⟩
theorem signP (q : Rat) : 0 < q.num.sign ↔ 0 < q:=by
 rw [Int.sign_pos_iff,← Rat.not_le]
 have h:=Rat.num_nonneg (q:=-q)
 rw [Rat.neg_num] at h
 have h2 : 0 ≤ -q ↔ q ≤ 0:=by constructor <;> intro h <;> grind
 rw [← h2,← h];omega
def entQ (p : PD) (k : Nat) (best : Int) : Prop:=(best = -1 ∧ ∀ c,c < k → p.gl c ≤ 0) ∨ ∃ j : Nat,best = j ∧ j < k ∧ 0 < p.gl j ∧ ∀ c,c < k → 0 < p.gl c → p.os j ≤ p.os c
theorem entQ_skip {p : PD} {k : Nat} {best : Int} (h : entQ p k best) (hn : ¬ 0 < p.gl k) : entQ p (k + 1) best:=by
 rcases h with ⟨e,h⟩ | ⟨j,e,h1,h2,h⟩
 ·refine .inl ⟨e,fun c hc=>?_⟩
  rcases Nat.lt_succ_iff_lt_or_eq.1 hc with h3 | rfl
  ·exact h c h3
  ·exact Rat.not_lt.1 hn
 ·refine .inr ⟨j,e,by omega,h2,fun c hc hc2=>?_⟩
  rcases Nat.lt_succ_iff_lt_or_eq.1 hc with h3 | rfl
  ·exact h c h3 hc2
  ·exact absurd hc2 hn
theorem entQ_first {p : PD} {k : Nat} (h : ∀ c,c < k → p.gl c ≤ 0) (hp : 0 < p.gl k) : entQ p (k + 1) k :=
 .inr ⟨k,rfl,Nat.lt_succ_self k,hp,fun c hc hc2=>by
  rcases Nat.lt_succ_iff_lt_or_eq.1 hc with h3 | rfl
  ·exact absurd hc2 (Rat.not_lt.2 (h c h3))
  ·exact Nat.le_refl _⟩
theorem entQ_less {p : PD} {k j : Nat} (h : ∀ c,c < k → 0 < p.gl c → p.os j ≤ p.os c) (hp : 0 < p.gl k) (hl : p.os k < p.os j) : entQ p (k + 1) k :=
 .inr ⟨k,rfl,Nat.lt_succ_self k,hp,fun c hc hc2=>by
  rcases Nat.lt_succ_iff_lt_or_eq.1 hc with h3 | rfl
  ·have:=h c h3 hc2;omega
  ·exact Nat.le_refl _⟩
theorem entQ_keep {p : PD} {k j : Nat} (hj : j < k) (h2 : 0 < p.gl j) (h : ∀ c,c < k → 0 < p.gl c → p.os j ≤ p.os c) (hl : ¬ p.os k < p.os j) : entQ p (k + 1) j :=
 .inr ⟨j,rfl,by omega,h2,fun c hc hc2=>by
  rcases Nat.lt_succ_iff_lt_or_eq.1 hc with h3 | rfl
  ·exact h c h3 hc2
  ·omega⟩
abbrev DicQ (b : Nat) (x : DX) (p : PD) (left : Int) (q : Int → Prop) : Value → List Fact → List Blk → Prop:=fun v Φ β=>∃ z : Int,v = .int .i64 z ∧ q z ∧ Φ = dicF x p ∧ β = dicB b x p left
theorem S_simplex_dictionary__enter {b : Nat} {x : DX} {p : PD} {left : Int} (hn : p.n ≤ 100) (hos : ∀ k,k < p.n → p.os k ≤ 1000000) :
  Ctr Tryz.prog 65 [.pointer (some ⟨b,0,none⟩)] (dicB b x p left) (dicF x p) (DicQ b x p left (entQ p p.n)):=by
 refine Ctr_of_j' (F:=F_simplex_dictionary__enter) rfl fun C=>?_
 obtain ⟨bs,os,fr,rw',gl,hd,cs,pn,cn,pd,cd⟩:=x
 obtain ⟨m,n,pbs,pos,pfr,prw,pgl,pvv⟩:=p
 simp only [dicB,dicF,dicC] at *
 refine j_nf [_,_] rfl ?_
 refine j_run it 1 rfl (by simp) ?_
 refine j_nf [_,_] rfl ?_
 refine j_run it 1 rfl (by simp) ?_
 refine j_nf [_,_,_] rfl ?_
 refine j_run it 2 rfl (by simp) ?_
 refine j_step rfl (x_field rfl fd65_4 ?_)
 refine j_step rfl (x_bld 0 rfl rfl ld27 rfl ?_)
 refine j_step rfl (x_len sl27 rfl ?_)
 refine j_run it 1 rfl (by simp) ?_
 refine j_nf [_,_,_] rfl ?_
 refine j_loopG (X:=Nat × Int) [0,2,9,10] [0,1,2,3,4,5,6,7] (fun x=>[(11,.int .i64 (x.1 : Int)),(3,.int .i64 x.2)])
  (fun _=>(some b,65,[.slice (ad bs.bo) m bs.cap,.slice (ad os.bo) n os.cap,.slice (ad fr.bo) m fr.cap,.slice (ad rw'.bo) m rw'.cap,.slice (ad gl.bo) n gl.cap,.bool (rt pvv).1,.slice pn (rt pvv).2.1.length cn,.slice pd (rt pvv).2.2.length cd,.int .i64 left])::(bs.bo,3,bs.cs)::(os.bo,3,os.cs)::(fr.bo,26,fr.cs)::(rw'.bo,27,rw'.cs)::(gl.bo,26,gl.cs)::famB 26 hd cs m [])
  (fun _=>[])
  (fun x=>x.1 ≤ n ∧ entQ ⟨m,n,pbs,pos,pfr,prw,pgl,pvv⟩ x.1 x.2) (fun x=>n - x.1) (0,-1) [] rfl rfl rfl ⟨Nat.zero_le _,.inl ⟨rfl,fun c hc=>by omega⟩⟩ (by repeat (first | exact Fr.sub_nil _ | refine Fr.sub_cons rfl ?_)) rfl rfl ?_
 rintro ⟨k,best⟩ ⟨hk,hq⟩ ih
 simp only [List.cons_append,List.nil_append] at hk ih ⊢
 by_cases hkl : k < n
 ·refine j_rowB 4 rfl (by omega) fun bgl cgl egl h=>?_
  subst h
  refine j_rowB 1 rfl (by omega) fun bos cos eos h=>?_
  subst h
  have z1:=rl_get (f:=pgl) hkl
  have w1:=il_get (f:=pos) hkl
  have w4:=hos k hkl
  have hs:=signP (pgl k)
  refine j_nf [_,_,_,_,_] rfl ?_
  refine j_run it 1 rfl (by simp) ?_
  refine j_nf [_,_,_,_,_] rfl ?_
  refine j_if rfl rfl (fun h1=>?_) (fun h1=>by exfalso;omega)
  refine j_nf [_,_,_,_,_,_,_] rfl ?_
  refine j_run it 1 rfl (by simp) ?_
  refine j_step rfl (x_idx_own (k) _ rfl rfl sl27 rfl (by omega) rfl ?_)
  refine j_step rfl (x_ldR_vw vw_RatE 5 4 (k) rfl rfl rfl ld26 rfl (by omega) fun z2 hz1 g1=>?_)
  dsimp only [vw_RatE,List.cons_append,List.nil_append,List.map_cons,List.map_nil]
  refine j_step rfl (x_alloc zo26 fun b1=>?_)
  obtain rfl : z2 = rt (pgl k):=Option.some.inj (hz1.symm.trans z1)
  by_cases hg : 0 < pgl k
  case neg =>
   have hs : ¬ 0 < (pgl k).num.sign:=fun e=>hg (hs.1 e)
   refine j_run it 1 rfl (by simp) ?_
   refine j_step rfl (x_bst_all 0 rfl rfl rfl ld26 rfl rfl (by simp [Value.oneCell']) ?_)
   refine j_nf [_,_,_,_,_,_,_] rfl ?_
   (apply j_drawK it mx 24;(· rfl);(· rfl))
   (apply lxk_eq;(· rfl);(· exact d_bld_all 0 rfl rfl ld26 rfl))
   (apply lxk_eq;(· rfl);(· exact d_x fun _=>x_call [0,1] rfl (S_rational_Sign) rfl (by rintro _ _ _ ⟨rfl,rfl,rfl⟩;exact dk_eq)))
   simp only [vq_rt']
   (apply lxk_eq;(· rfl);(· exact d_x fun _=>x_false it rfl (by trivial) (by omega) dk_eq))
   (apply lxk_run 2;(· rfl);(· simp))
   (apply lxk_run 16;(· rfl);(· simp))
   (apply lxk_run 3;(· rfl);(· simp))
   refine lxk_end rfl ?_
   simp only [List.map_cons,List.map_nil,List.cons_append,List.nil_append]
   refine j_nf [_,_,_,_,_,_] rfl ?_
   refine j_false rfl rfl ?_
   refine j_nf [_,_,_,_] rfl ?_
   refine j_run it 2 rfl ⟨trivial,⟨by omega,by omega⟩,trivial⟩ ?_
   refine j_nfn 1 [.lp (pL 116),.blk 0,.c [1,1,1]] rfl ?_
   refine j_toXT 7 [1,2,3,4,5,6] [2,3,4,5,6,7,8,9] (by exact fra rfl) rfl rfl rfl rfl (ih (k + 1,best) (by dsimp only;omega) ⟨by dsimp only;omega,entQ_skip hq hg⟩)
  have hs:=hs.2 hg
  rcases hq with ⟨rfl,hq⟩ | ⟨j,rfl,hj,hj2,hq⟩
  ·refine j_run it 1 rfl (by simp) ?_
   refine j_step rfl (x_bst_all 0 rfl rfl rfl ld26 rfl rfl (by simp [Value.oneCell']) ?_)
   refine j_nf [_,_,_,_,_,_,_] rfl ?_
   (apply j_drawK it mx 24;(· rfl);(· rfl))
   (apply lxk_eq;(· rfl);(· exact d_bld_all 0 rfl rfl ld26 rfl))
   (apply lxk_eq;(· rfl);(· exact d_x fun _=>x_call [0,1] rfl (S_rational_Sign) rfl (by rintro _ _ _ ⟨rfl,rfl,rfl⟩;exact dk_eq)))
   simp only [vq_rt']
   (apply lxk_eq;(· rfl);(· exact d_x fun _=>x_true it rfl (by trivial) (by omega) dk_eq))
   (apply lxk_run 2;(· rfl);(· simp))
   (apply lxk_eq;(· rfl);(· exact d_x fun _=>x_true it rfl (by trivial) (by omega) dk_eq))
   (apply lxk_run 15;(· rfl);(· simp))
   (apply lxk_run 3;(· rfl);(· simp))
   refine lxk_end rfl ?_
   simp only [List.map_cons,List.map_nil,List.cons_append,List.nil_append]
   refine j_nf [_,_,_,_,_,_] rfl ?_
   refine j_true rfl rfl ?_
   refine j_nf [_,_,_,_,_,_] rfl ?_
   refine j_run it 2 rfl (by simp) ?_
   refine j_nf [_,_,_,_] rfl ?_
   refine j_run it 2 rfl ⟨trivial,⟨by omega,by omega⟩,trivial⟩ ?_
   refine j_nfn 1 [.lp (pL 116),.blk 0,.c [1,1,1]] rfl ?_
   refine j_toXT 7 [1,2,3,4,5,6] [2,3,4,5,6,7,8,9] (by exact fra rfl) rfl rfl rfl rfl (ih (k + 1,k) (by dsimp only;omega) ⟨by dsimp only;omega,entQ_first hq hg⟩)
  ·have w2:=il_get (f:=pos) (show j < n by dsimp only at hj;omega)
   have w5:=hos j (by show j < n;dsimp only at hj;omega)
   refine j_run it 1 rfl (by simp) ?_
   refine j_step rfl (x_bst_all 0 rfl rfl rfl ld26 rfl rfl (by simp [Value.oneCell']) ?_)
   refine j_nf [_,_,_,_,_,_,_] rfl ?_
   (apply j_drawK it mx 24;(· rfl);(· rfl))
   (apply lxk_eq;(· rfl);(· exact d_bld_all 0 rfl rfl ld26 rfl))
   (apply lxk_eq;(· rfl);(· exact d_x fun _=>x_call [0,1] rfl (S_rational_Sign) rfl (by rintro _ _ _ ⟨rfl,rfl,rfl⟩;exact dk_eq)))
   simp only [vq_rt']
   (apply lxk_eq;(· rfl);(· exact d_x fun _=>x_true it rfl (by trivial) (by omega) dk_eq))
   (apply lxk_run 2;(· rfl);(· simp))
   (apply lxk_eq;(· rfl);(· exact d_x fun _=>x_false it rfl (by trivial) (by omega) dk_eq))
   (apply lxk_run 3;(· rfl);(· simp))
   (apply lxk_eq;(· rfl);(· exact d_x fun _=>x_field rfl fd65_1 dk_eq))
   (apply lxk_eq;(· rfl);(· exact d_bld 1 rfl rfl ld63 rfl))
   (apply lxk_run 1;(· rfl);(· simp))
   (apply lxk_eq;(· rfl);(· exact d_x fun _=>x_idx_own (k) (k) rfl rfl sl63 rfl (by omega) (Nat.mul_one _) dk_eq))
   (apply lxk_eq;(· rfl);(· exact d_ldR_int 3 3 (k) rfl rfl rfl ld3 rfl (by assumption)))
   (apply lxk_run 2;(· rfl);(· simp))
   (apply lxk_eq;(· rfl);(· exact d_x fun _=>x_field rfl fd65_1 dk_eq))
   (apply lxk_eq;(· rfl);(· exact d_bld 1 rfl rfl ld63 rfl))
   (apply lxk_run 1;(· rfl);(· simp))
   (apply lxk_eq;(· rfl);(· exact d_x fun _=>x_idx_own (j) (j) rfl rfl sl63 rfl (by omega) (Nat.mul_one _) dk_eq))
   (apply lxk_eq;(· rfl);(· exact d_ldR_int 3 3 (j) rfl rfl rfl ld3 rfl (by assumption)))
   (apply lxk_run 3;(· rfl);(· simp))
   refine lxk_end rfl ?_
   simp only [List.map_cons,List.map_nil,List.cons_append,List.nil_append]
   refine j_nf [_,_,_,_,_,_] rfl ?_
   refine j_if rfl rfl (fun h2=>?_) (fun h2=>?_)
   ·refine j_nf [_,_,_,_,_,_] rfl ?_
    refine j_run it 2 rfl (by simp) ?_
    refine j_nf [_,_,_,_] rfl ?_
    refine j_run it 2 rfl ⟨trivial,⟨by omega,by omega⟩,trivial⟩ ?_
    refine j_nfn 1 [.lp (pL 116),.blk 0,.c [1,1,1]] rfl ?_
    refine j_toXT 7 [1,2,3,4,5,6] [2,3,4,5,6,7,8,9] (by exact fra rfl) rfl rfl rfl rfl (ih (k + 1,k) (by dsimp only;omega) ⟨by dsimp only;omega,entQ_less (p:=⟨m,n,pbs,pos,pfr,prw,pgl,pvv⟩) hq hg (by show pos k < pos j;omega)⟩)
   ·refine j_nf [_,_,_,_] rfl ?_
    refine j_run it 2 rfl ⟨trivial,⟨by omega,by omega⟩,trivial⟩ ?_
    refine j_nfn 1 [.lp (pL 116),.blk 0,.c [1,1,1]] rfl ?_
    refine j_toXT 7 [1,2,3,4,5,6] [2,3,4,5,6,7,8,9] (by exact fra rfl) rfl rfl rfl rfl (ih (k + 1,j) (by dsimp only;omega) ⟨by dsimp only;omega,entQ_keep (p:=⟨m,n,pbs,pos,pfr,prw,pgl,pvv⟩) hj hj2 hq (by show ¬ pos k < pos j;omega)⟩)
 ·obtain rfl : n = k:=by omega
  refine j_nf [_,_,_,_,_] rfl ?_
  refine j_run it 1 rfl (by simp) ?_
  refine j_nf [_,_,_,_,_] rfl ?_
  refine j_if rfl rfl (fun h1=>by exfalso;omega) (fun h1=>?_)
  refine j_nf [_,_] rfl ?_
  refine j_run it 2 rfl (by simp) ?_
  refine j_nf [_] rfl ?_
  refine j_givK 6 [0,1,2,3,4,5] [0,1,2,3,4,5,6,7] rfl (.tmp rfl .nil) rfl rfl rfl ⟨_,rfl,hq,rfl,rfl⟩
theorem signL (q : Rat) : q.num.sign ≤ 0 ↔ ¬ 0 < q:=by
 rw [← signP];omega
theorem signV (q : Rat) : (vq ((rt q).1,(rt q).2.1,(rt q).2.2)).num.sign ≤ 0 ↔ ¬ 0 < q:=by rw [vq_rt',signL]
theorem signN (q : Rat) : q.num.sign < 0 ↔ q < 0:=by
 rw [Int.sign_neg_iff]
 have h:=Rat.num_nonneg (q:=q)
 rw [← Rat.not_le,← h];omega
theorem signZ (q : Rat) : q.num.sign = 0 ↔ q = 0:=by rw [Int.sign_eq_zero_iff_zero,Rat.num_eq_zero]
abbrev LvX:=Nat × Int × Rt × (Option Addr × Nat × Option Addr × Nat) × (Nat → List Value)
abbrev DicX (b : Nat) (p : PD) (left : Int) (q : Int → Prop) : Value → List Fact → List Blk → Prop:=fun v Φ β=>∃ (x : DX) (z : Int),v = .int .i64 z ∧ q z ∧ Φ = dicF x p ∧ β = dicB b x p left
theorem S_simplex_dictionary__leave {b : Nat} {x : DX} {p : PD} {left : Int} {j K : Nat} {pf : Int} (hj : j < p.n) (hm : p.m ≤ 100) (hn : p.n ≤ 100) (hK : 1 ≤ K) (hK2 : K ≤ 1000000) (hb : PB K p) (hbs : ∀ h,h < p.m → p.bs h ≤ 1000000) (hp1 : -1000000 ≤ pf) (hp2 : pf ≤ 1000000) :
  Ctr Tryz.prog 66 [.pointer (some ⟨b,0,none⟩),.int .i64 j,.int .i64 pf] (dicB b x p left) (dicF x p) (DicX b p left (lvQ p j pf p.m)):=by
 refine Ctr_of_j' (F:=F_simplex_dictionary__leave) rfl fun C=>?_
 obtain ⟨bs,os,fr,rw',gl,hd,cs,pn,cn,pd,cd⟩:=x
 obtain ⟨m,n,pbs,pos,pfr,prw,pgl,pvv⟩:=p
 simp only [dicB,dicF,dicC] at *
 refine j_add (slF U32 none 0 0 []) (fun w A _=>slF_nil _ _ _ _ _) ?_
 refine j_nf [_,_] rfl ?_
 refine j_run it 1 rfl (by simp) ?_
 refine j_nf [_,_] rfl ?_
 refine j_run it 1 rfl (by simp) ?_
 refine j_nf [_,_] rfl ?_
 refine j_step rfl (x_alloc zo26 fun b1=>?_)
 refine j_nf [_,_,_] rfl ?_
 refine j_run it 2 rfl (by simp) ?_
 refine j_step rfl (x_field rfl fd65_3 ?_)
 refine j_step rfl (x_bld 1 rfl rfl ld39 rfl ?_)
 refine j_step rfl (x_len sl39 rfl ?_)
 refine j_run it 1 rfl (by simp) ?_
 refine j_nf [_,_,_] rfl ?_
 refine j_loopG (X:=LvX) [0,1,2,6,8,17] [1,2,3,4,5,7,8] (fun x=>[(18,.int .i64 (x.1 : Int)),(7,.int .i64 x.2.1)])
  (fun x=>(some b1,26,[.bool x.2.2.1.1,.slice x.2.2.2.1.1 x.2.2.1.2.1.length x.2.2.2.1.2.1,.slice x.2.2.2.1.2.2.1 x.2.2.1.2.2.length x.2.2.2.1.2.2.2])::(some b,65,[.slice (ad bs.bo) m bs.cap,.slice (ad os.bo) n os.cap,.slice (ad fr.bo) m fr.cap,.slice (ad rw'.bo) m rw'.cap,.slice (ad gl.bo) n gl.cap,.bool (rt pvv).1,.slice pn (rt pvv).2.1.length cn,.slice pd (rt pvv).2.2.length cd,.int .i64 left])::(bs.bo,3,bs.cs)::(os.bo,3,os.cs)::(fr.bo,26,fr.cs)::(rw'.bo,27,rw'.cs)::(gl.bo,26,gl.cs)::famB 26 hd x.2.2.2.2 m [])
  (fun x=>[slF U32 x.2.2.2.1.1 x.2.2.1.2.1.length x.2.2.2.1.2.1 x.2.2.1.2.1,slF U32 x.2.2.2.1.2.2.1 x.2.2.1.2.2.length x.2.2.2.1.2.2.2 x.2.2.1.2.2,matF RatE hd x.2.2.2.2 (fun h=>rl n (prw h)) m []])
  (fun x=>x.1 ≤ m ∧ lvQ ⟨m,n,pbs,pos,pfr,prw,pgl,pvv⟩ j pf x.1 x.2.1 ∧ ∀ i : Nat,x.2.1 = i → x.2.2.1 = rt (lm ⟨m,n,pbs,pos,pfr,prw,pgl,pvv⟩ j i)) (fun x=>m - x.1) (0,-1,(false,[],[]),(none,0,none,0),cs) [0,0,6] rfl rfl rfl ⟨Nat.zero_le _,lvQ_zero _ _ _,fun i h=>absurd h (by show ¬ (-1 : Int) = (i : Int);omega)⟩ (by repeat (first | exact Fr.sub_nil _ | refine Fr.sub_cons rfl ?_)) rfl rfl ?_
 rintro ⟨k,best,⟨g,N,D⟩,⟨pl,cl,ql,el⟩,cs⟩ ⟨hk,hq,hr⟩ ih
 simp only [List.cons_append,List.nil_append] at hk hq hr ih ⊢
 by_cases hkl : k < m
 ·refine j_hdlen 2 rfl fun hlen=>?_
  have hN : (hd k).2.1 = n:=by rw [hlen k hkl rfl,rl_len]
  refine j_rowB 5 rfl (by omega) fun bfr cfr efr h=>?_
  subst h
  refine j_rowB 3 rfl (by omega) fun bbs cbs ebs h=>?_
  subst h
  refine j_focusL 7 (k) 2 (n) rfl rfl (by first | assumption | omega) (by first | rfl | assumption | (simp [memB_cons,memB];done) | (simp [memB_cons,memB];omega)) (by first | assumption | omega) fun r1 hr1=>?_
  simp only [List.take_succ_cons,List.take_zero,List.cons_append,List.nil_append]
  refine j_rowB 0 rfl (by omega) fun br cr er h=>?_
  subst h
  have z1:=rl_get (f:=prw k) hj
  have z3:=rl_get (f:=pfr) hkl
  have w1:=il_get (f:=pbs) hkl
  have w4:=hbs k hkl
  have hs:=signP (prw k j)
  refine j_nf [_,_,_,_,_] rfl ?_
  refine j_run it 1 rfl (by simp) ?_
  refine j_nf [_,_,_,_,_] rfl ?_
  refine j_if rfl rfl (fun h1=>?_) (fun h1=>by exfalso;omega)
  refine j_nf [_,_,_,_,_,_,_] rfl ?_
  refine j_run it 2 rfl (by simp) ?_
  refine j_nf [_,_,_,_,_,_,_,_] rfl ?_
  refine j_run it 2 rfl (by simp) ?_
  refine j_step rfl (x_field rfl fd65_3 ?_)
  refine j_step rfl (x_bld 2 rfl rfl ld39 rfl ?_)
  refine j_run it 1 rfl (by simp) ?_
  refine j_rowB 8 rfl (by omega) fun b2 cap1 cs1 hr2=>?_
  subst hr2
  dsimp only
  refine j_step rfl (x_idx_own (k) (k) rfl rfl sl39 rfl (by omega) (Nat.mul_one _) ?_)
  refine j_step rfl (x_ldR_hd 6 8 (k) rfl rfl rfl ld27 rfl (by assumption) ?_)
  refine j_run it 1 rfl (by simp) ?_
  refine j_step rfl (x_idx_own (j) _ rfl rfl sl27 rfl (by omega) rfl ?_)
  refine j_step rfl (x_ldR_vw vw_RatE 0 0 (j) rfl rfl rfl ld26 rfl (by omega) fun z2 hz1 g1=>?_)
  dsimp only [vw_RatE,List.cons_append,List.nil_append,List.map_cons,List.map_nil]
  refine j_step rfl (x_call [0,1] rfl (S_rational_Sign) rfl ?_)
  rintro _ _ _ ⟨rfl,rfl,rfl⟩
  simp only [List.cons_append,List.nil_append]
  refine j_run it 1 rfl (by simp) ?_
  refine j_nf [_,_,_,_,_,_,_] rfl ?_
  obtain rfl : z2 = rt (prw k j):=Option.some.inj (hz1.symm.trans z1)
  refine j_if rfl rfl (fun h2=>?_) (fun h2=>?_)
  ·have hg : ¬ 0 < prw k j:=(signV _).1 (by assumption)
   refine j_nf [_,_,_,_] rfl ?_
   refine j_run it 2 rfl ⟨trivial,⟨by omega,by omega⟩,trivial⟩ ?_
   refine j_nfn 1 [.lp (pL 244),.blk 0,.c [1,1,1,1]] rfl ?_
   refine j_unfocusL 7 (k) 0 2 3 rfl rfl rfl rfl (by first | assumption | omega) (by first | rfl | assumption | (simp [memB_cons,memB];done) | (simp [memB_cons,memB];omega)) ?_
   simp only [List.eraseIdx_cons_zero,List.eraseIdx_cons_succ,List.take_succ_cons,List.take_zero,List.cons_append,List.nil_append]
   rw [upd_id (hdl_at hr1 hkl)]
   refine j_matCongrS (fun g=>rl n (prw g)) 0 rfl (fun g _ _=>by
     by_cases e : g = k
     ·subst e;rw [upd_self]
     ·rw [upd_ne e]) ?_
   refine j_to [6,7,0,9,10,11,12,13,14,15] (by exact fra rfl) rfl rfl (ih (k + 1,best,(g,N,D),(pl,cl,ql,el),upd cs k er) (by dsimp only;omega) ⟨by dsimp only;omega,lvQ_skip hq (Rat.not_lt.1 hg),hr⟩)
  ·have hg : 0 < prw k j:=Decidable.of_not_not (fun e=>absurd ((signV _).2 e) (by assumption))
   have hne : prw k j ≠ 0:=fun e=>by rw [e] at hg;exact absurd hg (by decide)
   obtain ⟨y1,y2⟩:=bd_len (hb.rw k j hkl hj)
   obtain ⟨y3,y4⟩:=bd_len (hb.fr k hkl)
   have y5 : bd (K + K) (pfr k * (prw k j)⁻¹):=bd_mul (hb.fr k hkl) (rinv_bd (hb.rw k j hkl hj) hK) (by omega)
   obtain ⟨y6,y7⟩:=bd_len y5
   refine j_nf [_,_,_,_,_,_,_] rfl ?_
   (apply j_drawKW (x0:=none) it mx 0 22 [20] 1;(· rfl);(· rfl);(· rfl);(· decide))
   simp only [List.drop_zero]
   (apply lxk_run 2;(· rfl);(· simp))
   (apply lxk_eq;(· rfl);(· exact d_x fun _=>x_field rfl fd65_2 dk_eq))
   (apply lxk_eq;(· rfl);(· exact d_bld 2 rfl rfl ld27 rfl))
   (apply lxk_run 1;(· rfl);(· simp))
   (apply lxk_eq;(· rfl);(· exact d_x fun _=>x_idx_own (k) _ rfl rfl sl27 rfl (by omega) rfl dk_eq))
   (apply lxk_vw vw_RatE;(· rfl);(· exact d_ldR_vw vw_RatE 5 9 (k) rfl rfl rfl ld26 rfl (by assumption));intro g2)
   dsimp only [vw_RatE,List.cons_append,List.nil_append,List.map_cons,List.map_nil]
   (apply lxk_run 2;(· rfl);(· simp))
   (apply lxk_eq;(· rfl);(· exact d_x fun _=>x_field rfl fd65_3 dk_eq))
   (apply lxk_eq;(· rfl);(· exact d_bld 2 rfl rfl ld39 rfl))
   (apply lxk_run 1;(· rfl);(· simp))
   (apply lxk_eq;(· rfl);(· exact d_x fun _=>x_idx_own (k) (k) rfl rfl sl39 rfl (by omega) (Nat.mul_one _) dk_eq))
   (apply lxk_eq;(· rfl);(· exact d_ldR_hd 6 10 (k) rfl rfl rfl ld27 rfl (by assumption)))
   dsimp only
   (apply lxk_run 1;(· rfl);(· simp))
   (apply lxk_eq;(· rfl);(· exact d_x fun _=>x_idx_own (j) _ rfl rfl sl27 rfl (by omega) rfl dk_eq))
   (apply lxk_vw vw_RatE;(· rfl);(· exact d_ldR_vw vw_RatE 0 2 (j) rfl rfl rfl ld26 rfl (by assumption));intro g3)
   dsimp only [vw_RatE,List.cons_append,List.nil_append,List.map_cons,List.map_nil]
   (apply lxk_fa (val:=(fun g=>Value.tuple #[Value.agg #[Value.bool (rt (pfr k * (prw k j)⁻¹)).fst,Value.slice (g 0).fst (rt (pfr k * (prw k j)⁻¹)).snd.fst.length (g 1).snd.fst,Value.slice (g 2).fst (rt (pfr k * (prw k j)⁻¹)).snd.snd.length (g 3).snd.fst],Value.int IntKind.i64 0])) (f:=(fun g=>[slF U32 (g 0).fst (rt (pfr k * (prw k j)⁻¹)).snd.fst.length (g 1).snd.fst (rt (pfr k * (prw k j)⁻¹)).snd.fst,slF U32 (g 2).fst (rt (pfr k * (prw k j)⁻¹)).snd.snd.length (g 3).snd.fst (rt (pfr k * (prw k j)⁻¹)).snd.snd]));(· rfl);(· exact d_x fun _=>x_call [2,3,0,1] rfl (S_rational_Div (by omega) (by omega) (by omega) (by omega) (by omega) (by omega) (by omega)) rfl (by rintro _ _ _ ⟨png0,cng1,pdg2,cdg3,rfl,rfl,rfl⟩;exact fun _ _ _ hG=>⟨(fun | 0=>(png0,0,0,[]) | 1=>(none,cng1,0,[]) | 2=>(pdg2,0,0,[]) | 3=>(none,cdg3,0,[]) | _=>default),rfl,fun g hg=>drop_own (hG _ (List.mem_append_left _ hg))⟩));intro g4;dsimp only [List.map_cons,List.map_nil])
   simp only [vq_rt']
   (apply lxk_fa (val:=fun g=>Value.tuple #[Value.agg #[Value.bool (rt (pfr k * (prw k j)⁻¹)).fst,Value.slice (g 0).1 ((rt (pfr k * (prw k j)⁻¹)).snd.fst.length) (g 0).2.1,Value.slice (g 1).1 ((rt (pfr k * (prw k j)⁻¹)).snd.snd.length) (g 1).2.1],Value.int IntKind.i64 0]) (f:=fun g=>[slF (U32) (g 0).1 ((rt (pfr k * (prw k j)⁻¹)).snd.fst.length) (g 0).2.1 ((rt (pfr k * (prw k j)⁻¹)).snd.fst),slF (U32) (g 1).1 ((rt (pfr k * (prw k j)⁻¹)).snd.snd.length) (g 1).2.1 ((rt (pfr k * (prw k j)⁻¹)).snd.snd)]);(· rfl);(· exact d_x fun _=>x_pv it rfl (by trivial) (fun _ _ _ hG=>⟨(fun | 0=>((g4 0).fst,(g4 1).snd.fst,0,[]) | 1=>((g4 2).fst,(g4 3).snd.fst,0,[]) | _=>default),rfl,fun g hg=>by (simp only [List.mem_cons,List.not_mem_nil,or_false] at hg;rcases hg with rfl | rfl;(· exact drop_own (hG _ (fact_mem (n:=0) rfl)));(· exact drop_own (hG _ (fact_mem (n:=1) rfl))))⟩));intro g5;dsimp only [List.map_cons,List.map_nil,List.cons_append,List.nil_append])
   (apply lxk_fa (val:=fun g=>Value.agg #[Value.bool (rt (pfr k * (prw k j)⁻¹)).fst,Value.slice (g 0).1 ((rt (pfr k * (prw k j)⁻¹)).snd.fst.length) (g 0).2.1,Value.slice (g 1).1 ((rt (pfr k * (prw k j)⁻¹)).snd.snd.length) (g 1).2.1]) (f:=fun g=>[slF (U32) (g 0).1 ((rt (pfr k * (prw k j)⁻¹)).snd.fst.length) (g 0).2.1 ((rt (pfr k * (prw k j)⁻¹)).snd.fst),slF (U32) (g 1).1 ((rt (pfr k * (prw k j)⁻¹)).snd.snd.length) (g 1).2.1 ((rt (pfr k * (prw k j)⁻¹)).snd.snd)]);(· rfl);(· exact d_x fun _=>x_pv it rfl (by trivial) (fun _ _ _ hG=>⟨(fun | 0=>((g5 0).fst,(g5 0).snd.fst,0,[]) | 1=>((g5 1).fst,(g5 1).snd.fst,0,[]) | _=>default),rfl,fun g hg=>by (simp only [List.mem_cons,List.not_mem_nil,or_false] at hg;rcases hg with rfl | rfl;(· exact drop_own (hG _ (fact_mem (n:=0) rfl)));(· exact drop_own (hG _ (fact_mem (n:=1) rfl))))⟩));intro g6;dsimp only [List.map_cons,List.map_nil,List.cons_append,List.nil_append])
   (apply lxk_eq;(· rfl);(· exact d_x fun _=>x_pv it rfl (by trivial) dk_eq))
   (apply lxk_alloc;(· rfl);(· exact zo26);intro b3)
   refine lxk_endW rfl ?_
   (rotate_left;rfl;rotate_right)
   simp only [List.map_cons,List.map_nil,List.cons_append,List.nil_append]
   refine win_step it rfl rfl ⟨⟨_,_,_,_,rfl,rfl,rfl,rfl,rfl,rfl,(by first | trivial | (repeat' first | exact trivial | apply And.intro | omega))⟩,trivial⟩ (x_bst_all 0 rfl rfl rfl ld26 rfl rfl (by simp [Value.oneCell']) ?_)
   refine win_end it ⟨⟨_,_,_,_,rfl,rfl,rfl,rfl,rfl,rfl,(by first | trivial | (repeat' first | exact trivial | apply And.intro | omega))⟩,trivial⟩ ?_
   refine j_run it 1 rfl (by simp) ?_
   refine j_nf [_,_,_,_,_,_,_] rfl ?_
   refine j_run it 1 rfl (by simp) ?_
   rcases hq with ⟨rfl,hq⟩ | ⟨i,rfl,hi,hp,hq⟩
   ·refine j_nf [_,_,_,_,_,_,_,_] rfl ?_
    refine j_run it 2 rfl (by simp) ?_
    refine j_nf [_,_,_,_,_,_,_] rfl ?_
    refine j_if rfl rfl (fun h3=>by exfalso;omega) (fun h3=>?_)
    refine j_nf [_,_,_,_,_,_,_] rfl ?_
    (apply j_drawK it mx 45;(· rfl);(· rfl))
    (apply lxk_run 1;(· rfl);(· simp))
    (apply lxk_eq;(· rfl);(· exact d_x fun _=>x_true it rfl (by trivial) (by omega) dk_eq))
    (apply lxk_run 2;(· rfl);(· simp))
    (apply lxk_run 10;(· rfl);(· simp))
    (apply lxk_run 11;(· rfl);(· simp))
    (apply lxk_run 16;(· rfl);(· simp))
    (apply lxk_run 4;(· rfl);(· simp))
    refine lxk_end rfl ?_
    simp only [List.map_cons,List.map_nil,List.cons_append,List.nil_append]
    refine j_nf [_,_,_,_,_,_] rfl ?_
    refine j_true rfl rfl ?_
    (apply j_drawK it mx 3;(· rfl);(· rfl))
    (apply lxk_run 1;(· rfl);(· simp))
    (apply lxk_eq;(· rfl);(· exact d_bld_all 0 rfl rfl ld26 rfl))
    (apply lxk_run 1;(· rfl);(· simp))
    refine lxk_end rfl ?_
    simp only [List.map_cons,List.map_nil,List.cons_append,List.nil_append]
    refine j_step rfl (x_bst_all 2 rfl rfl rfl ld26 rfl rfl (by simp [Value.oneCell']) ?_)
    refine j_nf [_,_,_,_] rfl ?_
    refine j_run it 2 rfl ⟨trivial,⟨by omega,by omega⟩,trivial⟩ ?_
    refine j_nfn 1 [.lp (pL 244),.blk 0,.c [1,1,1,1]] rfl ?_
    refine j_unfocusL 8 (k) 1 12 13 rfl rfl rfl rfl (by first | assumption | omega) (by first | rfl | assumption | (simp [memB_cons,memB];done) | (simp [memB_cons,memB];omega)) ?_
    simp only [List.eraseIdx_cons_zero,List.eraseIdx_cons_succ,List.take_succ_cons,List.take_zero,List.cons_append,List.nil_append]
    rw [upd_id (hdl_at hr1 hkl)]
    refine j_matCongrS (fun g=>rl n (prw g)) 0 rfl (fun g _ _=>by
      by_cases e : g = k
      ·subst e;rw [upd_self]
      ·rw [upd_ne e]) ?_
    have hr2 : ∀ i' : Nat,((k : Nat) : Int) = (i' : Int) → rt (pfr k * (prw k j)⁻¹) = rt (lm ⟨m,n,pbs,pos,pfr,prw,pgl,pvv⟩ j i'):=fun i' e=>by
     obtain rfl : k = i':=by omega
     rfl
    refine j_toXT 8 [1,2,3,4,5,6,7] [2,3,0,19,20,21,22,23,24,25] (by exact fra rfl) rfl rfl rfl rfl (ih (k + 1,(k : Int),rt (pfr k * (prw k j)⁻¹),((g6 0).1,(g6 0).2.1,(g6 1).1,(g6 1).2.1),upd cs k er) (by dsimp only;omega) ⟨by dsimp only;omega,lvQ_first (p:=⟨m,n,pbs,pos,pfr,prw,pgl,pvv⟩) hq hg,hr2⟩)
   ·have him : i < m:=by omega
    have w2:=il_get (f:=pbs) him
    have w5:=hbs i him
    have hr':=hr i rfl
    change (g,N,D) = rt (pfr i * (prw i j)⁻¹) at hr'
    obtain rfl : g = (rt (pfr i * (prw i j)⁻¹)).1:=by rw [← hr']
    obtain rfl : N = (rt (pfr i * (prw i j)⁻¹)).2.1:=by rw [← hr']
    obtain rfl : D = (rt (pfr i * (prw i j)⁻¹)).2.2:=by rw [← hr']
    have y8 : bd (K + K) (pfr i * (prw i j)⁻¹):=bd_mul (hb.fr i him) (rinv_bd (hb.rw i j him hj) hK) (by omega)
    obtain ⟨y9,y10⟩:=bd_len y8
    have hq' : lvQ ⟨m,n,pbs,pos,pfr,prw,pgl,pvv⟩ j pf k i:=.inr ⟨i,rfl,hi,hp,hq⟩
    refine j_nf [_,_,_,_,_,_,_,_] rfl ?_
    refine j_run it 2 rfl (by simp) ?_
    refine j_nf [_,_,_,_,_,_,_] rfl ?_
    refine j_if rfl rfl (fun h3=>?_) (fun h3=>by exfalso;omega)
    refine j_nf [_,_,_,_,_,_,_] rfl ?_
    refine j_step rfl (x_bld_all 0 rfl rfl ld26 rfl ?_)
    refine j_step rfl (x_bld_all 2 rfl rfl ld26 rfl ?_)
    refine j_step rfl (x_call [0,1,14,15] rfl (S_rational_Cmp (by omega) (by omega) (by omega) (by omega)) rfl ?_)
    rintro _ _ _ ⟨rfl,rfl,rfl⟩
    simp only [List.cons_append,List.nil_append]
    simp only [vq_rt']
    refine j_run it 1 rfl (by simp) ?_
    refine j_nf [_,_,_,_,_,_,_] rfl ?_
    by_cases c1 : pfr k * (prw k j)⁻¹ < pfr i * (prw i j)⁻¹
    ·have hc : (pfr k * (prw k j)⁻¹ - pfr i * (prw i j)⁻¹).num.sign < 0:=(signN _).2 (by grind)
     (apply j_drawK it mx 45;(· rfl);(· rfl))
     (apply lxk_run 1;(· rfl);(· simp))
     (apply lxk_eq;(· rfl);(· exact d_x fun _=>x_true it rfl (by trivial) (by omega) dk_eq))
     (apply lxk_run 2;(· rfl);(· simp))
     (apply lxk_run 10;(· rfl);(· simp))
     (apply lxk_run 11;(· rfl);(· simp))
     (apply lxk_run 16;(· rfl);(· simp))
     (apply lxk_run 4;(· rfl);(· simp))
     refine lxk_end rfl ?_
     simp only [List.map_cons,List.map_nil,List.cons_append,List.nil_append]
     refine j_nf [_,_,_,_,_,_] rfl ?_
     refine j_true rfl rfl ?_
     (apply j_drawK it mx 3;(· rfl);(· rfl))
     (apply lxk_run 1;(· rfl);(· simp))
     (apply lxk_eq;(· rfl);(· exact d_bld_all 0 rfl rfl ld26 rfl))
     (apply lxk_run 1;(· rfl);(· simp))
     refine lxk_end rfl ?_
     simp only [List.map_cons,List.map_nil,List.cons_append,List.nil_append]
     refine j_step rfl (x_bst_all 2 rfl rfl rfl ld26 rfl rfl (by simp [Value.oneCell']) ?_)
     refine j_nf [_,_,_,_] rfl ?_
     refine j_run it 2 rfl ⟨trivial,⟨by omega,by omega⟩,trivial⟩ ?_
     refine j_nfn 1 [.lp (pL 244),.blk 0,.c [1,1,1,1]] rfl ?_
     refine j_unfocusL 8 (k) 1 12 13 rfl rfl rfl rfl (by first | assumption | omega) (by first | rfl | assumption | (simp [memB_cons,memB];done) | (simp [memB_cons,memB];omega)) ?_
     simp only [List.eraseIdx_cons_zero,List.eraseIdx_cons_succ,List.take_succ_cons,List.take_zero,List.cons_append,List.nil_append]
     rw [upd_id (hdl_at hr1 hkl)]
     refine j_matCongrS (fun g=>rl n (prw g)) 0 rfl (fun g _ _=>by
       by_cases e : g = k
       ·subst e;rw [upd_self]
       ·rw [upd_ne e]) ?_
     have hr2 : ∀ i' : Nat,((k : Nat) : Int) = (i' : Int) → rt (pfr k * (prw k j)⁻¹) = rt (lm ⟨m,n,pbs,pos,pfr,prw,pgl,pvv⟩ j i'):=fun i' e=>by
      obtain rfl : k = i':=by omega
      rfl
     refine j_toXT 8 [1,2,3,4,5,6,7] [2,3,0,19,20,21,22,23,24,25] (by exact fra rfl) rfl rfl rfl rfl (ih (k + 1,(k : Int),rt (pfr k * (prw k j)⁻¹),((g6 0).1,(g6 0).2.1,(g6 1).1,(g6 1).2.1),upd cs k er) (by dsimp only;omega) ⟨by dsimp only;omega,lvQ_less (p:=⟨m,n,pbs,pos,pfr,prw,pgl,pvv⟩) hq' hg c1,hr2⟩)
    ·by_cases c2 : pfr k * (prw k j)⁻¹ = pfr i * (prw i j)⁻¹
     ·have hc : (pfr k * (prw k j)⁻¹ - pfr i * (prw i j)⁻¹).num.sign = 0:=(signZ _).2 (by grind)
      by_cases c3 : (pbs i : Int) = pf
      ·(apply j_drawK it mx 45;(· rfl);(· rfl))
       (apply lxk_run 1;(· rfl);(· simp))
       (apply lxk_eq;(· rfl);(· exact d_x fun _=>x_false it rfl (by trivial) (by omega) dk_eq))
       (apply lxk_run 2;(· rfl);(· simp))
       (apply lxk_eq;(· rfl);(· exact d_x fun _=>x_true it rfl (by trivial) (by omega) dk_eq))
       (apply lxk_run 3;(· rfl);(· simp))
       (apply lxk_eq;(· rfl);(· exact d_x fun _=>x_field rfl fd65_0 dk_eq))
       (apply lxk_eq;(· rfl);(· exact d_bld 3 rfl rfl ld63 rfl))
       (apply lxk_run 1;(· rfl);(· simp))
       (apply lxk_eq;(· rfl);(· exact d_x fun _=>x_idx_own (i) (i) rfl rfl sl63 rfl (by omega) (Nat.mul_one _) dk_eq))
       (apply lxk_eq;(· rfl);(· exact d_ldR_int 4 17 (i) rfl rfl rfl ld3 rfl (by assumption)))
       (apply lxk_run 1;(· rfl);(· simp))
       (apply lxk_eq;(· rfl);(· exact d_x fun _=>x_falseN it rfl (by trivial) (by omega) dk_eq))
       (apply lxk_run 10;(· rfl);(· simp))
       (apply lxk_run 16;(· rfl);(· simp))
       (apply lxk_run 4;(· rfl);(· simp))
       refine lxk_end rfl ?_
       simp only [List.map_cons,List.map_nil,List.cons_append,List.nil_append]
       refine j_nf [_,_,_,_,_,_] rfl ?_
       refine j_false rfl rfl ?_
       refine j_nf [_,_,_,_] rfl ?_
       refine j_run it 2 rfl ⟨trivial,⟨by omega,by omega⟩,trivial⟩ ?_
       refine j_nfn 1 [.lp (pL 244),.blk 0,.c [1,1,1,1]] rfl ?_
       refine j_unfocusL 8 (k) 1 12 13 rfl rfl rfl rfl (by first | assumption | omega) (by first | rfl | assumption | (simp [memB_cons,memB];done) | (simp [memB_cons,memB];omega)) ?_
       simp only [List.eraseIdx_cons_zero,List.eraseIdx_cons_succ,List.take_succ_cons,List.take_zero,List.cons_append,List.nil_append]
       rw [upd_id (hdl_at hr1 hkl)]
       refine j_matCongrS (fun g=>rl n (prw g)) 0 rfl (fun g _ _=>by
         by_cases e : g = k
         ·subst e;rw [upd_self]
         ·rw [upd_ne e]) ?_
       have hr2 : ∀ i' : Nat,((i : Nat) : Int) = (i' : Int) → rt (pfr i * (prw i j)⁻¹) = rt (lm ⟨m,n,pbs,pos,pfr,prw,pgl,pvv⟩ j i'):=fun i' e=>by
        obtain rfl : i = i':=by omega
        rfl
       refine j_toXT 8 [1,2,3,4,5,6,7] [16,17,0,19,20,21,22,23,24,25] (by exact fra rfl) rfl rfl rfl rfl (ih (k + 1,(i : Int),rt (pfr i * (prw i j)⁻¹),(pl,cl,ql,el),upd cs k er) (by dsimp only;omega) ⟨by dsimp only;omega,lvQ_keep (p:=⟨m,n,pbs,pos,pfr,prw,pgl,pvv⟩) hq' (by show pfr i * (prw i j)⁻¹ ≤ pfr k * (prw k j)⁻¹;rw [c2];exact Rat.le_refl) (fun _=>.inl c3),hr2⟩)
      ·by_cases c4 : (pbs k : Int) = pf
       ·(apply j_drawK it mx 45;(· rfl);(· rfl))
        (apply lxk_run 1;(· rfl);(· simp))
        (apply lxk_eq;(· rfl);(· exact d_x fun _=>x_false it rfl (by trivial) (by omega) dk_eq))
        (apply lxk_run 2;(· rfl);(· simp))
        (apply lxk_eq;(· rfl);(· exact d_x fun _=>x_true it rfl (by trivial) (by omega) dk_eq))
        (apply lxk_run 3;(· rfl);(· simp))
        (apply lxk_eq;(· rfl);(· exact d_x fun _=>x_field rfl fd65_0 dk_eq))
        (apply lxk_eq;(· rfl);(· exact d_bld 3 rfl rfl ld63 rfl))
        (apply lxk_run 1;(· rfl);(· simp))
        (apply lxk_eq;(· rfl);(· exact d_x fun _=>x_idx_own (i) (i) rfl rfl sl63 rfl (by omega) (Nat.mul_one _) dk_eq))
        (apply lxk_eq;(· rfl);(· exact d_ldR_int 4 17 (i) rfl rfl rfl ld3 rfl (by assumption)))
        (apply lxk_run 1;(· rfl);(· simp))
        (apply lxk_eq;(· rfl);(· exact d_x fun _=>x_trueN it rfl (by trivial) (by omega) dk_eq))
        (apply lxk_run 4;(· rfl);(· simp))
        (apply lxk_eq;(· rfl);(· exact d_x fun _=>x_field rfl fd65_0 dk_eq))
        (apply lxk_eq;(· rfl);(· exact d_bld 3 rfl rfl ld63 rfl))
        (apply lxk_run 1;(· rfl);(· simp))
        (apply lxk_eq;(· rfl);(· exact d_x fun _=>x_idx_own (k) (k) rfl rfl sl63 rfl (by omega) (Nat.mul_one _) dk_eq))
        (apply lxk_eq;(· rfl);(· exact d_ldR_int 4 17 (k) rfl rfl rfl ld3 rfl (by assumption)))
        (apply lxk_run 1;(· rfl);(· simp))
        (apply lxk_eq;(· rfl);(· exact d_x fun _=>x_true it rfl (by trivial) (by omega) dk_eq))
        (apply lxk_run 15;(· rfl);(· simp))
        (apply lxk_run 4;(· rfl);(· simp))
        refine lxk_end rfl ?_
        simp only [List.map_cons,List.map_nil,List.cons_append,List.nil_append]
        refine j_nf [_,_,_,_,_,_] rfl ?_
        refine j_true rfl rfl ?_
        (apply j_drawK it mx 3;(· rfl);(· rfl))
        (apply lxk_run 1;(· rfl);(· simp))
        (apply lxk_eq;(· rfl);(· exact d_bld_all 0 rfl rfl ld26 rfl))
        (apply lxk_run 1;(· rfl);(· simp))
        refine lxk_end rfl ?_
        simp only [List.map_cons,List.map_nil,List.cons_append,List.nil_append]
        refine j_step rfl (x_bst_all 2 rfl rfl rfl ld26 rfl rfl (by simp [Value.oneCell']) ?_)
        refine j_nf [_,_,_,_] rfl ?_
        refine j_run it 2 rfl ⟨trivial,⟨by omega,by omega⟩,trivial⟩ ?_
        refine j_nfn 1 [.lp (pL 244),.blk 0,.c [1,1,1,1]] rfl ?_
        refine j_unfocusL 8 (k) 1 12 13 rfl rfl rfl rfl (by first | assumption | omega) (by first | rfl | assumption | (simp [memB_cons,memB];done) | (simp [memB_cons,memB];omega)) ?_
        simp only [List.eraseIdx_cons_zero,List.eraseIdx_cons_succ,List.take_succ_cons,List.take_zero,List.cons_append,List.nil_append]
        rw [upd_id (hdl_at hr1 hkl)]
        refine j_matCongrS (fun g=>rl n (prw g)) 0 rfl (fun g _ _=>by
          by_cases e : g = k
          ·subst e;rw [upd_self]
          ·rw [upd_ne e]) ?_
        have hr2 : ∀ i' : Nat,((k : Nat) : Int) = (i' : Int) → rt (pfr k * (prw k j)⁻¹) = rt (lm ⟨m,n,pbs,pos,pfr,prw,pgl,pvv⟩ j i'):=fun i' e=>by
         obtain rfl : k = i':=by omega
         rfl
        refine j_toXT 8 [1,2,3,4,5,6,7] [2,3,0,19,20,21,22,23,24,25] (by exact fra rfl) rfl rfl rfl rfl (ih (k + 1,(k : Int),rt (pfr k * (prw k j)⁻¹),((g6 0).1,(g6 0).2.1,(g6 1).1,(g6 1).2.1),upd cs k er) (by dsimp only;omega) ⟨by dsimp only;omega,lvQ_tie (p:=⟨m,n,pbs,pos,pfr,prw,pgl,pvv⟩) hq' hg c2 c3 (.inl c4),hr2⟩)
       ·by_cases c5 : pbs k < pbs i
        ·(apply j_drawK it mx 45;(· rfl);(· rfl))
         (apply lxk_run 1;(· rfl);(· simp))
         (apply lxk_eq;(· rfl);(· exact d_x fun _=>x_false it rfl (by trivial) (by omega) dk_eq))
         (apply lxk_run 2;(· rfl);(· simp))
         (apply lxk_eq;(· rfl);(· exact d_x fun _=>x_true it rfl (by trivial) (by omega) dk_eq))
         (apply lxk_run 3;(· rfl);(· simp))
         (apply lxk_eq;(· rfl);(· exact d_x fun _=>x_field rfl fd65_0 dk_eq))
         (apply lxk_eq;(· rfl);(· exact d_bld 3 rfl rfl ld63 rfl))
         (apply lxk_run 1;(· rfl);(· simp))
         (apply lxk_eq;(· rfl);(· exact d_x fun _=>x_idx_own (i) (i) rfl rfl sl63 rfl (by omega) (Nat.mul_one _) dk_eq))
         (apply lxk_eq;(· rfl);(· exact d_ldR_int 4 17 (i) rfl rfl rfl ld3 rfl (by assumption)))
         (apply lxk_run 1;(· rfl);(· simp))
         (apply lxk_eq;(· rfl);(· exact d_x fun _=>x_trueN it rfl (by trivial) (by omega) dk_eq))
         (apply lxk_run 4;(· rfl);(· simp))
         (apply lxk_eq;(· rfl);(· exact d_x fun _=>x_field rfl fd65_0 dk_eq))
         (apply lxk_eq;(· rfl);(· exact d_bld 3 rfl rfl ld63 rfl))
         (apply lxk_run 1;(· rfl);(· simp))
         (apply lxk_eq;(· rfl);(· exact d_x fun _=>x_idx_own (k) (k) rfl rfl sl63 rfl (by omega) (Nat.mul_one _) dk_eq))
         (apply lxk_eq;(· rfl);(· exact d_ldR_int 4 17 (k) rfl rfl rfl ld3 rfl (by assumption)))
         (apply lxk_run 1;(· rfl);(· simp))
         (apply lxk_eq;(· rfl);(· exact d_x fun _=>x_false it rfl (by trivial) (by omega) dk_eq))
         (apply lxk_run 3;(· rfl);(· simp))
         (apply lxk_eq;(· rfl);(· exact d_x fun _=>x_field rfl fd65_0 dk_eq))
         (apply lxk_eq;(· rfl);(· exact d_bld 3 rfl rfl ld63 rfl))
         (apply lxk_run 1;(· rfl);(· simp))
         (apply lxk_eq;(· rfl);(· exact d_x fun _=>x_idx_own (k) (k) rfl rfl sl63 rfl (by omega) (Nat.mul_one _) dk_eq))
         (apply lxk_eq;(· rfl);(· exact d_ldR_int 4 17 (k) rfl rfl rfl ld3 rfl (by assumption)))
         (apply lxk_run 2;(· rfl);(· simp))
         (apply lxk_eq;(· rfl);(· exact d_x fun _=>x_field rfl fd65_0 dk_eq))
         (apply lxk_eq;(· rfl);(· exact d_bld 3 rfl rfl ld63 rfl))
         (apply lxk_run 1;(· rfl);(· simp))
         (apply lxk_eq;(· rfl);(· exact d_x fun _=>x_idx_own (i) (i) rfl rfl sl63 rfl (by omega) (Nat.mul_one _) dk_eq))
         (apply lxk_eq;(· rfl);(· exact d_ldR_int 4 17 (i) rfl rfl rfl ld3 rfl (by assumption)))
         (apply lxk_eq;(· rfl);(· exact d_x fun _=>x_true it rfl (by trivial) (by omega) dk_eq))
         (apply lxk_run 3;(· rfl);(· simp))
         refine lxk_end rfl ?_
         simp only [List.map_cons,List.map_nil,List.cons_append,List.nil_append]
         refine j_nf [_,_,_,_,_,_] rfl ?_
         refine j_true rfl rfl ?_
         (apply j_drawK it mx 3;(· rfl);(· rfl))
         (apply lxk_run 1;(· rfl);(· simp))
         (apply lxk_eq;(· rfl);(· exact d_bld_all 0 rfl rfl ld26 rfl))
         (apply lxk_run 1;(· rfl);(· simp))
         refine lxk_end rfl ?_
         simp only [List.map_cons,List.map_nil,List.cons_append,List.nil_append]
         refine j_step rfl (x_bst_all 2 rfl rfl rfl ld26 rfl rfl (by simp [Value.oneCell']) ?_)
         refine j_nf [_,_,_,_] rfl ?_
         refine j_run it 2 rfl ⟨trivial,⟨by omega,by omega⟩,trivial⟩ ?_
         refine j_nfn 1 [.lp (pL 244),.blk 0,.c [1,1,1,1]] rfl ?_
         refine j_unfocusL 8 (k) 1 12 13 rfl rfl rfl rfl (by first | assumption | omega) (by first | rfl | assumption | (simp [memB_cons,memB];done) | (simp [memB_cons,memB];omega)) ?_
         simp only [List.eraseIdx_cons_zero,List.eraseIdx_cons_succ,List.take_succ_cons,List.take_zero,List.cons_append,List.nil_append]
         rw [upd_id (hdl_at hr1 hkl)]
         refine j_matCongrS (fun g=>rl n (prw g)) 0 rfl (fun g _ _=>by
           by_cases e : g = k
           ·subst e;rw [upd_self]
           ·rw [upd_ne e]) ?_
         have hr2 : ∀ i' : Nat,((k : Nat) : Int) = (i' : Int) → rt (pfr k * (prw k j)⁻¹) = rt (lm ⟨m,n,pbs,pos,pfr,prw,pgl,pvv⟩ j i'):=fun i' e=>by
          obtain rfl : k = i':=by omega
          rfl
         refine j_toXT 8 [1,2,3,4,5,6,7] [2,3,0,19,20,21,22,23,24,25] (by exact fra rfl) rfl rfl rfl rfl (ih (k + 1,(k : Int),rt (pfr k * (prw k j)⁻¹),((g6 0).1,(g6 0).2.1,(g6 1).1,(g6 1).2.1),upd cs k er) (by dsimp only;omega) ⟨by dsimp only;omega,lvQ_tie (p:=⟨m,n,pbs,pos,pfr,prw,pgl,pvv⟩) hq' hg c2 c3 (.inr c5),hr2⟩)
        ·(apply j_drawK it mx 45;(· rfl);(· rfl))
         (apply lxk_run 1;(· rfl);(· simp))
         (apply lxk_eq;(· rfl);(· exact d_x fun _=>x_false it rfl (by trivial) (by omega) dk_eq))
         (apply lxk_run 2;(· rfl);(· simp))
         (apply lxk_eq;(· rfl);(· exact d_x fun _=>x_true it rfl (by trivial) (by omega) dk_eq))
         (apply lxk_run 3;(· rfl);(· simp))
         (apply lxk_eq;(· rfl);(· exact d_x fun _=>x_field rfl fd65_0 dk_eq))
         (apply lxk_eq;(· rfl);(· exact d_bld 3 rfl rfl ld63 rfl))
         (apply lxk_run 1;(· rfl);(· simp))
         (apply lxk_eq;(· rfl);(· exact d_x fun _=>x_idx_own (i) (i) rfl rfl sl63 rfl (by omega) (Nat.mul_one _) dk_eq))
         (apply lxk_eq;(· rfl);(· exact d_ldR_int 4 17 (i) rfl rfl rfl ld3 rfl (by assumption)))
         (apply lxk_run 1;(· rfl);(· simp))
         (apply lxk_eq;(· rfl);(· exact d_x fun _=>x_trueN it rfl (by trivial) (by omega) dk_eq))
         (apply lxk_run 4;(· rfl);(· simp))
         (apply lxk_eq;(· rfl);(· exact d_x fun _=>x_field rfl fd65_0 dk_eq))
         (apply lxk_eq;(· rfl);(· exact d_bld 3 rfl rfl ld63 rfl))
         (apply lxk_run 1;(· rfl);(· simp))
         (apply lxk_eq;(· rfl);(· exact d_x fun _=>x_idx_own (k) (k) rfl rfl sl63 rfl (by omega) (Nat.mul_one _) dk_eq))
         (apply lxk_eq;(· rfl);(· exact d_ldR_int 4 17 (k) rfl rfl rfl ld3 rfl (by assumption)))
         (apply lxk_run 1;(· rfl);(· simp))
         (apply lxk_eq;(· rfl);(· exact d_x fun _=>x_false it rfl (by trivial) (by omega) dk_eq))
         (apply lxk_run 3;(· rfl);(· simp))
         (apply lxk_eq;(· rfl);(· exact d_x fun _=>x_field rfl fd65_0 dk_eq))
         (apply lxk_eq;(· rfl);(· exact d_bld 3 rfl rfl ld63 rfl))
         (apply lxk_run 1;(· rfl);(· simp))
         (apply lxk_eq;(· rfl);(· exact d_x fun _=>x_idx_own (k) (k) rfl rfl sl63 rfl (by omega) (Nat.mul_one _) dk_eq))
         (apply lxk_eq;(· rfl);(· exact d_ldR_int 4 17 (k) rfl rfl rfl ld3 rfl (by assumption)))
         (apply lxk_run 2;(· rfl);(· simp))
         (apply lxk_eq;(· rfl);(· exact d_x fun _=>x_field rfl fd65_0 dk_eq))
         (apply lxk_eq;(· rfl);(· exact d_bld 3 rfl rfl ld63 rfl))
         (apply lxk_run 1;(· rfl);(· simp))
         (apply lxk_eq;(· rfl);(· exact d_x fun _=>x_idx_own (i) (i) rfl rfl sl63 rfl (by omega) (Nat.mul_one _) dk_eq))
         (apply lxk_eq;(· rfl);(· exact d_ldR_int 4 17 (i) rfl rfl rfl ld3 rfl (by assumption)))
         (apply lxk_eq;(· rfl);(· exact d_x fun _=>x_false it rfl (by trivial) (by omega) dk_eq))
         (apply lxk_run 3;(· rfl);(· simp))
         refine lxk_end rfl ?_
         simp only [List.map_cons,List.map_nil,List.cons_append,List.nil_append]
         refine j_nf [_,_,_,_,_,_] rfl ?_
         refine j_false rfl rfl ?_
         refine j_nf [_,_,_,_] rfl ?_
         refine j_run it 2 rfl ⟨trivial,⟨by omega,by omega⟩,trivial⟩ ?_
         refine j_nfn 1 [.lp (pL 244),.blk 0,.c [1,1,1,1]] rfl ?_
         refine j_unfocusL 8 (k) 1 12 13 rfl rfl rfl rfl (by first | assumption | omega) (by first | rfl | assumption | (simp [memB_cons,memB];done) | (simp [memB_cons,memB];omega)) ?_
         simp only [List.eraseIdx_cons_zero,List.eraseIdx_cons_succ,List.take_succ_cons,List.take_zero,List.cons_append,List.nil_append]
         rw [upd_id (hdl_at hr1 hkl)]
         refine j_matCongrS (fun g=>rl n (prw g)) 0 rfl (fun g _ _=>by
           by_cases e : g = k
           ·subst e;rw [upd_self]
           ·rw [upd_ne e]) ?_
         have hr2 : ∀ i' : Nat,((i : Nat) : Int) = (i' : Int) → rt (pfr i * (prw i j)⁻¹) = rt (lm ⟨m,n,pbs,pos,pfr,prw,pgl,pvv⟩ j i'):=fun i' e=>by
          obtain rfl : i = i':=by omega
          rfl
         refine j_toXT 8 [1,2,3,4,5,6,7] [16,17,0,19,20,21,22,23,24,25] (by exact fra rfl) rfl rfl rfl rfl (ih (k + 1,(i : Int),rt (pfr i * (prw i j)⁻¹),(pl,cl,ql,el),upd cs k er) (by dsimp only;omega) ⟨by dsimp only;omega,lvQ_keep (p:=⟨m,n,pbs,pos,pfr,prw,pgl,pvv⟩) hq' (by show pfr i * (prw i j)⁻¹ ≤ pfr k * (prw k j)⁻¹;rw [c2];exact Rat.le_refl) (fun _=>.inr ⟨c4,Nat.le_of_not_lt c5⟩),hr2⟩)
     ·have hc : 0 < (pfr k * (prw k j)⁻¹ - pfr i * (prw i j)⁻¹).num.sign:=(signP _).2 (by grind)
      (apply j_drawK it mx 45;(· rfl);(· rfl))
      (apply lxk_run 1;(· rfl);(· simp))
      (apply lxk_eq;(· rfl);(· exact d_x fun _=>x_false it rfl (by trivial) (by omega) dk_eq))
      (apply lxk_run 2;(· rfl);(· simp))
      (apply lxk_eq;(· rfl);(· exact d_x fun _=>x_false it rfl (by trivial) (by omega) dk_eq))
      (apply lxk_run 9;(· rfl);(· simp))
      (apply lxk_run 11;(· rfl);(· simp))
      (apply lxk_run 16;(· rfl);(· simp))
      (apply lxk_run 4;(· rfl);(· simp))
      refine lxk_end rfl ?_
      simp only [List.map_cons,List.map_nil,List.cons_append,List.nil_append]
      refine j_nf [_,_,_,_,_,_] rfl ?_
      refine j_false rfl rfl ?_
      refine j_nf [_,_,_,_] rfl ?_
      refine j_run it 2 rfl ⟨trivial,⟨by omega,by omega⟩,trivial⟩ ?_
      refine j_nfn 1 [.lp (pL 244),.blk 0,.c [1,1,1,1]] rfl ?_
      refine j_unfocusL 8 (k) 1 12 13 rfl rfl rfl rfl (by first | assumption | omega) (by first | rfl | assumption | (simp [memB_cons,memB];done) | (simp [memB_cons,memB];omega)) ?_
      simp only [List.eraseIdx_cons_zero,List.eraseIdx_cons_succ,List.take_succ_cons,List.take_zero,List.cons_append,List.nil_append]
      rw [upd_id (hdl_at hr1 hkl)]
      refine j_matCongrS (fun g=>rl n (prw g)) 0 rfl (fun g _ _=>by
        by_cases e : g = k
        ·subst e;rw [upd_self]
        ·rw [upd_ne e]) ?_
      have hr2 : ∀ i' : Nat,((i : Nat) : Int) = (i' : Int) → rt (pfr i * (prw i j)⁻¹) = rt (lm ⟨m,n,pbs,pos,pfr,prw,pgl,pvv⟩ j i'):=fun i' e=>by
       obtain rfl : i = i':=by omega
       rfl
      refine j_toXT 8 [1,2,3,4,5,6,7] [16,17,0,19,20,21,22,23,24,25] (by exact fra rfl) rfl rfl rfl rfl (ih (k + 1,(i : Int),rt (pfr i * (prw i j)⁻¹),(pl,cl,ql,el),upd cs k er) (by dsimp only;omega) ⟨by dsimp only;omega,lvQ_keep (p:=⟨m,n,pbs,pos,pfr,prw,pgl,pvv⟩) hq' (by show pfr i * (prw i j)⁻¹ ≤ pfr k * (prw k j)⁻¹;exact Rat.not_lt.1 c1) (fun e=>absurd e c2),hr2⟩)
 ·obtain rfl : m = k:=by omega
  refine j_nf [_,_,_,_,_] rfl ?_
  refine j_run it 1 rfl (by simp) ?_
  refine j_nf [_,_,_,_,_] rfl ?_
  refine j_if rfl rfl (fun h1=>by exfalso;omega) (fun h1=>?_)
  refine j_nf [_,_] rfl ?_
  refine j_run it 2 rfl (by simp) ?_
  refine j_nf [_] rfl ?_
  refine j_givK 7 [1,2,3,4,5,6] [3,4,5,6,7,2,8,9] rfl (.tmp rfl .nil) rfl rfl rfl ⟨⟨bs,os,fr,rw',gl,hd,cs,pn,cn,pd,cd⟩,_,rfl,hq,rfl,rfl⟩
structure ClimbE (N : Nat) (q p' : PD) (pf left left' e j : Int) : Prop where
 run : Run N q p'
 hf : ∀ h,h < p'.m → 0 ≤ p'.fr h
 l1 : left - ((2 ^ N : Nat) : Int) ≤ left'
 l2 : left' ≤ left
 why : (e = 0 ∧ j = 0 ∧ ((∀ k,k < p'.n → p'.gl k ≤ 0) ∨ ∃ k,k < p'.n ∧ (p'.os k : Int) = pf)) ∨ (e = 1 ∧ ∃ k : Nat,j = k ∧ k < p'.n ∧ 0 < p'.gl k ∧ ∀ h,h < p'.m → p'.rw h k ≤ 0)
abbrev ClimbQ (b N : Nat) (q : PD) (pf left : Int) : Value → List Fact → List Blk → Prop:=fun v Φ β=>∃ (x : DX) (p' : PD) (left' e j : Int),v = .tuple #[.int .i64 e,.int .i64 j] ∧ ClimbE N q p' pf left left' e j ∧ Φ = dicF x p' ∧ β = dicB b x p' left'
theorem S_simplex_dictionary__climb {b : Nat} {x : DX} {p q : PD} {left pf : Int} {N K : Nat} (g0 : Good N q) (run : Run N q p) (hf : ∀ h,h < p.m → 0 ≤ p.fr h) (hm : p.m ≤ 100) (hn : p.n ≤ 100) (hN : N ≤ 17) (hK : 1 ≤ K) (hb : PB K q) (hsz : szP' K q.m ≤ 1000000) (hl : -500000 ≤ left) (hl2 : left < 0) (hp1 : -1000000 ≤ pf) (hp2 : pf ≤ 1000000) :
  Ctr Tryz.prog 38 [.pointer (some ⟨b,0,none⟩),.int .i64 pf] (dicB b x p left) (dicF x p) (ClimbQ b N q pf left):=by
 refine Ctr_of_j' (F:=F_simplex_dictionary__climb) rfl fun C=>?_
 have hpow : 2 ^ N ≤ 131072:=Nat.le_trans (Nat.pow_le_pow_right (by decide) hN) (by decide)
 refine j_nf [_,_] rfl (j_run it 2 rfl (by simp) ?_)
 refine j_nf [_,_] rfl ?_
 have em0:=run.m
 have en0:=run.n
 refine j_loopG (X:=PD × List PD × DX) [0,1] [] (fun _=>[])
  (fun x=>dicB b x.2.2 x.1 (left - x.2.1.length)) (fun x=>dicF x.2.2 x.1)
  (fun x=>Climb N (x.1::x.2.1) ∧ Run N q x.1) (fun x=>2 ^ N - x.2.1.length) (p,[],x) [0,1,2,3,4,5,6,7] rfl rfl rfl ⟨.one _ run.g hf,run⟩ (by repeat (first | exact Fr.sub_nil _ | refine Fr.sub_cons rfl ?_)) (by show dicB b x p left = dicB b x p (left - ((0 : Nat) : Int));rw [show left - ((0 : Nat) : Int) = left by omega]) rfl ?_
 rintro ⟨p,l,x⟩ ⟨hc,run⟩ ih
 simp only [List.cons_append,List.nil_append] at hc run ih ⊢
 have hlen:=hc.len
 rw [List.length_cons] at hlen
 obtain ⟨g,hf⟩:=hc.good p (.head _)
 have em:=run.m
 have en:=run.n
 have hm' : p.m ≤ 100:=by omega
 have hn' : p.n ≤ 100:=by omega
 have hos : ∀ k,k < p.n → p.os k ≤ 1000000:=fun k hk=>by have:=g.oN k hk;omega
 have hbs : ∀ h,h < p.m → p.bs h ≤ 1000000:=fun h hh=>by have:=g.bN h hh;omega
 have c_simplex_dictionary__enter:=S_simplex_dictionary__enter (b:=b) (x:=x) (left:=left - l.length) hn' hos
 refine j_nf [_,_,_,_,_] rfl (j_run it 1 rfl (by simp) ?_)
 refine j_step rfl (x_callA 0 [0,1,2,3,4,5,6,7] rfl rfl (c_simplex_dictionary__enter) rfl ?_)
 rintro _ _ _ ⟨z1,rfl,h1,rfl,rfl⟩
 simp only [List.cons_append,List.nil_append]
 rcases h1 with ⟨rfl,top⟩ | ⟨j,rfl,hj,up,low⟩
 ·refine j_run it 1 rfl (by simp) ?_
  refine j_nf [_,_,_,_,_,_] rfl (j_run it 2 rfl (by simp) ?_)
  refine j_nf [_,_,_,_,_] rfl (j_if rfl rfl (fun h1=>?_) (fun h1=>by exfalso;omega))
  refine j_nf [_,_,_,_,_,_] rfl (j_run it 2 rfl (by simp) ?_)
  refine j_nf [_,_,_,_,_] rfl ?_
  refine j_givK 0 [] [0,1,2,3,4,5,6,7] rfl (.tmp rfl (.tmp rfl .nil)) rfl rfl rfl ⟨x,p,left - l.length,_,_,rfl,⟨run,hf,by omega,by omega,.inl ⟨rfl,rfl,.inl top⟩⟩,rfl,rfl⟩
 ·have hPB:=run.size g0 hK hb (by omega)
  have c_simplex_dictionary__leave:=S_simplex_dictionary__leave (b:=b) (x:=x) (left:=left - l.length) (pf:=pf) hj hm' hn' (szP'_pos hK _) hsz hPB hbs hp1 hp2
  refine j_run it 1 rfl (by simp) ?_
  refine j_nf [_,_,_,_,_,_] rfl (j_run it 2 rfl (by simp) ?_)
  refine j_nf [_,_,_,_,_] rfl (j_if rfl rfl (fun h1=>by exfalso;omega) (fun h1=>?_))
  refine j_nf [_,_,_,_,_] rfl (j_run it 3 rfl (by simp) ?_)
  refine j_step rfl (x_callA 0 [0,1,2,3,4,5,6,7] rfl rfl (c_simplex_dictionary__leave) rfl ?_)
  rintro _ _ _ ⟨x1,z1,rfl,h2,rfl,rfl⟩
  simp only [List.cons_append,List.nil_append]
  rcases h2 with ⟨rfl,free⟩ | ⟨i,rfl,hi,hp,hmin⟩
  ·refine j_run it 1 rfl (by simp) ?_
   refine j_nf [_,_,_,_,_,_,_] rfl (j_run it 3 rfl (by simp) ?_)
   refine j_nf [_,_,_,_,_,_] rfl (j_if rfl rfl (fun h2=>?_) (fun h2=>by exfalso;omega))
   refine j_nf [_,_,_,_,_,_,_] rfl (j_run it 3 rfl (by simp) ?_)
   refine j_nf [_,_,_,_,_,_] rfl ?_
   refine j_givK 0 [] [0,1,2,3,4,5,6,7] rfl (.tmp rfl (.tmp rfl .nil)) rfl rfl rfl ⟨x1,p,left - l.length,_,_,rfl,⟨run,hf,by omega,by omega,.inr ⟨rfl,j,rfl,hj,up,free⟩⟩,rfl,rfl⟩
  ·have hq2 : lvQ p j pf p.m i:=.inr ⟨i,rfl,hi,hp,hmin⟩
   have hne : p.rw i j ≠ 0:=fun e=>by rw [e] at hp;exact absurd hp (by decide)
   have c_simplex_dictionary__pivot:=fun {x : DX}=>S_simplex_dictionary__pivot (b:=b) (x:=x) (left:=left - l.length) hi hj hm' hn' (by omega) (by omega) (szP'_pos hK _) hsz hPB hbs hos hne
   refine j_rowB 0 rfl (by omega) fun bbs cbs ebs h=>?_
   obtain ⟨bs,os,fr,rw',gl,hd,cs,pn,cn,pd,cd⟩:=x1
   dsimp only at h
   subst h
   have w1:=il_get (f:=p.bs) hi
   have w4:=hbs i hi
   by_cases hgone : (p.bs i : Int) = pf
   ·refine j_run it 1 rfl (by simp) ?_
    refine j_nf [_,_,_,_,_,_,_] rfl (j_run it 3 rfl (by simp) ?_)
    refine j_nf [_,_,_,_,_,_] rfl (j_if rfl rfl (fun h2=>by exfalso;omega) (fun h2=>?_))
    refine j_nf [_,_,_,_,_,_,_] rfl (j_run it 2 rfl (by simp) ?_)
    refine j_step rfl (x_field rfl fd65_6 ?_)
    refine j_step rfl (x_bld 0 rfl rfl ld3 rfl ?_)
    refine j_run it 2 rfl (by simp) ?_
    refine j_nf [_,_,_,_,_,_] rfl (j_if rfl rfl (fun h3=>by exfalso;omega) (fun h3=>?_))
    refine j_nf [_,_,_,_,_] rfl (j_run it 2 rfl (by simp) ?_)
    refine j_step rfl (x_field rfl fd65_0 ?_)
    refine j_step rfl (x_bld 0 rfl rfl ld63 rfl ?_)
    refine j_run it 1 rfl (by simp) ?_
    refine j_step rfl (x_idx_own (i) (i) rfl rfl sl63 rfl (by omega) (Nat.mul_one _) ?_)
    refine j_step rfl (x_ldR_int 1 0 (i) rfl rfl rfl ld3 rfl (by assumption) fun hr1=>?_)
    refine j_run it 1 rfl (by simp) ?_
    refine j_nf [_,_,_,_,_] rfl (j_run it 3 rfl (by simp) ?_)
    refine j_step rfl (x_callA 0 [0,1,2,3,4,5,6,7] rfl rfl (c_simplex_dictionary__pivot) rfl ?_)
    rintro _ _ _ ⟨x'1,rfl,rfl,rfl,h4,h5⟩
    simp only [List.cons_append,List.nil_append]
    refine j_nf [_,_,_,_,_] rfl (j_run it 3 rfl (by simp) ?_)
    refine j_nf [_,_,_,_] rfl (j_if rfl rfl (fun h6=>?_) (fun h6=>by exfalso;omega))
    refine j_nf [_,_,_,_,_] rfl (j_run it 2 rfl (by simp) ?_)
    refine j_nf [_,_,_,_] rfl ?_
    refine j_givK 0 [] [0,1,2,3,4,5,6,7] rfl (.tmp rfl (.tmp rfl .nil)) rfl rfl rfl ⟨x'1,piv p i j,left - l.length - 1,_,_,rfl,⟨run.piv hi hj hne,piv_fr hf hi hp (lvQ_min hq2).2.2,by omega,by omega,.inl ⟨rfl,rfl,.inr ⟨j,hj,by show (((if j = j then p.bs i else p.os j) : Nat) : Int) = pf;rw [if_pos rfl];exact hgone⟩⟩⟩,rfl,rfl⟩
   ·refine j_run it 1 rfl (by simp) ?_
    refine j_nf [_,_,_,_,_,_,_] rfl (j_run it 3 rfl (by simp) ?_)
    refine j_nf [_,_,_,_,_,_] rfl (j_if rfl rfl (fun h2=>by exfalso;omega) (fun h2=>?_))
    refine j_nf [_,_,_,_,_,_,_] rfl (j_run it 2 rfl (by simp) ?_)
    refine j_step rfl (x_field rfl fd65_6 ?_)
    refine j_step rfl (x_bld 0 rfl rfl ld3 rfl ?_)
    refine j_run it 2 rfl (by simp) ?_
    refine j_nf [_,_,_,_,_,_] rfl (j_if rfl rfl (fun h3=>by exfalso;omega) (fun h3=>?_))
    refine j_nf [_,_,_,_,_] rfl (j_run it 2 rfl (by simp) ?_)
    refine j_step rfl (x_field rfl fd65_0 ?_)
    refine j_step rfl (x_bld 0 rfl rfl ld63 rfl ?_)
    refine j_run it 1 rfl (by simp) ?_
    refine j_step rfl (x_idx_own (i) (i) rfl rfl sl63 rfl (by omega) (Nat.mul_one _) ?_)
    refine j_step rfl (x_ldR_int 1 0 (i) rfl rfl rfl ld3 rfl (by assumption) fun hr1=>?_)
    refine j_run it 1 rfl (by simp) ?_
    refine j_nf [_,_,_,_,_] rfl (j_run it 3 rfl (by simp) ?_)
    refine j_step rfl (x_callA 0 [0,1,2,3,4,5,6,7] rfl rfl (c_simplex_dictionary__pivot) rfl ?_)
    rintro _ _ _ ⟨x'1,rfl,rfl,rfl,h4,h5⟩
    simp only [List.cons_append,List.nil_append]
    refine j_nf [_,_,_,_,_] rfl (j_run it 3 rfl (by simp) ?_)
    refine j_nf [_,_,_,_] rfl (j_if rfl rfl (fun h6=>by exfalso;omega) (fun h6=>?_))
    refine j_nfn 2 [.lp [1,0,0],.blk 0] rfl ?_
    rw [show left - (l.length : Int) - 1 = left - ((p::l).length : Int) by rw [List.length_cons];omega]
    refine j_to [0,1,2,3,4,5,6,7] (by exact fra rfl) rfl rfl (ih (piv p i j,p::l,x'1) (by simp only [List.length_cons];omega) ⟨.more p l i j hc (choice_of hj up low hq2 hgone),run.piv hi hj hne⟩)
def prc (p : PD) (n0 m0 : Nat) : Nat → Nat → Rat
 | 0=>fun _=>0
 | k + 1=>if n0 ≤ p.os k ∧ p.os k < n0 + m0 then upd (prc p n0 m0 k) (p.os k - n0) (-p.gl k) else prc p n0 m0 k
theorem prc_in {p : PD} {n0 m0 k : Nat} (h : n0 ≤ p.os k) (h2 : p.os k < n0 + m0) : prc p n0 m0 (k + 1) = upd (prc p n0 m0 k) (p.os k - n0) (-p.gl k):=by rw [prc,if_pos ⟨h,h2⟩]
theorem prc_out {p : PD} {n0 m0 k : Nat} (h : ¬ (n0 ≤ p.os k ∧ p.os k < n0 + m0)) : prc p n0 m0 (k + 1) = prc p n0 m0 k:=by rw [prc,if_neg h]
theorem S_simplex_dictionary__prices {b : Nat} {x : DX} {p : PD} {left : Int} {n0 m0 K : Nat} (hn0 : n0 ≤ 100) (hm0 : m0 ≤ 100) (hn : p.n ≤ 101) (hK : 1 ≤ K) (hK2 : K ≤ 1000000) (hgl : ∀ h,h < p.n → bd K (p.gl h)) (hos : ∀ h,h < p.n → p.os h ≤ 1000000) :
  Ctr Tryz.prog 35 [.pointer (some ⟨b,0,none⟩),.int .i64 n0,.int .i64 m0] (dicB b x p left) (dicF x p) (RowQ b x p left m0 (prc p n0 m0 p.n)):=by
 refine Ctr_of_j' (F:=F_simplex_dictionary__prices) rfl fun C=>?_
 obtain ⟨bs,os,fr,rw',gl,hd,cs,pn,cn,pd,cd⟩:=x
 obtain ⟨m,n,pbs,pos,pfr,prw,pgl,pvv⟩:=p
 simp only [dicB,dicF,dicC] at *
 refine j_nf [_,_] rfl (j_run it 1 rfl (by simp) ?_)
 refine j_nf [_,_] rfl (j_run it 1 rfl (by simp) ?_)
 refine j_step rfl (x_makeR RatE default (m0) _ rfl rfl sl27 zo27e rfl rfl by27e (by omega) (by omega) (by omega) rz26 fun b1 cs1=>?_)
 refine j_run it 1 rfl (by simp) ?_
 refine j_nf [_,_,_] rfl (j_run it 1 rfl (by simp) ?_)
 refine j_step rfl (x_len sl27 rfl ?_)
 refine j_run it 1 rfl (by simp) ?_
 refine j_nf [_,_,_] rfl ?_
 rw [← mapTo_zero (fun _=>rt 0)]
 refine j_loopG (X:=Nat × List Value) [0,1,2,6,7,14] [1,2,3,4,5,6,7,8] (fun x=>[(15,.int .i64 (x.1 : Int))])
  (fun x=>(some b1,26,x.2)::(some b,65,[.slice (ad bs.bo) m bs.cap,.slice (ad os.bo) n os.cap,.slice (ad fr.bo) m fr.cap,.slice (ad rw'.bo) m rw'.cap,.slice (ad gl.bo) n gl.cap,.bool (rt pvv).1,.slice pn (rt pvv).2.1.length cn,.slice pd (rt pvv).2.2.length cd,.int .i64 left])::(bs.bo,3,bs.cs)::(os.bo,3,os.cs)::(fr.bo,26,fr.cs)::(rw'.bo,27,rw'.cs)::(gl.bo,26,gl.cs)::famB 26 hd cs m [])
  (fun x=>[rowF RatE ⟨some b1,m0,x.2⟩ m0 (mapTo (fun _=>rt 0) default m0 x.1)])
  (fun x=>x.1 ≤ m0) (fun x=>m0 - x.1) (0,cs1) [0] rfl rfl rfl (Nat.zero_le _) (by repeat (first | exact Fr.sub_nil _ | refine Fr.sub_cons rfl ?_)) rfl rfl ?_
 rintro ⟨k,cs2⟩ hk ih
 simp only [List.cons_append,List.nil_append] at hk ih ⊢
 by_cases hkl : k < m0
 ·refine j_nf [_,_,_,_,_] rfl (j_run it 1 rfl (by simp) ?_)
  refine j_nf [_,_,_,_,_] rfl (j_if rfl rfl (fun h1=>?_) (fun h1=>by exfalso;omega))
  refine j_nf [_,_,_,_,_,_,_] rfl (j_run it 2 rfl (by simp) ?_)
  refine j_nf [_,_,_,_,_,_] rfl (j_run it 2 rfl (by simp) ?_)
  refine j_step rfl (x_call [] rfl (S_simplex_zero) rfl ?_)
  rintro _ _ _ ⟨pn1,cn1,pd1,cd1,rfl,rfl,rfl⟩
  simp only [List.cons_append,List.nil_append]
  refine j_step rfl (x_idx_own (k) _ rfl rfl sl27 rfl (by omega) rfl ?_)
  refine j_step rfl (x_stR (vs:=[Value.bool (rt 0).fst,Value.slice pn1 (rt 0).snd.fst.length cn1,Value.slice pd1 (rt 0).snd.snd.length cd1]) (z:=((rt 0).fst,((rt 0).snd.fst,(rt 0).snd.snd))) 0 2 (k) rfl rfl rfl rfl rfl ld26 rfl (by omega) (fun w A hG=>(rd_pair (v1:=[Value.bool (rt 0).fst]) (rd_bool _) (rd_pair (v1:=[Value.slice pn1 (rt 0).snd.fst.length cn1]) (rd_of_slF (hG _ (fact_mem (n:=0) rfl))) (rd_of_slF (hG _ (fact_mem (n:=1) rfl)))))) fun cs3=>?_)
  refine j_nf [_,_,_,_] rfl (j_run it 2 rfl ⟨trivial,⟨by omega,by omega⟩,trivial⟩ ?_)
  refine j_nfn 1 [.lp (pL 116),.blk 0,.c [1,1,1]] rfl ?_
  rw [show ((rt 0).1,(rt 0).2.1,(rt 0).2.2) = (fun _=>rt 0) k from rfl,mapTo_set (fun _=>rt 0)]
  refine j_to [0,4,5,6,7,8,9,10,11] (by exact fra rfl) rfl rfl (ih (k + 1,cs3) (by dsimp only;omega) (by dsimp only;omega))
 ·obtain rfl : m0 = k:=by omega
  refine j_nf [_,_,_,_,_] rfl (j_run it 1 rfl (by simp) ?_)
  refine j_nf [_,_,_,_,_] rfl (j_if rfl rfl (fun h1=>by exfalso;omega) (fun h1=>?_))
  refine j_nf [_,_,_] rfl (j_run it 2 rfl (by simp) ?_)
  refine j_step rfl (x_field rfl fd65_1 ?_)
  refine j_step rfl (x_bld 1 rfl rfl ld63 rfl ?_)
  refine j_step rfl (x_len sl63 rfl ?_)
  refine j_run it 1 rfl (by simp) ?_
  refine j_nf [_,_,_] rfl ?_
  rw [mapTo_all,show (List.range m0).map (fun _=>rt 0) = rl m0 (prc ⟨m,n,pbs,pos,pfr,prw,pgl,pvv⟩ n0 m0 0) from rfl]
  refine j_loopG (X:=Nat × List Value) [0,1,2,6,7,26,27] [1,2,3,4,5,6,7,8] (fun x=>[(28,.int .i64 (x.1 : Int))])
   (fun x=>(some b1,26,x.2)::(some b,65,[.slice (ad bs.bo) m bs.cap,.slice (ad os.bo) n os.cap,.slice (ad fr.bo) m fr.cap,.slice (ad rw'.bo) m rw'.cap,.slice (ad gl.bo) n gl.cap,.bool (rt pvv).1,.slice pn (rt pvv).2.1.length cn,.slice pd (rt pvv).2.2.length cd,.int .i64 left])::(bs.bo,3,bs.cs)::(os.bo,3,os.cs)::(fr.bo,26,fr.cs)::(rw'.bo,27,rw'.cs)::(gl.bo,26,gl.cs)::famB 26 hd cs m [])
   (fun x=>[rowF RatE ⟨some b1,m0,x.2⟩ m0 (rl m0 (prc ⟨m,n,pbs,pos,pfr,prw,pgl,pvv⟩ n0 m0 x.1))])
   (fun x=>x.1 ≤ n) (fun x=>n - x.1) (0,cs2) [0] rfl rfl rfl (Nat.zero_le _) (by repeat (first | exact Fr.sub_nil _ | refine Fr.sub_cons rfl ?_)) rfl rfl ?_
  rintro ⟨k,cs3⟩ hk ih
  simp only [List.cons_append,List.nil_append] at hk ih ⊢
  by_cases hkl : k < n
  ·refine j_rowB 5 rfl (by omega) fun bgl cgl egl h=>?_
   subst h
   refine j_rowB 2 rfl (by omega) fun bos cos eos h=>?_
   subst h
   have z3:=rl_get (f:=pgl) hkl
   have w1:=il_get (f:=pos) hkl
   have w4:=hos k hkl
   obtain ⟨y3,y4⟩:=bd_len (hgl k hkl)
   by_cases hv : n0 ≤ pos k
   ·by_cases hv2 : pos k < n0 + m0
    ·refine j_nf [_,_,_,_,_] rfl (j_run it 1 rfl (by simp) ?_)
     refine j_nf [_,_,_,_,_] rfl (j_if rfl rfl (fun h2=>?_) (fun h2=>by exfalso;omega))
     refine j_nf [_,_,_,_,_,_,_] rfl (j_run it 1 rfl (by simp) ?_)
     refine j_step rfl (x_idx_own (k) (k) rfl rfl sl63 rfl (by omega) (Nat.mul_one _) ?_)
     refine j_step rfl (x_ldR_int 3 2 (k) rfl rfl rfl ld3 rfl (by assumption) fun hr1=>?_)
     refine j_run it 2 rfl (by simp) ?_
     refine j_nf [_,_,_,_,_,_,_] rfl (j_run it 4 rfl (by simp) ?_)
     refine j_split_dec (t:=36) rfl (fun h3=>?_) (fun h3=>by exfalso;omega)
     refine j_run it 6 rfl ⟨trivial,trivial,⟨by omega,by omega⟩,trivial,trivial,trivial,trivial⟩ ?_
     refine j_nf [_,_,_,_,_,_] rfl (j_if rfl rfl (fun h4=>?_) (fun h4=>by exfalso;omega))
     refine j_nf [_,_,_,_,_,_] rfl (j_run it 6 rfl ⟨trivial,trivial,⟨by omega,by omega⟩,trivial,trivial,trivial,trivial⟩ ?_)
     refine j_step rfl (x_field rfl fd65_4 ?_)
     refine j_step rfl (x_bld 1 rfl rfl ld27 rfl ?_)
     refine j_run it 1 rfl (by simp) ?_
     refine j_step rfl (x_idx_own (k) _ rfl rfl sl27 rfl (by omega) rfl ?_)
     refine j_step rfl (x_ldR_vw vw_RatE 6 5 (k) rfl rfl rfl ld26 rfl (by omega) fun z1 hz1 g1=>?_)
     dsimp only [vw_RatE,List.cons_append,List.nil_append,List.map_cons,List.map_nil] --ok
     obtain rfl : z1 = rt (pgl k):=Option.some.inj (hz1.symm.trans z3)
     refine j_step rfl (x_call [0,1] rfl (S_rational_Neg (by omega) (by omega)) rfl ?_)
     rintro _ _ _ ⟨pn1,cn1,pd1,cd1,rfl,rfl,rfl⟩
     simp only [List.cons_append,List.nil_append]
     simp only [vq_rt']
     refine j_step rfl (x_idx_own ((pos k) - (n0)) _ rfl rfl sl27 (by omega) (by omega) rfl ?_)
     refine j_step rfl (x_stR (vs:=[Value.bool (rt (-pgl k)).fst,Value.slice pn1 (rt (-pgl k)).snd.fst.length cn1,Value.slice pd1 (rt (-pgl k)).snd.snd.length cd1]) (z:=((rt (-pgl k)).fst,((rt (-pgl k)).snd.fst,(rt (-pgl k)).snd.snd))) 0 4 (pos k - n0) rfl rfl rfl rfl rfl ld26 rfl (by omega) (fun w A hG=>(rd_pair (v1:=[Value.bool (rt (-pgl k)).fst]) (rd_bool _) (rd_pair (v1:=[Value.slice pn1 (rt (-pgl k)).snd.fst.length cn1]) (rd_of_slF (hG _ (fact_mem (n:=0) rfl))) (rd_of_slF (hG _ (fact_mem (n:=1) rfl)))))) fun cs4=>?_)
     refine j_nf [_,_,_,_] rfl (j_run it 2 rfl ⟨trivial,⟨by omega,by omega⟩,trivial⟩ ?_)
     refine j_nfn 1 [.lp (pL 244),.blk 2,.c [1,1,1,1]] rfl ?_
     rw [show ((rt (-pgl k)).1,(rt (-pgl k)).2.1,(rt (-pgl k)).2.2) = rt (-pgl k) from rfl,rl_set,← prc_in (p:=⟨m,n,pbs,pos,pfr,prw,pgl,pvv⟩) hv hv2]
     refine j_to [0,6,7,8,9,10,11,12,13] (by exact fra rfl) rfl rfl (ih (k + 1,cs4) (by dsimp only;omega) (by dsimp only;omega))
    ·refine j_nf [_,_,_,_,_] rfl (j_run it 1 rfl (by simp) ?_)
     refine j_nf [_,_,_,_,_] rfl (j_if rfl rfl (fun h2=>?_) (fun h2=>by exfalso;omega))
     refine j_nf [_,_,_,_,_,_,_] rfl (j_run it 1 rfl (by simp) ?_)
     refine j_step rfl (x_idx_own (k) (k) rfl rfl sl63 rfl (by omega) (Nat.mul_one _) ?_)
     refine j_step rfl (x_ldR_int 3 2 (k) rfl rfl rfl ld3 rfl (by assumption) fun hr1=>?_)
     refine j_run it 2 rfl (by simp) ?_
     refine j_nf [_,_,_,_,_,_,_] rfl (j_run it 4 rfl (by simp) ?_)
     refine j_split_dec (t:=36) rfl (fun h3=>?_) (fun h3=>by exfalso;omega)
     refine j_run it 6 rfl ⟨trivial,trivial,⟨by omega,by omega⟩,trivial,trivial,trivial,trivial⟩ ?_
     refine j_nf [_,_,_,_,_,_] rfl (j_if rfl rfl (fun h4=>by exfalso;omega) (fun h4=>?_))
     refine j_nf [_,_,_,_] rfl (j_run it 2 rfl ⟨trivial,⟨by omega,by omega⟩,trivial⟩ ?_)
     refine j_nfn 1 [.lp (pL 244),.blk 2,.c [1,1,1,1]] rfl ?_
     rw [← prc_out (p:=⟨m,n,pbs,pos,pfr,prw,pgl,pvv⟩) (fun h=>hv2 h.2)]
     refine j_to [0,1,2,3,4,5,6,7,8] (by exact fra rfl) rfl rfl (ih (k + 1,cs3) (by dsimp only;omega) (by dsimp only;omega))
   ·refine j_nf [_,_,_,_,_] rfl (j_run it 1 rfl (by simp) ?_)
    refine j_nf [_,_,_,_,_] rfl (j_if rfl rfl (fun h2=>?_) (fun h2=>by exfalso;omega))
    refine j_nf [_,_,_,_,_,_,_] rfl (j_run it 1 rfl (by simp) ?_)
    refine j_step rfl (x_idx_own (k) (k) rfl rfl sl63 rfl (by omega) (Nat.mul_one _) ?_)
    refine j_step rfl (x_ldR_int 3 2 (k) rfl rfl rfl ld3 rfl (by assumption) fun hr1=>?_)
    refine j_run it 2 rfl (by simp) ?_
    refine j_nf [_,_,_,_,_,_,_] rfl (j_run it 4 rfl (by simp) ?_)
    refine j_split_dec (t:=36) rfl (fun h3=>by exfalso;omega) (fun h3=>?_)
    refine j_run it 6 rfl (by simp) ?_
    refine j_nf [_,_,_,_,_,_] rfl ?_
    refine j_false rfl rfl ?_
    refine j_nf [_,_,_,_] rfl (j_run it 2 rfl ⟨trivial,⟨by omega,by omega⟩,trivial⟩ ?_)
    refine j_nfn 1 [.lp (pL 244),.blk 2,.c [1,1,1,1]] rfl ?_
    rw [← prc_out (p:=⟨m,n,pbs,pos,pfr,prw,pgl,pvv⟩) (fun h=>hv h.1)]
    refine j_to [0,1,2,3,4,5,6,7,8] (by exact fra rfl) rfl rfl (ih (k + 1,cs3) (by dsimp only;omega) (by dsimp only;omega))
  ·obtain rfl : n = k:=by omega
   refine j_nf [_,_,_,_,_] rfl (j_run it 1 rfl (by simp) ?_)
   refine j_nf [_,_,_,_,_] rfl (j_if rfl rfl (fun h2=>by exfalso;omega) (fun h2=>?_))
   refine j_nf [_,_] rfl (j_run it 2 rfl (by simp) ?_)
   refine j_nf [_] rfl ?_
   refine j_pubR 0 0 rfl rfl (by show m0 * 56 ≤ 140737488355328;omega) ?_
   refine j_givK 6 [0,1,2,3,4,5] [0,2,3,4,5,6,7,8,9] rfl (.tmp rfl .nil) rfl rfl rfl ⟨_,_,rfl,rfl,rfl⟩
def rayF (p : PD) (n0 j : Nat) : Nat → Nat → Rat
 | 0=>if p.os j < n0 then upd (fun _=>0) (p.os j) 1 else fun _=>0
 | k + 1=>if p.bs k < n0 then upd (rayF p n0 j k) (p.bs k) (-p.rw k j) else rayF p n0 j k
theorem rayF_in {p : PD} {n0 j k : Nat} (h : p.bs k < n0) : rayF p n0 j (k + 1) = upd (rayF p n0 j k) (p.bs k) (-p.rw k j):=by rw [rayF,if_pos h]
theorem rayF_out {p : PD} {n0 j k : Nat} (h : ¬ p.bs k < n0) : rayF p n0 j (k + 1) = rayF p n0 j k:=by rw [rayF,if_neg h]
theorem rayF_z {p : PD} {n0 j : Nat} (h : p.os j < n0) : rayF p n0 j 0 = upd (fun _=>0) (p.os j) 1:=by rw [rayF,if_pos h]
theorem rayF_n {p : PD} {n0 j : Nat} (h : ¬ p.os j < n0) : rayF p n0 j 0 = fun _=>0:=by rw [rayF,if_neg h]
abbrev RowX (b : Nat) (p : PD) (left : Int) (n0 : Nat) (f : Nat → Rat) : Value → List Fact → List Blk → Prop:=fun v Φ β=>∃ (x : DX) (pa : Option Addr) (ca : Nat),v = .slice pa n0 ca ∧ Φ = slF RatE pa n0 ca (rl n0 f)::dicF x p ∧ β = dicB b x p left
theorem S_simplex_dictionary__ray {b : Nat} {x : DX} {p : PD} {left : Int} {n0 j K : Nat} (hj : j < p.n) (hn0 : n0 ≤ 100) (hm : p.m ≤ 100) (hn : p.n ≤ 101) (hK : 1 ≤ K) (hK2 : K ≤ 1000000) (hrw : ∀ h,h < p.m → bd K (p.rw h j)) (hbs : ∀ h,h < p.m → p.bs h ≤ 1000000) (hos : p.os j ≤ 1000000) :
  Ctr Tryz.prog 40 [.pointer (some ⟨b,0,none⟩),.int .i64 n0,.int .i64 j] (dicB b x p left) (dicF x p) (RowX b p left n0 (rayF p n0 j p.m)):=by
 refine Ctr_of_j' (F:=F_simplex_dictionary__ray) rfl fun C=>?_
 obtain ⟨bs,os,fr,rw',gl,hd,cs,pn,cn,pd,cd⟩:=x
 obtain ⟨m,n,pbs,pos,pfr,prw,pgl,pvv⟩:=p
 simp only [dicB,dicF,dicC] at *
 refine j_nf [_,_] rfl ?_
 refine j_run it 1 rfl (by simp) ?_
 refine j_nf [_,_] rfl ?_
 refine j_run it 1 rfl (by simp) ?_
 refine j_step rfl (x_makeR RatE default (n0) _ rfl rfl sl27 zo27e rfl rfl by27e (by omega) (by omega) (by omega) rz26 fun b1 cs1=>?_)
 refine j_run it 1 rfl (by simp) ?_
 refine j_nf [_,_,_] rfl ?_
 refine j_run it 1 rfl (by simp) ?_
 refine j_step rfl (x_len sl27 rfl ?_)
 refine j_run it 1 rfl (by simp) ?_
 refine j_nf [_,_,_] rfl ?_
 rw [← mapTo_zero (fun _=>rt 0)]
 refine j_loopG (X:=Nat × List Value) [0,1,2,6,7,14] [1,2,3,4,5,6,7,8] (fun x=>[(15,.int .i64 (x.1 : Int))])
  (fun x=>(some b1,26,x.2)::(some b,65,[.slice (ad bs.bo) m bs.cap,.slice (ad os.bo) n os.cap,.slice (ad fr.bo) m fr.cap,.slice (ad rw'.bo) m rw'.cap,.slice (ad gl.bo) n gl.cap,.bool (rt pvv).1,.slice pn (rt pvv).2.1.length cn,.slice pd (rt pvv).2.2.length cd,.int .i64 left])::(bs.bo,3,bs.cs)::(os.bo,3,os.cs)::(fr.bo,26,fr.cs)::(rw'.bo,27,rw'.cs)::(gl.bo,26,gl.cs)::famB 26 hd cs m [])
  (fun x=>[rowF RatE ⟨some b1,n0,x.2⟩ n0 (mapTo (fun _=>rt 0) default n0 x.1)])
  (fun x=>x.1 ≤ n0) (fun x=>n0 - x.1) (0,cs1) [0] rfl rfl rfl (Nat.zero_le _) (by repeat (first | exact Fr.sub_nil _ | refine Fr.sub_cons rfl ?_)) rfl rfl ?_
 rintro ⟨k,cs2⟩ hk ih
 simp only [List.cons_append,List.nil_append] at hk ih ⊢
 by_cases hkl : k < n0
 ·refine j_nf [_,_,_,_,_] rfl ?_
  refine j_run it 1 rfl (by simp) ?_
  refine j_nf [_,_,_,_,_] rfl ?_
  refine j_if rfl rfl (fun h1=>?_) (fun h1=>by exfalso;omega)
  refine j_nf [_,_,_,_,_,_,_] rfl ?_
  refine j_run it 2 rfl (by simp) ?_
  refine j_nf [_,_,_,_,_,_] rfl ?_
  refine j_run it 2 rfl (by simp) ?_
  refine j_step rfl (x_call [] rfl (S_simplex_zero) rfl ?_)
  rintro _ _ _ ⟨pn1,cn1,pd1,cd1,rfl,rfl,rfl⟩
  simp only [List.cons_append,List.nil_append]
  refine j_step rfl (x_idx_own (k) _ rfl rfl sl27 rfl (by omega) rfl ?_)
  refine j_step rfl (x_stR (vs:=[Value.bool (rt 0).fst,Value.slice pn1 (rt 0).snd.fst.length cn1,Value.slice pd1 (rt 0).snd.snd.length cd1]) (z:=((rt 0).fst,((rt 0).snd.fst,(rt 0).snd.snd))) 0 2 (k) rfl rfl rfl rfl rfl ld26 rfl (by omega) (fun w A hG=>(rd_pair (v1:=[Value.bool (rt 0).fst]) (rd_bool _) (rd_pair (v1:=[Value.slice pn1 (rt 0).snd.fst.length cn1]) (rd_of_slF (hG _ (fact_mem (n:=0) rfl))) (rd_of_slF (hG _ (fact_mem (n:=1) rfl)))))) fun cs3=>?_)
  refine j_nf [_,_,_,_] rfl ?_
  refine j_run it 2 rfl ⟨trivial,⟨by omega,by omega⟩,trivial⟩ ?_
  refine j_nfn 1 [.lp (pL 116),.blk 0,.c [1,1,1]] rfl ?_
  rw [show ((rt 0).1,(rt 0).2.1,(rt 0).2.2) = (fun _=>rt 0) k from rfl,mapTo_set (fun _=>rt 0)]
  refine j_to [0,4,5,6,7,8,9,10,11] (by exact fra rfl) rfl rfl (ih (k + 1,cs3) (by dsimp only;omega) (by dsimp only;omega))
 ·obtain rfl : n0 = k:=by omega
  refine j_rowB 2 rfl (by omega) fun bos cos eos h=>?_
  subst h
  have w2:=il_get (f:=pos) hj
  have w5 : pos j ≤ 1000000:=hos
  by_cases hv : pos j < n0
  ·refine j_nf [_,_,_,_,_] rfl ?_
   refine j_run it 1 rfl (by simp) ?_
   refine j_nf [_,_,_,_,_] rfl ?_
   refine j_if rfl rfl (fun h1=>by exfalso;omega) (fun h1=>?_)
   refine j_nf [_,_,_] rfl ?_
   refine j_run it 2 rfl (by simp) ?_
   refine j_step rfl (x_field rfl fd65_1 ?_)
   refine j_step rfl (x_bld 1 rfl rfl ld63 rfl ?_)
   refine j_run it 1 rfl (by simp) ?_
   refine j_step rfl (x_idx_own (j) (j) rfl rfl sl63 rfl (by omega) (Nat.mul_one _) ?_)
   refine j_step rfl (x_ldR_int 3 2 (j) rfl rfl rfl ld3 rfl (by assumption) fun hr1=>?_)
   refine j_run it 2 rfl (by simp) ?_
   refine j_nf [_,_] rfl ?_
   refine j_if rfl rfl (fun h2=>?_) (fun h2=>by exfalso;omega)
   (apply j_drawK it mx 9;(· rfl);(· rfl))
   (apply lxk_run 3;(· rfl);(· simp))
   (apply lxk_eq;(· rfl);(· exact d_x fun _=>x_field rfl fd65_1 dk_eq))
   (apply lxk_eq;(· rfl);(· exact d_bld 1 rfl rfl ld63 rfl))
   (apply lxk_run 1;(· rfl);(· simp))
   (apply lxk_eq;(· rfl);(· exact d_x fun _=>x_idx_own (j) (j) rfl rfl sl63 rfl (by omega) (Nat.mul_one _) dk_eq))
   (apply lxk_eq;(· rfl);(· exact d_ldR_int 3 2 (j) rfl rfl rfl ld3 rfl (by assumption)))
   (apply lxk_rq;(· rfl);(· exact d_x fun _=>x_call [] rfl (S_simplex_one) rfl (by rintro _ _ _ ⟨pn1,cn1,pd1,cd1,rfl,rfl,rfl⟩;exact (dk_rq 0 1 rfl rfl)));intro pn1 cn1 pd1 cd1)
   refine lxk_end rfl ?_
   simp only [List.map_cons,List.map_nil,List.cons_append,List.nil_append]
   refine j_step rfl (x_idx_own (pos j) _ rfl rfl sl27 rfl (by omega) rfl ?_)
   refine j_step rfl (x_stR (vs:=[Value.bool (rt 1).fst,Value.slice pn1 (rt 1).snd.fst.length cn1,Value.slice pd1 (rt 1).snd.snd.length cd1]) (z:=((rt 1).fst,((rt 1).snd.fst,(rt 1).snd.snd))) 0 2 (pos j) rfl rfl rfl rfl rfl ld26 rfl (by omega) (fun w A hG=>(rd_pair (v1:=[Value.bool (rt 1).fst]) (rd_bool _) (rd_pair (v1:=[Value.slice pn1 (rt 1).snd.fst.length cn1]) (rd_of_slF (hG _ (fact_mem (n:=0) rfl))) (rd_of_slF (hG _ (fact_mem (n:=1) rfl)))))) fun cs3=>?_)
   refine j_nf [_,_,_] rfl ?_
   refine j_run it 2 rfl (by simp) ?_
   refine j_step rfl (x_field rfl fd65_0 ?_)
   refine j_step rfl (x_bld 1 rfl rfl ld63 rfl ?_)
   refine j_step rfl (x_len sl63 rfl ?_)
   refine j_run it 1 rfl (by simp) ?_
   refine j_nf [_,_,_] rfl ?_
   rw [mapTo_all,show (List.range n0).map (fun _=>rt 0) = rl n0 (fun _=>0) from rfl,show ((rt 1).1,(rt 1).2.1,(rt 1).2.2) = rt 1 from rfl,rl_set,← rayF_z (p:=⟨m,n,pbs,pos,pfr,prw,pgl,pvv⟩) hv]
   refine j_loopG (X:=Nat × List Value × (Nat → List Value)) [0,1,2,6,7,45,46] [4,5,6,7,8,10,11] (fun x=>[(47,.int .i64 (x.1 : Int))])
    (fun x=>(some b1,26,x.2.1)::(some b,65,[.slice (ad bs.bo) m bs.cap,.slice (ad (some bos)) n cos,.slice (ad fr.bo) m fr.cap,.slice (ad rw'.bo) m rw'.cap,.slice (ad gl.bo) n gl.cap,.bool (rt pvv).1,.slice pn (rt pvv).2.1.length cn,.slice pd (rt pvv).2.2.length cd,.int .i64 left])::(bs.bo,3,bs.cs)::(some bos,3,eos)::(fr.bo,26,fr.cs)::(rw'.bo,27,rw'.cs)::(gl.bo,26,gl.cs)::famB 26 hd x.2.2 m [])
    (fun x=>[rowF RatE ⟨some b1,n0,x.2.1⟩ n0 (rl n0 (rayF ⟨m,n,pbs,pos,pfr,prw,pgl,pvv⟩ n0 j x.1)),matF RatE hd x.2.2 (fun h=>rl n (prw h)) m []])
    (fun x=>x.1 ≤ m) (fun x=>m - x.1) (0,cs3,cs) [0,9] rfl rfl rfl (Nat.zero_le _) (by repeat (first | exact Fr.sub_nil _ | refine Fr.sub_cons rfl ?_)) rfl rfl ?_
   rintro ⟨k,cs3,cs⟩ hk ih
   simp only [List.cons_append,List.nil_append] at hk ih ⊢
   by_cases hkl : k < m
   ·refine j_hdlen 1 rfl fun hlen=>?_
    have hN : (hd k).2.1 = n:=by rw [hlen k hkl rfl,rl_len]
    refine j_rowB 2 rfl (by omega) fun bbs cbs ebs h=>?_
    subst h
    have w1:=il_get (f:=pbs) hkl
    have w4:=hbs k hkl
    obtain ⟨y3,y4⟩:=bd_len (hrw k hkl)
    by_cases hv : pbs k < n0
    ·refine j_focusL 7 (k) 1 (n) rfl rfl (by first | assumption | omega) (by first | rfl | assumption | (simp [memB_cons,memB];done) | (simp [memB_cons,memB];omega)) (by first | assumption | omega) fun r1 hr2=>?_
     simp only [List.take_succ_cons,List.take_zero,List.cons_append,List.nil_append]
     refine j_rowB 0 rfl (by omega) fun br cr er h=>?_
     subst h
     have z3:=rl_get (f:=prw k) hj
     refine j_nf [_,_,_,_,_] rfl ?_
     refine j_run it 1 rfl (by simp) ?_
     refine j_nf [_,_,_,_,_] rfl ?_
     refine j_if rfl rfl (fun h3=>?_) (fun h3=>by exfalso;omega)
     refine j_nf [_,_,_,_,_,_,_] rfl ?_
     refine j_run it 1 rfl (by simp) ?_
     refine j_step rfl (x_idx_own (k) (k) rfl rfl sl63 rfl (by omega) (Nat.mul_one _) ?_)
     refine j_step rfl (x_ldR_int 3 4 (k) rfl rfl rfl ld3 rfl (by assumption) fun hr3=>?_)
     refine j_run it 2 rfl (by simp) ?_
     refine j_nf [_,_,_,_,_,_,_] rfl ?_
     refine j_run it 3 rfl (by simp) ?_
     refine j_nf [_,_,_,_,_,_] rfl ?_
     refine j_if rfl rfl (fun h4=>?_) (fun h4=>by exfalso;omega)
     refine j_nf [_,_,_,_,_,_] rfl ?_
     refine j_run it 4 rfl (by simp) ?_
     refine j_step rfl (x_field rfl fd65_3 ?_)
     refine j_step rfl (x_bld 2 rfl rfl ld39 rfl ?_)
     refine j_run it 1 rfl (by simp) ?_
     refine j_rowB 7 rfl (by omega) fun b2 cap1 cs4 hr4=>?_
     subst hr4
     dsimp only
     refine j_step rfl (x_idx_own (k) (k) rfl rfl sl39 rfl (by omega) (Nat.mul_one _) ?_)
     refine j_step rfl (x_ldR_hd 6 7 (k) rfl rfl rfl ld27 rfl (by assumption) ?_)
     refine j_run it 1 rfl (by simp) ?_
     refine j_step rfl (x_idx_own (j) _ rfl rfl sl27 rfl (by omega) rfl ?_)
     refine j_step rfl (x_ldR_vw vw_RatE 0 0 (j) rfl rfl rfl ld26 rfl (by omega) fun z1 hz1 g1=>?_)
     dsimp only [vw_RatE,List.cons_append,List.nil_append,List.map_cons,List.map_nil] --ok
     obtain rfl : z1 = rt (prw k j):=Option.some.inj (hz1.symm.trans z3)
     refine j_step rfl (x_call [0,1] rfl (S_rational_Neg (by omega) (by omega)) rfl ?_)
     rintro _ _ _ ⟨pn2,cn2,pd2,cd2,rfl,rfl,rfl⟩
     simp only [List.cons_append,List.nil_append]
     simp only [vq_rt']
     refine j_step rfl (x_idx_own (pbs k) _ rfl rfl sl27 rfl (by omega) rfl ?_)
     refine j_step rfl (x_stR (vs:=[Value.bool (rt (-prw k j)).fst,Value.slice pn2 (rt (-prw k j)).snd.fst.length cn2,Value.slice pd2 (rt (-prw k j)).snd.snd.length cd2]) (z:=((rt (-prw k j)).fst,((rt (-prw k j)).snd.fst,(rt (-prw k j)).snd.snd))) 1 6 (pbs k) rfl rfl rfl rfl rfl ld26 rfl (by omega) (fun w A hG=>(rd_pair (v1:=[Value.bool (rt (-prw k j)).fst]) (rd_bool _) (rd_pair (v1:=[Value.slice pn2 (rt (-prw k j)).snd.fst.length cn2]) (rd_of_slF (hG _ (fact_mem (n:=0) rfl))) (rd_of_slF (hG _ (fact_mem (n:=1) rfl)))))) fun cs5=>?_)
     refine j_nf [_,_,_,_] rfl ?_
     refine j_run it 2 rfl ⟨trivial,⟨by omega,by omega⟩,trivial⟩ ?_
     refine j_nfn 1 [.lp (pL 500),.blk 2,.c [1,1,1,1,1]] rfl ?_
     rw [show ((rt (-prw k j)).1,(rt (-prw k j)).2.1,(rt (-prw k j)).2.2) = rt (-prw k j) from rfl,rl_set,← rayF_in (p:=⟨m,n,pbs,pos,pfr,prw,pgl,pvv⟩) hv]
     refine j_unfocusL 7 (k) 0 5 6 rfl rfl rfl rfl (by first | assumption | omega) (by first | rfl | assumption | (simp [memB_cons,memB];done) | (simp [memB_cons,memB];omega)) ?_
     simp only [List.eraseIdx_cons_zero,List.eraseIdx_cons_succ,List.take_succ_cons,List.take_zero,List.cons_append,List.nil_append]
     rw [upd_id (hdl_at (by assumption) hkl)]
     refine j_matCongrS (fun g=>rl n (prw g)) 0 rfl (fun g _ _=>by
       by_cases e : g = k
       ·subst e;rw [upd_self]
       ·rw [upd_ne e]) ?_
     refine j_to [2,0,11,12,13,14,15,16,17] (by exact fra rfl) rfl rfl (ih (k + 1,cs5,upd cs k er) (by dsimp only;omega) (by dsimp only;omega))
    ·refine j_nf [_,_,_,_,_] rfl ?_
     refine j_run it 1 rfl (by simp) ?_
     refine j_nf [_,_,_,_,_] rfl ?_
     refine j_if rfl rfl (fun h3=>?_) (fun h3=>by exfalso;omega)
     refine j_nf [_,_,_,_,_,_,_] rfl ?_
     refine j_run it 1 rfl (by simp) ?_
     refine j_step rfl (x_idx_own (k) (k) rfl rfl sl63 rfl (by omega) (Nat.mul_one _) ?_)
     refine j_step rfl (x_ldR_int 2 2 (k) rfl rfl rfl ld3 rfl (by assumption) fun hr2=>?_)
     refine j_run it 2 rfl (by simp) ?_
     refine j_nf [_,_,_,_,_,_,_] rfl ?_
     refine j_run it 3 rfl (by simp) ?_
     refine j_nf [_,_,_,_,_,_] rfl ?_
     refine j_if rfl rfl (fun h4=>by exfalso;omega) (fun h4=>?_)
     refine j_nf [_,_,_,_] rfl ?_
     refine j_run it 2 rfl ⟨trivial,⟨by omega,by omega⟩,trivial⟩ ?_
     refine j_nfn 1 [.lp (pL 500),.blk 2,.c [1,1,1,1,1]] rfl ?_
     rw [← rayF_out (p:=⟨m,n,pbs,pos,pfr,prw,pgl,pvv⟩) hv]
     refine j_to [0,1,2,3,4,5,6,7,8] (by exact fra rfl) rfl rfl (ih (k + 1,cs3,cs) (by dsimp only;omega) (by dsimp only;omega))
   ·obtain rfl : m = k:=by omega
    refine j_nf [_,_,_,_,_] rfl ?_
    refine j_run it 1 rfl (by simp) ?_
    refine j_nf [_,_,_,_,_] rfl ?_
    refine j_if rfl rfl (fun h3=>by exfalso;omega) (fun h3=>?_)
    refine j_nf [_,_] rfl ?_
    refine j_run it 2 rfl (by simp) ?_
    refine j_nf [_] rfl ?_
    refine j_pubR 0 0 rfl rfl (by show n0 * 56 ≤ 140737488355328;omega) ?_
    refine j_givK 6 [0,1,2,3,4,5] [0,3,4,5,6,7,2,8,9] rfl (.tmp rfl .nil) rfl rfl rfl ⟨⟨bs,⟨some bos,cos,eos⟩,fr,rw',gl,hd,cs,pn,cn,pd,cd⟩,_,_,rfl,rfl,rfl⟩
  ·refine j_nf [_,_,_,_,_] rfl ?_
   refine j_run it 1 rfl (by simp) ?_
   refine j_nf [_,_,_,_,_] rfl ?_
   refine j_if rfl rfl (fun h1=>by exfalso;omega) (fun h1=>?_)
   refine j_nf [_,_,_] rfl ?_
   refine j_run it 2 rfl (by simp) ?_
   refine j_step rfl (x_field rfl fd65_1 ?_)
   refine j_step rfl (x_bld 1 rfl rfl ld63 rfl ?_)
   refine j_run it 1 rfl (by simp) ?_
   refine j_step rfl (x_idx_own (j) (j) rfl rfl sl63 rfl (by omega) (Nat.mul_one _) ?_)
   refine j_step rfl (x_ldR_int 3 2 (j) rfl rfl rfl ld3 rfl (by assumption) fun hr1=>?_)
   refine j_run it 2 rfl (by simp) ?_
   refine j_nf [_,_] rfl ?_
   refine j_if rfl rfl (fun h2=>by exfalso;omega) (fun h2=>?_)
   refine j_nf [_,_,_] rfl ?_
   refine j_run it 2 rfl (by simp) ?_
   refine j_step rfl (x_field rfl fd65_0 ?_)
   refine j_step rfl (x_bld 1 rfl rfl ld63 rfl ?_)
   refine j_step rfl (x_len sl63 rfl ?_)
   refine j_run it 1 rfl (by simp) ?_
   refine j_nf [_,_,_] rfl ?_
   rw [mapTo_all,show (List.range n0).map (fun _=>rt 0) = rl n0 (fun _=>0) from rfl,← rayF_n (p:=⟨m,n,pbs,pos,pfr,prw,pgl,pvv⟩) hv]
   refine j_loopG (X:=Nat × List Value × (Nat → List Value)) [0,1,2,6,7,45,46] [1,2,3,4,5,7,8] (fun x=>[(47,.int .i64 (x.1 : Int))])
    (fun x=>(some b1,26,x.2.1)::(some b,65,[.slice (ad bs.bo) m bs.cap,.slice (ad (some bos)) n cos,.slice (ad fr.bo) m fr.cap,.slice (ad rw'.bo) m rw'.cap,.slice (ad gl.bo) n gl.cap,.bool (rt pvv).1,.slice pn (rt pvv).2.1.length cn,.slice pd (rt pvv).2.2.length cd,.int .i64 left])::(bs.bo,3,bs.cs)::(some bos,3,eos)::(fr.bo,26,fr.cs)::(rw'.bo,27,rw'.cs)::(gl.bo,26,gl.cs)::famB 26 hd x.2.2 m [])
    (fun x=>[rowF RatE ⟨some b1,n0,x.2.1⟩ n0 (rl n0 (rayF ⟨m,n,pbs,pos,pfr,prw,pgl,pvv⟩ n0 j x.1)),matF RatE hd x.2.2 (fun h=>rl n (prw h)) m []])
    (fun x=>x.1 ≤ m) (fun x=>m - x.1) (0,cs2,cs) [0,6] rfl rfl rfl (Nat.zero_le _) (by repeat (first | exact Fr.sub_nil _ | refine Fr.sub_cons rfl ?_)) rfl rfl ?_
   rintro ⟨k,cs3,cs⟩ hk ih
   simp only [List.cons_append,List.nil_append] at hk ih ⊢
   by_cases hkl : k < m
   ·refine j_hdlen 1 rfl fun hlen=>?_
    have hN : (hd k).2.1 = n:=by rw [hlen k hkl rfl,rl_len]
    refine j_rowB 2 rfl (by omega) fun bbs cbs ebs h=>?_
    subst h
    have w1:=il_get (f:=pbs) hkl
    have w4:=hbs k hkl
    obtain ⟨y3,y4⟩:=bd_len (hrw k hkl)
    by_cases hv : pbs k < n0
    ·refine j_focusL 7 (k) 1 (n) rfl rfl (by first | assumption | omega) (by first | rfl | assumption | (simp [memB_cons,memB];done) | (simp [memB_cons,memB];omega)) (by first | assumption | omega) fun r1 hr2=>?_
     simp only [List.take_succ_cons,List.take_zero,List.cons_append,List.nil_append]
     refine j_rowB 0 rfl (by omega) fun br cr er h=>?_
     subst h
     have z3:=rl_get (f:=prw k) hj
     refine j_nf [_,_,_,_,_] rfl ?_
     refine j_run it 1 rfl (by simp) ?_
     refine j_nf [_,_,_,_,_] rfl ?_
     refine j_if rfl rfl (fun h3=>?_) (fun h3=>by exfalso;omega)
     refine j_nf [_,_,_,_,_,_,_] rfl ?_
     refine j_run it 1 rfl (by simp) ?_
     refine j_step rfl (x_idx_own (k) (k) rfl rfl sl63 rfl (by omega) (Nat.mul_one _) ?_)
     refine j_step rfl (x_ldR_int 3 4 (k) rfl rfl rfl ld3 rfl (by assumption) fun hr3=>?_)
     refine j_run it 2 rfl (by simp) ?_
     refine j_nf [_,_,_,_,_,_,_] rfl ?_
     refine j_run it 3 rfl (by simp) ?_
     refine j_nf [_,_,_,_,_,_] rfl ?_
     refine j_if rfl rfl (fun h4=>?_) (fun h4=>by exfalso;omega)
     refine j_nf [_,_,_,_,_,_] rfl ?_
     refine j_run it 4 rfl (by simp) ?_
     refine j_step rfl (x_field rfl fd65_3 ?_)
     refine j_step rfl (x_bld 2 rfl rfl ld39 rfl ?_)
     refine j_run it 1 rfl (by simp) ?_
     refine j_rowB 7 rfl (by omega) fun b2 cap1 cs4 hr4=>?_
     subst hr4
     dsimp only
     refine j_step rfl (x_idx_own (k) (k) rfl rfl sl39 rfl (by omega) (Nat.mul_one _) ?_)
     refine j_step rfl (x_ldR_hd 6 7 (k) rfl rfl rfl ld27 rfl (by assumption) ?_)
     refine j_run it 1 rfl (by simp) ?_
     refine j_step rfl (x_idx_own (j) _ rfl rfl sl27 rfl (by omega) rfl ?_)
     refine j_step rfl (x_ldR_vw vw_RatE 0 0 (j) rfl rfl rfl ld26 rfl (by omega) fun z1 hz1 g1=>?_)
     dsimp only [vw_RatE,List.cons_append,List.nil_append,List.map_cons,List.map_nil] --ok
     obtain rfl : z1 = rt (prw k j):=Option.some.inj (hz1.symm.trans z3)
     refine j_step rfl (x_call [0,1] rfl (S_rational_Neg (by omega) (by omega)) rfl ?_)
     rintro _ _ _ ⟨pn1,cn1,pd1,cd1,rfl,rfl,rfl⟩
     simp only [List.cons_append,List.nil_append]
     simp only [vq_rt']
     refine j_step rfl (x_idx_own (pbs k) _ rfl rfl sl27 rfl (by omega) rfl ?_)
     refine j_step rfl (x_stR (vs:=[Value.bool (rt (-prw k j)).fst,Value.slice pn1 (rt (-prw k j)).snd.fst.length cn1,Value.slice pd1 (rt (-prw k j)).snd.snd.length cd1]) (z:=((rt (-prw k j)).fst,((rt (-prw k j)).snd.fst,(rt (-prw k j)).snd.snd))) 1 6 (pbs k) rfl rfl rfl rfl rfl ld26 rfl (by omega) (fun w A hG=>(rd_pair (v1:=[Value.bool (rt (-prw k j)).fst]) (rd_bool _) (rd_pair (v1:=[Value.slice pn1 (rt (-prw k j)).snd.fst.length cn1]) (rd_of_slF (hG _ (fact_mem (n:=0) rfl))) (rd_of_slF (hG _ (fact_mem (n:=1) rfl)))))) fun cs5=>?_)
     refine j_nf [_,_,_,_] rfl ?_
     refine j_run it 2 rfl ⟨trivial,⟨by omega,by omega⟩,trivial⟩ ?_
     refine j_nfn 1 [.lp (pL 500),.blk 2,.c [1,1,1,1,1]] rfl ?_
     rw [show ((rt (-prw k j)).1,(rt (-prw k j)).2.1,(rt (-prw k j)).2.2) = rt (-prw k j) from rfl,rl_set,← rayF_in (p:=⟨m,n,pbs,pos,pfr,prw,pgl,pvv⟩) hv]
     refine j_unfocusL 7 (k) 0 5 6 rfl rfl rfl rfl (by first | assumption | omega) (by first | rfl | assumption | (simp [memB_cons,memB];done) | (simp [memB_cons,memB];omega)) ?_
     simp only [List.eraseIdx_cons_zero,List.eraseIdx_cons_succ,List.take_succ_cons,List.take_zero,List.cons_append,List.nil_append]
     rw [upd_id (hdl_at (by assumption) hkl)]
     refine j_matCongrS (fun g=>rl n (prw g)) 0 rfl (fun g _ _=>by
       by_cases e : g = k
       ·subst e;rw [upd_self]
       ·rw [upd_ne e]) ?_
     refine j_to [2,0,11,12,13,14,15,16,17] (by exact fra rfl) rfl rfl (ih (k + 1,cs5,upd cs k er) (by dsimp only;omega) (by dsimp only;omega))
    ·refine j_nf [_,_,_,_,_] rfl ?_
     refine j_run it 1 rfl (by simp) ?_
     refine j_nf [_,_,_,_,_] rfl ?_
     refine j_if rfl rfl (fun h3=>?_) (fun h3=>by exfalso;omega)
     refine j_nf [_,_,_,_,_,_,_] rfl ?_
     refine j_run it 1 rfl (by simp) ?_
     refine j_step rfl (x_idx_own (k) (k) rfl rfl sl63 rfl (by omega) (Nat.mul_one _) ?_)
     refine j_step rfl (x_ldR_int 2 2 (k) rfl rfl rfl ld3 rfl (by assumption) fun hr2=>?_)
     refine j_run it 2 rfl (by simp) ?_
     refine j_nf [_,_,_,_,_,_,_] rfl ?_
     refine j_run it 3 rfl (by simp) ?_
     refine j_nf [_,_,_,_,_,_] rfl ?_
     refine j_if rfl rfl (fun h4=>by exfalso;omega) (fun h4=>?_)
     refine j_nf [_,_,_,_] rfl ?_
     refine j_run it 2 rfl ⟨trivial,⟨by omega,by omega⟩,trivial⟩ ?_
     refine j_nfn 1 [.lp (pL 500),.blk 2,.c [1,1,1,1,1]] rfl ?_
     rw [← rayF_out (p:=⟨m,n,pbs,pos,pfr,prw,pgl,pvv⟩) hv]
     refine j_to [0,1,2,3,4,5,6,7,8] (by exact fra rfl) rfl rfl (ih (k + 1,cs3,cs) (by dsimp only;omega) (by dsimp only;omega))
   ·obtain rfl : m = k:=by omega
    refine j_nf [_,_,_,_,_] rfl ?_
    refine j_run it 1 rfl (by simp) ?_
    refine j_nf [_,_,_,_,_] rfl ?_
    refine j_if rfl rfl (fun h3=>by exfalso;omega) (fun h3=>?_)
    refine j_nf [_,_] rfl ?_
    refine j_run it 2 rfl (by simp) ?_
    refine j_nf [_] rfl ?_
    refine j_pubR 0 0 rfl rfl (by show n0 * 56 ≤ 140737488355328;omega) ?_
    refine j_givK 6 [0,1,2,3,4,5] [0,3,4,5,6,7,2,8,9] rfl (.tmp rfl .nil) rfl rfl rfl ⟨⟨bs,⟨some bos,cos,eos⟩,fr,rw',gl,hd,cs,pn,cn,pd,cd⟩,_,_,rfl,rfl,rfl⟩
section
variable {n0 m : Nat} {A : Nat → Nat → Rat} {Bv : Nat → Rat}
theorem st1_os : il n0 (fun k=>k)++[((n0 + m : Nat) : Int)] = il (n0 + 1) (st1 n0 m A Bv).os:=by
 rw [← il_snoc (n:=n0) (f:=(st1 n0 m A Bv).os) (x:=((n0 + m : Nat) : Int)) (by show _ = (((if n0 < n0 then n0 else n0 + m) : Nat) : Int);rw [if_neg (Nat.lt_irrefl _)])]
 congr 1
 exact List.map_congr_left fun k hk=>by
  have:=List.mem_range.1 hk
  show ((k : Nat) : Int) = (((if k < n0 then k else n0 + m) : Nat) : Int)
  rw [if_pos this]
theorem st1_gl : rl n0 (fun _=>0)++[rt (-1)] = rl (n0 + 1) (st1 n0 m A Bv).gl:=by
 rw [← rl_snoc]
 have e : (st1 n0 m A Bv).gl n0 = -1:=by show (if n0 < n0 then (0 : Rat) else -1) = -1;rw [if_neg (Nat.lt_irrefl _)]
 rw [e]
 congr 1
 exact rl_congr fun k hk=>by show (0 : Rat) = (if k < n0 then (0 : Rat) else -1);rw [if_pos hk]
theorem st1_row (h : Nat) : rl n0 (A h)++[rt (-1)] = rl (n0 + 1) ((st1 n0 m A Bv).rw h):=by
 rw [← rl_snoc]
 have e : (st1 n0 m A Bv).rw h n0 = -1:=by show (if n0 < n0 then A h n0 else (-1 : Rat)) = -1;rw [if_neg (Nat.lt_irrefl _)]
 rw [e]
 congr 1
 exact rl_congr fun k hk=>by show A h k = (if k < n0 then A h k else -1);rw [if_pos hk]
def bgL (n0 m : Nat) (A : Nat → Nat → Rat) (Bv : Nat → Rat) (k h : Nat) : List Rt:=if h < k then rl (n0 + 1) ((st1 n0 m A Bv).rw h) else rl n0 (A h)
theorem bgL_zero (h : Nat) : bgL n0 m A Bv 0 h = rl n0 (A h):=by rw [bgL,if_neg (Nat.not_lt_zero _)]
theorem bgL_at (k : Nat) : bgL n0 m A Bv k k = rl n0 (A k):=by rw [bgL,if_neg (Nat.lt_irrefl _)]
theorem bgL_all {h : Nat} (hh : h < m) : bgL n0 m A Bv m h = rl (n0 + 1) ((st1 n0 m A Bv).rw h):=by rw [bgL,if_pos hh]
theorem bgL_next (k g : Nat) : upd (bgL n0 m A Bv k) k (rl (n0 + 1) ((st1 n0 m A Bv).rw k)) g = bgL n0 m A Bv (k + 1) g:=by
 by_cases e : g = k
 ·subst e;rw [upd_self,bgL,if_pos (Nat.lt_succ_self _)]
 ·rw [upd_ne e,bgL,bgL]
  by_cases h : g < k
  ·rw [if_pos h,if_pos (by omega)]
  ·rw [if_neg h,if_neg (by omega)]
theorem st1_bd {K : Nat} (hK : 1 ≤ K) (hA : ∀ h k,h < m → k < n0 → bd K (A h k)) (hB : ∀ h,h < m → bd K (Bv h)) : PB K (st1 n0 m A Bv):=by
 have h1 : bd K (-1):=bd_neg (bd_one hK)
 refine ⟨hB,fun h k hh _=>?_,fun k _=>?_,bd_zero hK⟩
 ·show bd K (if k < n0 then A h k else -1)
  split
  ·exact hA h k hh (by assumption)
  ·exact h1
 ·show bd K (if k < n0 then 0 else -1)
  split
  ·exact bd_zero hK
  ·exact h1
end
abbrev BeginQ (b n0 m : Nat) (A : Nat → Nat → Rat) (Bv : Nat → Rat) (left : Int) : Value → List Fact → List Blk → Prop:=fun v Φ β=>∃ (x : DX) (p' : PD) (left' e j : Int),v = .int .i64 e ∧ ClimbE (n0 + m + 1) (st1 n0 m A Bv) p' ((n0 + m : Nat) : Int) (left - 1) left' e j ∧ Φ = dicF x p' ∧ β = dicB b x p' left'
theorem S_simplex_dictionary__begin {b : Nat} {x : DX} {n0 m a K : Nat} {A : Nat → Nat → Rat} {Bv : Nat → Rat} {left : Int} (ha : a = n0 + m) (hn0 : n0 ≤ 8) (hm : m ≤ 8) (hK : 1 ≤ K) (hsz : szP' K m ≤ 1000000) (hA : ∀ h k,h < m → k < n0 → bd K (A h k)) (hB : ∀ h,h < m → bd K (Bv h)) (hneg : ∃ h,h < m ∧ Bv h < 0) (hl : -400000 ≤ left) (hl2 : left < 0) :
  Ctr Tryz.prog 33 [.pointer (some ⟨b,0,none⟩),.int .i64 a] (dicB b x (stP n0 m A Bv) left) (dicF x (stP n0 m A Bv)) (BeginQ b n0 m A Bv left):=by
 refine Ctr_of_j' (F:=F_simplex_dictionary__begin) rfl fun C=>?_
 subst ha
 obtain ⟨bs,os,fr,rw',gl,hd,cs,pn,cn,pd,cd⟩:=x
 simp only [dicB,dicF,dicC,stP] at *
 have hKm : K ≤ 1000000:=Nat.le_trans (szP'_mono (Nat.zero_le m)) hsz
 have hm0 : 0 < m:=by obtain ⟨h,hh,_⟩:=hneg;omega
 refine j_rowB 2 rfl (by omega) fun bfr cfr efr h=>?_
 subst h
 refine j_rowB 3 rfl (by omega) fun brw crw erw h=>?_
 subst h
 refine j_selT 6 [0,1,2,5,3,4] rfl rfl ?_
 simp only [List.cons_append,List.nil_append,List.drop_succ_cons,List.drop_zero]
 have y1 : (rt 1).2.1.length ≤ 1:=(bd_len (bd_one (k:=1) (by omega))).1
 have y2 : (rt 1).2.2.length ≤ 1:=(bd_len (bd_one (k:=1) (by omega))).2
 refine j_nf [_,_] rfl ?_
 refine j_run it 1 rfl (by simp) ?_
 refine j_nf [_,_] rfl ?_
 refine j_run it 3 rfl (by simp) ?_
 refine j_step rfl (x_field rfl fd65_1 ?_)
 refine j_step rfl (x_bld 0 rfl rfl ld63 rfl ?_)
 refine j_run it 1 rfl (by simp) ?_
 refine j_step rfl (x_lit sl63 zo63e rfl rfl rfl rfl (by decide) (by decide) rfl fun b1=>?_)
 refine j_step rfl (x_appR (z:=(↑(n0 + m) : Int)) 3 0 1 rfl rfl rfl rfl rfl sl63 zo63e rfl (fun w A hG=>(rd_int (by first | (simp only [InR];omega) | (simp [InR];done)))) (by omega) _ by63e (by omega) fun r1=>?_)
 refine j_run it 1 rfl (by simp) ?_
 refine j_step rfl (x_field rfl fd65_1 ?_)
 refine j_step rfl (x_bst1 2 rfl rfl rfl rfl ld63 rfl (Nat.le_of_ble_eq_true rfl) ?_)
 refine j_nf [_,_] rfl ?_
 (refine j_selT 7 [4,0,1,2,3,5,6] rfl rfl ?_;apply j_drawKB it mx 1 10;(· rfl);(· rfl);(· rfl))
 (apply lxk_run 3;(· rfl);(· simp))
 (apply lxk_eq;(· rfl);(· exact d_x fun _=>x_field rfl fd65_4 dk_eq))
 (apply lxk_eq;(· rfl);(· exact d_bld 2 rfl rfl ld27 rfl))
 (apply lxk_rq;(· rfl);(· exact d_x fun _=>x_call [] rfl (S_simplex_one) rfl (by rintro _ _ _ ⟨pn1,cn1,pd1,cd1,rfl,rfl,rfl⟩;exact (dk_rq 0 1 rfl rfl)));intro pn1 cn1 pd1 cd1)
 (apply lxk_rq;(· rfl);(· exact d_x fun _=>x_call [0,1] rfl (S_rational_Neg (by omega) (by omega)) rfl (by rintro _ _ _ ⟨pn2,cn2,pd2,cd2,rfl,rfl,rfl⟩;exact (dk_rq 0 1 rfl rfl)));intro pn2 cn2 pd2 cd2)
 simp only [vq_rt']
 (apply lxk_sl;(· rfl);(· exact d_x fun _=>x_lit sl27 zo27e rfl rfl rfl rfl (by decide) (by decide) rfl fun b2=>dk_all (E:=RatE) [[Value.bool (rt (-1)).fst,Value.slice pn2 (rt (-1)).snd.fst.length cn2,Value.slice pd2 (rt (-1)).snd.snd.length cd2]] [((rt (-1)).fst,(rt (-1)).snd.fst,(rt (-1)).snd.snd)] (fun w A hG=>(allrd_cons (rd_rt (hG _ (fact_mem (n:=0) rfl)) (hG _ (fact_mem (n:=1) rfl))) allrd_nil)) rfl rfl rfl (by first | decide | exact Nat.le_of_ble_eq_true rfl));intro pa1 ca1)
 (apply lxk_app (m:=1) 10 0;(· rfl);(· rfl);(· rfl);(· rfl);(· rfl);(· exact sl27);(· exact zo27e);(· rfl);(· (first | omega | (simp;done)));(· (first | omega | (simp only [List.length_cons,List.length_nil];omega)));(· exact by27e);(· (first | omega | (simp only [List.length_cons,List.length_nil];omega)));intro b2 cap1 cs1)
 (apply lxk_run 1;(· rfl);(· simp))
 refine lxk_end rfl ?_
 simp only [List.map_cons,List.map_nil,List.cons_append,List.nil_append]
 refine j_step rfl (x_field rfl fd65_4 ?_)
 refine j_step rfl (x_bst1 3 rfl rfl rfl rfl ld27 rfl (Nat.le_of_ble_eq_true rfl) ?_)
 refine j_nf [_,_] rfl ?_
 refine j_run it 1 rfl (by simp) ?_
 refine j_nf [_,_,_] rfl ?_
 refine j_run it 2 rfl (by simp) ?_
 refine j_step rfl (x_field rfl fd65_3 ?_)
 refine j_step rfl (x_bld 3 rfl rfl ld39 rfl ?_)
 refine j_step rfl (x_len sl39 rfl ?_)
 refine j_run it 1 rfl (by simp) ?_
 refine j_nf [_,_,_] rfl ?_
 simp only [setB,Nat.zero_add,List.eraseIdx_cons_zero,List.eraseIdx_cons_succ,List.set_cons_zero,List.set_cons_succ,List.drop_succ_cons,List.drop_zero]
 rw [show ((rt (-1)).1,(rt (-1)).2.1,(rt (-1)).2.2) = rt (-1) from rfl,st1_gl (n0:=n0) (m:=m) (A:=A) (Bv:=Bv),st1_os (n0:=n0) (m:=m) (A:=A) (Bv:=Bv)]
 refine j_selT 7 [3,4,1,5,6,0] rfl rfl ?_
 simp only [List.cons_append,List.nil_append,List.drop_succ_cons,List.drop_zero]
 refine j_matCongr (bgL n0 m A Bv 0) 12 rfl (fun h _=>(bgL_zero h).symm) ?_
 refine j_loopG (X:=Nat × Nat × List Value × (Nat → Hd) × (Nat → List Value)) [0,1,4,34] [1,7,8,10,14,15] (fun x=>[(35,.int .i64 (x.1 : Int)),(5,.int .i64 (x.2.1 : Int))])
  (fun x=>(some b,65,[.slice (ad bs.bo) m bs.cap,.slice (ad r1.bo) (n0 + 1) r1.cap,.slice (ad (some bfr)) m cfr,.slice (ad (some brw)) m crw,.slice (ad (some b2)) (n0 + 1) cap1,.bool (rt 0).1,.slice pn (rt 0).2.1.length cn,.slice pd (rt 0).2.2.length cd,.int .i64 left])::(bs.bo,3,bs.cs)::(r1.bo,3,r1.cs)::(some bfr,26,efr)::(some brw,27,x.2.2.1)::(some b2,26,cs1)::famB 26 x.2.2.2.1 x.2.2.2.2 m [])
  (fun x=>[rowF hdE ⟨some brw,crw,x.2.2.1⟩ m (hdl x.2.2.2.1 m),matF RatE x.2.2.2.1 x.2.2.2.2 (bgL n0 m A Bv x.1) m []])
  (fun x=>x.1 ≤ m ∧ x.2.1 < m ∧ ∀ h,h < x.1 → Bv x.2.1 ≤ Bv h) (fun x=>m - x.1) (0,0,erw,hd,cs) [11,0] rfl rfl rfl ⟨Nat.zero_le _,hm0,fun h hh=>absurd hh (Nat.not_lt_zero _)⟩ (by repeat (first | exact Fr.sub_nil _ | refine Fr.sub_cons rfl ?_)) rfl rfl ?_
 rintro ⟨k,lst,cs2,hd,cs⟩ ⟨hk,hlst,hle⟩ ih
 simp only [List.cons_append,List.nil_append] at hk hlst hle ih ⊢
 by_cases hkl : k < m
 ·refine j_hdlen 1 rfl fun hlen=>?_
  have hN : (hd k).2.1 = n0:=by rw [hlen k hkl rfl,bgL_at,rl_len]
  have w1:=rl_get (f:=Bv) hkl
  have w2:=rl_get (f:=Bv) hlst
  obtain ⟨y3,y4⟩:=bd_len (hB k hkl)
  obtain ⟨y5,y6⟩:=bd_len (hB lst hlst)
  refine j_focusL 6 (k) 1 (n0) rfl rfl (by first | assumption | omega) (by first | rfl | assumption | (simp [memB_cons,memB];done) | (simp [memB_cons,memB];omega)) (by first | assumption | omega) fun r2 hr1=>?_
  simp only [List.take_succ_cons,List.take_zero,List.cons_append,List.nil_append]
  by_cases c1 : Bv k < Bv lst
  ·have hc : (Bv k - Bv lst).num.sign < 0:=(signN _).2 (by grind)
   refine j_nf [_,_,_,_,_] rfl ?_
   refine j_run it 1 rfl (by simp) ?_
   refine j_nf [_,_,_,_,_] rfl ?_
   refine j_if rfl rfl (fun h1=>?_) (fun h1=>by exfalso;omega)
   refine j_nf [_,_,_,_,_,_,_] rfl ?_
   refine j_run it 2 rfl (by simp) ?_
   refine j_nf [_,_,_,_,_,_,_] rfl ?_
   (refine j_selT 7 [0,1,2,3,4,5,6] rfl rfl ?_;apply j_drawKB it mx 1 16;(· rfl);(· rfl);(· rfl))
   (apply lxk_run 2;(· rfl);(· simp))
   (apply lxk_eq;(· rfl);(· exact d_x fun _=>x_field rfl fd65_3 dk_eq))
   (apply lxk_eq;(· rfl);(· exact d_bld 0 rfl rfl ld39 rfl))
   (apply lxk_run 3;(· rfl);(· simp))
   (apply lxk_eq;(· rfl);(· exact d_x fun _=>x_field rfl fd65_3 dk_eq))
   (apply lxk_eq;(· rfl);(· exact d_bld 0 rfl rfl ld39 rfl))
   (apply lxk_run 1;(· rfl);(· simp))
   (apply lxk_eq;(· rfl);(· exact d_x fun _=>x_idx_own (k) (k) rfl rfl sl39 rfl (by omega) (Nat.mul_one _) dk_eq))
   (apply lxk_eq;(· rfl);(· exact d_ldR_hd 4 2 (k) rfl rfl rfl ld27 rfl (by assumption)))
   dsimp only
   (apply lxk_rq;(· rfl);(· exact d_x fun _=>x_call [] rfl (S_simplex_one) rfl (by rintro _ _ _ ⟨pn3,cn3,pd3,cd3,rfl,rfl,rfl⟩;exact (dk_rq 0 1 rfl rfl)));intro pn3 cn3 pd3 cd3)
   (apply lxk_rq;(· rfl);(· exact d_x fun _=>x_call [0,1] rfl (S_rational_Neg (by omega) (by omega)) rfl (by rintro _ _ _ ⟨pn4,cn4,pd4,cd4,rfl,rfl,rfl⟩;exact (dk_rq 0 1 rfl rfl)));intro pn4 cn4 pd4 cd4)
   simp only [vq_rt']
   (apply lxk_sl;(· rfl);(· exact d_x fun _=>x_lit sl27 zo27e rfl rfl rfl rfl (by decide) (by decide) rfl fun b3=>dk_all (E:=RatE) [[Value.bool (rt (-1)).fst,Value.slice pn4 (rt (-1)).snd.fst.length cn4,Value.slice pd4 (rt (-1)).snd.snd.length cd4]] [((rt (-1)).fst,(rt (-1)).snd.fst,(rt (-1)).snd.snd)] (fun w A hG=>(allrd_cons (rd_rt (hG _ (fact_mem (n:=0) rfl)) (hG _ (fact_mem (n:=1) rfl))) allrd_nil)) rfl rfl rfl (by first | decide | exact Nat.le_of_ble_eq_true rfl));intro pa2 ca2)
   (apply lxk_app (m:=1) 5 0;(· rfl);(· rfl);(· rfl);(· rfl);(· rfl);(· exact sl27);(· exact zo27e);(· rfl);(· (first | omega | (simp;done)));(· (first | omega | (simp only [List.length_cons,List.length_nil];omega)));(· exact by27e);(· (first | omega | (simp only [List.length_cons,List.length_nil];omega)));intro b3 cap2 cs3)
   refine lxk_end rfl ?_
   simp only [List.map_cons,List.map_nil,List.cons_append,List.nil_append]
   refine j_step rfl (x_idx_own (k) (k) rfl rfl sl39 rfl (by omega) (Nat.mul_one _) ?_)
   refine j_step rfl (x_stR (vs:=[Value.slice (some { block:=b3,off:=0 }) (n0 + 1) cap2]) (z:=(some b3,n0 + 1,cap2)) 5 8 (k) rfl rfl rfl rfl rfl ld27 (Nat.mul_one _).symm (by omega) (fun w A hG=>(rd_hd (some _) _ _)) fun cs4=>?_)
   refine j_nf [_,_,_,_,_,_,_] rfl ?_
   (apply j_drawK it mx 16;(· rfl);(· rfl))
   (apply lxk_run 2;(· rfl);(· simp))
   (apply lxk_eq;(· rfl);(· exact d_x fun _=>x_field rfl fd65_2 dk_eq))
   (apply lxk_eq;(· rfl);(· exact d_bld 1 rfl rfl ld27 rfl))
   (apply lxk_run 1;(· rfl);(· simp))
   (apply lxk_eq;(· rfl);(· exact d_x fun _=>x_idx_own (k) _ rfl rfl sl27 rfl (by omega) rfl dk_eq))
   (apply lxk_vw vw_RatE;(· rfl);(· exact d_ldR_vw vw_RatE 4 14 (k) rfl rfl rfl ld26 rfl (by assumption));intro g1)
   dsimp only [vw_RatE,List.cons_append,List.nil_append,List.map_cons,List.map_nil]
   (apply lxk_run 2;(· rfl);(· simp))
   (apply lxk_eq;(· rfl);(· exact d_x fun _=>x_field rfl fd65_2 dk_eq))
   (apply lxk_eq;(· rfl);(· exact d_bld 1 rfl rfl ld27 rfl))
   (apply lxk_run 1;(· rfl);(· simp))
   (apply lxk_eq;(· rfl);(· exact d_x fun _=>x_idx_own (lst) _ rfl rfl sl27 rfl (by omega) rfl dk_eq))
   (apply lxk_vw vw_RatE;(· rfl);(· exact d_ldR_vw vw_RatE 4 14 (lst) rfl rfl rfl ld26 rfl (by assumption));intro g2)
   dsimp only [vw_RatE,List.cons_append,List.nil_append,List.map_cons,List.map_nil]
   (apply lxk_eq;(· rfl);(· exact d_x fun _=>x_call [2,3,0,1] rfl (S_rational_Cmp (by omega) (by omega) (by omega) (by omega)) rfl (by rintro _ _ _ ⟨rfl,rfl,rfl⟩;exact dk_eq)))
   simp only [vq_rt']
   (apply lxk_run 1;(· rfl);(· simp))
   refine lxk_end rfl ?_
   simp only [List.map_cons,List.map_nil,List.cons_append,List.nil_append]
   refine j_nf [_,_,_,_,_,_] rfl ?_
   refine j_if rfl rfl (fun h2=>?_) (fun h2=>by exfalso;omega)
   refine j_nf [_,_,_,_,_,_] rfl ?_
   refine j_run it 2 rfl (by simp) ?_
   refine j_nf [_,_,_,_] rfl ?_
   refine j_run it 2 rfl ⟨trivial,⟨by omega,by omega⟩,trivial⟩ ?_
   refine j_nfn 1 [.lp (pL 500),.blk 0,.c [1,1,1,1,1]] rfl ?_
   simp only [setB,Nat.zero_add,List.eraseIdx_cons_zero,List.eraseIdx_cons_succ,List.set_cons_zero,List.set_cons_succ,List.drop_succ_cons,List.drop_zero]
   rw [bgL_at,show ((rt (-1)).1,(rt (-1)).2.1,(rt (-1)).2.2) = rt (-1) from rfl,st1_row (n0:=n0) (m:=m) (A:=A) (Bv:=Bv),hdl_set]
   refine j_unfocusL 6 (k) 0 5 12 rfl rfl rfl rfl (by first | assumption | omega) (by first | rfl | assumption | (simp [memB_cons,memB];done) | (simp [memB_cons,memB];omega)) ?_
   simp only [List.eraseIdx_cons_zero,List.eraseIdx_cons_succ,List.take_succ_cons,List.take_zero,List.cons_append,List.nil_append]
   refine j_matCongr (bgL n0 m A Bv (k + 1)) 0 rfl (fun g _=>bgL_next k g) ?_
   refine j_to [6,0,17,18,19,20,21,22] (by exact fra rfl) rfl rfl (ih (k + 1,k,cs4,upd hd k (some b3,n0 + 1,cap2),upd cs k cs3) (by dsimp only;omega) ⟨by dsimp only;omega,by dsimp only;omega,fun h hh=>by
    rcases Nat.lt_succ_iff_lt_or_eq.1 hh with h1 | rfl
    ·have:=hle h h1;grind
    ·exact Rat.le_refl⟩)
  ·have hc : ¬ (Bv k - Bv lst).num.sign < 0:=fun e=>c1 (by have:=(signN _).1 e;grind)
   refine j_nf [_,_,_,_,_] rfl ?_
   refine j_run it 1 rfl (by simp) ?_
   refine j_nf [_,_,_,_,_] rfl ?_
   refine j_if rfl rfl (fun h1=>?_) (fun h1=>by exfalso;omega)
   refine j_nf [_,_,_,_,_,_,_] rfl ?_
   refine j_run it 2 rfl (by simp) ?_
   refine j_nf [_,_,_,_,_,_,_] rfl ?_
   (refine j_selT 7 [0,1,2,3,4,5,6] rfl rfl ?_;apply j_drawKB it mx 1 16;(· rfl);(· rfl);(· rfl))
   (apply lxk_run 2;(· rfl);(· simp))
   (apply lxk_eq;(· rfl);(· exact d_x fun _=>x_field rfl fd65_3 dk_eq))
   (apply lxk_eq;(· rfl);(· exact d_bld 0 rfl rfl ld39 rfl))
   (apply lxk_run 3;(· rfl);(· simp))
   (apply lxk_eq;(· rfl);(· exact d_x fun _=>x_field rfl fd65_3 dk_eq))
   (apply lxk_eq;(· rfl);(· exact d_bld 0 rfl rfl ld39 rfl))
   (apply lxk_run 1;(· rfl);(· simp))
   (apply lxk_eq;(· rfl);(· exact d_x fun _=>x_idx_own (k) (k) rfl rfl sl39 rfl (by omega) (Nat.mul_one _) dk_eq))
   (apply lxk_eq;(· rfl);(· exact d_ldR_hd 4 2 (k) rfl rfl rfl ld27 rfl (by assumption)))
   dsimp only
   (apply lxk_rq;(· rfl);(· exact d_x fun _=>x_call [] rfl (S_simplex_one) rfl (by rintro _ _ _ ⟨pn3,cn3,pd3,cd3,rfl,rfl,rfl⟩;exact (dk_rq 0 1 rfl rfl)));intro pn3 cn3 pd3 cd3)
   (apply lxk_rq;(· rfl);(· exact d_x fun _=>x_call [0,1] rfl (S_rational_Neg (by omega) (by omega)) rfl (by rintro _ _ _ ⟨pn4,cn4,pd4,cd4,rfl,rfl,rfl⟩;exact (dk_rq 0 1 rfl rfl)));intro pn4 cn4 pd4 cd4)
   simp only [vq_rt']
   (apply lxk_sl;(· rfl);(· exact d_x fun _=>x_lit sl27 zo27e rfl rfl rfl rfl (by decide) (by decide) rfl fun b3=>dk_all (E:=RatE) [[Value.bool (rt (-1)).fst,Value.slice pn4 (rt (-1)).snd.fst.length cn4,Value.slice pd4 (rt (-1)).snd.snd.length cd4]] [((rt (-1)).fst,(rt (-1)).snd.fst,(rt (-1)).snd.snd)] (fun w A hG=>(allrd_cons (rd_rt (hG _ (fact_mem (n:=0) rfl)) (hG _ (fact_mem (n:=1) rfl))) allrd_nil)) rfl rfl rfl (by first | decide | exact Nat.le_of_ble_eq_true rfl));intro pa2 ca2)
   (apply lxk_app (m:=1) 5 0;(· rfl);(· rfl);(· rfl);(· rfl);(· rfl);(· exact sl27);(· exact zo27e);(· rfl);(· (first | omega | (simp;done)));(· (first | omega | (simp only [List.length_cons,List.length_nil];omega)));(· exact by27e);(· (first | omega | (simp only [List.length_cons,List.length_nil];omega)));intro b3 cap2 cs3)
   refine lxk_end rfl ?_
   simp only [List.map_cons,List.map_nil,List.cons_append,List.nil_append]
   refine j_step rfl (x_idx_own (k) (k) rfl rfl sl39 rfl (by omega) (Nat.mul_one _) ?_)
   refine j_step rfl (x_stR (vs:=[Value.slice (some { block:=b3,off:=0 }) (n0 + 1) cap2]) (z:=(some b3,n0 + 1,cap2)) 5 8 (k) rfl rfl rfl rfl rfl ld27 (Nat.mul_one _).symm (by omega) (fun w A hG=>(rd_hd (some _) _ _)) fun cs4=>?_)
   refine j_nf [_,_,_,_,_,_,_] rfl ?_
   (apply j_drawK it mx 16;(· rfl);(· rfl))
   (apply lxk_run 2;(· rfl);(· simp))
   (apply lxk_eq;(· rfl);(· exact d_x fun _=>x_field rfl fd65_2 dk_eq))
   (apply lxk_eq;(· rfl);(· exact d_bld 1 rfl rfl ld27 rfl))
   (apply lxk_run 1;(· rfl);(· simp))
   (apply lxk_eq;(· rfl);(· exact d_x fun _=>x_idx_own (k) _ rfl rfl sl27 rfl (by omega) rfl dk_eq))
   (apply lxk_vw vw_RatE;(· rfl);(· exact d_ldR_vw vw_RatE 4 14 (k) rfl rfl rfl ld26 rfl (by assumption));intro g1)
   dsimp only [vw_RatE,List.cons_append,List.nil_append,List.map_cons,List.map_nil]
   (apply lxk_run 2;(· rfl);(· simp))
   (apply lxk_eq;(· rfl);(· exact d_x fun _=>x_field rfl fd65_2 dk_eq))
   (apply lxk_eq;(· rfl);(· exact d_bld 1 rfl rfl ld27 rfl))
   (apply lxk_run 1;(· rfl);(· simp))
   (apply lxk_eq;(· rfl);(· exact d_x fun _=>x_idx_own (lst) _ rfl rfl sl27 rfl (by omega) rfl dk_eq))
   (apply lxk_vw vw_RatE;(· rfl);(· exact d_ldR_vw vw_RatE 4 14 (lst) rfl rfl rfl ld26 rfl (by assumption));intro g2)
   dsimp only [vw_RatE,List.cons_append,List.nil_append,List.map_cons,List.map_nil]
   (apply lxk_eq;(· rfl);(· exact d_x fun _=>x_call [2,3,0,1] rfl (S_rational_Cmp (by omega) (by omega) (by omega) (by omega)) rfl (by rintro _ _ _ ⟨rfl,rfl,rfl⟩;exact dk_eq)))
   simp only [vq_rt']
   (apply lxk_run 1;(· rfl);(· simp))
   refine lxk_end rfl ?_
   simp only [List.map_cons,List.map_nil,List.cons_append,List.nil_append]
   refine j_nf [_,_,_,_,_,_] rfl ?_
   refine j_if rfl rfl (fun h2=>by exfalso;omega) (fun h2=>?_)
   refine j_nf [_,_,_,_] rfl ?_
   refine j_run it 2 rfl ⟨trivial,⟨by omega,by omega⟩,trivial⟩ ?_
   refine j_nfn 1 [.lp (pL 500),.blk 0,.c [1,1,1,1,1]] rfl ?_
   simp only [setB,Nat.zero_add,List.eraseIdx_cons_zero,List.eraseIdx_cons_succ,List.set_cons_zero,List.set_cons_succ,List.drop_succ_cons,List.drop_zero]
   rw [bgL_at,show ((rt (-1)).1,(rt (-1)).2.1,(rt (-1)).2.2) = rt (-1) from rfl,st1_row (n0:=n0) (m:=m) (A:=A) (Bv:=Bv),hdl_set]
   refine j_unfocusL 6 (k) 0 5 12 rfl rfl rfl rfl (by first | assumption | omega) (by first | rfl | assumption | (simp [memB_cons,memB];done) | (simp [memB_cons,memB];omega)) ?_
   simp only [List.eraseIdx_cons_zero,List.eraseIdx_cons_succ,List.take_succ_cons,List.take_zero,List.cons_append,List.nil_append]
   refine j_matCongr (bgL n0 m A Bv (k + 1)) 0 rfl (fun g _=>bgL_next k g) ?_
   refine j_to [6,0,17,18,19,20,21,22] (by exact fra rfl) rfl rfl (ih (k + 1,lst,cs4,upd hd k (some b3,n0 + 1,cap2),upd cs k cs3) (by dsimp only;omega) ⟨by dsimp only;omega,by dsimp only;omega,fun h hh=>by
    rcases Nat.lt_succ_iff_lt_or_eq.1 hh with h1 | rfl
    ·have:=hle h h1;grind
    ·exact Rat.not_lt.1 c1⟩)
 ·obtain rfl : m = k:=by omega
  have hl0 : Bv lst < 0:=by
   obtain ⟨h,hh,hn⟩:=hneg
   have:=hle h hh
   grind
  have gd:=st1_good (n0:=n0) (m:=m) (A:=A) (Bv:=Bv)
  have fp:=first_piv (n0:=n0) (A:=A) hlst hl0 hle
  have hpb:=st1_bd (n0:=n0) hK hA hB
  refine j_nf [_,_,_,_,_] rfl ?_
  refine j_run it 1 rfl (by simp) ?_
  refine j_nf [_,_,_,_,_] rfl ?_
  refine j_if rfl rfl (fun h1=>by exfalso;omega) (fun h1=>?_)
  refine j_nf [_,_] rfl ?_
  refine j_run it 4 rfl (by simp) ?_
  refine j_step rfl (x_field rfl fd65_1 ?_)
  refine j_step rfl (x_bld 0 rfl rfl ld63 rfl ?_)
  refine j_step rfl (x_len sl63 rfl ?_)
  refine j_run it 1 rfl ⟨⟨by omega,by omega⟩,trivial⟩ ?_
  refine j_matCongr (fun h=>rl (st1 n0 m A Bv).n ((st1 n0 m A Bv).rw h)) 1 rfl (fun h hh=>bgL_all hh) ?_
  rw [show ((n0 + 1 : Nat) : Int) - 1 = (n0 : Int) by omega]
  refine j_toXT (σ':=[(73,.pointer (some ⟨b,0,none⟩)),(74,.int .i64 lst),(80,.int .i64 n0),(0,.pointer (some ⟨b,0,none⟩)),(1,.int .i64 ((n0 + m : Nat) : Int)),(4,.int .i64 0)]) (β':=dicB b ⟨bs,r1,⟨some bfr,cfr,efr⟩,⟨some brw,crw,cs2⟩,⟨some b2,cap1,cs1⟩,hd,cs,pn,cn,pd,cd⟩ (st1 n0 m A Bv) left) (Γ':=dicF ⟨bs,r1,⟨some bfr,cfr,efr⟩,⟨some brw,crw,cs2⟩,⟨some b2,cap1,cs1⟩,hd,cs,pn,cn,pd,cd⟩ (st1 n0 m A Bv)) 6 [0,1,2,3,4,5] [5,4,6,1,3,0,7,8] (by repeat (first | exact Fr.sub_nil _ | refine Fr.sub_cons rfl ?_)) rfl rfl rfl rfl ?_
  have c_simplex_dictionary__pivot:=S_simplex_dictionary__pivot (b:=b) (x:=⟨bs,r1,⟨some bfr,cfr,efr⟩,⟨some brw,crw,cs2⟩,⟨some b2,cap1,cs1⟩,hd,cs,pn,cn,pd,cd⟩) (p:=st1 n0 m A Bv) (left:=left) (i:=lst) (j:=n0) (K:=K) hlst (Nat.lt_succ_self n0) (by show m ≤ 100;omega) (by show n0 + 1 ≤ 100;omega) (by omega) (by omega) hK hKm hpb (fun h hh=>by have:=gd.bN h hh;omega) (fun k hk=>by have:=gd.oN k hk;omega) fp.1
  have c_simplex_dictionary__climb:=fun {x : DX}=>S_simplex_dictionary__climb (b:=b) (x:=x) (p:=piv (st1 n0 m A Bv) lst n0) (q:=st1 n0 m A Bv) (left:=left - 1) (pf:=((n0 + m : Nat) : Int)) (N:=n0 + m + 1) (K:=K) gd ((Run.refl gd).piv hlst (Nat.lt_succ_self n0) fp.1) fp.2 (by show m ≤ 100;omega) (by show n0 + 1 ≤ 100;omega) (by omega) hK hpb hsz (by omega) (by omega) (by omega) (by omega)
  refine j_step rfl (x_callA 0 [0,1,2,3,4,5,6,7] rfl rfl (c_simplex_dictionary__pivot) rfl ?_)
  rintro _ _ _ ⟨x'1,rfl,rfl,rfl,h2,h3⟩
  simp only [List.cons_append,List.nil_append]
  refine j_nf [_,_] rfl ?_
  refine j_run it 2 rfl (by simp) ?_
  refine j_step rfl (x_callA 0 [0,1,2,3,4,5,6,7] rfl rfl (c_simplex_dictionary__climb) rfl ?_)
  rintro _ _ _ ⟨x1,p'1,left'1,e1,j1,rfl,h4,rfl,rfl⟩
  simp only [List.cons_append,List.nil_append]
  refine j_run it 5 rfl (by simp) ?_
  refine j_nf [_,_] rfl ?_
  refine j_run it 2 rfl (by simp) ?_
  refine j_nf [_] rfl ?_
  refine j_givK 0 [] [0,1,2,3,4,5,6,7] rfl (.tmp rfl .nil) rfl rfl rfl ⟨x1,p'1,left'1,e1,j1,rfl,by assumption,rfl,rfl⟩
open Go Go.Fw
set_option maxRecDepth 100000
set_option linter.unusedVariables false
set_option linter.unusedSimpArgs false
set_option maxHeartbeats 8000000
structure ForgetE (N art : Nat) (p p2 : PD) (left left' : Int) : Prop where
 l1 : left - 1 ≤ left'
 l2 : left' ≤ left
 ex : ∃ p1 j,Run N p p1 ∧ (∀ h,h < p1.m → 0 ≤ p1.fr h) ∧ j < p1.n ∧ p1.os j = art ∧ p2 = dropP p1 j
abbrev ForgetQ (b N art : Nat) (p : PD) (left : Int) : Value → List Fact → List Blk → Prop:=fun v Φ β=>∃ (x : DX) (p2 : PD) (left' : Int),v = .tuple #[] ∧ ForgetE N art p p2 left left' ∧ Φ = dicF x p2 ∧ β = dicB b x p2 left'
def fgI (N art : Nat) (p : PD) (left : Int) (k : Nat) (p' : PD) (left' : Int) : Prop :=
 (p' = p ∧ left' = left ∧ ∀ h,h < k → p.bs h ≠ art) ∨ (Run N p p' ∧ (∀ h,h < p'.m → 0 ≤ p'.fr h) ∧ left' = left - 1 ∧ ∃ j,j < p'.n ∧ p'.os j = art)
theorem fgI_out {N art k : Nat} {p p' : PD} {left left' : Int} (h : fgI N art p left k p' left') (hk : p'.bs k ≠ art) : fgI N art p left (k + 1) p' left':=by
 rcases h with ⟨rfl,e,h⟩ | h
 ·refine .inl ⟨rfl,e,fun g hg=>?_⟩
  rcases Nat.lt_succ_iff_lt_or_eq.1 hg with h1 | rfl
  ·exact h g h1
  ·exact hk
 ·exact .inr h
theorem fgI_at {N art k : Nat} {p p' : PD} {left left' : Int} (h : fgI N art p left k p' left') (hk : k < p'.m) (e : p'.bs k = art) : p' = p ∧ left' = left:=by
 rcases h with ⟨h1,h2,_⟩ | ⟨r,_,_,j,hj,hj2⟩
 ·exact ⟨h1,h2⟩
 ·exact absurd (e.trans hj2.symm) (r.g.dis k j hk hj)
theorem fgI_in {N art k j : Nat} {p : PD} {left : Int} (g : Good N p) (hf : ∀ h,h < p.m → 0 ≤ p.fr h) (hk : k < p.m) (hj : j < p.n) (e : p.bs k = art) (h0 : p.fr k = 0) (ha : p.rw k j ≠ 0) (k' : Nat) : fgI N art p left k' (piv p k j) (left - 1):=by
 refine .inr ⟨(Run.refl g).piv hk hj ha,fun h hh=>?_,rfl,j,hj,?_⟩
 ·show 0 ≤ (if h = k then p.fr k * (p.rw k j)⁻¹ else p.fr h - p.rw h j * (p.fr k * (p.rw k j)⁻¹))
  rw [h0,Rat.zero_mul,Rat.mul_zero]
  split
  ·exact Rat.le_refl
  ·have:=hf h hh;grind
 ·show (if j = j then p.bs k else p.os j) = art
  rw [if_pos rfl];exact e
theorem fgI_end {N art : Nat} {p p' : PD} {left left' : Int} (g : Good N p) (hf : ∀ h,h < p.m → 0 ≤ p.fr h) (ha : art < N) (h : fgI N art p left p'.m p' left') : Run N p p' ∧ (∀ h,h < p'.m → 0 ≤ p'.fr h) ∧ left - 1 ≤ left' ∧ left' ≤ left ∧ ∃ j,j < p'.n ∧ p'.os j = art:=by
 rcases h with ⟨rfl,e,h⟩ | ⟨r,hf',e,hj⟩
 ·refine ⟨Run.refl g,hf,by omega,by omega,?_⟩
  rcases g.cov art ha with ⟨h1,h2,h3⟩ | h
  ·exact absurd h3 (h h1 h2)
  ·exact h
 ·exact ⟨r,hf',by omega,by omega,hj⟩
theorem rl_del {n j : Nat} {f : Nat → Rat} (hj : j < n) : (rl n f).take j++(rl n f).drop (j + 1) = rl (n - 1) (fun k=>f (if k < j then k else k + 1)):=by
 refine List.ext_getElem? fun i=>?_
 have l1 : ((rl n f).take j).length = j:=by rw [List.length_take,rl_len];omega
 by_cases hi : i < j
 ·rw [List.getElem?_append_left (by rw [l1];exact hi),List.getElem?_take,if_pos hi,rl_get (by omega),rl_get (by omega),if_pos hi]
 ·rw [List.getElem?_append_right (by rw [l1];omega),l1,List.getElem?_drop,show j + 1 + (i - j) = i + 1 by omega]
  by_cases h2 : i + 1 < n
  ·rw [rl_get h2,rl_get (by omega),if_neg hi]
  ·rw [List.getElem?_eq_none (by rw [rl_len];omega),List.getElem?_eq_none (by rw [rl_len];omega)]
theorem il_del {n j : Nat} {f : Nat → Nat} (hj : j < n) : (il n f).take j++(il n f).drop (j + 1) = il (n - 1) (fun k=>f (if k < j then k else k + 1)):=by
 refine List.ext_getElem? fun i=>?_
 have l1 : ((il n f).take j).length = j:=by rw [List.length_take,il_len];omega
 by_cases hi : i < j
 ·rw [List.getElem?_append_left (by rw [l1];exact hi),List.getElem?_take,if_pos hi,il_get (by omega),il_get (by omega),if_pos hi]
 ·rw [List.getElem?_append_right (by rw [l1];omega),l1,List.getElem?_drop,show j + 1 + (i - j) = i + 1 by omega]
  by_cases h2 : i + 1 < n
  ·rw [il_get h2,il_get (by omega),if_neg hi]
  ·rw [List.getElem?_eq_none (by rw [il_len];omega),List.getElem?_eq_none (by rw [il_len];omega)]
def fdL (p : PD) (j k h : Nat) : List Rt:=if h < k then rl (p.n - 1) ((dropP p j).rw h) else rl p.n (p.rw h)
theorem fdL_zero (p : PD) (j h : Nat) : fdL p j 0 h = rl p.n (p.rw h):=by rw [fdL,if_neg (Nat.not_lt_zero _)]
theorem fdL_at (p : PD) (j k : Nat) : fdL p j k k = rl p.n (p.rw k):=by rw [fdL,if_neg (Nat.lt_irrefl _)]
theorem fdL_all {p : PD} {j h : Nat} (hh : h < p.m) : fdL p j p.m h = rl (dropP p j).n ((dropP p j).rw h):=by rw [fdL,if_pos hh];rfl
theorem fdL_next (p : PD) (j k g : Nat) : upd (fdL p j k) k (rl (p.n - 1) (fun c=>p.rw k (if c < j then c else c + 1))) g = fdL p j (k + 1) g:=by
 by_cases e : g = k
 ·subst e;rw [upd_self,fdL,if_pos (Nat.lt_succ_self _)];rfl
 ·rw [upd_ne e,fdL,fdL]
  by_cases h : g < k
  ·rw [if_pos h,if_pos (by omega)]
  ·rw [if_neg h,if_neg (by omega)]
theorem S_simplex_dictionary__forget {b : Nat} {x : DX} {p : PD} {left : Int} {art N K : Nat} (g : Good N p) (hart : art < N) (hf : ∀ h,h < p.m → 0 ≤ p.fr h) (h0 : ∀ i,i < p.m → p.bs i = art → p.fr i = 0 ∧ ∃ k,k < p.n ∧ p.rw i k ≠ 0) (hm0 : 0 < p.m) (hm : p.m ≤ 100) (hn1 : 2 ≤ p.n) (hn : p.n ≤ 100) (hN : N ≤ 17) (hK : 1 ≤ K) (hK2 : K ≤ 1000000) (hb : PB K p) (hl : -900000 ≤ left) (hl2 : left ≤ 900000) :
  Ctr Tryz.prog 36 [.pointer (some ⟨b,0,none⟩),.int .i64 art] (dicB b x p left) (dicF x p) (ForgetQ b N art p left):=by
 refine Ctr_of_j' (F:=F_simplex_dictionary__forget) rfl fun C=>?_
 have hos : ∀ k,k < p.n → p.os k ≤ 1000000:=fun k hk=>by have:=g.oN k hk;omega
 have hbs : ∀ h,h < p.m → p.bs h ≤ 1000000:=fun h hh=>by have:=g.bN h hh;omega
 obtain ⟨bs0,os0,fr0,rw0,gl0,hd0,cs0,pn0,cn0,pd0,cd0⟩:=x
 simp only [dicB,dicF,dicC] at *
 refine j_rowB 0 rfl hm0 fun bbs cbs ebs h=>?_
 subst h
 refine j_nf [_,_,_] rfl ?_
 refine j_run it 2 rfl (by simp) ?_
 refine j_step rfl (x_field rfl fd65_0 ?_)
 refine j_step rfl (x_bld 0 rfl rfl ld63 rfl ?_)
 refine j_step rfl (x_len sl63 rfl ?_)
 refine j_run it 1 rfl (by simp) ?_
 refine j_nf [_,_,_] rfl ?_
 refine j_loopG (X:=Nat × DX × PD × Int) [0,1,14,15] [] (fun x=>[(16,.int .i64 (x.1 : Int))])
  (fun x=>dicB b x.2.1 x.2.2.1 x.2.2.2) (fun x=>dicF x.2.1 x.2.2.1)
  (fun x=>x.1 ≤ p.m ∧ x.2.1.bs.bo = some bbs ∧ x.2.1.bs.cap = cbs ∧ x.2.2.1.m = p.m ∧ x.2.2.1.n = p.n ∧ fgI N art p left x.1 x.2.2.1 x.2.2.2) (fun x=>p.m - x.1) (0,⟨⟨some bbs,cbs,ebs⟩,os0,fr0,rw0,gl0,hd0,cs0,pn0,cn0,pd0,cd0⟩,p,left) [0,1,2,3,4,5,6,7] rfl rfl rfl ⟨Nat.zero_le _,rfl,rfl,rfl,rfl,.inl ⟨rfl,rfl,fun h hh=>absurd hh (Nat.not_lt_zero _)⟩⟩ (by repeat (first | exact Fr.sub_nil _ | refine Fr.sub_cons rfl ?_)) rfl rfl ?_
 rintro ⟨k,x,p',left'⟩ ⟨hk,hbo,hcap,em,en,hI⟩ ih
 obtain ⟨⟨bo,cap,bcs⟩,os,fr,rw',gl,hd,cs,pn,cn,pd,cd⟩:=x
 simp only [List.cons_append,List.nil_append] at hk hbo hcap em en hI ih ⊢
 subst hbo
 subst hcap
 simp only [dicB,dicF,dicC]
 by_cases hkl : k < p.m
 ·have w1:=il_get (f:=p'.bs) (show k < p'.m by omega)
  by_cases hart2 : p'.bs k = art
  ·obtain ⟨rfl,rfl⟩:=fgI_at hI (by omega) hart2
   obtain ⟨hz0,c0,hc0,hc1⟩:=h0 k hkl hart2
   have w4:=hbs k hkl
   refine j_hdlen 5 rfl fun hlen=>?_
   have hN : (hd k).2.1 = p'.n:=by rw [hlen k hkl rfl,rl_len]
   refine j_focusL 6 (k) 5 (p'.n) rfl rfl (by first | assumption | omega) (by first | rfl | assumption | (simp [memB_cons,memB];done) | (simp [memB_cons,memB];omega)) (by first | assumption | omega) fun r1 hr1=>?_
   simp only [List.take_succ_cons,List.take_zero,List.cons_append,List.nil_append]
   refine j_rowB 0 rfl (by omega) fun br cr er h=>?_
   subst h
   refine j_nf [_,_,_,_,_] rfl ?_
   refine j_run it 1 rfl (by simp) ?_
   refine j_nf [_,_,_,_,_] rfl ?_
   refine j_if rfl rfl (fun h1=>?_) (fun h1=>by exfalso;omega)
   refine j_nf [_,_,_,_,_,_,_] rfl ?_
   refine j_run it 1 rfl (by simp) ?_
   refine j_step rfl (x_idx_own (k) (k) rfl rfl sl63 rfl (by omega) (Nat.mul_one _) ?_)
   refine j_step rfl (x_ldR_int 2 2 (k) rfl rfl rfl ld3 rfl (by assumption) fun hr2=>?_)
   refine j_run it 2 rfl (by simp) ?_
   refine j_nf [_,_,_,_,_,_,_,_] rfl ?_
   refine j_run it 3 rfl (by simp) ?_
   refine j_nf [_,_,_,_,_,_,_] rfl ?_
   refine j_ifn rfl rfl (fun h2=>by exfalso;omega) (fun h2=>?_)
   refine j_nf [_,_,_,_,_,_,_] rfl ?_
   refine j_run it 2 rfl (by simp) ?_
   refine j_step rfl (x_field rfl fd65_3 ?_)
   refine j_step rfl (x_bld 1 rfl rfl ld39 rfl ?_)
   refine j_run it 1 rfl (by simp) ?_
   refine j_rowB 5 rfl (by omega) fun b1 cap1 cs1 hr3=>?_
   subst hr3
   dsimp only
   refine j_step rfl (x_idx_own (k) (k) rfl rfl sl39 rfl (by omega) (Nat.mul_one _) ?_)
   refine j_step rfl (x_ldR_hd 5 5 (k) rfl rfl rfl ld27 rfl (by assumption) ?_)
   refine j_step rfl (x_len sl27 rfl ?_)
   refine j_run it 1 rfl (by simp) ?_
   refine j_nf [_,_,_,_,_,_,_] rfl ?_
   dsimp only
   refine j_loopG (X:=Nat) [0,1,4,5,14,15,16,17,18,19,20,21,22,23,24,25,26,27,28,29,30,31] [0,1,2,3,4,5,6,8,9] (fun x=>[(32,.int .i64 (x : Int))])
    (fun _=>(some br,26,er)::(some b,65,[.slice (ad (some bbs)) p'.m cap,.slice (ad os.bo) p'.n os.cap,.slice (ad fr.bo) p'.m fr.cap,.slice (ad (some b1)) p'.m cap1,.slice (ad gl.bo) p'.n gl.cap,.bool (rt p'.vv).1,.slice pn (rt p'.vv).2.1.length cn,.slice pd (rt p'.vv).2.2.length cd,.int .i64 left'])::(some bbs,3,bcs)::(os.bo,3,os.cs)::(fr.bo,26,fr.cs)::(some b1,27,cs1)::(gl.bo,26,gl.cs)::famB 26 hd cs p'.m [k]) (fun _=>[])
    (fun x=>x ≤ p'.n ∧ ∀ c,c < x → p'.rw k c = 0) (fun x=>p'.n - x) 0 [] rfl rfl rfl ⟨Nat.zero_le _,fun c hc=>absurd hc (Nat.not_lt_zero _)⟩ (by repeat (first | exact Fr.sub_nil _ | refine Fr.sub_cons rfl ?_)) rfl rfl ?_
   rintro j ⟨hj,hz⟩ ih2
   simp only [List.cons_append,List.nil_append] at hj hz ih2 ⊢
   by_cases hjl : j < p'.n
   ·have z1:=rl_get (f:=p'.rw k) hjl
    refine j_nf [_,_,_,_,_,_,_,_,_] rfl ?_
    refine j_run it 1 rfl (by simp) ?_
    refine j_nf [_,_,_,_,_,_,_,_,_] rfl ?_
    refine j_if rfl rfl (fun h3=>?_) (fun h3=>by exfalso;omega)
    refine j_nf [_,_,_,_,_,_,_,_,_,_,_] rfl ?_
    refine j_run it 1 rfl (by simp) ?_
    refine j_step rfl (x_idx_own (j) _ rfl rfl sl27 rfl (by omega) rfl ?_)
    refine j_step rfl (x_ldR_vw vw_RatE 0 0 (j) rfl rfl rfl ld26 rfl (by omega) fun z2 hz1 g1=>?_)
    dsimp only [vw_RatE,List.cons_append,List.nil_append,List.map_cons,List.map_nil]
    refine j_step rfl (x_alloc zo26 fun b2=>?_)
    obtain rfl : z2 = rt (p'.rw k j):=Option.some.inj (hz1.symm.trans z1)
    by_cases ha : p'.rw k j = 0
    ·have hs : (p'.rw k j).num.sign = 0:=(signZ _).2 ha
     refine j_run it 1 rfl (by simp) ?_
     refine j_step rfl (x_bst_all 0 rfl rfl rfl ld26 rfl rfl (by simp [Value.oneCell']) ?_)
     refine j_nf [_,_,_,_,_,_,_,_,_,_,_] rfl ?_
     refine j_step rfl (x_bld_all 0 rfl rfl ld26 rfl ?_)
     refine j_step rfl (x_call [0,1] rfl (S_rational_Sign) rfl ?_)
     rintro _ _ _ ⟨rfl,rfl,rfl⟩
     simp only [List.cons_append,List.nil_append]
     simp only [vq_rt']
     refine j_run it 1 rfl (by simp) ?_
     refine j_nf [_,_,_,_,_,_,_,_,_,_] rfl ?_
     refine j_ifn rfl rfl (fun h4=>by exfalso;omega) (fun h4=>?_)
     refine j_nf [_,_,_,_,_,_,_,_] rfl ?_
     refine j_run it 2 rfl ⟨trivial,⟨by omega,by omega⟩,trivial⟩ ?_
     refine j_nfn 1 [.lp (pL 10652),.blk 2,.blk 1,.c (pL 167),.lp [0,1,0,0],.blk 0,.c [1]] rfl ?_
     refine j_toXT 8 [1,2,3,4,5,6,7] [2,3,4,5,6,7,8,9,10] (by exact fra rfl) rfl rfl rfl rfl (ih2 (j + 1) (by omega) ⟨by omega,fun c hc=>by
      rcases Nat.lt_succ_iff_lt_or_eq.1 hc with h1 | rfl
      ·exact hz c h1
      ·exact ha⟩)
    ·have hs : ¬ (p'.rw k j).num.sign = 0:=fun e=>ha ((signZ _).1 e)
     refine j_run it 1 rfl (by simp) ?_
     refine j_step rfl (x_bst_all 0 rfl rfl rfl ld26 rfl rfl (by simp [Value.oneCell']) ?_)
     refine j_nf [_,_,_,_,_,_,_,_,_,_,_] rfl ?_
     refine j_step rfl (x_bld_all 0 rfl rfl ld26 rfl ?_)
     refine j_step rfl (x_call [0,1] rfl (S_rational_Sign) rfl ?_)
     rintro _ _ _ ⟨rfl,rfl,rfl⟩
     simp only [List.cons_append,List.nil_append]
     simp only [vq_rt']
     refine j_run it 1 rfl (by simp) ?_
     refine j_nf [_,_,_,_,_,_,_,_,_,_] rfl ?_
     refine j_ifn rfl rfl (fun h4=>?_) (fun h4=>by exfalso;omega)
     refine j_nf [_,_,_,_,_,_,_,_,_,_,_] rfl ?_
     refine j_run it 3 rfl (by simp) ?_
     refine j_unfocusL 7 (k) 1 2 3 rfl rfl rfl rfl (by first | assumption | omega) (by first | rfl | assumption | (simp [memB_cons,memB];done) | (simp [memB_cons,memB];omega)) ?_
     simp only [List.eraseIdx_cons_zero,List.eraseIdx_cons_succ,List.take_succ_cons,List.take_zero,List.cons_append,List.nil_append]
     rw [upd_id (hdl_at hr1 hkl)]
     refine j_matCongrS (fun g=>rl p'.n (p'.rw g)) 0 rfl (fun g _ _=>by
       by_cases e : g = k
       ·subst e;rw [upd_self]
       ·rw [upd_ne e]) ?_
     have c_simplex_dictionary__pivot:=S_simplex_dictionary__pivot (b:=b) (x:=⟨⟨some bbs,cap,bcs⟩,os,fr,⟨some b1,cap1,cs1⟩,gl,hd,upd cs k er,pn,cn,pd,cd⟩) (left:=left') hkl hjl hm hn (by omega) (by omega) hK hK2 hb hbs hos ha
     refine j_step rfl (x_callA 1 [6,7,8,9,10,0,11,12] rfl rfl (c_simplex_dictionary__pivot) rfl ?_)
     rintro _ _ _ ⟨x'1,rfl,rfl,rfl,h5,h6⟩
     simp only [List.cons_append,List.nil_append]
     refine j_nf [_,_,_,_] rfl ?_
     refine j_run it 2 rfl ⟨trivial,⟨by omega,by omega⟩,trivial⟩ ?_
     refine j_nfn 1 [.lp [0,1,0,0],.blk 0,.c [1]] rfl ?_
     refine j_toXT 7 [1,2,3,4,5,6] [0,1,2,3,4,5,6,7] (by exact fra rfl) rfl rfl rfl rfl (ih (k + 1,x'1,piv p' k j,left' - 1) (by dsimp only;omega) ⟨by dsimp only;omega,by assumption,by assumption,rfl,rfl,fgI_in g hf hkl hjl hart2 hz0 ha _⟩)
   ·exact absurd (hz c0 (by omega)) hc1
  ·have w4 : p'.bs k ≤ 1000000:=by
    rcases hI with ⟨rfl,_⟩ | ⟨r,_⟩
    ·exact hbs k hkl
    ·have:=r.g.bN k (by omega);omega
   refine j_nf [_,_,_,_,_] rfl ?_
   refine j_run it 1 rfl (by simp) ?_
   refine j_nf [_,_,_,_,_] rfl ?_
   refine j_if rfl rfl (fun h1=>?_) (fun h1=>by exfalso;omega)
   refine j_nf [_,_,_,_,_,_,_] rfl ?_
   refine j_run it 1 rfl (by simp) ?_
   refine j_step rfl (x_idx_own (k) (k) rfl rfl sl63 rfl (by omega) (Nat.mul_one _) ?_)
   refine j_step rfl (x_ldR_int 1 0 (k) rfl rfl rfl ld3 rfl (by assumption) fun hr1=>?_)
   refine j_run it 2 rfl (by simp) ?_
   refine j_nf [_,_,_,_,_,_,_,_] rfl ?_
   refine j_run it 3 rfl (by simp) ?_
   refine j_nf [_,_,_,_,_,_,_] rfl ?_
   refine j_ifn rfl rfl (fun h2=>?_) (fun h2=>by exfalso;omega)
   refine j_nf [_,_,_,_] rfl ?_
   refine j_run it 2 rfl ⟨trivial,⟨by omega,by omega⟩,trivial⟩ ?_
   refine j_nfn 1 [.lp [0,1,0,0],.blk 0,.c [1]] rfl ?_
   refine j_to [0,1,2,3,4,5,6,7] (by exact fra rfl) rfl rfl (ih (k + 1,⟨⟨some bbs,cap,bcs⟩,os,fr,rw',gl,hd,cs,pn,cn,pd,cd⟩,p',left') (by dsimp only;omega) ⟨by dsimp only;omega,rfl,rfl,em,en,fgI_out hI hart2⟩)
 ·obtain rfl : k = p.m:=by omega
  obtain ⟨r,hf',hl1,hl2',j0,hj0,hj1⟩:=fgI_end g hf hart (by rw [em];exact hI)
  refine j_rowB 1 rfl (by omega) fun bos cos eos h=>?_
  subst h
  refine j_rowB 3 rfl (by omega) fun brw crw erw h=>?_
  subst h
  refine j_rowB 4 rfl (by omega) fun bgl cgl egl h=>?_
  subst h
  refine j_rowcap 1 rfl fun q1 q2=>?_
  refine j_rowcap 4 rfl fun q3 q4=>?_
  dsimp only at q1 q2 q3 q4
  refine j_nf [_,_,_,_,_] rfl ?_
  refine j_run it 1 rfl (by simp) ?_
  refine j_nf [_,_,_,_,_] rfl ?_
  refine j_if rfl rfl (fun h1=>by exfalso;omega) (fun h1=>?_)
  refine j_nf [_,_] rfl ?_
  refine j_run it 2 rfl (by simp) ?_
  refine j_step rfl (x_field rfl fd65_1 ?_)
  refine j_step rfl (x_bld 0 rfl rfl ld63 rfl ?_)
  refine j_step rfl (x_len sl63 rfl ?_)
  refine j_run it 1 rfl (by simp) ?_
  refine j_nf [_,_] rfl ?_
  refine j_loopG (X:=Nat) [0,1,49,50] [0,1,2,3,4,5,6,7] (fun x=>[(51,.int .i64 (x : Int))])
   (fun _=>(some b,65,[.slice (ad (some bbs)) p'.m cap,.slice (ad (some bos)) p'.n cos,.slice (ad fr.bo) p'.m fr.cap,.slice (ad (some brw)) p'.m crw,.slice (ad (some bgl)) p'.n cgl,.bool (rt p'.vv).1,.slice pn (rt p'.vv).2.1.length cn,.slice pd (rt p'.vv).2.2.length cd,.int .i64 left'])::(some bbs,3,bcs)::(some bos,3,eos)::(fr.bo,26,fr.cs)::(some brw,27,erw)::(some bgl,26,egl)::famB 26 hd cs p'.m []) (fun _=>[])
   (fun x=>x ≤ p'.n ∧ ∀ c,c < x → p'.os c ≠ art) (fun x=>p'.n - x) 0 [] rfl rfl rfl ⟨Nat.zero_le _,fun c hc=>absurd hc (Nat.not_lt_zero _)⟩ (by repeat (first | exact Fr.sub_nil _ | refine Fr.sub_cons rfl ?_)) rfl rfl ?_
  rintro j ⟨hj,hz⟩ ih2
  simp only [List.cons_append,List.nil_append] at hj hz ih2 ⊢
  by_cases hjl : j < p'.n
  ·have w1:=il_get (f:=p'.os) hjl
   have w4 : p'.os j ≤ 1000000:=by have:=r.g.oN j hjl;omega
   by_cases hart2 : p'.os j = art
   ·refine j_selT 6 [0,2,1,5,3,4] rfl rfl ?_
    simp only [List.cons_append,List.nil_append,List.drop_succ_cons,List.drop_zero]
    refine j_nf [_,_,_,_] rfl ?_
    refine j_run it 1 rfl (by simp) ?_
    refine j_nf [_,_,_,_] rfl ?_
    refine j_if rfl rfl (fun h2=>?_) (fun h2=>by exfalso;omega)
    refine j_nf [_,_,_,_,_,_] rfl ?_
    refine j_run it 1 rfl (by simp) ?_
    refine j_step rfl (x_idx_own (j) (j) rfl rfl sl63 rfl (by omega) (Nat.mul_one _) ?_)
    refine j_step rfl (x_ldR_int 1 1 (j) rfl rfl rfl ld3 rfl (by assumption) fun hr1=>?_)
    refine j_run it 2 rfl (by simp) ?_
    refine j_nf [_,_,_,_,_,_] rfl ?_
    refine j_run it 3 rfl (by simp) ?_
    refine j_nf [_,_,_,_,_] rfl ?_
    refine j_if rfl rfl (fun h3=>?_) (fun h3=>by exfalso;omega)
    refine j_nf [_,_,_,_,_,_] rfl ?_
    (refine j_selT 6 [1,0,2,3,4,5] rfl rfl ?_;apply j_drawKB it mx 1 16;(· rfl);(· rfl);(· rfl))
    (apply lxk_run 3;(· rfl);(· simp))
    (apply lxk_eq;(· rfl);(· exact d_x fun _=>x_field rfl fd65_1 dk_eq))
    (apply lxk_eq;(· rfl);(· exact d_bld 0 rfl rfl ld63 rfl))
    (apply lxk_run 1;(· rfl);(· simp))
    (apply lxk_eq;(· rfl);(· exact d_x fun _=>x_slice_h_own (j) rfl rfl sl63 (by omega) (by omega) (by omega) dk_eq))
    (apply lxk_run 2;(· rfl);(· simp))
    (apply lxk_eq;(· rfl);(· exact d_x fun _=>x_field rfl fd65_1 dk_eq))
    (apply lxk_eq;(· rfl);(· exact d_bld 0 rfl rfl ld63 rfl))
    (apply lxk_run 2;(· rfl);(· exact ⟨⟨by omega,by omega⟩,trivial,trivial⟩))
    (apply lxk_eq;(· rfl);(· exact d_x fun _=>x_slice_l_own (((j) + 1)) rfl rfl sl63 (by omega) (by omega) (by omega) dk_eq))
    (apply lxk_del 1;(· rfl);(· rfl);(· rfl);(· rfl);(· exact sl63);(· exact zo63e);(· rfl);(· omega);(· omega);(· omega);(· exact by63e);(· omega);intro b1 cap1 cs1)
    (apply lxk_run 1;(· rfl);(· simp))
    refine lxk_end rfl ?_
    simp only [List.map_cons,List.map_nil,List.cons_append,List.nil_append]
    refine j_step rfl (x_field rfl fd65_1 ?_)
    refine j_step rfl (x_bst1 1 rfl rfl rfl rfl ld63 rfl (Nat.le_of_ble_eq_true rfl) ?_)
    refine j_nf [_,_,_,_,_,_] rfl ?_
    (refine j_selT 6 [3,0,1,2,4,5] rfl rfl ?_;apply j_drawKB it mx 1 16;(· rfl);(· rfl);(· rfl))
    (apply lxk_run 3;(· rfl);(· simp))
    (apply lxk_eq;(· rfl);(· exact d_x fun _=>x_field rfl fd65_4 dk_eq))
    (apply lxk_eq;(· rfl);(· exact d_bld 1 rfl rfl ld27 rfl))
    (apply lxk_run 1;(· rfl);(· simp))
    (apply lxk_eq;(· rfl);(· exact d_x fun _=>x_slice_h_own (j) rfl rfl sl27 (by omega) (by omega) (by omega) dk_eq))
    (apply lxk_run 2;(· rfl);(· simp))
    (apply lxk_eq;(· rfl);(· exact d_x fun _=>x_field rfl fd65_4 dk_eq))
    (apply lxk_eq;(· rfl);(· exact d_bld 1 rfl rfl ld27 rfl))
    (apply lxk_run 2;(· rfl);(· exact ⟨⟨by omega,by omega⟩,trivial,trivial⟩))
    (apply lxk_eq;(· rfl);(· exact d_x fun _=>x_slice_l_own (((j) + 1)) rfl rfl sl27 (by omega) (by omega) (by omega) dk_eq))
    (apply lxk_del 5;(· rfl);(· rfl);(· rfl);(· rfl);(· exact sl27);(· exact zo27e);(· rfl);(· omega);(· omega);(· omega);(· exact by27e);(· omega);intro b2 cap2 cs2)
    (apply lxk_run 1;(· rfl);(· simp))
    refine lxk_end rfl ?_
    simp only [List.map_cons,List.map_nil,List.cons_append,List.nil_append]
    refine j_step rfl (x_field rfl fd65_4 ?_)
    refine j_step rfl (x_bst1 2 rfl rfl rfl rfl ld27 rfl (Nat.le_of_ble_eq_true rfl) ?_)
    refine j_nf [_,_,_,_,_,_,_] rfl ?_
    refine j_run it 2 rfl (by simp) ?_
    refine j_step rfl (x_field rfl fd65_3 ?_)
    refine j_step rfl (x_bld 2 rfl rfl ld39 rfl ?_)
    refine j_step rfl (x_len sl39 rfl ?_)
    refine j_run it 1 rfl (by simp) ?_
    refine j_nf [_,_,_,_,_,_,_] rfl ?_
    simp only [setB,Nat.zero_add,List.eraseIdx_cons_zero,List.eraseIdx_cons_succ,List.set_cons_zero,List.set_cons_succ,List.drop_succ_cons,List.drop_zero]
    rw [rl_del hjl,il_del hjl]
    refine j_selT 6 [2,3,1,4,5,0] rfl rfl ?_
    simp only [List.cons_append,List.nil_append,List.drop_succ_cons,List.drop_zero]
    refine j_matCongr (fdL p' j 0) 7 rfl (fun h _=>(fdL_zero p' j h).symm) ?_
    refine j_loopG (X:=Nat × List Value × (Nat → Hd) × (Nat → List Value)) [0,1,8,9,49,50,51,52,53,54,55,56,57,58,59,60,61,62,63,64,65,66,67,68,69,70,71,72,73,74,75,76,77,78,79,80,81,82,83,84,85,86,87,88,89,90,91,92,93,94,95,96,97] [1,2,3,5,9,10] (fun x=>[(98,.int .i64 (x.1 : Int))])
     (fun x=>(some b,65,[.slice (ad (some bbs)) p'.m cap,.slice (ad (some b1)) (p'.n - 1) cap1,.slice (ad fr.bo) p'.m fr.cap,.slice (ad (some brw)) p'.m crw,.slice (ad (some b2)) (p'.n - 1) cap2,.bool (rt p'.vv).1,.slice pn (rt p'.vv).2.1.length cn,.slice pd (rt p'.vv).2.2.length cd,.int .i64 left'])::(some bbs,3,bcs)::(some b1,3,cs1)::(fr.bo,26,fr.cs)::(some brw,27,x.2.1)::(some b2,26,cs2)::famB 26 x.2.2.1 x.2.2.2 p'.m [])
     (fun x=>[rowF hdE ⟨some brw,crw,x.2.1⟩ p'.m (hdl x.2.2.1 p'.m),matF RatE x.2.2.1 x.2.2.2 (fdL p' j x.1) p'.m []])
     (fun x=>x.1 ≤ p'.m) (fun x=>p'.m - x.1) (0,erw,hd,cs) [6,0] rfl rfl rfl (Nat.zero_le _) (by repeat (first | exact Fr.sub_nil _ | refine Fr.sub_cons rfl ?_)) rfl rfl ?_
    rintro ⟨k,cs3,hd,cs⟩ hk3 ih3
    simp only [List.cons_append,List.nil_append] at hk3 ih3 ⊢
    by_cases hkl3 : k < p'.m
    ·refine j_hdlen 1 rfl fun hlen=>?_
     have hN : (hd k).2.1 = p'.n:=by rw [hlen k hkl3 rfl,fdL_at,rl_len]
     refine j_focusL 6 (k) 1 (p'.n) rfl rfl (by first | assumption | omega) (by first | rfl | assumption | (simp [memB_cons,memB];done) | (simp [memB_cons,memB];omega)) (by first | assumption | omega) fun r1 hr2=>?_
     simp only [List.take_succ_cons,List.take_zero,List.cons_append,List.nil_append]
     refine j_rowB 0 rfl (by omega) fun br cr er h=>?_
     subst h
     refine j_rowcap 0 rfl fun q5 q6=>?_
     dsimp only at q5 q6
     refine j_nf [_,_,_,_,_,_,_,_,_] rfl ?_
     refine j_run it 1 rfl (by simp) ?_
     refine j_nf [_,_,_,_,_,_,_,_,_] rfl ?_
     refine j_if rfl rfl (fun h4=>?_) (fun h4=>by exfalso;omega)
     refine j_nf [_,_,_,_,_,_,_,_,_,_,_] rfl ?_
     refine j_run it 2 rfl (by simp) ?_
     refine j_nf [_,_,_,_,_,_,_,_,_,_] rfl ?_
     (refine j_selT 7 [0,1,2,3,4,5,6] rfl rfl ?_;apply j_drawKB it mx 1 25;(· rfl);(· rfl);(· rfl))
     (apply lxk_run 2;(· rfl);(· simp))
     (apply lxk_eq;(· rfl);(· exact d_x fun _=>x_field rfl fd65_3 dk_eq))
     (apply lxk_eq;(· rfl);(· exact d_bld 0 rfl rfl ld39 rfl))
     (apply lxk_run 3;(· rfl);(· simp))
     (apply lxk_eq;(· rfl);(· exact d_x fun _=>x_field rfl fd65_3 dk_eq))
     (apply lxk_eq;(· rfl);(· exact d_bld 0 rfl rfl ld39 rfl))
     (apply lxk_run 1;(· rfl);(· simp))
     (apply lxk_eq;(· rfl);(· exact d_x fun _=>x_idx_own (k) (k) rfl rfl sl39 rfl (by omega) (Nat.mul_one _) dk_eq))
     (apply lxk_eq;(· rfl);(· exact d_ldR_hd 4 2 (k) rfl rfl rfl ld27 rfl (by assumption)))
     dsimp only
     (apply lxk_run 1;(· rfl);(· simp))
     (apply lxk_eq;(· rfl);(· exact d_x fun _=>x_slice_h_own (j) rfl rfl sl27 (by omega) (by omega) (by omega) dk_eq))
     (apply lxk_run 2;(· rfl);(· simp))
     (apply lxk_eq;(· rfl);(· exact d_x fun _=>x_field rfl fd65_3 dk_eq))
     (apply lxk_eq;(· rfl);(· exact d_bld 0 rfl rfl ld39 rfl))
     (apply lxk_run 1;(· rfl);(· simp))
     (apply lxk_eq;(· rfl);(· exact d_x fun _=>x_idx_own (k) (k) rfl rfl sl39 rfl (by omega) (Nat.mul_one _) dk_eq))
     (apply lxk_eq;(· rfl);(· exact d_ldR_hd 4 2 (k) rfl rfl rfl ld27 rfl (by assumption)))
     dsimp only
     (apply lxk_run 2;(· rfl);(· exact ⟨⟨by omega,by omega⟩,trivial,trivial⟩))
     (apply lxk_eq;(· rfl);(· exact d_x fun _=>x_slice_l_own (((j) + 1)) rfl rfl sl27 (by omega) (by omega) (by omega) dk_eq))
     (apply lxk_del 0;(· rfl);(· rfl);(· rfl);(· rfl);(· exact sl27);(· exact zo27e);(· rfl);(· omega);(· omega);(· omega);(· exact by27e);(· omega);intro b3 cap3 cs4)
     refine lxk_end rfl ?_
     simp only [List.map_cons,List.map_nil,List.cons_append,List.nil_append]
     refine j_step rfl (x_idx_own (k) (k) rfl rfl sl39 rfl (by omega) (Nat.mul_one _) ?_)
     refine j_step rfl (x_stR (vs:=[Value.slice (some { block:=b3,off:=0 }) (p'.n - 1) cap3]) (z:=(some b3,p'.n - 1,cap3)) 5 3 (k) rfl rfl rfl rfl rfl ld27 (Nat.mul_one _).symm (by omega) (fun w A hG=>(rd_hd (some _) _ _)) fun cs5=>?_)
     refine j_nf [_,_,_,_,_,_,_,_] rfl ?_
     refine j_run it 2 rfl ⟨trivial,⟨by omega,by omega⟩,trivial⟩ ?_
     refine j_nfn 1 [.lp (pL 235956),.blk 6,.c (pL 29495),.blk 5,.c (pL 231),.lp [1,1,0,0],.blk 4] rfl ?_
     simp only [setB,Nat.zero_add,List.eraseIdx_cons_zero,List.eraseIdx_cons_succ,List.set_cons_zero,List.set_cons_succ,List.drop_succ_cons,List.drop_zero]
     rw [fdL_at,rl_del hjl,hdl_set]
     refine j_unfocusL 6 (k) 0 1 3 rfl rfl rfl rfl (by first | assumption | omega) (by first | rfl | assumption | (simp [memB_cons,memB];done) | (simp [memB_cons,memB];omega)) ?_
     simp only [List.eraseIdx_cons_zero,List.eraseIdx_cons_succ,List.take_succ_cons,List.take_zero,List.cons_append,List.nil_append]
     refine j_matCongr (fdL p' j (k + 1)) 0 rfl (fun g _=>fdL_next p' j k g) ?_
     refine j_to [2,0,8,9,10,11,12,13] (by exact fra rfl) rfl rfl (ih3 (k + 1,cs5,upd hd k (some b3,p'.n - 1,cap3),upd cs k cs4) (by dsimp only;omega) (by dsimp only;omega))
    ·obtain rfl : k = p'.m:=by omega
     refine j_nf [_,_,_,_,_,_,_,_,_] rfl ?_
     refine j_run it 1 rfl (by simp) ?_
     refine j_nf [_,_,_,_,_,_,_,_,_] rfl ?_
     refine j_if rfl rfl (fun h4=>by exfalso;omega) (fun h4=>?_)
     refine j_nf [_,_,_,_,_] rfl ?_
     refine j_matCongr (fun h=>rl (dropP p' j).n ((dropP p' j).rw h)) 1 rfl (fun h hh=>fdL_all hh) ?_
     refine j_givK 6 [0,1,2,3,4,5] [5,4,6,1,3,0,7,8] rfl .nil rfl rfl rfl ⟨⟨⟨some bbs,cap,bcs⟩,⟨some b1,cap1,cs1⟩,fr,⟨some brw,crw,cs3⟩,⟨some b2,cap2,cs2⟩,hd,cs,pn,cn,pd,cd⟩,dropP p' j,left',rfl,⟨hl1,hl2',p',j,r,hf',hjl,hart2,rfl⟩,rfl,rfl⟩
   ·refine j_nf [_,_,_,_] rfl ?_
    refine j_run it 1 rfl (by simp) ?_
    refine j_nf [_,_,_,_] rfl ?_
    refine j_if rfl rfl (fun h2=>?_) (fun h2=>by exfalso;omega)
    refine j_nf [_,_,_,_,_,_] rfl ?_
    refine j_run it 1 rfl (by simp) ?_
    refine j_step rfl (x_idx_own (j) (j) rfl rfl sl63 rfl (by omega) (Nat.mul_one _) ?_)
    refine j_step rfl (x_ldR_int 2 1 (j) rfl rfl rfl ld3 rfl (by assumption) fun hr1=>?_)
    refine j_run it 2 rfl (by simp) ?_
    refine j_nf [_,_,_,_,_,_] rfl ?_
    refine j_run it 3 rfl (by simp) ?_
    refine j_nf [_,_,_,_,_] rfl ?_
    refine j_if rfl rfl (fun h3=>by exfalso;omega) (fun h3=>?_)
    refine j_nf [_,_,_] rfl ?_
    refine j_run it 2 rfl ⟨trivial,⟨by omega,by omega⟩,trivial⟩ ?_
    refine j_nfn 1 [.lp [1,1,0,0],.blk 4] rfl ?_
    refine j_to [0,1,2,3,4,5,6,7] (by exact fra rfl) rfl rfl (ih2 (j + 1) (by omega) ⟨by omega,fun c hc=>by
     rcases Nat.lt_succ_iff_lt_or_eq.1 hc with h1 | rfl
     ·exact hz c h1
     ·exact hart2⟩)
  ·exact absurd hj1 (hz j0 (by omega))
theorem vals_no {p : PD} {n0 r : Nat} : ∀ {k : Nat},(∀ h,h < k → p.bs h ≠ r) → vals p n0 k r = 0:=by
 intro k
 induction k with
 | zero=>intro _;rfl
 | succ k ih =>
  intro h
  have h1:=ih fun g hg=>h g (by omega)
  by_cases hb : p.bs k < n0
  ·rw [vals_in hb,upd_ne (fun e=>h k (by omega) e.symm),h1]
  ·rw [vals_out hb,h1]
theorem vals_yes {N : Nat} {p : PD} (g : Good N p) {n0 h : Nat} (hn : p.bs h < n0) : ∀ {k : Nat},k ≤ p.m → h < k → vals p n0 k (p.bs h) = p.fr h:=by
 intro k
 induction k with
 | zero=>intro _ hh;omega
 | succ k ih =>
  intro hk hh
  rcases Nat.lt_succ_iff_lt_or_eq.1 hh with h1 | rfl
  ·have h2:=ih (by omega) h1
   have hne : p.bs h ≠ p.bs k:=fun e=>by have:=g.bi h k (by omega) (by omega) e;omega
   by_cases hb : p.bs k < n0
   ·rw [vals_in hb,upd_ne hne,h2]
   ·rw [vals_out hb,h2]
  ·rw [vals_in hn,upd_self]
theorem vals_eq {N : Nat} {p : PD} (g : Good N p) {n0 r : Nat} (hr : r < n0) : vals p n0 p.m r = vl (toDic p) r:=by
 by_cases h : ∃ i,i < p.m ∧ p.bs i = r
 ·obtain ⟨i,hi,rfl⟩:=h
  rw [vals_yes g hr (Nat.le_refl _) hi,vl,if_pos (dic_B.2 ⟨i,hi,rfl⟩),dic_b g hi]
 ·rw [vals_no fun i hi e=>h ⟨i,hi,e⟩,vl,if_neg fun e=>h (dic_B.1 e)]
theorem prc_no {p : PD} {n0 m0 r : Nat} (hr : r < m0) : ∀ {k : Nat},(∀ c,c < k → p.os c ≠ n0 + r) → prc p n0 m0 k r = 0:=by
 intro k
 induction k with
 | zero=>intro _;rfl
 | succ k ih =>
  intro h
  have h1:=ih fun g hg=>h g (by omega)
  by_cases hb : n0 ≤ p.os k ∧ p.os k < n0 + m0
  ·rw [prc_in hb.1 hb.2,upd_ne (fun e=>h k (by omega) (by omega)),h1]
  ·rw [prc_out hb,h1]
theorem prc_yes {N : Nat} {p : PD} (g : Good N p) {n0 m0 r c : Nat} (hr : r < m0) (hc : p.os c = n0 + r) : ∀ {k : Nat},k ≤ p.n → c < k → prc p n0 m0 k r = -p.gl c:=by
 intro k
 induction k with
 | zero=>intro _ hh;omega
 | succ k ih =>
  intro hk hh
  rcases Nat.lt_succ_iff_lt_or_eq.1 hh with h1 | rfl
  ·have h2:=ih (by omega) h1
   have hne : p.os c ≠ p.os k:=fun e=>by have:=g.oi c k (by omega) (by omega) e;omega
   by_cases hb : n0 ≤ p.os k ∧ p.os k < n0 + m0
   ·rw [prc_in hb.1 hb.2,upd_ne (by omega),h2]
   ·rw [prc_out hb,h2]
  ·rw [prc_in (by omega) (by omega),show p.os c - n0 = r by omega,upd_self]
theorem prc_eq {N : Nat} {p : PD} (g : Good N p) {n0 m0 r : Nat} (hr : r < m0) : prc p n0 m0 p.n r = -(toDic p).c (n0 + r):=by
 by_cases h : ∃ c,c < p.n ∧ p.os c = n0 + r
 ·obtain ⟨c,hc,e⟩:=h
  rw [prc_yes g hr e (Nat.le_refl _) hc,← e,dic_c g hc]
 ·rw [prc_no hr fun c hc e=>h ⟨c,hc,e⟩,dic_c0 fun c hc e=>h ⟨c,hc,e⟩];rfl
theorem rayF_no {p : PD} {n0 j r : Nat} : ∀ {k : Nat},(∀ h,h < k → p.bs h ≠ r) → rayF p n0 j k r = rayF p n0 j 0 r:=by
 intro k
 induction k with
 | zero=>intro _;rfl
 | succ k ih =>
  intro h
  have h1:=ih fun g hg=>h g (by omega)
  by_cases hb : p.bs k < n0
  ·rw [rayF_in hb,upd_ne (fun e=>h k (by omega) e.symm),h1]
  ·rw [rayF_out hb,h1]
theorem rayF_yes {N : Nat} {p : PD} (g : Good N p) {n0 j h : Nat} (hn : p.bs h < n0) : ∀ {k : Nat},k ≤ p.m → h < k → rayF p n0 j k (p.bs h) = -p.rw h j:=by
 intro k
 induction k with
 | zero=>intro _ hh;omega
 | succ k ih =>
  intro hk hh
  rcases Nat.lt_succ_iff_lt_or_eq.1 hh with h1 | rfl
  ·have h2:=ih (by omega) h1
   have hne : p.bs h ≠ p.bs k:=fun e=>by have:=g.bi h k (by omega) (by omega) e;omega
   by_cases hb : p.bs k < n0
   ·rw [rayF_in hb,upd_ne hne,h2]
   ·rw [rayF_out hb,h2]
  ·rw [rayF_in hn,upd_self]
theorem rayF_eq {N : Nat} {p : PD} (g : Good N p) {n0 j r : Nat} (hj : j < p.n) (hr : r < n0) : rayF p n0 j p.m r = dir p j r:=by
 by_cases h : ∃ i,i < p.m ∧ p.bs i = r
 ·obtain ⟨i,hi,rfl⟩:=h
  rw [rayF_yes g hr (Nat.le_refl _) hi,dir,if_neg (g.dis i j hi hj),dic_Ao g hi hj]
 ·rw [rayF_no fun i hi e=>h ⟨i,hi,e⟩,dir]
  by_cases e : r = p.os j
  ·subst e;rw [if_pos rfl,rayF_z hr,upd_self]
  ·have hA : (toDic p).A r (p.os j) = 0:=rs_all_zero fun i hi=>if_neg fun e=>h ⟨i,hi,e⟩
   rw [if_neg e,hA]
   by_cases hb : p.os j < n0
   ·rw [rayF_z hb,upd_ne e];rfl
   ·rw [rayF_n hb];rfl
section
variable {n0 m : Nat} {A : Nat → Nat → Rat} {Bv Cv : Nat → Rat}
theorem Run.ties1 {N : Nat} {q p : PD} (r : Run N q p) (h : Ties1 n0 m A Bv q) : Ties1 n0 m A Bv p:=fun x z=>(r.sol x z).symm.trans (h x z)
theorem Run.ties {N : Nat} {q p : PD} (r : Run N q p) (h : Ties n0 m A Bv Cv q) : Ties n0 m A Bv Cv p:=fun x z=>(r.sol x z).symm.trans (h x z)
theorem aim_good {N : Nat} {p : PD} (g : Good N p) : Good N (aimP n0 Cv p):=⟨g.bN,g.oN,g.bi,g.oi,g.dis,g.cov⟩
theorem drop_good {N j : Nat} {p : PD} (g : Good (N + 1) p) (hj : j < p.n) (ha : p.os j = N) : Good N (dropP p j) where
 bN:=fun h hh=>by
  have h1:=g.bN h hh
  have h2:=g.dis h j hh hj
  show p.bs h < N
  omega
 oN:=fun k hk=>by
  have hk : k < p.n - 1:=hk
  show p.os (if k < j then k else k + 1) < N
  have h1:=g.oN (if k < j then k else k + 1) (by split <;> omega)
  have h2 : p.os (if k < j then k else k + 1) ≠ N:=fun e=>by
   have:=g.oi _ j (by split <;> omega) hj (e.trans ha.symm)
   split at this <;> omega
  omega
 bi:=g.bi
 oi:=fun k k' hk hk' e=>by
  have hk : k < p.n - 1:=hk
  have hk' : k' < p.n - 1:=hk'
  have:=g.oi _ _ (by split <;> omega) (by split <;> omega) e
  split at this <;> split at this <;> omega
 dis:=fun h k hh hk=>by
  have hk : k < p.n - 1:=hk
  exact g.dis h _ hh (by split <;> omega)
 cov:=fun r hr=>by
  rcases g.cov r (by omega) with h | ⟨k,hk,e⟩
  ·exact .inl h
  ·have hkj : k ≠ j:=fun e2=>by rw [e2] at e;omega
   by_cases h : k < j
   ·exact .inr ⟨k,by show k < p.n - 1;omega,by show p.os (if k < j then k else k + 1) = r;rw [if_pos h];exact e⟩
   ·exact .inr ⟨k - 1,by show k - 1 < p.n - 1;omega,by show p.os (if k - 1 < j then k - 1 else k - 1 + 1) = r;rw [if_neg (by omega),show k - 1 + 1 = k by omega];exact e⟩
theorem aim0_bd {K : Nat} (hK : 1 ≤ K) (hA : ∀ h k,h < m → k < n0 → bd K (A h k)) (hB : ∀ h,h < m → bd K (Bv h)) (hC : ∀ k,k < n0 → bd K (Cv k)) : PB K (aimP n0 Cv (stP n0 m A Bv)):=by
 have hz : ∀ (f : Nat → Rat),rs m (fun h=>(if n0 + h < n0 then Cv (n0 + h) else 0) * f h) = 0:=fun f=>rs_all_zero fun h _=>by rw [if_neg (by omega),Rat.zero_mul]
 refine ⟨hB,fun h k hh hk=>hA h k hh hk,fun k hk=>?_,?_⟩
 ·have hk : k < n0:=hk
  show bd K ((if k < n0 then Cv k else 0) - rs m (fun h=>(if n0 + h < n0 then Cv (n0 + h) else 0) * A h k))
  rw [hz,if_pos hk,Rat.sub_eq_add_neg,show (-(0 : Rat)) = 0 by decide,Rat.add_zero]
  exact hC k hk
 ·show bd K (rs m (fun h=>(if n0 + h < n0 then Cv (n0 + h) else 0) * Bv h))
  rw [hz];exact bd_zero hK
theorem st_aim_ties : Ties n0 m A Bv Cv (aimP n0 Cv (stP n0 m A Bv)):=aim_ties stP_good fun x=>stP_lin x
theorem art_out {p : PD} (g : Good (n0 + m + 1) p) (hf : ∀ h,h < p.m → 0 ≤ p.fr h) (ht : Ties1 n0 m A Bv p) (hv : ¬ p.vv < 0) : vl (toDic p) (n0 + m) = 0 ∧ ∀ i,i < p.m → p.bs i = n0 + m → p.fr i = 0 ∧ ∃ k,k < p.n ∧ p.rw i k ≠ 0:=by
 have h1:=val1 g hf ht
 have h2:=vl_pos (dic_ok g hf) (show n0 + m < n0 + m + 1 by omega)
 have h3 : vl (toDic p) (n0 + m) = 0:=by
  have:=Rat.not_lt.1 hv
  rw [h1] at this
  grind
 refine ⟨h3,fun i hi e=>?_⟩
 have h4 : p.fr i = 0:=by
  rw [vl,if_pos (dic_B.2 ⟨i,hi,e⟩),← e,dic_b g hi] at h3
  exact h3
 exact ⟨h4,art_row ht g hi e h4⟩
theorem no_vars {p : PD} (hn : n0 = 0) (g : Good (n0 + m + 1) p) (hf : ∀ h,h < p.m → 0 ≤ p.fr h) (ht : Ties1 n0 m A Bv p) (hv : ¬ p.vv < 0) (hneg : ∃ h,h < m ∧ Bv h < 0) : False:=by
 obtain ⟨h,hh,hb⟩:=hneg
 have ok:=dic_ok g hf
 have s:=((ht _ _).1 ((sol_iff g _ _).1 (sol_vl ok))).1 h hh
 have h3:=(art_out g hf ht hv).1
 have h2:=vl_pos ok (show n0 + h < n0 + m + 1 by omega)
 rw [h3] at s
 subst hn
 rw [rs] at s
 grind
end
theorem Run.fr_bd {N K : Nat} {q p : PD} (r : Run N q p) (g : Good N q) (hK : 1 ≤ K) (hb : PB K q) : ∀ h,h < p.m → bd (szP' K q.m) (p.fr h):=fun h hh=>by
 by_cases hn : 0 < p.n
 ·exact (r.size g hK hb hn).fr h hh
 ·have hpn : p.n = 0:=by omega
  have hqn : q.n = 0:=by rw [← r.n];exact hpn
  have s : PSol q (fun x=>(toDic q).b x) q.vv:=⟨fun i hi=>by show (toDic q).b (q.bs i) = _;rw [hqn,rs,dic_b g hi,Rat.sub_eq_add_neg,show (-(0 : Rat)) = 0 by decide,Rat.add_zero],by rw [hqn,rs,Rat.add_zero]⟩
  have h1:=((r.sol _ _).1 s).1 h hh
  rw [hpn,rs,Rat.sub_eq_add_neg,show (-(0 : Rat)) = 0 by decide,Rat.add_zero] at h1
  rw [← h1]
  rcases g.cov (p.bs h) (r.g.bN h hh) with ⟨i,hi,e⟩ | ⟨k,hk,_⟩
  ·show bd _ ((toDic q).b (p.bs h))
   rw [← e,dic_b g hi]
   exact bd_mono (hb.fr i hi) (szP'_mono (Nat.zero_le _))
  ·omega
theorem Run.gl_bd {N K : Nat} {q p : PD} (r : Run N q p) (g : Good N q) (hK : 1 ≤ K) (hb : PB K q) : ∀ k,k < p.n → bd (szP' K q.m) (p.gl k):=fun k hk=>(r.size g hK hb (by omega)).gl k hk
theorem Run.rw_bd {N K : Nat} {q p : PD} (r : Run N q p) (g : Good N q) (hK : 1 ≤ K) (hb : PB K q) : ∀ h k,h < p.m → k < p.n → bd (szP' K q.m) (p.rw h k):=fun h k hh hk=>(r.size g hK hb (by omega)).rw h k hh hk
theorem rl_ok {n Z : Nat} {f : Nat → Rat} (h : ∀ k,k < n → bd Z (f k)) : ∀ r ∈ rl n f,okR Z r:=fun r hr=>by
 obtain ⟨k,hk,rfl⟩:=List.mem_map.1 hr
 have hb:=h k (List.mem_range.1 hk)
 exact ⟨fun x hx=>limbs_lt _ x hx,fun x hx=>limbs_lt _ x hx,bd_len hb⟩
theorem vl_bd {Z N : Nat} {p : PD} (g : Good N p) (hZ : 1 ≤ Z) (h : ∀ i,i < p.m → bd Z (p.fr i)) (r : Nat) : bd Z (vl (toDic p) r):=by
 rw [vl]
 split
 ·next hb =>
  obtain ⟨i,hi,rfl⟩:=dic_B.1 hb
  rw [dic_b g hi];exact h i hi
 ·exact bd_zero hZ
theorem dir_bd {Z N j : Nat} {p : PD} (g : Good N p) (hZ : 1 ≤ Z) (hj : j < p.n) (h : ∀ i,i < p.m → bd Z (p.rw i j)) (r : Nat) : bd Z (dir p j r):=by
 rw [dir]
 split
 ·exact bd_one hZ
 ·by_cases h2 : ∃ i,i < p.m ∧ p.bs i = r
  ·obtain ⟨i,hi,rfl⟩:=h2
   rw [dic_Ao g hi hj];exact bd_neg (h i hi)
  ·have hA : (toDic p).A r (p.os j) = 0:=rs_all_zero fun i hi=>if_neg fun e=>h2 ⟨i,hi,e⟩
   rw [hA];exact bd_neg (bd_zero hZ)
theorem cneg_bd {Z N : Nat} {p : PD} (g : Good N p) (hZ : 1 ≤ Z) (h : ∀ k,k < p.n → bd Z (p.gl k)) (r : Nat) : bd Z (-(toDic p).c r):=by
 refine bd_neg ?_
 by_cases h2 : ∃ k,k < p.n ∧ p.os k = r
 ·obtain ⟨k,hk,rfl⟩:=h2
  rw [dic_c g hk];exact h k hk
 ·rw [dic_c0 fun k hk e=>h2 ⟨k,hk,e⟩];exact bd_zero hZ
theorem ok_app {Z : Nat} {X Y R : List Rt} (h1 : ∀ r ∈ X,okR Z r) (h2 : ∀ r ∈ Y,okR Z r) (h3 : ∀ r ∈ R,okR Z r) : ∀ r ∈ X++(Y++R),okR Z r:=fun r hr=>by
 rcases List.mem_append.1 hr with h | h
 ·exact h1 r h
 ·rcases List.mem_append.1 h with h | h
  ·exact h2 r h
  ·exact h3 r h
theorem ok_nil {Z : Nat} : ∀ r ∈ ([] : List Rt),okR Z r:=fun r hr=>by cases hr
open Go Go.Fw
set_option maxRecDepth 100000
set_option linter.unusedVariables false
set_option linter.unusedSimpArgs false
set_option maxHeartbeats 8000000
inductive SolR (n0 m : Nat) (A : Nat → Nat → Rat) (Bv Cv : Nat → Rat) : Int → List Rt → List Rt → List Rt → Prop where
 | inf (y : Nat → Rat) (h1 : ∀ h,h < m → 0 ≤ y h) (h2 : ∀ j,j < n0 → 0 ≤ rs m (fun h=>y h * A h j)) (h3 : rs m (fun h=>Bv h * y h) < 0) : SolR n0 m A Bv Cv 1 [] (rl m y) []
 | unb (x d : Nat → Rat) (h1 : ∀ j,j < n0 → 0 ≤ x j) (h2 : ∀ h,h < m → rs n0 (fun k=>A h k * x k) ≤ Bv h) (h3 : ∀ j,j < n0 → 0 ≤ d j) (h4 : ∀ h,h < m → rs n0 (fun k=>A h k * d k) ≤ 0) (h5 : 0 < rs n0 (fun k=>Cv k * d k)) : SolR n0 m A Bv Cv 2 (rl n0 x) [] (rl n0 d)
 | opt (x y : Nat → Rat) (h1 : ∀ j,j < n0 → 0 ≤ x j) (h2 : ∀ h,h < m → rs n0 (fun k=>A h k * x k) ≤ Bv h) (h3 : ∀ h,h < m → 0 ≤ y h) (h4 : ∀ j,j < n0 → Cv j ≤ rs m (fun h=>y h * A h j)) (h5 : rs n0 (fun k=>Cv k * x k) = rs m (fun h=>Bv h * y h)) : SolR n0 m A Bv Cv 0 (rl n0 x) (rl m y) []
abbrev SolveQ (Z n0 m : Nat) (A : Nat → Nat → Rat) (Bv Cv : Nat → Rat) : Value → List Fact → List Blk → Prop:=fun v Φ β=>∃ (k : Int) (X Y R : List Rt) (px : Option Addr) (nx cx : Nat) (py : Option Addr) (ny cy : Nat) (pr : Option Addr) (nr cr : Nat),
 v = .tuple #[.agg #[.int .i64 k,.slice px nx cx,.slice py ny cy,.slice pr nr cr],.int .i64 0] ∧ SolR n0 m A Bv Cv k X Y R ∧ (∀ r ∈ X++(Y++R),okR Z r) ∧ Φ = [slF RatE px nx cx X,slF RatE py ny cy Y,slF RatE pr nr cr R] ∧ β = []
theorem S_simplex_Solve {p1 pM p3 : Option Addr} {c1 c2 c3 K : Nat} {C B : List Rt} {M : List (List Rt)} (hch : checkOf (C,M,B) = 0) (hn0 : C.length ≤ 8) (hm : M.length ≤ 8) (hBm : B.length = M.length) (hK : 1 ≤ K) (hK2 : K ≤ 200000) (hsz : szP' K M.length ≤ 1000000)
  (hC : ∀ r ∈ C,okR K r) (hB : ∀ r ∈ B,okR K r) (hM : ∀ row ∈ M,row.length = C.length ∧ ∀ r ∈ row,okR K r) :
  Ctr Tryz.prog 15 [.agg #[.slice p1 C.length c1,.slice pM M.length c2,.slice p3 B.length c3]] [] [slF RatE p1 C.length c1 C,slF (encSl RatE) pM M.length c2 M,slF RatE p3 B.length c3 B] (SolveQ (szP' K M.length) C.length M.length (mvOf M) (cvOf B) (cvOf C)):=by
 refine Ctr_of_j' (F:=F_simplex_Solve) rfl fun Cx=>?_
 have c_simplex_start : Ctr Tryz.prog 31 [.agg #[.slice p1 C.length c1,.slice pM M.length c2,.slice p3 B.length c3]] [] [slF RatE p1 C.length c1 C,slF (encSl RatE) pM M.length c2 M,slF RatE p3 B.length c3 B] (StartQ (stP C.length M.length (mvOf M) (cvOf B))):=by
  rw [hBm]
  exact S_simplex_start (K:=K) hn0 hm (by omega) (fun r hr=>(hB r hr).2.2) (fun row hr=>⟨(hM row hr).1,fun r h=>((hM row hr).2 r h).2.2⟩)
 have hA : ∀ h k,h < M.length → k < C.length → bd K (mvOf M h k):=fun h k hh hk=>by
  obtain ⟨row,hr⟩ : ∃ row,M[h]? = some row:=⟨_,List.getElem?_eq_getElem hh⟩
  have h1:=hM row (List.mem_of_getElem? hr)
  have hg : M.getD h [] = row:=by rw [List.getD_eq_getElem?_getD,hr];rfl
  obtain ⟨z,hz⟩ : ∃ z,row[k]? = some z:=⟨_,List.getElem?_eq_getElem (by omega)⟩
  rw [mvOf,hg,cvOf_at hz]
  exact okR_bd (h1.2 z (List.mem_of_getElem? hz)) hK
 have hBd : ∀ h,h < M.length → bd K (cvOf B h):=fun h hh=>by
  obtain ⟨z,hz⟩ : ∃ z,B[h]? = some z:=⟨_,List.getElem?_eq_getElem (by omega)⟩
  rw [cvOf_at hz]
  exact okR_bd (hB z (List.mem_of_getElem? hz)) hK
 have hCd : ∀ k,k < C.length → bd K (cvOf C k):=fun k hk=>by
  obtain ⟨z,hz⟩ : ∃ z,C[k]? = some z:=⟨_,List.getElem?_eq_getElem hk⟩
  rw [cvOf_at hz]
  exact okR_bd (hC z (List.mem_of_getElem? hz)) hK
 have c_simplex_Check:=@S_simplex_Check p1 pM p3 c1 c2 c3 C M B
 generalize hn0e : C.length = n0 at *
 generalize hme : M.length = m at *
 refine j_nf [_,_] rfl ?_
 refine j_step rfl (x_box_agg rfl fun b1=>?_)
 refine j_step rfl (x_alloc zo45 fun b2=>?_)
 refine j_run it 1 rfl (by simp) ?_
 refine j_nf [_,_,_] rfl ?_
 refine j_step rfl (x_bld_all 1 rfl rfl ld41 rfl ?_)
 refine j_step rfl (x_call [0,1,2] rfl (c_simplex_Check) rfl ?_)
 rintro _ _ _ ⟨rfl,rfl,rfl⟩
 simp only [List.cons_append,List.nil_append]
 refine j_run it 1 rfl (by simp) ?_
 refine j_nf [_,_,_] rfl ?_
 refine j_run it 2 rfl (by simp) ?_
 refine j_nf [_,_] rfl ?_
 refine j_ifn rfl rfl (fun h1=>by exfalso;omega) (fun h1=>?_)
 refine j_nf [_,_] rfl ?_
 (apply j_drawK it mx 7;(· rfl);(· rfl))
 (apply lxk_eq;(· rfl);(· exact d_x fun _=>x_field rfl fd41_0 dk_eq))
 (apply lxk_eq;(· rfl);(· exact d_bld 1 rfl rfl ld27 rfl))
 (apply lxk_eq;(· rfl);(· exact d_x fun _=>x_len sl27 rfl dk_eq))
 (apply lxk_eq;(· rfl);(· exact d_x fun _=>x_field rfl fd41_1 dk_eq))
 (apply lxk_eq;(· rfl);(· exact d_bld 1 rfl rfl ld39 rfl))
 (apply lxk_eq;(· rfl);(· exact d_x fun _=>x_len sl39 rfl dk_eq))
 (apply lxk_run 1;(· rfl);(· simp))
 refine lxk_end rfl ?_
 simp only [List.map_cons,List.map_nil,List.cons_append,List.nil_append]
 refine j_run it 1 rfl (by simp) ?_
 refine j_nf [_,_] rfl ?_
 refine j_step rfl (x_bld_all 1 rfl rfl ld41 rfl ?_)
 refine j_step rfl (x_callA 2 [0,1,2] rfl rfl c_simplex_start rfl ?_)
 rintro _ _ _ ⟨b3,x,rfl,rfl,rfl⟩
 simp only [List.take_succ_cons,List.take_zero,List.cons_append,List.nil_append]
 -- the second phase
 have key : ∀ (x2 : DX) (p2 : PD) (left2 : Int) (Z : Nat),Good (n0 + m) p2 → (∀ h,h < p2.m → 0 ≤ p2.fr h) → (∀ x : Nat → Rat,(∀ h,h < p2.m → x (p2.bs h) = p2.fr h - rs p2.n (fun k=>p2.rw h k * x (p2.os k))) ↔ ∀ h,h < m → x (n0 + h) = cvOf B h - rs n0 (fun k=>mvOf M h k * x k)) → p2.m = m → p2.n = n0 → 1 ≤ Z → Z ≤ 1000000 → (∀ h,h < p2.m → bd Z (p2.fr h)) → (∀ h k,h < p2.m → k < p2.n → bd Z (p2.rw h k)) → -500000 ≤ left2 → left2 < 0 →
   J F_simplex_Solve Cx [.o (pL 126) 3,.c (pL 127)] [(57,.slice p1 n0 c1),(55,.pointer (some ⟨b3,0,none⟩)),(7,.pointer (some ⟨b3,0,none⟩)),(5,.int .i64 n0),(6,.int .i64 m),(1,.pointer (some ⟨b1,0,none⟩)),(2,.pointer (some ⟨b2,0,none⟩)),(3,.int .i64 0)]
    ((some b2,45,[.int .i64 0,.slice none 0 0,.slice none 0 0,.slice none 0 0])::(some b1,41,[.slice p1 n0 c1,.slice pM m c2,.slice p3 B.length c3])::dicB b3 x2 p2 left2) (slF RatE p1 n0 c1 C::dicF x2 p2) (Gives Cx (SolveQ (szP' K m) n0 m (mvOf M) (cvOf B) (cvOf C))):=by
  intro x2 p2 left2 Z g hf hlin em en hZ hZ2 hbf hbr hl1 hl2
  have ties : Ties n0 m (mvOf M) (cvOf B) (cvOf C) (aimP n0 (cvOf C) p2):=aim_ties g hlin
  have gq : Good (n0 + m) (aimP n0 (cvOf C) (stP n0 m (mvOf M) (cvOf B))):=aim_good stP_good
  have hbq : PB K (aimP n0 (cvOf C) (stP n0 m (mvOf M) (cvOf B))):=aim0_bd hK hA hBd hCd
  have hLL : p2.m * (Z + K + 1) ≤ 8 * (1000000 + 200000 + 1):=Nat.mul_le_mul (by omega) (by omega)
  have c_simplex_dictionary__aim:=S_simplex_dictionary__aim (b:=b3) (x:=x2) (p:=p2) (left:=left2) (pc:=p1) (n0:=n0) (cc:=c1) (K:=Z) (Kc:=K) (L:=p2.m * (Z + K + 1) + K + 3) (C:=C) (by omega) (by omega) (by omega) hZ hZ2 hK (by omega) (fun r hr=>(hC r hr).2.2) (Nat.le_refl _) (by omega) hbf hbr (fun h hh=>by have:=g.bN h hh;omega) (fun k hk=>by have:=g.oN k hk;omega)
  have run : Run (n0 + m) (aimP n0 (cvOf C) (stP n0 m (mvOf M) (cvOf B))) (aimP n0 (cvOf C) p2):=⟨aim_good g,fun x z=>(st_aim_ties x z).trans (ties x z).symm,em,en⟩
  have c_simplex_dictionary__climb:=fun {x : DX}=>S_simplex_dictionary__climb (b:=b3) (x:=x) (p:=aimP n0 (cvOf C) p2) (q:=aimP n0 (cvOf C) (stP n0 m (mvOf M) (cvOf B))) (left:=left2) (pf:=-1) (N:=n0 + m) (K:=K) gq run hf (by show p2.m ≤ 100;omega) (by show p2.n ≤ 100;omega) (by omega) hK hbq hsz (by omega) (by omega) (by decide) (by decide)
  refine j_step rfl (x_callA 2 [0,1,2,3,4,5,6,7,8] rfl rfl (c_simplex_dictionary__aim) rfl ?_)
  rintro _ _ _ ⟨x'1,rfl,rfl,rfl⟩
  simp only [List.cons_append,List.nil_append]
  refine j_nf [_,_,_] rfl ?_
  refine j_run it 1 rfl (by simp) ?_
  refine j_step rfl (x_callA 2 [0,1,2,3,4,5,6,7] rfl rfl (c_simplex_dictionary__climb) rfl ?_)
  rintro _ _ _ ⟨x1,p'1,left'1,e1,j1,rfl,h2,rfl,rfl⟩
  simp only [List.cons_append,List.nil_append]
  have hE : ClimbE (n0 + m) (aimP n0 (cvOf C) (stP n0 m (mvOf M) (cvOf B))) p'1 (-1) left2 left'1 e1 j1:=by assumption
  obtain ⟨r4,hf4,_,_,why⟩:=hE
  have t4 : Ties n0 m (mvOf M) (cvOf B) (cvOf C) p'1:=r4.ties st_aim_ties
  have em4 : p'1.m = m:=r4.m
  have en4 : p'1.n = n0:=r4.n
  have hbs4 : ∀ h,h < p'1.m → p'1.bs h ≤ 1000000:=fun h hh=>by have:=r4.g.bN h hh;omega
  have hos4 : ∀ h,h < p'1.n → p'1.os h ≤ 1000000:=fun h hh=>by have:=r4.g.oN h hh;omega
  have c_simplex_dictionary__values:=S_simplex_dictionary__values (b:=b3) (x:=x1) (p:=p'1) (left:=left'1) (n0:=n0) (K:=szP' K m) (by omega) (by omega) (szP'_pos hK _) hsz (r4.fr_bd gq hK hbq) hbs4
  rcases why with ⟨rfl,rfl,top | ⟨k,hk,hk2⟩⟩ | ⟨rfl,k,rfl,hk,up,free⟩
  ·have c_simplex_dictionary__prices:=S_simplex_dictionary__prices (b:=b3) (x:=x1) (p:=p'1) (left:=left'1) (n0:=n0) (m0:=m) (K:=szP' K m) (by omega) (by omega) (by omega) (szP'_pos hK _) hsz (r4.gl_bd gq hK hbq) hos4
   have ex : rl n0 (vals p'1 n0 p'1.m) = rl n0 (vl (toDic p'1)):=rl_congr fun k hk=>vals_eq r4.g hk
   have ey : rl m (prc p'1 n0 m p'1.n) = rl m (fun h=>-(toDic p'1).c (n0 + h)):=rl_congr fun h hh=>prc_eq r4.g hh
   obtain ⟨q1,q2,q3,q4,q5⟩:=end_top r4.g hf4 t4 top
   refine j_add (slF RatE none 0 0 []) (fun w A _=>slF_nil _ _ _ _ _) ?_
   refine j_run it 5 rfl (by simp) ?_
   refine j_nf [_,_,_] rfl ?_
   refine j_run it 1 rfl (by simp) ?_
   refine j_nf [_,_,_,_] rfl ?_
   refine j_run it 2 rfl (by simp) ?_
   refine j_nf [_,_,_] rfl ?_
   refine j_if rfl rfl (fun h3=>by exfalso;omega) (fun h3=>?_)
   refine j_nf [_,_,_,_] rfl ?_
   refine j_run it 2 rfl (by simp) ?_
   refine j_nf [_,_,_] rfl ?_
   refine j_if rfl rfl (fun h4=>by exfalso;omega) (fun h4=>?_)
   refine j_nf [_,_] rfl ?_
   refine j_run it 2 rfl (by simp) ?_
   refine j_step rfl (x_callA 2 [1,2,3,4,5,6,7,8] rfl rfl (c_simplex_dictionary__values) rfl ?_)
   rintro _ _ _ ⟨pa1,ca1,rfl,rfl,rfl⟩
   simp only [List.cons_append,List.nil_append]
   refine j_run it 3 rfl (by simp) ?_
   refine j_step rfl (x_callA 2 [1,2,3,4,5,6,7,8] rfl rfl (c_simplex_dictionary__prices) rfl ?_)
   rintro _ _ _ ⟨pa2,ca2,rfl,rfl,rfl⟩
   simp only [List.cons_append,List.nil_append]
   refine j_step rfl (x_build (cs:=[Value.int IntKind.i64 0,Value.slice pa1 n0 ca1,Value.slice pa2 m ca2,Value.slice none 0 0]) st45 zo45 rfl rfl ?_)
   refine j_step rfl (x_bst_all 0 rfl rfl rfl ld45 rfl rfl (by simp [Value.oneCell']) ?_)
   refine j_run it 1 rfl (by simp) ?_
   refine j_nf [_] rfl ?_
   refine j_givC [9,0,18] rfl (.agg 0 rfl rfl ld45 rfl (.tmp rfl .nil)) rfl ⟨_,_,_,_,_,_,_,_,_,_,_,_,_,rfl,by rw [ex,ey];exact .opt _ _ q1 q2 q3 q4 q5,by rw [ex,ey];exact ok_app (rl_ok fun k _=>vl_bd r4.g (szP'_pos hK _) (r4.fr_bd gq hK hbq) k) (rl_ok fun k _=>cneg_bd r4.g (szP'_pos hK _) (r4.gl_bd gq hK hbq) _) ok_nil,rfl,rfl⟩
  ·omega
  ·have c_simplex_dictionary__ray:=S_simplex_dictionary__ray (b:=b3) (x:=x1) (p:=p'1) (left:=left'1) (n0:=n0) (j:=k) (K:=szP' K m) hk (by omega) (by omega) (by omega) (szP'_pos hK _) hsz (fun h hh=>r4.rw_bd gq hK hbq h k hh hk) hbs4 (hos4 k hk)
   have ex : rl n0 (vals p'1 n0 p'1.m) = rl n0 (vl (toDic p'1)):=rl_congr fun k hk=>vals_eq r4.g hk
   have er : rl n0 (rayF p'1 n0 k p'1.m) = rl n0 (dir p'1 k):=rl_congr fun h hh=>rayF_eq r4.g hk hh
   obtain ⟨q1,q2,q3⟩:=end_ray r4.g t4 hk up free
   have ok:=dic_ok r4.g hf4
   have q4 : ∀ h,h < m → rs n0 (fun k=>mvOf M h k * vl (toDic p'1) k) ≤ cvOf B h:=fun h hh=>by
    have u1:=(vl_sol r4.g hf4 t4).1 h hh
    have u2:=vl_pos ok (show n0 + h < n0 + m by omega)
    grind
   refine j_add (slF RatE none 0 0 []) (fun w A _=>slF_nil _ _ _ _ _) ?_
   refine j_run it 5 rfl (by simp) ?_
   refine j_nf [_,_,_] rfl ?_
   refine j_run it 1 rfl (by simp) ?_
   refine j_nf [_,_,_,_] rfl ?_
   refine j_run it 2 rfl (by simp) ?_
   refine j_nf [_,_,_] rfl ?_
   refine j_if rfl rfl (fun h3=>by exfalso;omega) (fun h3=>?_)
   refine j_nf [_,_,_,_] rfl ?_
   refine j_run it 2 rfl (by simp) ?_
   refine j_nf [_,_,_] rfl ?_
   refine j_if rfl rfl (fun h4=>?_) (fun h4=>by exfalso;omega)
   refine j_nf [_,_,_,_] rfl ?_
   refine j_run it 2 rfl (by simp) ?_
   refine j_step rfl (x_callA 2 [1,2,3,4,5,6,7,8] rfl rfl (c_simplex_dictionary__values) rfl ?_)
   rintro _ _ _ ⟨pa1,ca1,rfl,rfl,rfl⟩
   simp only [List.cons_append,List.nil_append]
   simp only [decide_true]
   refine j_run it 3 rfl (by simp) ?_
   refine j_step rfl (x_callA 2 [1,2,3,4,5,6,7,8] rfl rfl (c_simplex_dictionary__ray) rfl ?_)
   rintro _ _ _ ⟨x3,pa2,ca2,rfl,rfl,rfl⟩
   simp only [List.cons_append,List.nil_append]
   refine j_step rfl (x_build (cs:=[Value.int IntKind.i64 2,Value.slice pa1 n0 ca1,Value.slice none 0 0,Value.slice pa2 n0 ca2]) st45 zo45 rfl rfl ?_)
   refine j_step rfl (x_bst_all 0 rfl rfl rfl ld45 rfl rfl (by simp [Value.oneCell']) ?_)
   refine j_run it 1 rfl (by simp) ?_
   refine j_nf [_,_,_] rfl ?_
   refine j_givC [9,18,0] rfl (.agg 0 rfl rfl ld45 rfl (.tmp rfl .nil)) rfl ⟨_,_,_,_,_,_,_,_,_,_,_,_,_,rfl,by rw [ex,er];exact .unb _ _ (fun j hj=>vl_pos ok (by omega)) q4 q1 q2 (by rw [q3];exact up),by rw [ex,er];exact ok_app (rl_ok fun k _=>vl_bd r4.g (szP'_pos hK _) (r4.fr_bd gq hK hbq) k) ok_nil (rl_ok fun r _=>dir_bd r4.g (szP'_pos hK _) hk (fun h hh=>r4.rw_bd gq hK hbq h k hh hk) r),rfl,rfl⟩
 refine j_run it 1 rfl (by simp) ?_
 refine j_nf [_,_,_] rfl ?_
 refine j_run it 2 rfl (by simp) ?_
 refine j_step rfl (x_field rfl fd65_2 ?_)
 refine j_step rfl (x_bld 2 rfl rfl ld27 rfl ?_)
 refine j_step rfl (x_lendR 5 2 rfl rfl rfl S_simplex_positive (by show m * 56 ≤ 140737488355328;omega) ?_)
 rintro _ _ _ ⟨rfl,_⟩
 cases hpos : posB (rl (stP n0 m (mvOf M) (cvOf B)).m (stP n0 m (mvOf M) (cvOf B)).fr)
 ·have hneg : ∃ h,h < m ∧ cvOf B h < 0:=by
   refine Classical.byContradiction fun hno=>?_
   have : posB (rl m (cvOf B)) = true:=by
    rw [posB,List.all_eq_true]
    intro r hr
    obtain ⟨k,hk,rfl⟩:=List.mem_map.1 hr
    rw [decide_eq_true_eq]
    show 0 ≤ vq ((rt (cvOf B k)).1,(rt (cvOf B k)).2.1,(rt (cvOf B k)).2.2)
    rw [vq_rt']
    exact Rat.not_lt.1 fun e=>hno ⟨k,List.mem_range.1 hk,e⟩
   have hpos : posB (rl m (cvOf B)) = false:=hpos
   rw [this] at hpos
   cases hpos
  have c_simplex_dictionary__begin:=S_simplex_dictionary__begin (b:=b3) (x:=x) (n0:=n0) (m:=m) (a:=n0 + m) (K:=K) (A:=mvOf M) (Bv:=cvOf B) (left:=-1) rfl hn0 hm hK hsz hA hBd hneg (by decide) (by decide)
  refine j_run it 1 rfl (by simp) ?_
  refine j_nf [_,_] rfl ?_
  refine j_true rfl rfl ?_
  refine j_nf [_,_,_] rfl ?_
  refine j_run it 4 rfl ⟨⟨by omega,by omega⟩,trivial,trivial,trivial,trivial⟩ ?_
  refine j_step rfl (x_callA 2 [0,1,2,3,4,5,6,7] rfl rfl (c_simplex_dictionary__begin) rfl ?_)
  rintro _ _ _ ⟨x1,p'1,left'1,e1,j1,rfl,h2,rfl,rfl⟩
  simp only [List.cons_append,List.nil_append]
  have hE : ClimbE (n0 + m + 1) (st1 n0 m (mvOf M) (cvOf B)) p'1 ((n0 + m : Nat) : Int) (-1 - 1) left'1 e1 j1:=by assumption
  obtain ⟨r1,hf1,hl1,hl2,why⟩:=hE
  have gs:=st1_good (n0:=n0) (m:=m) (A:=mvOf M) (Bv:=cvOf B)
  have hb1:=st1_bd (n0:=n0) hK hA hBd
  have t1 : Ties1 n0 m (mvOf M) (cvOf B) p'1:=r1.ties1 st1_ties
  have em1 : p'1.m = m:=r1.m
  have en1 : p'1.n = n0 + 1:=r1.n
  have hos1 : ∀ h,h < p'1.n → p'1.os h ≤ 1000000:=fun h hh=>by have:=r1.g.oN h hh;omega
  have why' : e1 = 0 ∧ ((∀ k,k < p'1.n → p'1.gl k ≤ 0) ∨ ∃ k,k < p'1.n ∧ p'1.os k = n0 + m):=by
   rcases why with ⟨h1,_,h2 | ⟨k,hk,h2⟩⟩ | ⟨_,k,_,hk,up,free⟩
   ·exact ⟨h1,.inl h2⟩
   ·exact ⟨h1,.inr ⟨k,hk,by omega⟩⟩
   ·exact (no_ray1 r1.g hf1 t1 hk up free).elim
  obtain ⟨rfl,why2⟩:=why'
  have hpow : 2 ^ (n0 + m + 1) ≤ 131072:=Nat.le_trans (Nat.pow_le_pow_right (by decide) (show n0 + m + 1 ≤ 17 by omega)) (by decide)
  by_cases hv : p'1.vv < 0
  ·have hs : p'1.vv.num.sign < 0:=(signN _).2 hv
   have top : ∀ k,k < p'1.n → p'1.gl k ≤ 0:=by
    rcases why2 with h | ⟨k,hk,e⟩
    ·exact h
    ·rw [val1_out r1.g hf1 t1 hk e] at hv
     exact absurd hv (by decide)
   have c_simplex_dictionary__prices:=S_simplex_dictionary__prices (b:=b3) (x:=x1) (p:=p'1) (left:=left'1) (n0:=n0) (m0:=m) (K:=szP' K m) (by omega) (by omega) (by omega) (szP'_pos hK _) hsz (r1.gl_bd gs hK hb1) hos1
   have ey : rl m (prc p'1 n0 m p'1.n) = rl m (fun h=>-(toDic p'1).c (n0 + h)):=rl_congr fun h hh=>prc_eq r1.g hh
   obtain ⟨q1,q2,q3⟩:=end_inf r1.g t1 top hv
   refine j_add (slF RatE none 0 0 []) (fun w A _=>slF_nil _ _ _ _ _) ?_
   refine j_run it 1 rfl (by simp) ?_
   refine j_nf [_,_,_,_] rfl ?_
   refine j_run it 2 rfl (by simp) ?_
   refine j_nf [_,_,_] rfl ?_
   refine j_if rfl rfl (fun h3=>by exfalso;omega) (fun h3=>?_)
   refine j_nf [_,_,_,_] rfl ?_
   refine j_run it 2 rfl (by simp) ?_
   refine j_step rfl (x_field rfl fd65_5 ?_)
   refine j_step rfl (x_bld_agg 2 rfl rfl ld26 rfl rfl ?_)
   refine j_step rfl (x_call [7,8] rfl (S_rational_Sign) rfl ?_)
   rintro _ _ _ ⟨rfl,rfl,rfl⟩
   simp only [List.cons_append,List.nil_append]
   simp only [vq_rt']
   refine j_run it 1 rfl (by simp) ?_
   refine j_nf [_,_,_] rfl ?_
   refine j_if rfl rfl (fun h4=>?_) (fun h4=>by exfalso;omega)
   refine j_nf [_,_,_,_] rfl ?_
   refine j_run it 3 rfl (by simp) ?_
   refine j_step rfl (x_callA 2 [1,2,3,4,5,6,7,8] rfl rfl (c_simplex_dictionary__prices) rfl ?_)
   rintro _ _ _ ⟨pa1,ca1,rfl,rfl,rfl⟩
   simp only [List.cons_append,List.nil_append]
   refine j_step rfl (x_build (cs:=[Value.int IntKind.i64 1,Value.slice none 0 0,Value.slice pa1 m ca1,Value.slice none 0 0]) st45 zo45 rfl rfl ?_)
   refine j_step rfl (x_bst_all 0 rfl rfl rfl ld45 rfl rfl (by simp [Value.oneCell']) ?_)
   refine j_run it 1 rfl (by simp) ?_
   refine j_nf [_,_,_] rfl ?_
   refine j_givC [9,0,9] rfl (.agg 0 rfl rfl ld45 rfl (.tmp rfl .nil)) rfl ⟨_,_,_,_,_,_,_,_,_,_,_,_,_,rfl,by rw [ey];exact .inf _ q1 q2 q3,by rw [ey];exact ok_app ok_nil (rl_ok fun k _=>cneg_bd r1.g (szP'_pos hK _) (r1.gl_bd gs hK hb1) _) ok_nil,rfl,rfl⟩
  ·have hs : ¬ p'1.vv.num.sign < 0:=fun e=>hv ((signN _).1 e)
   have hn1 : 1 ≤ n0:=by
    refine Classical.byContradiction fun h=>?_
    exact no_vars (by omega) r1.g hf1 t1 hv hneg
   have hm1 : 0 < m:=by obtain ⟨h,hh,_⟩:=hneg;omega
   have c_simplex_dictionary__forget:=S_simplex_dictionary__forget (b:=b3) (x:=x1) (p:=p'1) (left:=left'1) (art:=n0 + m) (N:=n0 + m + 1) (K:=szP' K m) r1.g (by omega) hf1 (art_out r1.g hf1 t1 hv).2 (by omega) (by omega) (by omega) (by omega) (by omega) (szP'_pos hK _) hsz (r1.size gs hK hb1 (by omega)) (by omega) (by omega)
   refine j_run it 1 rfl (by simp) ?_
   refine j_nf [_,_,_,_] rfl ?_
   refine j_run it 2 rfl (by simp) ?_
   refine j_nf [_,_,_] rfl ?_
   refine j_if rfl rfl (fun h3=>by exfalso;omega) (fun h3=>?_)
   refine j_nf [_,_,_,_] rfl ?_
   refine j_run it 2 rfl (by simp) ?_
   refine j_step rfl (x_field rfl fd65_5 ?_)
   refine j_step rfl (x_bld_agg 2 rfl rfl ld26 rfl rfl ?_)
   refine j_step rfl (x_call [6,7] rfl (S_rational_Sign) rfl ?_)
   rintro _ _ _ ⟨rfl,rfl,rfl⟩
   simp only [List.cons_append,List.nil_append]
   simp only [vq_rt']
   refine j_run it 1 rfl (by simp) ?_
   refine j_nf [_,_,_] rfl ?_
   refine j_if rfl rfl (fun h4=>by exfalso;omega) (fun h4=>?_)
   refine j_nf [_,_] rfl ?_
   refine j_run it 4 rfl ⟨⟨by omega,by omega⟩,trivial,trivial,trivial,trivial⟩ ?_
   refine j_step rfl (x_callA 2 [0,1,2,3,4,5,6,7] rfl rfl (c_simplex_dictionary__forget) rfl ?_)
   rintro _ _ _ ⟨x2,p21,left'2,rfl,h5,rfl,rfl⟩
   simp only [List.cons_append,List.nil_append]
   refine j_nf [_,_] rfl ?_
   refine j_run it 1 rfl (by simp) ?_
   refine j_step rfl (x_field rfl fd41_0 ?_)
   refine j_step rfl (x_bld 1 rfl rfl ld27 rfl ?_)
   have hF : ForgetE (n0 + m + 1) (n0 + m) p'1 p21 left'1 left'2:=by assumption
   obtain ⟨k1,k2,p9,j,rr,hff,hj,hos,rfl⟩:=hF
   have r9:=r1.trans rr
   have en9 : p9.n = n0 + 1:=r9.n
   refine j_to [24,0,1,2,3,4,5,6,7] (by exact fra rfl) rfl rfl (key x2 (dropP p9 j) left'2 (szP' K m) (drop_good rr.g hj hos) hff (drop_lin hj hos rr.g (rr.ties1 t1)) r9.m (by show p9.n - 1 = n0;omega) (szP'_pos hK _) hsz (r9.fr_bd gs hK hb1) (fun h k hh hk=>r9.rw_bd gs hK hb1 h _ hh (by have hk : k < p9.n - 1:=hk;split <;> omega)) (by omega) (by omega))
 ·have hall : ∀ h,h < m → 0 ≤ cvOf B h:=fun h hh=>by
   have hpos : posB (rl m (cvOf B)) = true:=hpos
   rw [posB,List.all_eq_true] at hpos
   have h1:=hpos (rt (cvOf B h)) (List.mem_map.2 ⟨h,List.mem_range.2 hh,rfl⟩)
   rw [decide_eq_true_eq] at h1
   have h2 : vq ((rt (cvOf B h)).1,(rt (cvOf B h)).2.1,(rt (cvOf B h)).2.2) = cvOf B h:=vq_rt' _
   rw [← h2];exact h1
  refine j_run it 1 rfl (by simp) ?_
  refine j_nf [_,_] rfl ?_
  refine j_false rfl rfl ?_
  refine j_nf [_,_] rfl ?_
  refine j_run it 1 rfl (by simp) ?_
  refine j_step rfl (x_field rfl fd41_0 ?_)
  refine j_step rfl (x_bld 1 rfl rfl ld27 rfl ?_)
  refine j_to [8,0,1,2,3,4,5,6,7] (by exact fra rfl) rfl rfl (key x (stP n0 m (mvOf M) (cvOf B)) (-1) K stP_good hall (fun x=>stP_lin x) rfl rfl hK (by omega) hBd hA (by decide) (by decide))
end Go.Proofs.YthahejfpdhcpiaaGreat
