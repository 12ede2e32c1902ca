/-
The document's Accept of certificates, Singleton's certificate, powers; fits and the example of the laws. Singleton's certificate, powers; fits and the example of the laws. The document's linear program of the bound. The program's own linear program of the bound. Bland's rule: no basis comes back. Dictionaries with places, and their pivots. Dictionaries by places are dictionaries over the variables; pivots by Bland's rule. A climb by Bland's rule ends: there are at most 2^N bases. What the ends of a climb say: an optimum with its prices, a ray, a proof that no point is feasible. The first phase: no feasible point; the artificial variable goes; the objective is set. The first dictionaries; the first pivot of the first phase; the artificial variable goes. The numbers of a dictionary are short: each basis is few pivots away from the first one, and says all numbers. The leaving variable; the end of a climb; the first phase is bounded. Quotients, nought and one of the layers rational and simplex. Rows of fractions by their numbers; replaced. Negatives of a row of one's own; the dictionary in memory. The pivot of a dictionary. The values of the first variables. Sums of fractions.
-/
import Derived.Test.YthahejfpdhcpiaaGreatHB5
set_option linter.unusedVariables false
set_option linter.unusedSimpArgs false
namespace Go.Proofs.YthahejfpdhcpiaaGreat
open Go Go.Fw
set_option maxRecDepth 100000
set_option linter.unusedVariables false
set_option linter.unusedSimpArgs false
set_option maxHeartbeats 4000000
theorem S_codewrightref36_AcceptN {q n d K : Nat} {pa : Option Addr} {nf ca : Nat} {f : List Rt} (hq : 2 ≤ q) (hq2 : q ≤ 256) (hn : n ≤ 64) (h5 : 1 ≤ d) (h6 : d ≤ n) (hK : 1 ≤ K) (hK2 : K ≤ 1000000) (hKn : (K + 18) * (n + 1) + 1 ≤ 16000081) (hf : ∀ r ∈ f,okR K r) {vr : Rt} {ve : Int} (hvr : accDR q n d f = vr) (hve : accDE q n d f = ve) :
  Ctr Tryz.prog 8 [.int .i64 q,.int .i64 n,.int .i64 d,.slice pa nf ca] [] [slF RatE pa nf ca f] (RtErr vr ve):=by
 subst hvr;subst hve
 refine Ctr_of_j' (F:=F_codewrightref36_Accept) rfl fun C=>?_
 refine j_len 0 rfl fun hn' hb _=>?_
 have hb' : f.length * 56 ≤ 140737488355328:=hb
 subst hn'
 have hi1 : InR .i64 (1 : Int):=by simp [InR]
 have no : ¬ accP q n d f → accDE q n d f = 13 ∧ accDR q n d f = (false,[],[]):=accD_no
 have c_codewrightref36_value:=fun {x : Nat} {pa : Option Addr} {nf ca : Nat} (hx : x ≤ n) (hl : f.length = n + 1)=>S_codewrightref36_valueN (q:=q) (n:=n) (x:=x) (pa:=pa) (nf:=nf) (ca:=ca) (f:=f) hq hq2 hn hx hK hK2 hKn hf hl
 by_cases hl : f.length = n + 1
 ·have z0:=okR_at hf (show 0 < f.length by omega)
  obtain ⟨y1,y2⟩:=z0.2.2
  obtain ⟨y3,y4⟩:=bd_len (bd_one (k:=1) (Nat.le_refl 1))
  rw [show (1 : Rat) = ((1 : Int) : Rat) from rfl] at y3 y4
  have e0 : vq ((f.getD 0 default).1,(f.getD 0 default).2.1,(f.getD 0 default).2.2) = fQ f 0:=rfl
  by_cases h0 : fQ f 0 = 1
  ·have hs : (vq ((f.getD 0 default).1,(f.getD 0 default).2.1,(f.getD 0 default).2.2) - ((1 : Int) : Rat)).num.sign = 0:=cmp_zero.2 (by rw [e0,h0];rfl)
   refine j_nf [_,_] rfl ?_
   refine j_step rfl (x_alloc zo26 fun b1=>?_)
   refine j_run it 1 rfl (by simp) ?_
   refine j_nf [_,_,_] rfl ?_
   (apply j_drawK it mx 13;(· rfl);(· rfl))
   (apply lxk_run 1;(· rfl);(· simp))
   (apply lxk_eq;(· rfl);(· exact d_x fun _=>x_len sl27 rfl dk_eq))
   (apply lxk_run 2;(· rfl);(· exact ⟨⟨by omega,by omega⟩,trivial,trivial⟩))
   (apply lxk_eq;(· rfl);(· exact d_x fun _=>x_falseN it rfl (by trivial) (by omega) dk_eq))
   (apply lxk_run 2;(· rfl);(· simp))
   (apply lxk_pt;(· rfl);(· exact d_x fun _=>x_idx 0 0 rfl rfl rfl sl27 (by omega) (by omega) fun z1 hz1 b2 o1=>(dk_ptD default hz1 0 rfl));intro b2 o1)
   (apply lxk_rq;(· rfl);(· exact d_x fun _=>x_ld_rt 0 rfl rfl ld26 fun pa1 ca1 pa2 ca2=>(dk_rq 0 1 rfl rfl));intro pn1 cn1 pd1 cd1)
   (apply lxk_rq;(· rfl);(· exact d_x fun _=>x_call [] rfl (S_codewrightref02_Int (by omega)) rfl (by rintro _ _ _ ⟨pn2,cn2,pd2,cd2,rfl,rfl,rfl⟩;exact (dk_rq 0 1 rfl rfl)));intro pn2 cn2 pd2 cd2)
   simp only [vq_rt']
   (apply lxk_eq;(· rfl);(· exact d_x fun _=>x_call [2,3,0,1] rfl (S_codewrightref02_Cmp (by omega) (by omega) (by omega) (by omega)) rfl (by rintro _ _ _ ⟨rfl,rfl,rfl⟩;exact dk_eq)))
   simp only [vq_rt']
   (apply lxk_eq;(· rfl);(· exact d_x fun _=>x_falseN it rfl (by trivial) (by omega) dk_eq))
   (apply lxk_run 1;(· rfl);(· simp))
   refine lxk_end rfl ?_
   simp only [List.map_cons,List.map_nil,List.cons_append,List.nil_append]
   refine j_nf [_,_] rfl ?_
   refine j_false rfl rfl ?_
   refine j_nf [_,_,_] rfl ?_
   refine j_run it 1 rfl (by simp) ?_
   refine j_nf [_,_,_] rfl ?_
   refine j_loopG (X:=Nat) [0,1,2,3,8] [0,1,2,3,4,5] (fun k=>[(10,.int .i64 k)]) (fun _=>[(some b1,26,[.bool false,.slice none 0 0,.slice none 0 0])]) (fun _=>[]) (fun k=>k ≤ f.length ∧ posB (f.take k) = true) (fun k=>f.length - k) 0 [] rfl rfl rfl ⟨Nat.zero_le _,rfl⟩ (by repeat (first | exact Fr.sub_nil _ | refine Fr.sub_cons rfl ?_)) rfl rfl ?_
   rintro j ⟨hj,hp⟩ ih
   simp only [List.cons_append,List.nil_append] at hj hp ih ⊢
   by_cases hjl : j < f.length
   ·have hzj:=getD_at hjl
    have zj:=okR_at hf hjl
    refine j_nf [_,_,_,_,_,_] rfl ?_
    refine j_run it 3 rfl (by simp) ?_
    refine j_nf [_,_,_,_,_] rfl ?_
    refine j_if rfl rfl (fun h1=>?_) (fun h1=>by exfalso;omega)
    refine j_nf [_,_,_,_,_,_,_] rfl ?_
    refine j_run it 2 rfl (by simp) ?_
    refine j_step rfl (x_idx 5 (j) rfl rfl rfl sl27 rfl (by omega) fun z1 hz1 b3 o2=>?_)
    refine j_step rfl (x_ld_rt 0 rfl rfl ld26 fun pa1 ca1 pa2 ca2=>?_) --ok
    obtain rfl : z1 = f.getD j default:=Option.some.inj ((by assumption : f[j]? = some z1).symm.trans hzj)
    obtain ⟨y5,y6⟩:=zj.2.2
    refine j_step rfl (x_call [0,1] rfl (S_codewrightref02_Sign (by omega) (by omega)) rfl ?_)
    rintro _ _ _ ⟨rfl,rfl,rfl⟩
    simp only [List.cons_append,List.nil_append]
    refine j_run it 1 rfl (by simp) ?_
    refine j_nf [_,_,_,_,_,_] rfl ?_
    refine j_if rfl rfl (fun h2=>?_) (fun h2=>?_)
    ·obtain ⟨e1,e2⟩:=no fun h=>by have:=h.2.2.1;rw [pos_stop hzj (by assumption)] at this;cases this
     rw [e1,e2]
     refine j_nf [_,_,_,_,_,_,_] rfl ?_
     refine j_step rfl (x_build (cs:=[Value.bool false,Value.slice none 0 0,Value.slice none 0 0]) st26 zo26 rfl rfl ?_)
     refine j_step rfl (x_bst_all 0 rfl rfl rfl ld26 rfl rfl (by simp [Value.oneCell']) ?_)
     refine j_run it 1 rfl (by simp) ?_
     refine j_nf [_,_,_,_,_,_] rfl ?_
     refine j_add (slF U32 none 0 0 []) (fun w A _=>slF_nil _ _ _ _ _) ?_
     refine j_givC [0,0] rfl (.agg 0 rfl rfl ld26 rfl (.tmp rfl .nil)) rfl ⟨_,_,_,_,rfl,rfl,rfl⟩
    ·refine j_nf [_,_,_,_] rfl ?_
     refine j_run it 3 rfl ⟨trivial,⟨by omega,by omega⟩,trivial,trivial⟩ ?_
     refine j_nfn 1 [.lp (pL 116),.blk 0,.c [1,1,1]] rfl ?_
     refine j_to [3,4,5,6,7,8] (by exact fra rfl) rfl rfl (ih (j + 1) (by omega) ⟨by omega,pos_step hzj hp (by assumption)⟩)
   ·obtain rfl : f.length = j:=by omega
    rw [List.take_length] at hp
    clear ih
    refine j_nf [_,_,_,_,_,_] rfl ?_
    refine j_run it 3 rfl (by simp) ?_
    refine j_nf [_,_,_,_,_] rfl ?_
    refine j_if rfl rfl (fun h1=>by exfalso;omega) (fun h1=>?_)
    refine j_nf [_,_,_] rfl ?_
    refine j_run it 2 rfl (by simp) ?_
    refine j_nf [_,_,_] rfl ?_
    refine j_loopG (X:=Nat) [0,1,3,8] [0,1,2,3,4,5] (fun i=>[(11,.int .i64 i)]) (fun _=>[(some b1,26,[.bool false,.slice none 0 0,.slice none 0 0])]) (fun _=>[]) (fun i=>d ≤ i ∧ i ≤ n + 1 ∧ ∀ i',d ≤ i' → i' < i → valF q n (fQ f) i' ≤ 0) (fun i=>n + 1 - i) d [] rfl rfl rfl ⟨Nat.le_refl _,by omega,fun i' h h'=>by omega⟩ (by repeat (first | exact Fr.sub_nil _ | refine Fr.sub_cons rfl ?_)) rfl rfl ?_
    rintro i ⟨hi1,hi2,hi3⟩ ih
    simp only [List.cons_append,List.nil_append] at hi1 hi2 hi3 ih ⊢
    by_cases hil : i ≤ n
    ·have hbv:=bd_mono (val_part_bd hq hq2 hn hil hK hf hl (n + 1) (Nat.le_refl _)) hKn
     obtain ⟨x1,x2⟩:=bd_len hbv
     have x1 : (rt (valF q n (fQ f) i)).2.1.length ≤ 16000081:=x1
     have x2 : (rt (valF q n (fQ f) i)).2.2.length ≤ 16000081:=x2
     refine j_nf [_,_,_,_,_,_] rfl ?_
     refine j_run it 3 rfl (by simp) ?_
     refine j_nf [_,_,_,_,_] rfl ?_
     refine j_if rfl rfl (fun h2=>?_) (fun h2=>by exfalso;omega)
     refine j_nf [_,_,_,_,_,_,_] rfl ?_
     refine j_run it 4 rfl (by simp) ?_
     refine j_step rfl (x_call [5] rfl (c_codewrightref36_value (by omega) (by omega)) rfl ?_)
     rintro _ _ _ ⟨pn3,cn3,pd3,cd3,rfl,rfl,rfl⟩
     simp only [List.cons_append,List.nil_append]
     refine j_step rfl (x_call [0,1] rfl (S_codewrightref02_Sign (by omega) (by omega)) rfl ?_)
     rintro _ _ _ ⟨rfl,rfl,rfl⟩
     simp only [List.cons_append,List.nil_append]
     simp only [vq_rt']
     refine j_run it 1 rfl (by simp) ?_
     refine j_nf [_,_,_,_,_,_] rfl ?_
     refine j_if rfl rfl (fun h3=>?_) (fun h3=>?_)
     ·have hp2 : 0 < valF q n (fQ f) i:=sign_pos.1 (by assumption)
      obtain ⟨e1,e2⟩:=no fun h=>Rat.not_lt.2 (h.2.2.2 i hi1 hil) hp2
      rw [e1,e2]
      refine j_nf [_,_,_,_,_,_,_] rfl ?_
      refine j_step rfl (x_build (cs:=[Value.bool false,Value.slice none 0 0,Value.slice none 0 0]) st26 zo26 rfl rfl ?_)
      refine j_step rfl (x_bst_all 0 rfl rfl rfl ld26 rfl rfl (by simp [Value.oneCell']) ?_)
      refine j_run it 1 rfl (by simp) ?_
      refine j_nf [_,_,_,_,_,_] rfl ?_
      refine j_add (slF U32 none 0 0 []) (fun w A _=>slF_nil _ _ _ _ _) ?_
      refine j_givC [0,0] rfl (.agg 0 rfl rfl ld26 rfl (.tmp rfl .nil)) rfl ⟨_,_,_,_,rfl,rfl,rfl⟩
     ·have hp2 : ¬ 0 < valF q n (fQ f) i:=fun h=>absurd (sign_pos.2 h) (by assumption)
      refine j_nf [_,_,_,_] rfl ?_
      refine j_run it 3 rfl ⟨trivial,⟨by omega,by omega⟩,trivial,trivial⟩ ?_
      refine j_nfn 1 [.lp (pL 244),.blk 2,.c [1,1,1,1]] rfl ?_
      refine j_to [2,3,4,5,6,7] (by exact fra rfl) rfl rfl (ih (i + 1) (by omega) ⟨by omega,by omega,fun i' a b=>by
       rcases Nat.lt_succ_iff_lt_or_eq.1 b with b | rfl
       ·exact hi3 i' a b
       ·exact Rat.not_lt.1 hp2⟩)
    ·obtain rfl : i = n + 1:=by omega
     obtain ⟨e1,e2⟩:=accD_yes (q:=q) (n:=n) (d:=d) (f:=f) ⟨hl,h0,hp,fun i' a b=>hi3 i' a (by omega)⟩
     rw [e1,e2]
     refine j_nf [_,_,_,_,_,_] rfl ?_
     refine j_run it 3 rfl (by simp) ?_
     refine j_nf [_,_,_,_,_] rfl ?_
     refine j_if rfl rfl (fun h2=>by exfalso;omega) (fun h2=>?_)
     refine j_nf [_,_] rfl ?_
     refine j_run it 3 rfl (by simp) ?_
     refine j_step rfl (x_call [5] rfl (c_codewrightref36_value (by simp) (by omega)) rfl ?_)
     rintro _ _ _ ⟨pn3,cn3,pd3,cd3,rfl,rfl,rfl⟩
     simp only [List.cons_append,List.nil_append]
     refine j_step rfl (x_bst_all 0 rfl rfl rfl ld26 rfl rfl (by simp [Value.oneCell']) ?_)
     refine j_run it 1 rfl (by simp) ?_
     refine j_nf [_] rfl ?_
     refine j_givC [0,1] rfl (.agg 0 rfl rfl ld26 rfl (.tmp rfl .nil)) rfl ⟨_,_,_,_,rfl,rfl,rfl⟩
  ·have hs : ¬ (vq ((f.getD 0 default).1,(f.getD 0 default).2.1,(f.getD 0 default).2.2) - ((1 : Int) : Rat)).num.sign = 0:=fun e=>h0 (by have:=cmp_zero.1 e;rw [e0] at this;exact this)
   obtain ⟨e1,e2⟩:=no fun h=>h0 h.2.1
   rw [e1,e2]
   refine j_nf [_,_] rfl ?_
   refine j_step rfl (x_alloc zo26 fun b1=>?_)
   refine j_run it 1 rfl (by simp) ?_
   refine j_nf [_,_,_] rfl ?_
   (apply j_drawK it mx 13;(· rfl);(· rfl))
   (apply lxk_run 1;(· rfl);(· simp))
   (apply lxk_eq;(· rfl);(· exact d_x fun _=>x_len sl27 rfl dk_eq))
   (apply lxk_run 2;(· rfl);(· exact ⟨⟨by omega,by omega⟩,trivial,trivial⟩))
   (apply lxk_eq;(· rfl);(· exact d_x fun _=>x_falseN it rfl (by trivial) (by omega) dk_eq))
   (apply lxk_run 2;(· rfl);(· simp))
   (apply lxk_pt;(· rfl);(· exact d_x fun _=>x_idx 0 0 rfl rfl rfl sl27 (by omega) (by omega) fun z1 hz1 b2 o1=>(dk_ptD default hz1 0 rfl));intro b2 o1)
   (apply lxk_rq;(· rfl);(· exact d_x fun _=>x_ld_rt 0 rfl rfl ld26 fun pa1 ca1 pa2 ca2=>(dk_rq 0 1 rfl rfl));intro pn1 cn1 pd1 cd1)
   (apply lxk_rq;(· rfl);(· exact d_x fun _=>x_call [] rfl (S_codewrightref02_Int (by omega)) rfl (by rintro _ _ _ ⟨pn2,cn2,pd2,cd2,rfl,rfl,rfl⟩;exact (dk_rq 0 1 rfl rfl)));intro pn2 cn2 pd2 cd2)
   simp only [vq_rt']
   (apply lxk_eq;(· rfl);(· exact d_x fun _=>x_call [2,3,0,1] rfl (S_codewrightref02_Cmp (by omega) (by omega) (by omega) (by omega)) rfl (by rintro _ _ _ ⟨rfl,rfl,rfl⟩;exact dk_eq)))
   simp only [vq_rt']
   (apply lxk_eq;(· rfl);(· exact d_x fun _=>x_trueN it rfl (by trivial) (by omega) dk_eq))
   (apply lxk_run 1;(· rfl);(· simp))
   refine lxk_end rfl ?_
   simp only [List.map_cons,List.map_nil,List.cons_append,List.nil_append]
   refine j_nf [_,_] rfl ?_
   refine j_true rfl rfl ?_
   refine j_nf [_,_,_] rfl ?_
   refine j_step rfl (x_build (cs:=[Value.bool false,Value.slice none 0 0,Value.slice none 0 0]) st26 zo26 rfl rfl ?_)
   refine j_step rfl (x_bst_all 0 rfl rfl rfl ld26 rfl rfl (by simp [Value.oneCell']) ?_)
   refine j_run it 1 rfl (by simp) ?_
   refine j_nf [_,_] rfl ?_
   refine j_add (slF U32 none 0 0 []) (fun w A _=>slF_nil _ _ _ _ _) ?_
   refine j_givC [0,0] rfl (.agg 0 rfl rfl ld26 rfl (.tmp rfl .nil)) rfl ⟨_,_,_,_,rfl,rfl,rfl⟩
 ·obtain ⟨e1,e2⟩:=no fun h=>hl h.1
  rw [e1,e2]
  refine j_nf [_,_] rfl ?_
  refine j_step rfl (x_alloc zo26 fun b1=>?_)
  refine j_run it 1 rfl (by simp) ?_
  refine j_nf [_,_,_] rfl ?_
  (apply j_drawK it mx 13;(· rfl);(· rfl))
  (apply lxk_run 1;(· rfl);(· simp))
  (apply lxk_eq;(· rfl);(· exact d_x fun _=>x_len sl27 rfl dk_eq))
  (apply lxk_run 2;(· rfl);(· exact ⟨⟨by omega,by omega⟩,trivial,trivial⟩))
  (apply lxk_eq;(· rfl);(· exact d_x fun _=>x_trueN it rfl (by trivial) (by omega) dk_eq))
  (apply lxk_run 6;(· rfl);(· simp))
  (apply lxk_run 2;(· rfl);(· simp))
  refine lxk_end rfl ?_
  simp only [List.map_cons,List.map_nil,List.cons_append,List.nil_append]
  refine j_nf [_,_] rfl ?_
  refine j_true rfl rfl ?_
  refine j_nf [_,_,_] rfl ?_
  refine j_step rfl (x_build (cs:=[Value.bool false,Value.slice none 0 0,Value.slice none 0 0]) st26 zo26 rfl rfl ?_)
  refine j_step rfl (x_bst_all 0 rfl rfl rfl ld26 rfl rfl (by simp [Value.oneCell']) ?_)
  refine j_run it 1 rfl (by simp) ?_
  refine j_nf [_,_] rfl ?_
  refine j_add (slF U32 none 0 0 []) (fun w A _=>slF_nil _ _ _ _ _) ?_
  refine j_givC [0,0] rfl (.agg 0 rfl rfl ld26 rfl (.tmp rfl .nil)) rfl ⟨_,_,_,_,rfl,rfl,rfl⟩
theorem S_codewrightref36_Accept {q n d : Nat} {pa : Option Addr} {nf ca : Nat} {f : List Rt} (hq : 2 ≤ q) (hq2 : q ≤ 256) (hn : n ≤ 64) (h5 : 1 ≤ d) (h6 : d ≤ n) (hf : ∀ r ∈ f,okR 17 r) {vr : Rt} {ve : Int} (hvr : accDR q n d f = vr) (hve : accDE q n d f = ve) :
  Ctr Tryz.prog 8 [.int .i64 q,.int .i64 n,.int .i64 d,.slice pa nf ca] [] [slF RatE pa nf ca f] (RtErr vr ve) :=
 S_codewrightref36_AcceptN (K:=17) hq hq2 hn h5 h6 (by decide) (by decide) (by omega) hf hvr hve
def fewK (r : Rt) : Bool:=decide (r.2.1.length + r.2.2.length ≤ 8)
def fitsF (f : List Rt) : Bool:=f.all fewK && decide (f.length ≤ 20)
theorem allB_stop {α : Type} {L : List α} {k : Nat} {z : α} {f : α → Bool} (hz : L[k]? = some z) (h : f z = false) : L.all f = false:=by
 rw [List.all_eq_false];exact ⟨z,List.mem_of_getElem? hz,by simp [h]⟩
theorem allB_step {α : Type} {L : List α} {k : Nat} {z : α} {f : α → Bool} (hz : L[k]? = some z) (h : (L.take k).all f = true) (hf : f z = true) : (L.take (k + 1)).all f = true:=by
 rw [List.take_add_one,hz,List.all_append,h];simp [hf]
theorem rts_lens {P : Program} {F : Fun P} {C : Cx} {S : List It} {σ : Fr} {β : List Blk} {Γ : List Fact} {R : Value → World → Prop} {pa : Option Addr} {n ca : Nat} {ls : List Rt} (k : Nat) (hk : nth Γ k = some (slF RatE pa n ca ls))
  (h : (∀ r ∈ ls,r.2.1.length ≤ 35184372088832 ∧ r.2.2.length ≤ 35184372088832) → J F C S σ β Γ R) : J F C S σ β Γ R :=
 j_know (fun w A hG r hr=>by
  obtain ⟨_,_,_,hs⟩:=hG _ (fact_mem hk)
  rcases hs with rfl | ⟨b,o,_,_,hel⟩
  ·cases hr
  ·obtain ⟨i,hi⟩:=List.getElem?_of_mem hr
   obtain ⟨vs,_,hrd⟩:=hel i r hi
   obtain ⟨_,_,_,_,_,h1,h2⟩:=rt_open hrd
   have k1 : r.2.1.length * 4 ≤ 140737488355328:=h1.2.1
   have k2 : r.2.2.length * 4 ≤ 140737488355328:=h2.2.1
   omega) h
theorem S_codewrightlaw36_fits {pa : Option Addr} {n ca : Nat} {f : List Rt} {res : Bool} (hres : fitsF f = res) : Ctr Tryz.prog 11 [.slice pa n ca] [] [slF RatE pa n ca f] (Rv (.bool res) []):=by
 subst hres
 refine Ctr_of_j' (F:=F_codewrightlaw36_fits) rfl fun C=>?_
 refine j_len 0 rfl fun hn hb _=>?_
 have hb' : f.length * 56 ≤ 140737488355328:=hb
 subst hn
 refine rts_lens 0 rfl fun hlen=>?_
 refine j_nf [_,_] rfl ?_
 refine j_run it 1 rfl (by simp) ?_
 refine j_nf [_,_,_] rfl ?_
 refine j_run it 1 rfl (by simp) ?_
 refine j_nf [_,_,_] rfl ?_
 refine j_loopG (X:=Nat) [0] [0] (fun k=>[(3,.int .i64 k)]) (fun _=>[]) (fun _=>[]) (fun k=>k ≤ f.length ∧ (f.take k).all fewK = true) (fun k=>f.length - k) 0 [] rfl rfl rfl ⟨Nat.zero_le _,rfl⟩ (by repeat (first | exact Fr.sub_nil _ | refine Fr.sub_cons rfl ?_)) rfl rfl ?_
 rintro k ⟨hk,hp⟩ ih
 simp only [List.cons_append,List.nil_append] at hk hp ih ⊢
 by_cases hkl : k < f.length
 ·have hz:=getD_at hkl
  obtain ⟨l1,l2⟩:=hlen _ (List.mem_of_getElem? hz)
  refine j_nf [_,_,_,_,_,_] rfl ?_
  refine j_run it 2 rfl (by simp) ?_
  refine j_step rfl (x_len sl27 rfl ?_)
  refine j_run it 1 rfl (by simp) ?_
  refine j_nf [_,_,_,_,_] rfl ?_
  refine j_if rfl rfl (fun h1=>?_) (fun h1=>by exfalso;omega)
  refine j_nf [_,_,_,_,_,_,_] rfl ?_
  (apply j_drawK it mx 14;(· rfl);(· rfl))
  (apply lxk_run 2;(· rfl);(· simp))
  (apply lxk_pt;(· rfl);(· exact d_x fun _=>x_idx 0 (k) rfl rfl rfl sl27 rfl (by omega) fun z1 hz1 b1 o1=>(dk_ptD default hz1 0 rfl));intro b1 o1)
  (apply lxk_pt;(· rfl);(· exact d_x fun _=>x_field_rt rfl fd26_1 (fun w A hG=>rt_f1 (hG _ (fact_mem (n:=0) rfl))) (dk_pt 0 rfl));intro b2 o2)
  (apply lxk_sl;(· rfl);(· exact d_x fun _=>x_ld_sl 0 rfl rfl ld24 fun pa1 ca1=>(dk_sl 0 rfl));intro pa1 ca1)
  (apply lxk_eq;(· rfl);(· exact d_x fun _=>x_len sl24 rfl dk_eq))
  (apply lxk_run 2;(· rfl);(· simp))
  (apply lxk_pt;(· rfl);(· exact d_x fun _=>x_idx 0 (k) rfl rfl rfl sl27 rfl (by omega) fun z1 hz1 b3 o3=>(dk_ptD default hz1 0 rfl));intro b3 o3)
  (apply lxk_pt;(· rfl);(· exact d_x fun _=>x_field_rt rfl fd26_2 (fun w A hG=>rt_f2 (hG _ (fact_mem (n:=0) rfl))) (dk_pt 0 rfl));intro b4 o4)
  (apply lxk_sl;(· rfl);(· exact d_x fun _=>x_ld_sl 0 rfl rfl ld24 fun pa2 ca2=>(dk_sl 0 rfl));intro pa2 ca2)
  (apply lxk_eq;(· rfl);(· exact d_x fun _=>x_len sl24 rfl dk_eq))
  (apply lxk_run 2;(· rfl);(· exact ⟨trivial,⟨by omega,by omega⟩,trivial⟩))
  refine lxk_end rfl ?_
  simp only [List.map_cons,List.map_nil,List.cons_append,List.nil_append]
  refine j_nf [_,_,_,_,_,_] rfl ?_
  refine j_if rfl rfl (fun h2=>?_) (fun h2=>?_)
  ·rw [fitsF,allB_stop hz (by rw [fewK];refine decide_eq_false ?_;omega),Bool.false_and]
   refine j_nf [_,_,_,_,_,_,_] rfl ?_
   refine j_run it 1 rfl (by simp) ?_
   refine j_nf [_,_,_,_,_,_] rfl ?_
   refine j_giv [] rfl rfl rfl ⟨rfl,rfl,rfl⟩
  ·refine j_nf [_,_,_,_] rfl ?_
   refine j_run it 3 rfl ⟨trivial,⟨by omega,by omega⟩,trivial,trivial⟩ ?_
   refine j_nfn 1 [.lp [1,0,1,0,0],.blk 0,.c [1,1]] rfl ?_
   refine j_to [6] (by exact fra rfl) rfl rfl (ih (k + 1) (by omega) ⟨by omega,allB_step hz hp (by rw [fewK];refine decide_eq_true ?_;omega)⟩)
 ·obtain rfl : f.length = k:=by omega
  rw [List.take_length] at hp
  have e : fitsF f = decide ((f.length : Int) ≤ 20):=by
   rw [fitsF,hp,Bool.true_and]
   by_cases h : f.length ≤ 20
   ·rw [decide_eq_true h,decide_eq_true (by omega)]
   ·rw [decide_eq_false h,decide_eq_false (by omega)]
  rw [e]
  refine j_nf [_,_,_,_,_,_] rfl ?_
  refine j_run it 2 rfl (by simp) ?_
  refine j_step rfl (x_len sl27 rfl ?_)
  refine j_run it 1 rfl (by simp) ?_
  refine j_nf [_,_,_,_,_] rfl ?_
  refine j_if rfl rfl (fun h1=>by exfalso;omega) (fun h1=>?_)
  refine j_nf [_,_] rfl ?_
  refine j_run it 1 rfl (by simp) ?_
  refine j_step rfl (x_len sl27 rfl ?_)
  refine j_run it 2 rfl (by simp) ?_
  refine j_nf [_] rfl ?_
  refine j_giv [] rfl rfl rfl ⟨rfl,rfl,rfl⟩
theorem fits_ok {f : List Rt} (h : fitsF f = true) (hr : ∀ r ∈ f,(∀ x ∈ r.2.1,x < 4294967296) ∧ (∀ x ∈ r.2.2,x < 4294967296)) : ∀ r ∈ f,okR 17 r:=fun r hm=>by
 rw [fitsF,Bool.and_eq_true] at h
 have:=of_decide_eq_true (List.all_eq_true.1 h.1 r hm)
 exact ⟨(hr r hm).1,(hr r hm).2,by omega,by omega⟩
def pgC (n d : Nat) : List Rt:=List.replicate (n + 1 - d) (rt 1)
def pgRow (q n d k : Nat) : List Rt:=(List.range (n + 1 - d)).map fun i=>rt (-((kr ((q : Int) - 1) n (k + 1) (d + i) : Int) : Rat))
def pgA (q n d : Nat) : List (List Rt):=(List.range n).map (pgRow q n d)
def pgB (q n : Nat) : List Rt:=(List.range n).map fun k=>rt ((kr ((q : Int) - 1) n (k + 1) 0 : Int) : Rat)
abbrev LinGE (C : List Rt) (M : List (List Rt)) (B : List Rt) (e : Int) : Value → List Fact → List Blk → Prop:=fun v Φ β=>∃ p1 c1 p2 c2 p3 c3,v = .tuple #[.agg #[.slice p1 C.length c1,.slice p2 M.length c2,.slice p3 B.length c3],.int .i64 e] ∧ Φ = [slF RatE p1 C.length c1 C,slF (encSl RatE) p2 M.length c2 M,slF RatE p3 B.length c3 B] ∧ β = []
def pgQ (q n d : Nat) (i j : Nat) (k : Nat) : List Rt:=(List.range (if k < j then i + 1 else i)).map fun i'=>rt (-((kr ((q : Int) - 1) n (k + 1) (d + i') : Int) : Rat))
theorem pgQ_next (q n d i k : Nat) {x : Rt} (hx : x = rt (-((kr ((q : Int) - 1) n (k + 1) (d + i) : Int) : Rat))) : pgQ q n d i k k++[x] = pgQ q n d i (k + 1) k:=by
 subst hx
 rw [pgQ,pgQ,if_neg (by omega),if_pos (by omega),List.range_succ,List.map_append];rfl
theorem pgQ_upd (q n d i k : Nat) : upd (pgQ q n d i k) k (pgQ q n d i (k + 1) k) = pgQ q n d i (k + 1):=by
 funext j
 by_cases h : j = k
 ·subst h;rw [upd_self]
 ·rw [upd_ne h,pgQ,pgQ]
  by_cases h2 : j < k
  ·rw [if_pos h2,if_pos (by omega)]
  ·rw [if_neg h2,if_neg (by omega)]
theorem S_delsarte_Program {q n d : Nat} (hq : 2 ≤ q) (hq2 : q ≤ 256) (hn : n ≤ 64) (h5 : 1 ≤ d) (h6 : d ≤ n) : Ctr Tryz.prog 14 [.int .i64 q,.int .i64 n,.int .i64 d] [] [] (LinGE (pgC n d) (pgA q n d) (pgB q n) 0):=by
 refine Ctr_of_j' (F:=F_delsarte_Program) rfl fun C=>?_
 have hrg : decide (rangeP q n d) = !false:=decide_eq_true ⟨by omega,by omega,by omega,by omega,by omega,by omega⟩
 refine j_nf [_,_] rfl ?_
 refine j_step rfl (x_alloc zo41 fun b1=>?_)
 refine j_run it 1 rfl (by simp) ?_
 refine j_nf [_,_,_] rfl ?_
 refine j_run it 3 rfl (by simp) ?_
 refine j_step rfl (x_call [] rfl (S_delsarte_wrong (by omega)) rfl ?_)
 rintro _ _ _ ⟨rfl,rfl,rfl⟩
 simp only [List.cons_append,List.nil_append]
 refine j_nf [_,_] rfl ?_
 refine j_false rfl rfl ?_
 refine j_nf [_,_] rfl ?_
 (apply j_drawK it mx 8;(· rfl);(· rfl))
 (apply lxk_run 2;(· rfl);(· simp))
 (apply lxk_sl;(· rfl);(· exact d_x fun _=>x_call [] rfl (S_delsarte_column (by omega) (by omega) (by omega) (by simp)) rfl (by rintro _ _ _ ⟨pa1,ca1,rfl,rfl,rfl⟩;exact (dk_sl 0 rfl)));intro pa1 ca1)
 (apply lxk_sl;(· rfl);(· exact d_x fun _=>x_slice_l 0 1 rfl rfl rfl sl27 (by omega) (by omega) fun pa2=>(dk_sl 0 rfl));intro pa2 ca2)
 (apply lxk_run 1;(· rfl);(· simp))
 (apply lxk_make (n) _;(· rfl);(· rfl);(· rfl);(· exact sl39);(· exact zo39e);(· rfl);(· rfl);(· exact by39e);(· rfl);(· omega);(· omega);intro b2)
 (apply lxk_pv [20,22] (fun vs=>Value.agg ((fillL ([(0,1),(1,1),(2,1)]) ([Value.slice none 0 0,Value.slice none 0 0,Value.slice none 0 0]) [(2,cellsL (vs.getD 0 undef)),(1,cellsL (vs.getD 1 undef))]).getD []).toArray) (v:=Value.agg #[Value.slice none 0 0,Value.slice (some { block:=b2,off:=0 }) n n,Value.slice pa2 (n + 1 - 1) ca2]);(· rfl);(· rfl);(· rfl);(· rfl);(· exact d_x fun _=>x_build (cs:=[Value.slice none 0 0,Value.slice (some { block:=b2,off:=0 }) n n,Value.slice pa2 (n + 1 - 1) ca2]) st41 zo41 rfl rfl dk_eq))
 (apply lxk_alloc;(· rfl);(· exact zo41);intro b3)
 refine lxk_end rfl ?_
 simp only [List.map_cons,List.map_nil,List.cons_append,List.nil_append]
 refine j_step rfl (x_bst_all 0 rfl rfl rfl ld41 rfl rfl (by simp [Value.oneCell']) ?_)
 refine j_nf [_,_,_] rfl ?_
 refine j_run it 2 rfl (by simp) ?_
 refine j_nf [_,_,_] rfl ?_
 refine j_hd0 1 rfl (by omega) fun csA=>?_
 refine j_famNil RatE 26 n ?_
 refine j_row0 RatE 26 ?_
 simp only [setB,List.cons_append,List.nil_append]
 rw [show (d : Int) = ((d + 0 : Nat) : Int) from rfl]
 rw [show matF RatE (fun _=>((none,0,0) : Hd)) (fun _=>[]) (fun _=>([] : List Rt)) n [] = matF RatE (fun _=>((none,0,0) : Hd)) (fun _=>[]) (pgQ q n d 0 0) n [] from rfl]
 refine j_loopG (X:=Nat × Row × List Value × (Nat → Hd) × (Nat → List Value)) [0,1,6,7,8] [3] (fun x=>[(9,.int .i64 ((d + x.1 : Nat) : Int))])
  (fun x=>(x.2.1.bo,26,x.2.1.cs)::(some b3,41,[.slice (ad x.2.1.bo) x.1 x.2.1.cap,.slice (some ⟨b2,0,none⟩) n n,.slice pa2 (n + 1 - 1) ca2])::(some b2,27,x.2.2.1)::(some b1,41,[.slice none 0 0,.slice none 0 0,.slice none 0 0])::famB 26 x.2.2.2.1 x.2.2.2.2 n [])
  (fun x=>[rowF RatE x.2.1 x.1 (List.replicate x.1 (rt 1)),rowF hdE ⟨some b2,n,x.2.2.1⟩ n (hdl x.2.2.2.1 n),matF RatE x.2.2.2.1 x.2.2.2.2 (pgQ q n d x.1 0) n []])
  (fun x=>x.1 ≤ n + 1 - d) (fun x=>n + 1 - d - x.1) (0,⟨none,0,[]⟩,csA,fun _=>(none,0,0),fun _=>[]) [0,2,1] rfl rfl rfl (Nat.zero_le _) (by repeat (first | exact Fr.sub_nil _ | refine Fr.sub_cons rfl ?_)) rfl rfl ?_
 rintro ⟨i,rC,cA,hd,cs⟩ hi ih
 simp only [List.cons_append,List.nil_append] at hi ih ⊢
 by_cases hil : i < n + 1 - d
 ·refine j_nf [_,_,_,_,_,_] rfl ?_
  refine j_run it 3 rfl (by simp) ?_
  refine j_nf [_,_,_,_,_] rfl ?_
  refine j_if rfl rfl (fun h1=>?_) (fun h1=>by exfalso;omega)
  refine j_nf [_,_,_,_,_,_,_] rfl ?_
  (apply j_drawK it mx 4;(· rfl);(· rfl))
  (apply lxk_eq;(· rfl);(· exact d_x fun _=>x_field rfl fd41_0 dk_eq))
  (apply lxk_eq;(· rfl);(· exact d_bld 1 rfl rfl ld27 rfl))
  (apply lxk_rq;(· rfl);(· exact d_x fun _=>x_call [] rfl (S_delsarte_one) rfl (by rintro _ _ _ ⟨pn1,cn1,pd1,cd1,rfl,rfl,rfl⟩;exact (dk_rq 0 1 rfl rfl)));intro pn1 cn1 pd1 cd1)
  (apply lxk_sl;(· rfl);(· exact d_x fun _=>x_lit sl27 zo27e rfl rfl rfl rfl (by decide) (by decide) rfl fun b4=>dk_all (E:=RatE) [[Value.bool (false,[1],[1]).fst,Value.slice pn1 (false,[1],[1]).snd.fst.length cn1,Value.slice pd1 (false,[1],[1]).snd.snd.length cd1]] [((false,[1],[1]).fst,(false,[1],[1]).snd.fst,(false,[1],[1]).snd.snd)] (fun w A hG=>(allrd_cons (rd_rt (hG _ (fact_mem (n:=0) rfl)) (hG _ (fact_mem (n:=1) rfl))) allrd_nil)) rfl rfl rfl (by first | decide | exact Nat.le_of_ble_eq_true rfl));intro pa3 ca3)
  refine lxk_end rfl ?_
  simp only [List.map_cons,List.map_nil,List.cons_append,List.nil_append]
  refine j_step rfl (x_appS 0 3 0 rfl rfl rfl rfl rfl sl27 zo27e rfl (by omega) _ by27e (by omega) fun r1=>?_)
  refine j_step rfl (x_field rfl fd41_0 ?_)
  refine j_step rfl (x_bst1 1 rfl rfl rfl rfl ld27 rfl (Nat.le_of_ble_eq_true rfl) ?_)
  refine j_nf [_,_,_,_,_,_,_] rfl ?_
  refine j_run it 3 rfl (by simp) ?_
  refine j_step rfl (x_call [] rfl (S_delsarte_column (by omega) (by omega) (by omega) (by omega)) rfl ?_)
  rintro _ _ _ ⟨pa4,ca4,rfl,rfl,rfl⟩
  simp only [List.cons_append,List.nil_append]
  refine j_step rfl (x_slice_l 0 1 rfl rfl rfl sl27 (by omega) (by omega) fun pa5=>?_)
  refine j_step rfl (x_len sl27 rfl ?_)
  refine j_run it 1 rfl (by simp) ?_
  refine j_nf [_,_,_,_,_,_,_] rfl ?_
  rw [show List.replicate i (rt 1)++[((false,[1],[1]) : Rt)] = List.replicate (i + 1) (rt 1) by rw [← rt_one];exact List.replicate_succ'.symm]
  refine j_loopG (X:=Nat × List Value × (Nat → Hd) × (Nat → List Value)) [0,1,6,7,8,9,25,26,27,30,31,32,33,34,35,36,37,38,39,40,41] [2,0,9] (fun x=>[(42,.int .i64 (x.1 : Int))])
   (fun x=>(r1.bo,26,r1.cs)::(some b3,41,[.slice (ad r1.bo) (i + 1) r1.cap,.slice (some ⟨b2,0,none⟩) n n,.slice pa2 (n + 1 - 1) ca2])::(some b2,27,x.2.1)::(some b1,41,[.slice none 0 0,.slice none 0 0,.slice none 0 0])::famB 26 x.2.2.1 x.2.2.2 n [])
   (fun x=>[rowF hdE ⟨some b2,n,x.2.1⟩ n (hdl x.2.2.1 n),matF RatE x.2.2.1 x.2.2.2 (pgQ q n d i x.1) n []])
   (fun x=>x.1 ≤ n) (fun x=>n - x.1) (0,cA,hd,cs) [7,8] rfl rfl rfl (Nat.zero_le _) (by repeat (first | exact Fr.sub_nil _ | refine Fr.sub_cons rfl ?_)) rfl rfl ?_
  rintro ⟨k,cA,hd,cs⟩ hk ihk
  simp only [List.cons_append,List.nil_append] at hk ihk ⊢
  by_cases hkl : k < n
  ·refine j_hdlen 1 rfl fun hlen=>?_
   have hN : (hd k).2.1 = i:=by rw [hlen k hkl rfl];simp [pgQ]
   refine j_focusL 4 (k) 1 (i) rfl rfl (by first | assumption | omega) (by first | rfl | assumption | (simp [memB_cons,memB];done) | (simp [memB_cons,memB];omega)) (by first | assumption | omega) fun r2 hr1=>?_
   simp only [List.take_succ_cons,List.take_zero,List.cons_append,List.nil_append]
   have hx : d + i ≤ n:=by omega
   obtain ⟨y1,y2⟩:=(kr_ok (k:=k + 1) hq hq2 hn hx).2.2
   have hzk : (List.drop 1 (colK q n (d + i)))[k]? = some (rt ((kr ((q : Int) - 1) n (k + 1) (d + i) : Int) : Rat)):=by
    rw [List.getElem?_drop,colK,List.getElem?_map,List.getElem?_range (by omega),Nat.add_comm 1 k];rfl
   refine j_nf [_,_,_,_,_,_,_,_,_] rfl ?_
   refine j_run it 1 rfl (by simp) ?_
   refine j_nf [_,_,_,_,_,_,_,_,_] rfl ?_
   refine j_if rfl rfl (fun h2=>?_) (fun h2=>by exfalso;omega)
   refine j_nf [_,_,_,_,_,_,_,_,_,_,_] rfl ?_
   refine j_run it 1 rfl (by simp) ?_
   refine j_step rfl (x_idx 5 (k) rfl rfl rfl sl27 rfl (by omega) fun z1 hz1 b4 o1=>?_)
   refine j_step rfl (x_ld_rt 0 rfl rfl ld26 fun pa6 ca5 pa7 ca6=>?_)
   refine j_step rfl (x_alloc zo26 fun b5=>?_)
   refine j_run it 1 rfl (by simp) ?_
   refine j_step rfl (x_bst_all 0 rfl rfl rfl ld26 rfl rfl (by simp [Value.oneCell']) ?_)
   refine j_nf [_,_,_,_,_,_,_,_,_,_] rfl ?_
   (refine j_selT 6 [1,0,2,3,4,5] rfl rfl ?_;apply j_drawKB it mx 1 12;(· rfl);(· rfl);(· rfl))
   (apply lxk_eq;(· rfl);(· exact d_x fun _=>x_field rfl fd41_1 dk_eq))
   (apply lxk_eq;(· rfl);(· exact d_bld 2 rfl rfl ld39 rfl))
   (apply lxk_run 1;(· rfl);(· simp))
   (apply lxk_eq;(· rfl);(· exact d_x fun _=>x_field rfl fd41_1 dk_eq))
   (apply lxk_eq;(· rfl);(· exact d_bld 2 rfl rfl ld39 rfl))
   (apply lxk_run 1;(· rfl);(· simp))
   (apply lxk_eq;(· rfl);(· exact d_x fun _=>x_idx_own (k) (k) rfl rfl sl39 rfl (by omega) (Nat.mul_one _) dk_eq))
   (apply lxk_eq;(· rfl);(· exact d_ldR_hd 3 5 (k) rfl rfl rfl ld27 rfl (by assumption)))
   dsimp only
   (apply lxk_eq;(· rfl);(· exact d_bld_all 0 rfl rfl ld26 rfl)) --ok
   obtain rfl : z1 = rt ((kr ((q : Int) - 1) n (k + 1) (d + i) : Int) : Rat):=Option.some.inj ((by assumption : (List.drop 1 (colK q n (d + i)))[k]? = some z1).symm.trans hzk)
   (apply lxk_rq;(· rfl);(· exact d_x fun _=>x_call [0,1] rfl (S_rational_Neg (by omega) (by omega)) rfl (by rintro _ _ _ ⟨pn2,cn2,pd2,cd2,rfl,rfl,rfl⟩;exact (dk_rq 0 1 rfl rfl)));intro pn2 cn2 pd2 cd2)
   simp only [vq_rt']
   (apply lxk_sl;(· rfl);(· exact d_x fun _=>x_lit sl27 zo27e rfl rfl rfl rfl (by decide) (by decide) rfl fun b6=>dk_all (E:=RatE) [[Value.bool (rt (-↑(kr (↑q - 1) n (k + 1) (d + i)))).fst,Value.slice pn2 (rt (-↑(kr (↑q - 1) n (k + 1) (d + i)))).snd.fst.length cn2,Value.slice pd2 (rt (-↑(kr (↑q - 1) n (k + 1) (d + i)))).snd.snd.length cd2]] [((rt (-↑(kr (↑q - 1) n (k + 1) (d + i)))).fst,(rt (-↑(kr (↑q - 1) n (k + 1) (d + i)))).snd.fst,(rt (-↑(kr (↑q - 1) n (k + 1) (d + i)))).snd.snd)] (fun w A hG=>(allrd_cons (rd_rt (hG _ (fact_mem (n:=0) rfl)) (hG _ (fact_mem (n:=1) rfl))) allrd_nil)) rfl rfl rfl (by first | decide | exact Nat.le_of_ble_eq_true rfl));intro pa8 ca7)
   (apply lxk_app (m:=1) 6 0;(· rfl);(· rfl);(· rfl);(· rfl);(· rfl);(· exact sl27);(· exact zo27e);(· rfl);(· (first | omega | (simp;done)));(· (first | omega | (simp only [List.length_cons,List.length_nil];omega)));(· exact by27e);(· (first | omega | (simp only [List.length_cons,List.length_nil];omega)));intro b6 cap1 cs1)
   refine lxk_end rfl ?_
   simp only [List.map_cons,List.map_nil,List.cons_append,List.nil_append]
   refine j_step rfl (x_idx_own (k) (k) rfl rfl sl39 rfl (by omega) (Nat.mul_one _) ?_)
   refine j_step rfl (x_stR (vs:=[Value.slice (some { block:=b6,off:=0 }) (i + 1) cap1]) (z:=(some b6,i + 1,cap1)) 4 9 (k) rfl rfl rfl rfl rfl ld27 (Nat.mul_one _).symm (by omega) (fun w A hG=>(rd_hd (some _) _ _)) fun cs2=>?_)
   refine j_nf [_,_,_,_,_,_,_,_] rfl ?_
   refine j_run it 2 rfl ⟨trivial,⟨by omega,by omega⟩,trivial⟩ ?_
   refine j_nfn 1 [.lp (pL 31308),.blk 2,.blk 1,.c (pL 979),.lp (pL 244),.blk 0,.c [1,1,1,1]] rfl ?_
   rw [hdl_set,pgQ_next q n d i k rfl]
   refine j_unfocusL 5 (k) 0 1 9 rfl rfl rfl rfl (by first | assumption | omega) (by first | rfl | assumption | (simp [memB_cons,memB];done) | (simp [memB_cons,memB];omega)) ?_
   simp only [List.eraseIdx_cons_zero,List.eraseIdx_cons_succ,List.take_succ_cons,List.take_zero,List.cons_append,List.nil_append]
   rw [pgQ_upd]
   refine j_toXT 5 [1,2,3,4] [1,0,13,14,15] (by exact fra rfl) rfl rfl rfl rfl (ihk (k + 1,cs2,upd hd k (some b6,i + 1,cap1),upd cs k cs1) (by dsimp only;omega) (by dsimp only;omega))
  ·obtain rfl : n = k:=by omega
   refine j_nf [_,_,_,_,_,_,_,_,_] rfl ?_
   refine j_run it 1 rfl (by simp) ?_
   refine j_nf [_,_,_,_,_,_,_,_,_] rfl ?_
   refine j_if rfl rfl (fun h2=>by exfalso;omega) (fun h2=>?_)
   refine j_nf [_,_,_,_] rfl ?_
   refine j_run it 3 rfl ⟨trivial,⟨by omega,by omega⟩,trivial,trivial⟩ ?_
   refine j_nfn 1 [.lp (pL 244),.blk 0,.c [1,1,1,1]] rfl ?_
   refine j_matCongr (pgQ q n d (i + 1) 0) 1 rfl (fun k hk=>by rw [pgQ,pgQ,if_pos hk,if_neg (by omega)]) ?_
   refine j_to [3,1,0,5] (by exact fra rfl) rfl rfl (ih (i + 1,r1,cA,hd,cs) (by dsimp only;omega) (by dsimp only;omega))
 ·obtain rfl : i = n + 1 - d:=by omega
  clear ih
  refine j_nf [_,_,_,_,_,_] rfl ?_
  refine j_run it 3 rfl (by simp) ?_
  refine j_nf [_,_,_,_,_] rfl ?_
  refine j_if rfl rfl (fun h1=>by exfalso;omega) (fun h1=>?_)
  refine j_nf [_,_] rfl ?_
  refine j_step rfl (x_bld_all 1 rfl rfl ld41 rfl ?_)
  refine j_step rfl (x_bst_all 3 rfl rfl rfl ld41 rfl rfl (by simp [Value.oneCell']) ?_)
  refine j_run it 1 rfl (by simp) ?_
  refine j_nf [_] rfl ?_
  refine j_hdlen 2 rfl fun hlen=>?_
  simp only [setB]
  refine j_pubFamL 4 2 1 2 rfl rfl rfl rfl (fun i hi=>by rw [hlen i hi rfl];show ((List.range _).map _).length * 56 ≤ _;rw [List.length_map,List.length_range];split <;> omega) ?_
  simp only [List.take_succ_cons,List.take_zero]
  refine j_pubRb 2 0 rfl rfl (by show n * 24 ≤ 140737488355328;omega) ?_
  refine j_pubR 0 2 rfl rfl (by show (n + 1 - d) * 56 ≤ 140737488355328;omega) ?_
  simp only [List.eraseIdx_cons_zero,List.eraseIdx_cons_succ]
  have e1 : (pgC n d).length = n + 1 - d:=by simp [pgC]
  have e2 : (pgA q n d).length = n:=by simp [pgA]
  have e3 : (pgB q n).length = n:=by simp [pgB]
  have e4 : List.drop 1 (colK q n 0) = pgB q n:=by
   refine List.ext_getElem? fun k=>?_
   rw [List.getElem?_drop,colK,pgB,List.getElem?_map,List.getElem?_map]
   by_cases hk : k < n
   ·rw [List.getElem?_range (by omega),List.getElem?_range hk,Nat.add_comm];rfl
   ·rw [List.getElem?_eq_none (by simp;omega),List.getElem?_eq_none (by simp;omega)];rfl
  have e5 : (List.range n).map (pgQ q n d (n + 1 - d) 0) = pgA q n d:=List.map_congr_left fun k _=>by rw [pgQ,if_neg (Nat.not_lt_zero _)];rfl
  rw [e4,e5,Nat.add_sub_cancel]
  refine j_givC [0,1,6] rfl (.agg 1 rfl rfl ld41 rfl (.tmp rfl .nil)) rfl ⟨_,_,_,_,_,_,by rw [e1,e2,e3];rfl,by rw [e1,e2,e3];rfl,rfl⟩
structure Dic where
 B : Nat → Bool
 A : Nat → Nat → Rat
 b : Nat → Rat
 c : Nat → Rat
 v : Rat
def Sol (N : Nat) (D : Dic) (x : Nat → Rat) (z : Rat) : Prop:=(∀ r,r < N → D.B r = true → x r = D.b r - rs N (fun j=>D.A r j * x j)) ∧ z = D.v + rs N (fun j=>D.c j * x j)
structure Dic.Ok (N : Nat) (D : Dic) : Prop where
 A0 : ∀ r j,j < N → D.B j = true → D.A r j = 0
 c0 : ∀ j,j < N → D.B j = true → D.c j = 0
 pos : ∀ r,r < N → D.B r = true → 0 ≤ D.b r
def vl (D : Dic) (r : Nat) : Rat:=if D.B r = true then D.b r else 0
theorem vl_pos {N : Nat} {D : Dic} (h : D.Ok N) {r : Nat} (hr : r < N) : 0 ≤ vl D r:=by
 unfold vl;split
 ·rename_i hb;exact h.pos r hr hb
 ·exact Rat.le_refl
theorem rs_all_zero {n : Nat} {f : Nat → Rat} (h : ∀ i,i < n → f i = 0) : rs n f = 0:=by
 rw [rs_congr (g:=fun _=>0) h,rs_zero]
theorem sol_vl {N : Nat} {D : Dic} (h : D.Ok N) : Sol N D (vl D) D.v:=by
 have z : ∀ (f : Nat → Rat),(∀ j,j < N → D.B j = true → f j = 0) → rs N (fun j=>f j * vl D j) = 0:=fun f hf=>rs_all_zero fun j hj=>by
  by_cases hb : D.B j = true
  ·rw [hf j hj hb,Rat.zero_mul]
  ·rw [vl,if_neg hb,Rat.mul_zero]
 refine ⟨fun r hr hb=>?_,?_⟩
 ·rw [z (D.A r) (fun j hj hb=>h.A0 r j hj hb),vl,if_pos hb];grind
 ·rw [z D.c (fun j hj hb=>h.c0 j hj hb)];grind
theorem sol_unique {N : Nat} {D : Dic} (h : D.Ok N) {x : Nat → Rat} {z : Rat} (hs : Sol N D x z) (h0 : ∀ j,j < N → D.B j = false → x j = 0) : (∀ r,r < N → x r = vl D r) ∧ z = D.v:=by
 have zz : ∀ (f : Nat → Rat),(∀ j,j < N → D.B j = true → f j = 0) → rs N (fun j=>f j * x j) = 0:=fun f hf=>rs_all_zero fun j hj=>by
  cases hb : D.B j with
  | true=>rw [hf j hj hb,Rat.zero_mul]
  | false=>rw [h0 j hj hb,Rat.mul_zero]
 refine ⟨fun r hr=>?_,?_⟩
 ·cases hb : D.B r with
  | true=>rw [hs.1 r hr hb,zz (D.A r) (fun j hj hb=>h.A0 r j hj hb),vl,if_pos hb];grind
  | false=>rw [h0 r hr hb,vl,if_neg (by rw [hb];decide)]
 ·rw [hs.2,zz D.c (fun j hj hb=>h.c0 j hj hb)];grind
def Eqv (N : Nat) (D E : Dic) : Prop:=∀ x z,Sol N D x z ↔ Sol N E x z
theorem Eqv.trans {N : Nat} {D E G : Dic} (h : Eqv N D E) (h' : Eqv N E G) : Eqv N D G:=fun x z=>(h x z).trans (h' x z)
theorem Eqv.symm {N : Nat} {D E : Dic} (h : Eqv N D E) : Eqv N E D:=fun x z=>(h x z).symm
theorem enter_eq {N : Nat} {D E : Dic} (hD : D.Ok N) (hq : Eqv N D E) {s : Nat} (hs : s < N) (sB : D.B s = false) :
  D.c s = rs N (fun j=>E.c j * (if j = s then 1 else if D.B j = true then -D.A j s else 0)):=by
 have key : ∀ y : Rat,Sol N D (fun j=>if j = s then y else if D.B j = true then D.b j - D.A j s * y else 0) (D.v + D.c s * y):=by
  intro y
  have one : ∀ (f : Nat → Rat),(∀ j,j < N → D.B j = true → f j = 0) → rs N (fun j=>f j * (if j = s then y else if D.B j = true then D.b j - D.A j s * y else 0)) = f s * y:=by
   intro f hf
   rw [rs_congr (g:=fun j=>if s = j then f j * y else 0) fun j hj=>?_]
   ·exact rs_one hs (fun j=>f j * y)
   ·by_cases e : j = s
    ·subst e;rw [if_pos rfl,if_pos rfl]
    ·rw [if_neg e,if_neg (show ¬ s = j from fun h=>e h.symm)]
     by_cases hb : D.B j = true
     ·rw [if_pos hb,hf j hj hb,Rat.zero_mul]
     ·rw [if_neg hb,Rat.mul_zero]
  refine ⟨fun r hr hb=>?_,?_⟩
  ·have e : r ≠ s:=fun e=>by rw [e,sB] at hb;cases hb
   show (if r = s then y else if D.B r = true then D.b r - D.A r s * y else 0) = _
   rw [if_neg e,if_pos hb,one (D.A r) (fun j hj hb=>hD.A0 r j hj hb)]
  ·rw [one D.c (fun j hj hb=>hD.c0 j hj hb)]
 have h0:=((hq _ _).1 (key 0)).2
 have h1:=((hq _ _).1 (key 1)).2
 have hd : D.c s = rs N (fun j=>E.c j * (if j = s then 1 else if D.B j = true then D.b j - D.A j s * 1 else 0)) - rs N (fun j=>E.c j * (if j = s then 0 else if D.B j = true then D.b j - D.A j s * 0 else 0)):=by grind
 rw [hd]
 have hsub : ∀ (f g : Nat → Rat),rs N f - rs N g = rs N (fun j=>f j - g j):=by
  intro f g
  have h:=rs_add N (fun j=>f j - g j) g
  have e : rs N (fun j=>f j - g j + g j) = rs N f:=rs_congr fun j _=>by grind
  rw [e] at h
  grind
 rw [hsub]
 refine rs_congr fun j _=>?_
 by_cases e : j = s
 ·simp only [if_pos e];grind
 ·by_cases hb : D.B j = true
  ·simp only [if_neg e,if_pos hb];grind
  ·simp only [if_neg e,if_neg hb];grind
theorem rs_nonpos {n : Nat} {f : Nat → Rat} (h : ∀ i,i < n → f i ≤ 0) : rs n f ≤ 0:=by
 induction n with
 | zero=>exact Rat.le_refl
 | succ n ih =>
  have h1:=ih fun i hi=>h i (by omega)
  have h2:=h n (by omega)
  rw [rs];grind
theorem bland_core {N : Nat} {D E : Dic} (hD : D.Ok N) (hE : E.Ok N) (hq : Eqv N D E) {s t : Nat} (hs : s < N) (ht : t < N) (sB : D.B s = false) (cs : 0 < D.c s) (ats : 0 < D.A t s)
  (lea : ∀ r,r < t → D.B r = true → 0 < D.A r s → D.b r ≠ 0) (Ect : 0 < E.c t) (Ele : ∀ j,j < t → E.c j ≤ 0) (st : s < t) (fick : ∀ r,r < N → D.B r = true → E.B r = false → r ≤ t ∧ D.b r = 0) : False:=by
 have h:=enter_eq hD hq hs sB
 have hn : rs N (fun j=>E.c j * (if j = s then 1 else if D.B j = true then -D.A j s else 0)) ≤ 0:=by
  refine rs_nonpos fun j hj=>?_
  by_cases e : j = s
  ·subst e;rw [if_pos rfl,Rat.mul_one];exact Ele j st
  ·rw [if_neg e]
   cases hb : D.B j with
   | false=>rw [if_neg (by decide),Rat.mul_zero];exact Rat.le_refl
   | true =>
    rw [if_pos rfl]
    cases he : E.B j with
    | true=>rw [hE.c0 j hj he,Rat.zero_mul];exact Rat.le_refl
    | false =>
     obtain ⟨h1,h2⟩:=fick j hj hb he
     rcases Nat.lt_or_eq_of_le h1 with h3 | rfl
     ·have h4:=Ele j h3
      have h5 : D.A j s ≤ 0:=Rat.not_lt.1 fun h=>lea j h3 hb h h2
      have:=Rat.mul_nonneg (show 0 ≤ -E.c j by grind) (show 0 ≤ -D.A j s by grind)
      grind
     ·have:=Rat.mul_nonneg (Rat.le_of_lt Ect) (Rat.le_of_lt ats)
      grind
 rw [← h] at hn
 exact Rat.not_lt.2 hn cs
structure Step (N : Nat) (D E : Dic) (s t : Nat) : Prop where
 eqv : Eqv N D E
 hs : s < N
 ht : t < N
 sB : D.B s = false
 tB : D.B t = true
 bas : ∀ r,r < N → E.B r = (if r = s then true else if r = t then false else D.B r)
 cs : 0 < D.c s
 least : ∀ j,j < s → D.c j ≤ 0
 ats : 0 < D.A t s
 lea : ∀ r,r < t → D.B r = true → 0 < D.A r s → D.b t * D.A r s < D.b r * D.A t s
section
variable {N : Nat}
theorem step_val {D E : Dic} {s t : Nat} (hD : D.Ok N) (hE : E.Ok N) (h : Step N D E s t) : E.v = D.v + D.c s * vl E s ∧ D.v ≤ E.v:=by
 have hs:=(h.eqv _ _).2 (sol_vl hE)
 have e : rs N (fun j=>D.c j * vl E j) = D.c s * vl E s:=by
  rw [rs_congr (g:=fun j=>if s = j then D.c j * vl E j else 0) fun j hj=>?_]
  ·exact rs_one h.hs (fun j=>D.c j * vl E j)
  ·by_cases e : s = j
   ·rw [if_pos e]
   ·rw [if_neg e]
    cases hb : D.B j with
    | true=>rw [hD.c0 j hj hb,Rat.zero_mul]
    | false =>
     have : E.B j = false:=by
      rw [h.bas j hj,if_neg (show ¬ j = s from fun h=>e h.symm)]
      split
      ·rfl
      ·exact hb
     rw [vl,if_neg (by rw [this];decide),Rat.mul_zero]
 have e2:=hs.2
 rw [e] at e2
 refine ⟨e2,?_⟩
 have:=Rat.mul_nonneg (Rat.le_of_lt h.cs) (vl_pos hE h.hs)
 grind
theorem step_same {D E : Dic} {s t : Nat} (hD : D.Ok N) (hE : E.Ok N) (h : Step N D E s t) (hv : E.v = D.v) : ∀ r,r < N → vl E r = vl D r:=by
 have h0 : vl E s = 0:=by
  have e:=(step_val hD hE h).1
  have e2 : D.c s * vl E s = 0:=by grind
  rcases Rat.mul_eq_zero.1 e2 with h1 | h1
  ·have:=h.cs;rw [h1] at this;exact absurd this (by decide)
  ·exact h1
 refine (sol_unique hD ((h.eqv _ _).2 (sol_vl hE)) fun j hj hb=>?_).1
 by_cases e : j = s
 ·subst e;exact h0
 ·have : E.B j = false:=by
   rw [h.bas j hj,if_neg e]
   split
   ·rfl
   ·exact hb
  rw [vl,if_neg (by rw [this];decide)]
variable {D : Nat → Dic} {s t : Nat → Nat} {k : Nat}
theorem no_cycle (hok : ∀ i,i ≤ k → (D i).Ok N) (hst : ∀ i,i < k → Step N (D i) (D (i + 1)) (s i) (t i)) (hk : 0 < k) (hB : ∀ r,r < N → (D 0).B r = (D k).B r) : False:=by
 have eqv0 : ∀ i,i ≤ k → Eqv N (D 0) (D i):=by
  intro i
  induction i with
  | zero=>intro _ x z;exact Iff.rfl
  | succ i ih=>intro hi;exact (ih (by omega)).trans (hst i (by omega)).eqv
 have up : ∀ i j,i ≤ j → j ≤ k → (D i).v ≤ (D j).v:=by
  intro i j hij
  induction j with
  | zero => intro _; obtain rfl : i = 0 := by omega
            exact Rat.le_refl
  | succ j ih =>
   intro hj
   rcases Nat.lt_or_eq_of_le hij with h | rfl
   ·exact Rat.le_trans (ih (by omega) (by omega)) (step_val (hok j (by omega)) (hok (j + 1) hj) (hst j (by omega))).2
   ·exact Rat.le_refl
 have hvk : (D k).v = (D 0).v:=by
  have h:=(eqv0 k (Nat.le_refl k) _ _).1 (sol_vl (hok 0 (by omega)))
  have h2:=(sol_unique (hok k (Nat.le_refl k)) h fun j hj hb=>by rw [vl,if_neg (by rw [hB j hj,hb];decide)]).2
  exact h2.symm
 have hv : ∀ i,i ≤ k → (D i).v = (D 0).v:=fun i hi=>Rat.le_antisymm (by rw [← hvk];exact up i k hi (Nat.le_refl k)) (up 0 i (Nat.zero_le i) hi)
 have hx : ∀ i,i ≤ k → ∀ r,r < N → vl (D i) r = vl (D 0) r:=by
  intro i
  induction i with
  | zero=>intro _ r _;rfl
  | succ i ih =>
   intro hi r hr
   rw [step_same (hok i (by omega)) (hok (i + 1) hi) (hst i (by omega)) (by rw [hv (i + 1) hi,hv i (by omega)]) r hr]
   exact ih (by omega) r hr
 -- what has turned
 have mono1 : ∀ r,r < N → (∀ i,i < k → t i ≠ r) → ∀ i j,i ≤ j → j ≤ k → (D i).B r = true → (D j).B r = true:=by
  intro r hr hno i j hij
  induction j with
  | zero => intro _ h; obtain rfl : i = 0 := by omega
            exact h
  | succ j ih =>
   intro hj h
   rcases Nat.lt_or_eq_of_le hij with h1 | rfl
   ·rw [(hst j (by omega)).bas r hr,ih (by omega) (by omega) h,if_neg (show ¬ r = t j from fun e=>hno j (by omega) e.symm)]
    split <;> rfl
   ·exact h
 have mono2 : ∀ r,r < N → (∀ i,i < k → s i ≠ r) → ∀ i j,i ≤ j → j ≤ k → (D i).B r = false → (D j).B r = false:=by
  intro r hr hno i j hij
  induction j with
  | zero => intro _ h; obtain rfl : i = 0 := by omega
            exact h
  | succ j ih =>
   intro hj h
   rcases Nat.lt_or_eq_of_le hij with h1 | rfl
   ·rw [(hst j (by omega)).bas r hr,ih (by omega) (by omega) h,if_neg (show ¬ r = s j from fun e=>hno j (by omega) e.symm)]
    split <;> rfl
   ·exact h
 let fick : Nat → Prop:=fun r=>r < N ∧ (∃ i,i ≤ k ∧ (D i).B r = true) ∧ ∃ j,j ≤ k ∧ (D j).B r = false
 have out : ∀ r,fick r → ∃ i,i < k ∧ t i = r:=fun r ⟨hr,⟨i,hi,h1⟩,⟨j,hj,h2⟩⟩=>Classical.byContradiction fun hno=>by
  have hno' : ∀ i,i < k → t i ≠ r:=fun i hi e=>hno ⟨i,hi,e⟩
  cases h0 : (D 0).B r with
  | true=>have:=mono1 r hr hno' 0 j (Nat.zero_le j) hj h0;rw [h2] at this;cases this
  | false =>
   have h3:=mono1 r hr hno' i k hi (Nat.le_refl k) h1
   rw [← hB r hr,h0] at h3;cases h3
 have inn : ∀ r,fick r → ∃ i,i < k ∧ s i = r:=fun r ⟨hr,⟨i,hi,h1⟩,⟨j,hj,h2⟩⟩=>Classical.byContradiction fun hno=>by
  have hno' : ∀ i,i < k → s i ≠ r:=fun i hi e=>hno ⟨i,hi,e⟩
  cases h0 : (D 0).B r with
  | false=>have:=mono2 r hr hno' 0 i (Nat.zero_le i) hi h0;rw [h1] at this;cases this
  | true =>
   have h3:=mono2 r hr hno' j k hj (Nat.le_refl k) h2
   rw [← hB r hr,h0] at h3;cases h3
 have sfick : ∀ i,i < k → fick (s i):=fun i hi=>⟨(hst i hi).hs,⟨i + 1,hi,by rw [(hst i hi).bas _ (hst i hi).hs,if_pos rfl]⟩,⟨i,by omega,(hst i hi).sB⟩⟩
 -- the greatest of them
 have top : ∀ n,(∃ r,r < n ∧ fick r) → ∃ T,fick T ∧ T < n ∧ ∀ r,r < n → fick r → r ≤ T:=by
  intro n
  induction n with
  | zero=>rintro ⟨r,h,_⟩;omega
  | succ n ih =>
   rintro ⟨r,hr,hf⟩
   by_cases hn : fick n
   ·exact ⟨n,hn,Nat.lt_succ_self n,fun r h _=>by omega⟩
   ·have hrn : r ≠ n:=fun e=>hn (e ▸ hf)
    obtain ⟨T,h1,h2,h3⟩:=ih ⟨r,by omega,hf⟩
    refine ⟨T,h1,by omega,fun r' h' hf'=>?_⟩
    have : r' ≠ n:=fun e=>hn (e ▸ hf')
    exact h3 r' (by omega) hf'
 obtain ⟨T,hT,_,hmax⟩:=top N ⟨s 0,(hst 0 hk).hs,sfick 0 hk⟩
 obtain ⟨i,hi,rfl⟩:=out T hT
 obtain ⟨e,he,het⟩:=inn _ hT
 have H:=hst i hi
 have G:=hst e he
 rw [het] at G
 have hTN:=H.ht
 have sne : s i < t i:=by
  have h1:=hmax (s i) H.hs (sfick i hi)
  have h2 : s i ≠ t i:=fun h=>by have:=H.sB;rw [h,H.tB] at this;cases this
  omega
 have zero : ∀ r,r < N → (D i).B r = true → (D e).B r = false → (D i).b r = 0:=fun r hr h1 h2=>by
  have h3:=(hx i (by omega) r hr).trans (hx e (by omega) r hr).symm
  rwa [vl,if_pos h1,vl,if_neg (by rw [h2];decide)] at h3
 have bt:=zero _ hTN H.tB G.sB
 refine bland_core (hok i (by omega)) (hok e (by omega)) ((eqv0 i (by omega)).symm.trans (eqv0 e (by omega))) H.hs hTN H.sB H.cs H.ats (fun r hr hb ha h0=>?_) G.cs G.least sne fun r hr h1 h2=>⟨hmax r hr ⟨hr,⟨i,by omega,h1⟩,⟨e,by omega,h2⟩⟩,zero r hr h1 h2⟩
 have:=H.lea r hr hb ha
 rw [bt,h0,Rat.zero_mul,Rat.zero_mul] at this
 exact absurd this (by decide)
end
set_option maxRecDepth 100000
set_option linter.unusedVariables false
set_option linter.unusedSimpArgs false
structure PD where
 m : Nat
 n : Nat
 bs : Nat → Nat
 os : Nat → Nat
 fr : Nat → Rat
 rw : Nat → Nat → Rat
 gl : Nat → Rat
 vv : Rat
def PSol (p : PD) (x : Nat → Rat) (z : Rat) : Prop:=(∀ h,h < p.m → x (p.bs h) = p.fr h - rs p.n (fun k=>p.rw h k * x (p.os k))) ∧ z = p.vv + rs p.n (fun k=>p.gl k * x (p.os k))
def piv (p : PD) (i j : Nat) : PD where
 m:=p.m
 n:=p.n
 bs:=fun h=>if h = i then p.os j else p.bs h
 os:=fun k=>if k = j then p.bs i else p.os k
 fr:=fun h=>if h = i then p.fr i * (p.rw i j)⁻¹ else p.fr h - p.rw h j * (p.fr i * (p.rw i j)⁻¹)
 rw:=fun h k=>if h = i then (if k = j then (p.rw i j)⁻¹ else p.rw i k * (p.rw i j)⁻¹) else (if k = j then -(p.rw h j * (p.rw i j)⁻¹) else p.rw h k - p.rw h j * (p.rw i k * (p.rw i j)⁻¹))
 gl:=fun k=>if k = j then -(p.gl j * (p.rw i j)⁻¹) else p.gl k - p.gl j * (p.rw i k * (p.rw i j)⁻¹)
 vv:=p.vv + p.gl j * (p.fr i * (p.rw i j)⁻¹)
theorem rs_apart {n j : Nat} (hj : j < n) (f : Nat → Rat) : rs n f = f j + rs n (fun k=>if k = j then 0 else f k):=by
 have h:=rs_add n (fun k=>if j = k then f k else 0) (fun k=>if k = j then 0 else f k)
 rw [rs_one hj f] at h
 rw [← h]
 refine rs_congr fun k _=>?_
 by_cases e : k = j
 ·subst e;rw [if_pos rfl,if_pos rfl,Rat.add_zero]
 ·rw [if_neg (show ¬ j = k from fun h=>e h.symm),if_neg e,Rat.zero_add]
theorem pv1 {a v f S x y : Rat} (hv : v * a = 1) : x = f - (a * y + S) ↔ y = f * v - (v * x + v * S):=by
 constructor
 ·intro h
  have e : v * x = v * f - (v * a * y + v * S):=by rw [h];grind
  rw [hv] at e
  grind
 ·intro h
  have e : a * y = v * a * f - (v * a * x + v * a * S):=by rw [h];grind
  rw [hv] at e
  grind
theorem pv2 {v f fh S Sh x y c : Rat} (h : y = f * v - (v * x + v * S)) : fh - (c * y + Sh) = fh - c * (f * v) - (-(c * v) * x + (Sh - c * v * S)):=by
 rw [h];grind
theorem pv3 {v f g0 S Sg x y c : Rat} (h : y = f * v - (v * x + v * S)) : g0 + (c * y + Sg) = g0 + c * (f * v) + (-(c * v) * x + (Sg - c * v * S)):=by
 rw [h];grind
theorem piv_sum {p : PD} {i j : Nat} (hj : j < p.n) (x : Nat → Rat) (u : Nat → Rat) (a b : Rat) (w : Nat → Rat) :
  rs p.n (fun k=>(if k = j then a else w k - b * (u k)) * x (if k = j then p.bs i else p.os k)) = a * x (p.bs i) + (rs p.n (fun k=>if k = j then 0 else w k * x (p.os k)) - b * rs p.n (fun k=>if k = j then 0 else u k * x (p.os k))):=by
 rw [rs_apart hj]
 simp only [if_pos]
 congr 1
 rw [Rat.sub_eq_add_neg,← Rat.neg_mul,← rs_mul,← rs_add]
 refine rs_congr fun k _=>?_
 by_cases e : k = j
 ·simp only [if_pos e,Rat.mul_zero,Rat.add_zero]
 ·simp only [if_neg e];grind
theorem piv_sol {p : PD} {i j : Nat} (hi : i < p.m) (hj : j < p.n) (ha : p.rw i j ≠ 0) (x : Nat → Rat) (z : Rat) : PSol p x z ↔ PSol (piv p i j) x z:=by
 have hv : (p.rw i j)⁻¹ * p.rw i j = 1:=Rat.inv_mul_cancel _ ha
 generalize hvv : (p.rw i j)⁻¹ = v at hv
 let S : Nat → Rat:=fun h=>rs p.n (fun k=>if k = j then 0 else p.rw h k * x (p.os k))
 let Sg : Rat:=rs p.n (fun k=>if k = j then 0 else p.gl k * x (p.os k))
 have e1 : ∀ h,rs p.n (fun k=>p.rw h k * x (p.os k)) = p.rw h j * x (p.os j) + S h:=fun h=>rs_apart hj _
 have e2 : rs p.n (fun k=>p.gl k * x (p.os k)) = p.gl j * x (p.os j) + Sg:=rs_apart hj _
 have e3 : rs p.n (fun k=>(piv p i j).rw i k * x ((piv p i j).os k)) = v * x (p.bs i) + v * S i:=by
  have h:=piv_sum (p:=p) (i:=i) hj x (fun k=>p.rw i k) v (-v) (fun _=>0)
  have h0 : rs p.n (fun k=>if k = j then 0 else (0 : Rat) * x (p.os k)) = 0:=rs_all_zero fun k _=>by split <;> simp [Rat.zero_mul]
  rw [h0] at h
  have : rs p.n (fun k=>(piv p i j).rw i k * x ((piv p i j).os k)) = rs p.n (fun k=>(if k = j then v else 0 - -v * p.rw i k) * x (if k = j then p.bs i else p.os k)):=rs_congr fun k _=>by
   simp only [piv,if_pos,hvv]
   by_cases e : k = j
   ·simp only [if_pos e]
   ·simp only [if_neg e];grind
  rw [this,h]
  show v * x (p.bs i) + (0 - -v * S i) = _
  grind
 have e4 : ∀ h,h ≠ i → rs p.n (fun k=>(piv p i j).rw h k * x ((piv p i j).os k)) = -(p.rw h j * v) * x (p.bs i) + (S h - p.rw h j * v * S i):=fun h hne=>by
  have hh:=piv_sum (p:=p) (i:=i) hj x (fun k=>p.rw i k) (-(p.rw h j * v)) (p.rw h j * v) (fun k=>p.rw h k)
  have : rs p.n (fun k=>(piv p i j).rw h k * x ((piv p i j).os k)) = rs p.n (fun k=>(if k = j then -(p.rw h j * v) else p.rw h k - p.rw h j * v * p.rw i k) * x (if k = j then p.bs i else p.os k)):=rs_congr fun k _=>by
   simp only [piv,if_neg hne,hvv]
   by_cases e : k = j
   ·simp only [if_pos e]
   ·simp only [if_neg e];grind
  rw [this,hh]
 have e5 : rs p.n (fun k=>(piv p i j).gl k * x ((piv p i j).os k)) = -(p.gl j * v) * x (p.bs i) + (Sg - p.gl j * v * S i):=by
  have hh:=piv_sum (p:=p) (i:=i) hj x (fun k=>p.rw i k) (-(p.gl j * v)) (p.gl j * v) (fun k=>p.gl k)
  have : rs p.n (fun k=>(piv p i j).gl k * x ((piv p i j).os k)) = rs p.n (fun k=>(if k = j then -(p.gl j * v) else p.gl k - p.gl j * v * p.rw i k) * x (if k = j then p.bs i else p.os k)):=rs_congr fun k _=>by
   simp only [piv,hvv]
   by_cases e : k = j
   ·simp only [if_pos e]
   ·simp only [if_neg e];grind
  rw [this,hh]
 have row : x (p.bs i) = p.fr i - rs p.n (fun k=>p.rw i k * x (p.os k)) ↔ x (p.os j) = p.fr i * v - (v * x (p.bs i) + v * S i):=by
  rw [e1];exact pv1 hv
 have bi : (piv p i j).bs i = p.os j:=if_pos rfl
 have bh : ∀ h,h ≠ i → (piv p i j).bs h = p.bs h:=fun h hne=>if_neg hne
 have fi : (piv p i j).fr i = p.fr i * v:=by show (if i = i then _ else _) = _;rw [if_pos rfl,hvv]
 have fh : ∀ h,h ≠ i → (piv p i j).fr h = p.fr h - p.rw h j * (p.fr i * v):=fun h hne=>by show (if h = i then _ else _) = _;rw [if_neg hne,hvv]
 have gv : (piv p i j).vv = p.vv + p.gl j * (p.fr i * v):=by show p.vv + p.gl j * (p.fr i * (p.rw i j)⁻¹) = _;rw [hvv]
 constructor
 ·rintro ⟨h1,h2⟩
  have hr:=row.1 (h1 i hi)
  refine ⟨fun h hh=>?_,?_⟩
  ·show x ((piv p i j).bs h) = (piv p i j).fr h - rs p.n (fun k=>(piv p i j).rw h k * x ((piv p i j).os k))
   by_cases e : h = i
   ·subst e;rw [bi,fi,e3];exact hr
   ·rw [bh h e,fh h e,e4 h e,h1 h hh,e1];exact pv2 hr
  ·show z = (piv p i j).vv + rs p.n (fun k=>(piv p i j).gl k * x ((piv p i j).os k))
   rw [gv,e5,h2,e2];exact pv3 hr
 ·rintro ⟨h1,h2⟩
  have hr : x (p.os j) = p.fr i * v - (v * x (p.bs i) + v * S i):=by
   have h : x ((piv p i j).bs i) = (piv p i j).fr i - rs p.n (fun k=>(piv p i j).rw i k * x ((piv p i j).os k)):=h1 i hi
   rwa [bi,fi,e3] at h
  refine ⟨fun h hh=>?_,?_⟩
  ·by_cases e : h = i
   ·subst e;exact row.2 hr
   ·have h3 : x ((piv p i j).bs h) = (piv p i j).fr h - rs p.n (fun k=>(piv p i j).rw h k * x ((piv p i j).os k)):=h1 h hh
    rw [bh h e,fh h e,e4 h e] at h3
    rw [h3,e1];exact (pv2 hr).symm
  ·have h3 : z = (piv p i j).vv + rs p.n (fun k=>(piv p i j).gl k * x ((piv p i j).os k)):=h2
   rw [gv,e5] at h3
   rw [h3,e2];exact (pv3 hr).symm
structure Good (N : Nat) (p : PD) : Prop where
 bN : ∀ h,h < p.m → p.bs h < N
 oN : ∀ k,k < p.n → p.os k < N
 bi : ∀ h h',h < p.m → h' < p.m → p.bs h = p.bs h' → h = h'
 oi : ∀ k k',k < p.n → k' < p.n → p.os k = p.os k' → k = k'
 dis : ∀ h k,h < p.m → k < p.n → p.bs h ≠ p.os k
 cov : ∀ r,r < N → (∃ h,h < p.m ∧ p.bs h = r) ∨ ∃ k,k < p.n ∧ p.os k = r
theorem Good.piv {N : Nat} {p : PD} (g : Good N p) {i j : Nat} (hi : i < p.m) (hj : j < p.n) : Good N (piv p i j) where
 bN:=fun h hh=>by
  show (if h = i then p.os j else p.bs h) < N
  split
  ·exact g.oN j hj
  ·exact g.bN h hh
 oN:=fun k hk=>by
  show (if k = j then p.bs i else p.os k) < N
  split
  ·exact g.bN i hi
  ·exact g.oN k hk
 bi:=fun h h' hh hh' e=>by
  have e : (if h = i then p.os j else p.bs h) = (if h' = i then p.os j else p.bs h'):=e
  by_cases h1 : h = i
  ·by_cases h2 : h' = i
   ·rw [h1,h2]
   ·rw [if_pos h1,if_neg h2] at e;exact absurd e.symm (g.dis h' j hh' hj)
  ·by_cases h2 : h' = i
   ·rw [if_neg h1,if_pos h2] at e;exact absurd e (g.dis h j hh hj)
   ·rw [if_neg h1,if_neg h2] at e;exact g.bi h h' hh hh' e
 oi:=fun k k' hk hk' e=>by
  have e : (if k = j then p.bs i else p.os k) = (if k' = j then p.bs i else p.os k'):=e
  by_cases h1 : k = j
  ·by_cases h2 : k' = j
   ·rw [h1,h2]
   ·rw [if_pos h1,if_neg h2] at e;exact absurd e (g.dis i k' hi hk')
  ·by_cases h2 : k' = j
   ·rw [if_neg h1,if_pos h2] at e;exact absurd e.symm (g.dis i k hi hk)
   ·rw [if_neg h1,if_neg h2] at e;exact g.oi k k' hk hk' e
 dis:=fun h k hh hk e=>by
  have e : (if h = i then p.os j else p.bs h) = (if k = j then p.bs i else p.os k):=e
  by_cases h1 : h = i
  ·by_cases h2 : k = j
   ·rw [if_pos h1,if_pos h2] at e;exact g.dis i j hi hj e.symm
   ·rw [if_pos h1,if_neg h2] at e;exact h2 (g.oi j k hj hk e).symm
  ·by_cases h2 : k = j
   ·rw [if_neg h1,if_pos h2] at e;exact h1 (g.bi h i hh hi e)
   ·rw [if_neg h1,if_neg h2] at e;exact g.dis h k hh hk e
 cov:=fun r hr=>by
  rcases g.cov r hr with ⟨h,hh,e⟩ | ⟨k,hk,e⟩
  ·by_cases h1 : h = i
   ·subst h1;exact .inr ⟨j,hj,by show (if j = j then p.bs h else _) = r;rw [if_pos rfl];exact e⟩
   ·exact .inl ⟨h,hh,by show (if h = i then _ else p.bs h) = r;rw [if_neg h1];exact e⟩
  ·by_cases h1 : k = j
   ·subst h1;exact .inl ⟨i,hi,by show (if i = i then p.os k else _) = r;rw [if_pos rfl];exact e⟩
   ·exact .inr ⟨k,hk,by show (if k = j then _ else p.os k) = r;rw [if_neg h1];exact e⟩
open Classical in
noncomputable def toDic (p : PD) : Dic where
 B:=fun r=>decide (∃ h,h < p.m ∧ p.bs h = r)
 A:=fun r j=>rs p.m (fun h=>if p.bs h = r then rs p.n (fun k=>if p.os k = j then p.rw h k else 0) else 0)
 b:=fun r=>rs p.m (fun h=>if p.bs h = r then p.fr h else 0)
 c:=fun j=>rs p.n (fun k=>if p.os k = j then p.gl k else 0)
 v:=p.vv
theorem rs_pick {n k : Nat} (hk : k < n) {f : Nat → Rat} {q : Nat → Nat} (hq : ∀ i,i < n → q i = q k → i = k) : rs n (fun i=>if q i = q k then f i else 0) = f k:=by
 rw [rs_congr (g:=fun i=>if k = i then f i else 0) fun i hi=>?_]
 ·exact rs_one hk f
 ·by_cases e : k = i
  ·subst e;rw [if_pos rfl,if_pos rfl]
  ·rw [if_neg e,if_neg fun h=>e (hq i hi h).symm]
section
variable {N : Nat} {p : PD}
theorem dic_A (g : Good N p) {h : Nat} (hh : h < p.m) (j : Nat) : (toDic p).A (p.bs h) j = rs p.n (fun k=>if p.os k = j then p.rw h k else 0) :=
 rs_pick hh (f:=fun h=>rs p.n (fun k=>if p.os k = j then p.rw h k else 0)) fun i hi e=>g.bi i h hi hh e
theorem dic_Ao (g : Good N p) {h k : Nat} (hh : h < p.m) (hk : k < p.n) : (toDic p).A (p.bs h) (p.os k) = p.rw h k:=by
 rw [dic_A g hh];exact rs_pick hk fun i hi e=>g.oi i k hi hk e
theorem dic_b (g : Good N p) {h : Nat} (hh : h < p.m) : (toDic p).b (p.bs h) = p.fr h:=rs_pick hh fun i hi e=>g.bi i h hi hh e
theorem dic_c (g : Good N p) {k : Nat} (hk : k < p.n) : (toDic p).c (p.os k) = p.gl k:=rs_pick hk fun i hi e=>g.oi i k hi hk e
theorem dic_B {r : Nat} : (toDic p).B r = true ↔ ∃ h,h < p.m ∧ p.bs h = r:=decide_eq_true_iff
theorem dic_Bo (g : Good N p) {k : Nat} (hk : k < p.n) : (toDic p).B (p.os k) = false:=by
 cases h : (toDic p).B (p.os k) with
 | false=>rfl
 | true =>
  obtain ⟨i,hi,e⟩:=dic_B.1 h
  exact absurd e (g.dis i k hi hk)
theorem dic_A0 (r : Nat) {j : Nat} (hj : ∀ k,k < p.n → p.os k ≠ j) : (toDic p).A r j = 0:=rs_all_zero fun h _=>by
 split
 ·exact rs_all_zero fun k hk=>if_neg (hj k hk)
 ·rfl
theorem dic_c0 {j : Nat} (hj : ∀ k,k < p.n → p.os k ≠ j) : (toDic p).c j = 0:=rs_all_zero fun k hk=>if_neg (hj k hk)
theorem dic_ok (g : Good N p) (hf : ∀ h,h < p.m → 0 ≤ p.fr h) : (toDic p).Ok N where
 A0:=fun r j _ hb=>by
  obtain ⟨h,hh,e⟩:=dic_B.1 hb
  exact dic_A0 r fun k hk e2=>g.dis h k hh hk (e.trans e2.symm)
 c0:=fun j _ hb=>by
  obtain ⟨h,hh,e⟩:=dic_B.1 hb
  exact dic_c0 fun k hk e2=>g.dis h k hh hk (e.trans e2.symm)
 pos:=fun r _ hb=>by
  obtain ⟨h,hh,rfl⟩:=dic_B.1 hb
  rw [dic_b g hh];exact hf h hh
theorem dic_sum (g : Good N p) (w x : Nat → Rat) : rs N (fun j=>rs p.n (fun k=>if p.os k = j then w k else 0) * x j) = rs p.n (fun k=>w k * x (p.os k)):=by
 have e : ∀ j,rs p.n (fun k=>if p.os k = j then w k else 0) * x j = rs p.n (fun k=>if p.os k = j then w k * x j else 0):=fun j=>by
  rw [Rat.mul_comm,← rs_mul]
  exact rs_congr fun k _=>by
   by_cases h : p.os k = j
   ·rw [if_pos h,if_pos h,Rat.mul_comm]
   ·rw [if_neg h,if_neg h,Rat.mul_zero]
 rw [rs_congr fun j _=>e j,rs_swap N p.n]
 exact rs_congr fun k hk=>rs_one (g.oN k hk) (fun j=>w k * x j)
theorem sol_iff (g : Good N p) (x : Nat → Rat) (z : Rat) : Sol N (toDic p) x z ↔ PSol p x z:=by
 have ec : rs N (fun j=>(toDic p).c j * x j) = rs p.n (fun k=>p.gl k * x (p.os k)):=dic_sum g p.gl x
 have eA : ∀ h,h < p.m → rs N (fun j=>(toDic p).A (p.bs h) j * x j) = rs p.n (fun k=>p.rw h k * x (p.os k)):=fun h hh=>by
  rw [← dic_sum g (p.rw h) x]
  exact rs_congr fun j _=>by rw [dic_A g hh]
 constructor
 ·rintro ⟨h1,h2⟩
  refine ⟨fun h hh=>?_,?_⟩
  ·have:=h1 _ (g.bN h hh) (dic_B.2 ⟨h,hh,rfl⟩)
   rwa [dic_b g hh,eA h hh] at this
  ·rw [ec] at h2;exact h2
 ·rintro ⟨h1,h2⟩
  refine ⟨fun r _ hb=>?_,?_⟩
  ·obtain ⟨h,hh,rfl⟩:=dic_B.1 hb
   rw [dic_b g hh,eA h hh];exact h1 h hh
  ·rw [ec];exact h2
structure Choice (p : PD) (i j : Nat) : Prop where
 hi : i < p.m
 hj : j < p.n
 up : 0 < p.gl j
 low : ∀ k,k < p.n → 0 < p.gl k → p.os j ≤ p.os k
 lim : 0 < p.rw i j
 min : ∀ h,h < p.m → 0 < p.rw h j → p.fr i * p.rw h j ≤ p.fr h * p.rw i j
 tie : ∀ h,h < p.m → 0 < p.rw h j → p.fr i * p.rw h j = p.fr h * p.rw i j → p.bs i ≤ p.bs h
theorem piv_fr {i j : Nat} (hf : ∀ h,h < p.m → 0 ≤ p.fr h) (hi : i < p.m) (lim : 0 < p.rw i j) (min : ∀ h,h < p.m → 0 < p.rw h j → p.fr i * p.rw h j ≤ p.fr h * p.rw i j) : ∀ h,h < p.m → 0 ≤ (piv p i j).fr h:=fun h hh=>by
 have hv : 0 ≤ (p.rw i j)⁻¹:=Rat.le_of_lt (Rat.inv_pos.2 lim)
 have h1 : (p.rw i j)⁻¹ * p.rw i j = 1:=Rat.inv_mul_cancel _ (by intro e;rw [e] at lim;exact absurd lim (by decide))
 show 0 ≤ (if h = i then p.fr i * (p.rw i j)⁻¹ else p.fr h - p.rw h j * (p.fr i * (p.rw i j)⁻¹))
 generalize (p.rw i j)⁻¹ = v at *
 have h2:=Rat.mul_nonneg (hf i hi) hv
 split
 ·exact h2
 ·by_cases hp : 0 < p.rw h j
  ·have h3:=Rat.mul_nonneg (show 0 ≤ p.fr h * p.rw i j - p.fr i * p.rw h j by have:=min h hh hp;grind) hv
   have e : (p.fr h * p.rw i j - p.fr i * p.rw h j) * v = p.fr h * (v * p.rw i j) - p.rw h j * (p.fr i * v):=by grind
   rw [e,h1,Rat.mul_one] at h3
   exact h3
  ·have h3:=Rat.mul_nonneg (show 0 ≤ -p.rw h j by grind) h2
   have h4:=hf h hh
   grind
theorem piv_step (g : Good N p) {i j : Nat} (c : Choice p i j) : Step N (toDic p) (toDic (piv p i j)) (p.os j) (p.bs i) where
 eqv:=fun x z=>by
  rw [sol_iff g,sol_iff (g.piv c.hi c.hj),piv_sol c.hi c.hj (fun e=>by have:=c.lim;rw [e] at this;exact absurd this (by decide))]
 hs:=g.oN j c.hj
 ht:=g.bN i c.hi
 sB:=dic_Bo g c.hj
 tB:=dic_B.2 ⟨i,c.hi,rfl⟩
 bas:=fun r hr=>by
  have hm : ∀ h,(piv p i j).bs h = if h = i then p.os j else p.bs h:=fun _=>rfl
  by_cases h1 : r = p.os j
  ·rw [if_pos h1];exact dic_B.2 ⟨i,c.hi,by rw [hm,if_pos rfl,h1]⟩
  ·rw [if_neg h1]
   by_cases h2 : r = p.bs i
   ·rw [if_pos h2]
    cases h : (toDic (piv p i j)).B r with
    | false=>rfl
    | true =>
     obtain ⟨h',hh',e⟩:=dic_B.1 h
     rw [hm] at e
     by_cases h3 : h' = i
     ·rw [if_pos h3] at e;exact absurd e.symm h1
     ·rw [if_neg h3,h2] at e;exact absurd (g.bi h' i hh' c.hi e) h3
   ·rw [if_neg h2]
    cases h : (toDic p).B r with
    | true =>
     obtain ⟨h',hh',e⟩:=dic_B.1 h
     exact dic_B.2 ⟨h',hh',by rw [hm,if_neg (fun h3=>h2 (by rw [← e,h3]))];exact e⟩
    | false =>
     cases h4 : (toDic (piv p i j)).B r with
     | false=>rfl
     | true =>
      obtain ⟨h',hh',e⟩:=dic_B.1 h4
      rw [hm] at e
      by_cases h3 : h' = i
      ·rw [if_pos h3] at e;exact absurd e.symm h1
      ·rw [if_neg h3] at e
       have:=(dic_B (p:=p)).2 ⟨h',hh',e⟩
       rw [h] at this;cases this
 cs:=by rw [dic_c g c.hj];exact c.up
 least:=fun j' hj'=>by
  by_cases h : ∃ k,k < p.n ∧ p.os k = j'
  ·obtain ⟨k,hk,rfl⟩:=h
   rw [dic_c g hk]
   exact Rat.not_lt.1 fun h=>by have:=c.low k hk h;omega
  ·rw [dic_c0 fun k hk e=>h ⟨k,hk,e⟩];exact Rat.le_refl
 ats:=by rw [dic_Ao g c.hi c.hj];exact c.lim
 lea:=fun r hr hb ha=>by
  obtain ⟨h,hh,rfl⟩:=dic_B.1 hb
  rw [dic_Ao g hh c.hj] at ha ⊢
  rw [dic_Ao g c.hi c.hj,dic_b g hh,dic_b g c.hi]
  have h1:=c.min h hh ha
  refine Rat.lt_of_le_of_ne h1 fun e=>?_
  have:=c.tie h hh ha e
  omega
inductive Climb (N : Nat) : List PD → Prop where
 | one (p : PD) (g : Good N p) (hf : ∀ h,h < p.m → 0 ≤ p.fr h) : Climb N [p]
 | more (p : PD) (l : List PD) (i j : Nat) (h : Climb N (p::l)) (c : Choice p i j) : Climb N (piv p i j::p::l)
theorem Climb.good {l : List PD} (h : Climb N l) : ∀ p ∈ l,Good N p ∧ ∀ h,h < p.m → 0 ≤ p.fr h:=by
 induction h with
 | one p g hf=>intro q hq;rw [List.mem_singleton.1 hq];exact ⟨g,hf⟩
 | more p l i j h c ih =>
  intro q hq
  rcases List.mem_cons.1 hq with rfl | hq
  ·obtain ⟨g,hf⟩:=ih p (.head _)
   exact ⟨g.piv c.hi c.hj,piv_fr hf c.hi c.lim c.min⟩
  ·exact ih q hq
theorem Climb.fresh {p : PD} {l : List PD} (h : Climb N (p::l)) : ∀ q ∈ l,∃ r,r < N ∧ (toDic p).B r ≠ (toDic q).B r:=by
 intro q hq
 refine Classical.byContradiction fun hno=>?_
 have same : ∀ r,r < N → (toDic q).B r = (toDic p).B r:=fun r hr=>Classical.byContradiction fun h=>hno ⟨r,hr,fun e=>h e.symm⟩
 -- the dictionaries from q on,in their order
 have key : ∀ {l' : List PD},Climb N l' → ∀ {p : PD} {l : List PD},l' = p::l → ∀ q ∈ l,∃ (k : Nat) (D : Nat → Dic) (s t : Nat → Nat),0 < k ∧ D 0 = toDic q ∧ D k = toDic p ∧ (∀ i,i ≤ k → (D i).Ok N) ∧ ∀ i,i < k → Step N (D i) (D (i + 1)) (s i) (t i):=by
  intro l' h'
  induction h' with
  | one p0 g hf =>
   intro p l e q hq
   injection e with _ e
   subst e;cases hq
  | more p0 l0 i j h0 c ih =>
   intro p l e q hq
   injection e with e1 e2
   subst e1;subst e2
   obtain ⟨g,hf⟩:=h0.good p0 (.head _)
   have st:=piv_step g c
   have ok1:=dic_ok (g.piv c.hi c.hj) (piv_fr hf c.hi c.lim c.min)
   rcases List.mem_cons.1 hq with rfl | hq
   ·refine ⟨1,fun n=>if n = 0 then toDic q else toDic (piv q i j),fun _=>q.os j,fun _=>q.bs i,Nat.one_pos,rfl,rfl,fun n hn=>?_,fun n hn=>?_⟩
    ·show (if n = 0 then _ else _ : Dic).Ok N
     split
     ·exact dic_ok g hf
     ·exact ok1
    ·obtain rfl : n = 0:=by omega
     exact st
   ·obtain ⟨k,D,s,t,hk,h1,h2,h3,h4⟩:=ih rfl q hq
    refine ⟨k + 1,fun n=>if n ≤ k then D n else toDic (piv p0 i j),fun n=>if n < k then s n else p0.os j,fun n=>if n < k then t n else p0.bs i,Nat.succ_pos k,?_,?_,fun n hn=>?_,fun n hn=>?_⟩
    ·show (if 0 ≤ k then D 0 else _) = _
     rw [if_pos (Nat.zero_le k)];exact h1
    ·show (if k + 1 ≤ k then _ else toDic (piv p0 i j)) = _
     rw [if_neg (by omega)]
    ·show (if n ≤ k then D n else _ : Dic).Ok N
     split
     ·exact h3 n (by omega)
     ·exact ok1
    ·show Step N (if n ≤ k then D n else _) (if n + 1 ≤ k then D (n + 1) else _) (if n < k then s n else _) (if n < k then t n else _)
     by_cases e : n < k
     ·rw [if_pos (by omega),if_pos (by omega),if_pos e,if_pos e];exact h4 n e
     ·obtain rfl : n = k:=by omega
      rw [if_pos (Nat.le_refl n),if_neg (by omega),if_neg e,if_neg e,h2];exact st
 obtain ⟨k,D,s,t,hk,h1,h2,h3,h4⟩:=key h rfl q hq
 exact no_cycle h3 h4 hk fun r hr=>by rw [h1,h2];exact same r hr
end
set_option maxRecDepth 100000
set_option linter.unusedVariables false
set_option linter.unusedSimpArgs false
def code (B : Nat → Bool) : Nat → Nat
 | 0=>0
 | n + 1=>code B n + (if B n = true then 2 ^ n else 0)
theorem code_lt (B : Nat → Bool) : ∀ n,code B n < 2 ^ n:=by
 intro n
 induction n with
 | zero=>exact Nat.one_pos
 | succ n ih =>
  rw [code,Nat.pow_succ]
  split <;> omega
theorem code_inj {B B' : Nat → Bool} : ∀ {n : Nat},code B n = code B' n → ∀ r,r < n → B r = B' r:=by
 intro n
 induction n with
 | zero=>intro _ r hr;omega
 | succ n ih =>
  intro h r hr
  rw [code,code] at h
  have h1:=code_lt B n
  have h2:=code_lt B' n
  have hb : B n = B' n:=by
   cases e1 : B n <;> cases e2 : B' n <;> simp only [e1,e2,if_true,if_false,Bool.false_eq_true] at h <;> first | rfl | omega
  rcases Nat.lt_succ_iff_lt_or_eq.1 hr with h3 | rfl
  ·refine ih ?_ r h3
   rw [hb] at h
   omega
  ·exact hb
theorem pigeon : ∀ (n : Nat) (l : List Nat),l.Nodup → (∀ x ∈ l,x < n) → l.length ≤ n:=by
 intro n
 induction n with
 | zero =>
  intro l _ h
  cases l with
  | nil=>exact Nat.le_refl 0
  | cons x l=>exact absurd (h x (.head _)) (Nat.not_lt_zero x)
 | succ n ih =>
  intro l hn h
  by_cases hm : n ∈ l
  ·have h1:=ih (l.erase n) (hn.erase n) fun x hx=>by
    have h2:=(hn.mem_erase_iff).1 hx
    have:=h x h2.2
    omega
   rw [List.length_erase_of_mem hm] at h1
   omega
  ·have:=ih l hn fun x hx=>by
    have h1:=h x hx
    have h2 : x ≠ n:=fun e=>hm (e ▸ hx)
    omega
   omega
theorem Climb.tail {N : Nat} {p : PD} {l : List PD} (h : Climb N (p::l)) : l = [] ∨ Climb N l:=by
 cases h with
 | one _ g hf=>exact .inl rfl
 | more _ l i j h c=>exact .inr h
theorem Climb.len {N : Nat} {l : List PD} (h : Climb N l) : l.length ≤ 2 ^ N:=by
 have key : ∀ (l : List PD),(l = [] ∨ Climb N l) → (l.map fun p=>code (toDic p).B N).Nodup:=by
  intro l
  induction l with
  | nil=>intro _;exact List.nodup_nil
  | cons p l ih =>
   intro h
   rcases h with h | h
   ·cases h
   ·rw [List.map_cons,List.nodup_cons]
    refine ⟨fun hm=>?_,ih h.tail⟩
    obtain ⟨q,hq,e⟩:=List.mem_map.1 hm
    obtain ⟨r,hr,hne⟩:=h.fresh q hq
    exact hne (code_inj e r hr).symm
 have:=pigeon (2 ^ N) _ (key l (.inr h)) fun x hx=>by
  obtain ⟨p,_,rfl⟩:=List.mem_map.1 hx
  exact code_lt _ N
 simpa using this
theorem rs_cat (n : Nat) (f : Nat → Rat) : ∀ m,rs (n + m) f = rs n f + rs m (fun h=>f (n + h))
 | 0=>by rw [rs,Nat.add_zero,Rat.add_zero]
 | m + 1=>by rw [Nat.add_succ,rs,rs_cat n f m,rs,Rat.add_assoc]
theorem rs_neg (n : Nat) (f : Nat → Rat) : rs n (fun i=>-f i) = -rs n f:=by
 have h:=rs_mul n (-1) f
 rw [rs_congr (g:=fun i=>-1 * f i) fun i _=>by grind,h];grind
theorem rs_sub' (n : Nat) (f g : Nat → Rat) : rs n (fun i=>f i - g i) = rs n f - rs n g:=by
 rw [rs_congr (g:=fun i=>f i + -g i) fun i _=>Rat.sub_eq_add_neg _ _,rs_add,rs_neg,Rat.sub_eq_add_neg]
section
variable {n0 m : Nat} {A : Nat → Nat → Rat} {Bv Cv : Nat → Rat} {p : PD}
def Ties (n0 m : Nat) (A : Nat → Nat → Rat) (Bv Cv : Nat → Rat) (p : PD) : Prop :=
 ∀ x z,PSol p x z ↔ (∀ h,h < m → x (n0 + h) = Bv h - rs n0 (fun k=>A h k * x k)) ∧ z = rs n0 (fun k=>Cv k * x k)
theorem Ties.piv {i j : Nat} (h : Ties n0 m A Bv Cv p) (hi : i < p.m) (hj : j < p.n) (ha : p.rw i j ≠ 0) : Ties n0 m A Bv Cv (piv p i j):=fun x z=>(piv_sol hi hj ha x z).symm.trans (h x z)
theorem tie_all (g : Good (n0 + m) p) (ht : Ties n0 m A Bv Cv p) (f : Nat → Rat) :
  rs n0 (fun k=>Cv k * f k) = p.vv + (rs n0 (fun j=>(toDic p).c j * f j) + rs m (fun h=>(toDic p).c (n0 + h) * (Bv h - rs n0 (fun k=>A h k * f k)))):=by
 have e0 : ∀ (w : Nat → Rat),rs n0 (fun k=>w k * (if k < n0 then f k else Bv (k - n0) - rs n0 (fun i=>A (k - n0) i * f i))) = rs n0 (fun k=>w k * f k):=fun w=>rs_congr fun k hk=>by rw [if_pos hk]
 have hs:=(ht (fun r=>if r < n0 then f r else Bv (r - n0) - rs n0 (fun k=>A (r - n0) k * f k)) (rs n0 (fun k=>Cv k * f k))).2 ⟨fun h _=>by
  show (if n0 + h < n0 then _ else _) = _
  rw [if_neg (by omega),Nat.add_sub_cancel_left,e0 (A h)],(e0 Cv).symm⟩
 have h2:=((sol_iff g _ _).2 hs).2
 rw [rs_cat,e0 (toDic p).c] at h2
 rw [h2]
 congr 2
 exact rs_congr fun h _=>by
  show _ * (if n0 + h < n0 then _ else _) = _
  rw [if_neg (by omega),Nat.add_sub_cancel_left]
theorem tie_const (g : Good (n0 + m) p) (ht : Ties n0 m A Bv Cv p) : p.vv + rs m (fun h=>(toDic p).c (n0 + h) * Bv h) = 0:=by
 have h:=tie_all g ht (fun _=>0)
 rw [rs_all_zero (f:=fun k=>Cv k * 0) fun k _=>Rat.mul_zero _,rs_all_zero (f:=fun k=>(toDic p).c k * 0) fun k _=>Rat.mul_zero _] at h
 rw [rs_congr (g:=fun h=>(toDic p).c (n0 + h) * Bv h) fun h _=>by
  rw [rs_all_zero (f:=fun k=>A h k * 0) fun k _=>Rat.mul_zero _];grind] at h
 grind
theorem tie_coef (g : Good (n0 + m) p) (ht : Ties n0 m A Bv Cv p) {j : Nat} (hj : j < n0) : Cv j = (toDic p).c j - rs m (fun h=>(toDic p).c (n0 + h) * A h j):=by
 have h:=tie_all g ht (fun k=>if j = k then 1 else 0)
 have one : ∀ (w : Nat → Rat),rs n0 (fun k=>w k * (if j = k then 1 else 0)) = w j:=fun w=>by
  rw [rs_congr (g:=fun k=>if j = k then w k else 0) fun k _=>by split <;> grind]
  exact rs_one hj w
 rw [one Cv,one (toDic p).c] at h
 have e : rs m (fun h=>(toDic p).c (n0 + h) * (Bv h - rs n0 (fun k=>A h k * (if j = k then 1 else 0)))) = rs m (fun h=>(toDic p).c (n0 + h) * Bv h) - rs m (fun h=>(toDic p).c (n0 + h) * A h j):=by
  rw [← rs_sub']
  exact rs_congr fun h _=>by rw [one (A h)];grind
 rw [e] at h
 have h0:=tie_const g ht
 grind
theorem c_le (top : ∀ k,k < p.n → p.gl k ≤ 0) (g : Good (n0 + m) p) (j : Nat) : (toDic p).c j ≤ 0:=by
 by_cases h : ∃ k,k < p.n ∧ p.os k = j
 ·obtain ⟨k,hk,rfl⟩:=h
  rw [dic_c g hk];exact top k hk
 ·rw [dic_c0 fun k hk e=>h ⟨k,hk,e⟩];exact Rat.le_refl
theorem vl_sol (g : Good (n0 + m) p) (hf : ∀ h,h < p.m → 0 ≤ p.fr h) (ht : Ties n0 m A Bv Cv p) : (∀ h,h < m → vl (toDic p) (n0 + h) = Bv h - rs n0 (fun k=>A h k * vl (toDic p) k)) ∧ p.vv = rs n0 (fun k=>Cv k * vl (toDic p) k) :=
 (ht _ _).1 ((sol_iff g _ _).1 (sol_vl (dic_ok g hf)))
theorem end_top (g : Good (n0 + m) p) (hf : ∀ h,h < p.m → 0 ≤ p.fr h) (ht : Ties n0 m A Bv Cv p) (top : ∀ k,k < p.n → p.gl k ≤ 0) :
  (∀ i,i < n0 → 0 ≤ vl (toDic p) i) ∧ (∀ h,h < m → rs n0 (fun k=>A h k * vl (toDic p) k) ≤ Bv h) ∧ (∀ h,h < m → 0 ≤ -(toDic p).c (n0 + h)) ∧
  (∀ j,j < n0 → Cv j ≤ rs m (fun h=>-(toDic p).c (n0 + h) * A h j)) ∧ rs n0 (fun k=>Cv k * vl (toDic p) k) = rs m (fun h=>Bv h * -(toDic p).c (n0 + h)):=by
 have ok:=dic_ok g hf
 obtain ⟨s1,s2⟩:=vl_sol g hf ht
 refine ⟨fun i hi=>vl_pos ok (by omega),fun h hh=>?_,fun h _=>?_,fun j hj=>?_,?_⟩
 ·have h1:=s1 h hh
  have h2:=vl_pos ok (show n0 + h < n0 + m by omega)
  grind
 ·have:=c_le top g (n0 + h);grind
 ·have e : rs m (fun h=>-(toDic p).c (n0 + h) * A h j) = -rs m (fun h=>(toDic p).c (n0 + h) * A h j):=by
   rw [← rs_neg];exact rs_congr fun h _=>Rat.neg_mul _ _
  rw [e,tie_coef g ht hj]
  have:=c_le top g j
  generalize rs m (fun h=>(toDic p).c (n0 + h) * A h j) = S
  grind
 ·have e : rs m (fun h=>Bv h * -(toDic p).c (n0 + h)) = -rs m (fun h=>(toDic p).c (n0 + h) * Bv h):=by
   rw [← rs_neg];exact rs_congr fun h _=>by rw [Rat.mul_neg,Rat.mul_comm]
  rw [e,← s2]
  have:=tie_const g ht
  generalize rs m (fun h=>(toDic p).c (n0 + h) * Bv h) = S at *
  grind
noncomputable def dir (p : PD) (j : Nat) (r : Nat) : Rat:=if r = p.os j then 1 else -(toDic p).A r (p.os j)
theorem end_ray (g : Good (n0 + m) p) (ht : Ties n0 m A Bv Cv p) {j : Nat} (hj : j < p.n) (up : 0 < p.gl j) (free : ∀ h,h < p.m → p.rw h j ≤ 0) :
  (∀ i,i < n0 → 0 ≤ dir p j i) ∧ (∀ h,h < m → rs n0 (fun k=>A h k * dir p j k) ≤ 0) ∧ rs n0 (fun k=>Cv k * dir p j k) = p.gl j:=by
 have nn : ∀ r,0 ≤ dir p j r:=fun r=>by
  unfold dir
  split
  ·decide
  ·by_cases h : ∃ h,h < p.m ∧ p.bs h = r
   ·obtain ⟨i,hi,rfl⟩:=h
    rw [dic_Ao g hi hj]
    have:=free i hi
    grind
   ·have : (toDic p).A r (p.os j) = 0:=rs_all_zero fun i hi=>if_neg fun e=>h ⟨i,hi,e⟩
    rw [this];decide
 -- two points that go together
 have pt : ∀ y : Rat,PSol p (fun r=>(if (toDic p).B r = true then (toDic p).b r else 0) + y * dir p j r) (p.vv + y * p.gl j):=fun y=>by
  have one : ∀ (w : Nat → Rat),rs p.n (fun k=>w k * ((if (toDic p).B (p.os k) = true then (toDic p).b (p.os k) else 0) + y * dir p j (p.os k))) = w j * y:=fun w=>by
   rw [rs_congr (g:=fun k=>if j = k then w k * y else 0) fun k hk=>?_]
   ·exact rs_one hj fun k=>w k * y
   ·rw [dic_Bo g hk,if_neg (by decide)]
    by_cases e : j = k
    ·subst e;rw [if_pos rfl,dir,if_pos rfl];grind
    ·have e2 : p.os k ≠ p.os j:=fun h=>e (g.oi k j hk hj h).symm
     have e3 : (toDic p).A (p.os k) (p.os j) = 0:=rs_all_zero fun i hi=>if_neg (g.dis i k hi hk)
     rw [if_neg e,dir,if_neg e2,e3];grind
  refine ⟨fun h hh=>?_,?_⟩
  ·rw [one (p.rw h)]
   show (if (toDic p).B (p.bs h) = true then (toDic p).b (p.bs h) else 0) + y * dir p j (p.bs h) = _
   rw [if_pos (dic_B.2 ⟨h,hh,rfl⟩),dic_b g hh,dir,if_neg (g.dis h j hh hj),dic_Ao g hh hj];grind
  ·rw [one p.gl];grind
 have h0:=(ht _ _).1 (pt 0)
 have h1:=(ht _ _).1 (pt 1)
 have lin : ∀ (w : Nat → Rat),rs n0 (fun k=>w k * ((if (toDic p).B k = true then (toDic p).b k else 0) + 1 * dir p j k)) = rs n0 (fun k=>w k * ((if (toDic p).B k = true then (toDic p).b k else 0) + 0 * dir p j k)) + rs n0 (fun k=>w k * dir p j k):=fun w=>by
  rw [← rs_add];exact rs_congr fun k _=>by grind
 refine ⟨fun i _=>nn i,fun h hh=>?_,?_⟩
 ·have a0:=h0.1 h hh
  have a1:=h1.1 h hh
  rw [lin (A h)] at a1
  have:=nn (n0 + h)
  grind
 ·have a0:=h0.2
  have a1:=h1.2
  rw [lin Cv] at a1
  grind
end
set_option maxRecDepth 100000
set_option linter.unusedVariables false
set_option linter.unusedSimpArgs false
section
variable {n0 m : Nat} {A : Nat → Nat → Rat} {Bv Cv : Nat → Rat} {p : PD}
def Ties1 (n0 m : Nat) (A : Nat → Nat → Rat) (Bv : Nat → Rat) (p : PD) : Prop :=
 ∀ x z,PSol p x z ↔ (∀ h,h < m → x (n0 + h) = Bv h - rs n0 (fun k=>A h k * x k) + x (n0 + m)) ∧ z = -x (n0 + m)
theorem Ties1.piv {i j : Nat} (h : Ties1 n0 m A Bv p) (hi : i < p.m) (hj : j < p.n) (ha : p.rw i j ≠ 0) : Ties1 n0 m A Bv (piv p i j):=fun x z=>(piv_sol hi hj ha x z).symm.trans (h x z)
def pt1 (n0 m : Nat) (A : Nat → Nat → Rat) (Bv : Nat → Rat) (f : Nat → Rat) (a : Rat) (r : Nat) : Rat:=if r < n0 then f r else if r < n0 + m then Bv (r - n0) - rs n0 (fun k=>A (r - n0) k * f k) + a else a
theorem pt1_lo {f : Nat → Rat} {a : Rat} {r : Nat} (h : r < n0) : pt1 n0 m A Bv f a r = f r:=if_pos h
theorem pt1_mid {f : Nat → Rat} {a : Rat} {h : Nat} (hh : h < m) : pt1 n0 m A Bv f a (n0 + h) = Bv h - rs n0 (fun k=>A h k * f k) + a:=by
 rw [pt1,if_neg (by omega),if_pos (by omega),Nat.add_sub_cancel_left]
theorem pt1_hi {f : Nat → Rat} {a : Rat} : pt1 n0 m A Bv f a (n0 + m) = a:=by
 rw [pt1,if_neg (by omega),if_neg (by omega)]
theorem pt1_sol (ht : Ties1 n0 m A Bv p) (f : Nat → Rat) (a : Rat) : PSol p (pt1 n0 m A Bv f a) (-a):=by
 refine (ht _ _).2 ⟨fun h hh=>?_,by rw [pt1_hi]⟩
 rw [pt1_mid hh,pt1_hi]
 congr 2
 exact rs_congr fun k hk=>by rw [pt1_lo hk]
theorem tie1_all (g : Good (n0 + m + 1) p) (ht : Ties1 n0 m A Bv p) (f : Nat → Rat) :
  0 = p.vv + (rs n0 (fun j=>(toDic p).c j * f j) + rs m (fun h=>(toDic p).c (n0 + h) * (Bv h - rs n0 (fun k=>A h k * f k)))):=by
 have h2:=((sol_iff g _ _).2 (pt1_sol ht f 0)).2
 rw [rs,rs_cat,pt1_hi,rs_congr (g:=fun j=>(toDic p).c j * f j) fun j hj=>by rw [pt1_lo hj]] at h2
 have e : rs m (fun h=>(toDic p).c (n0 + h) * pt1 n0 m A Bv f 0 (n0 + h)) = rs m (fun h=>(toDic p).c (n0 + h) * (Bv h - rs n0 (fun k=>A h k * f k))):=rs_congr fun h hh=>by rw [pt1_mid hh,Rat.add_zero]
 rw [e] at h2
 have e0 : -(0 : Rat) = 0:=by decide
 rw [e0,Rat.mul_zero,Rat.add_zero] at h2
 exact h2
theorem tie1_const (g : Good (n0 + m + 1) p) (ht : Ties1 n0 m A Bv p) : p.vv + rs m (fun h=>(toDic p).c (n0 + h) * Bv h) = 0:=by
 have h:=tie1_all g ht (fun _=>0)
 have e1 : rs n0 (fun k=>(toDic p).c k * 0) = 0:=rs_all_zero fun k _=>Rat.mul_zero _
 have e2 : rs m (fun h=>(toDic p).c (n0 + h) * (Bv h - rs n0 (fun k=>A h k * 0))) = rs m (fun h=>(toDic p).c (n0 + h) * Bv h):=rs_congr fun h _=>by
  have : rs n0 (fun k=>A h k * 0) = 0:=rs_all_zero fun k _=>Rat.mul_zero _
  rw [this];grind
 rw [e1,e2] at h
 grind
theorem tie1_coef (g : Good (n0 + m + 1) p) (ht : Ties1 n0 m A Bv p) {j : Nat} (hj : j < n0) : rs m (fun h=>(toDic p).c (n0 + h) * A h j) = (toDic p).c j:=by
 have h:=tie1_all g ht (fun k=>if j = k then 1 else 0)
 have one : ∀ (w : Nat → Rat),rs n0 (fun k=>w k * (if j = k then 1 else 0)) = w j:=fun w=>by
  have : rs n0 (fun k=>w k * (if j = k then 1 else 0)) = rs n0 (fun k=>if j = k then w k else 0):=rs_congr fun k _=>by split <;> grind
  rw [this];exact rs_one hj w
 have e : rs m (fun h=>(toDic p).c (n0 + h) * (Bv h - rs n0 (fun k=>A h k * (if j = k then 1 else 0)))) = rs m (fun h=>(toDic p).c (n0 + h) * Bv h) - rs m (fun h=>(toDic p).c (n0 + h) * A h j):=by
  rw [← rs_sub']
  exact rs_congr fun h _=>by rw [one (A h)];grind
 rw [one (toDic p).c,e] at h
 have h0:=tie1_const g ht
 generalize rs m (fun h=>(toDic p).c (n0 + h) * Bv h) = S at *
 generalize rs m (fun h=>(toDic p).c (n0 + h) * A h j) = T at *
 grind
theorem c_le1 {N : Nat} (top : ∀ k,k < p.n → p.gl k ≤ 0) (g : Good N p) (j : Nat) : (toDic p).c j ≤ 0:=by
 by_cases h : ∃ k,k < p.n ∧ p.os k = j
 ·obtain ⟨k,hk,rfl⟩:=h
  rw [dic_c g hk];exact top k hk
 ·rw [dic_c0 fun k hk e=>h ⟨k,hk,e⟩];exact Rat.le_refl
theorem end_inf (g : Good (n0 + m + 1) p) (ht : Ties1 n0 m A Bv p) (top : ∀ k,k < p.n → p.gl k ≤ 0) (neg : p.vv < 0) :
  (∀ h,h < m → 0 ≤ -(toDic p).c (n0 + h)) ∧ (∀ j,j < n0 → 0 ≤ rs m (fun h=>-(toDic p).c (n0 + h) * A h j)) ∧ rs m (fun h=>Bv h * -(toDic p).c (n0 + h)) < 0:=by
 refine ⟨fun h _=>?_,fun j hj=>?_,?_⟩
 ·have:=c_le1 top g (n0 + h);grind
 ·have e : rs m (fun h=>-(toDic p).c (n0 + h) * A h j) = -rs m (fun h=>(toDic p).c (n0 + h) * A h j):=by
   rw [← rs_neg];exact rs_congr fun h _=>Rat.neg_mul _ _
  rw [e,tie1_coef g ht hj]
  have:=c_le1 top g j;grind
 ·have e : rs m (fun h=>Bv h * -(toDic p).c (n0 + h)) = -rs m (fun h=>(toDic p).c (n0 + h) * Bv h):=by
   rw [← rs_neg];exact rs_congr fun h _=>by rw [Rat.mul_neg,Rat.mul_comm]
  rw [e]
  have:=tie1_const g ht
  generalize rs m (fun h=>(toDic p).c (n0 + h) * Bv h) = S at *
  grind
theorem val1 (g : Good (n0 + m + 1) p) (hf : ∀ h,h < p.m → 0 ≤ p.fr h) (ht : Ties1 n0 m A Bv p) : p.vv = -vl (toDic p) (n0 + m) :=
 ((ht _ _).1 ((sol_iff g _ _).1 (sol_vl (dic_ok g hf)))).2
theorem art_row (ht : Ties1 n0 m A Bv p) (g : Good (n0 + m + 1) p) {i : Nat} (hi : i < p.m) (ha : p.bs i = n0 + m) (h0 : p.fr i = 0) : ∃ k,k < p.n ∧ p.rw i k ≠ 0:=by
 refine Classical.byContradiction fun hno=>?_
 have hz : ∀ k,k < p.n → p.rw i k = 0:=fun k hk=>Classical.byContradiction fun h=>hno ⟨k,hk,h⟩
 have h:=(pt1_sol ht (fun _=>0) 1).1 i hi
 rw [ha,pt1_hi,h0,rs_all_zero fun k hk=>by rw [hz k hk,Rat.zero_mul]] at h
 grind
theorem reindex {N : Nat} (g : Good N p) (F : Nat → Rat) : rs N F = rs p.m (fun h=>F (p.bs h)) + rs p.n (fun k=>F (p.os k)):=by
 have e : ∀ r,r < N → F r = rs p.m (fun h=>if p.bs h = r then F r else 0) + rs p.n (fun k=>if p.os k = r then F r else 0):=fun r hr=>by
  rcases g.cov r hr with ⟨h,hh,rfl⟩ | ⟨k,hk,rfl⟩
  ·rw [rs_pick hh (f:=fun _=>F (p.bs h)) fun i hi e=>g.bi i h hi hh e,rs_all_zero fun k hk=>if_neg fun e=>g.dis h k hh hk e.symm,Rat.add_zero]
  ·rw [rs_pick hk (f:=fun _=>F (p.os k)) fun i hi e=>g.oi i k hi hk e,rs_all_zero fun h hh=>if_neg fun e=>g.dis h k hh hk e,Rat.zero_add]
 rw [rs_congr e,rs_add,rs_swap N p.m,rs_swap N p.n]
 congr 1
 ·exact rs_congr fun h hh=>rs_one (g.bN h hh) F
 ·exact rs_congr fun k hk=>rs_one (g.oN k hk) F
def aimP (n0 : Nat) (Cv : Nat → Rat) (p : PD) : PD:={ p with
 gl:=fun k=>(if p.os k < n0 then Cv (p.os k) else 0) - rs p.m (fun h=>(if p.bs h < n0 then Cv (p.bs h) else 0) * p.rw h k)
 vv:=rs p.m (fun h=>(if p.bs h < n0 then Cv (p.bs h) else 0) * p.fr h) }
theorem aim_ties (g : Good (n0 + m) p) (hl : ∀ x : Nat → Rat,(∀ h,h < p.m → x (p.bs h) = p.fr h - rs p.n (fun k=>p.rw h k * x (p.os k))) ↔ ∀ h,h < m → x (n0 + h) = Bv h - rs n0 (fun k=>A h k * x k)) : Ties n0 m A Bv Cv (aimP n0 Cv p):=fun x z=>by
 have key : (∀ h,h < p.m → x (p.bs h) = p.fr h - rs p.n (fun k=>p.rw h k * x (p.os k))) → rs n0 (fun k=>Cv k * x k) = (aimP n0 Cv p).vv + rs p.n (fun k=>(aimP n0 Cv p).gl k * x (p.os k)):=fun hs=>by
  have e1 : rs n0 (fun k=>Cv k * x k) = rs (n0 + m) (fun r=>(if r < n0 then Cv r else 0) * x r):=by
   rw [rs_cat,rs_all_zero (n:=m) fun h _=>by rw [if_neg (by omega),Rat.zero_mul],Rat.add_zero]
   exact rs_congr fun k hk=>by rw [if_pos hk]
  rw [e1,reindex g]
  have e2 : rs p.m (fun h=>(if p.bs h < n0 then Cv (p.bs h) else 0) * x (p.bs h)) = (aimP n0 Cv p).vv - rs p.n (fun k=>rs p.m (fun h=>(if p.bs h < n0 then Cv (p.bs h) else 0) * p.rw h k) * x (p.os k)):=by
   have e3 : rs p.n (fun k=>rs p.m (fun h=>(if p.bs h < n0 then Cv (p.bs h) else 0) * p.rw h k) * x (p.os k)) = rs p.m (fun h=>(if p.bs h < n0 then Cv (p.bs h) else 0) * rs p.n (fun k=>p.rw h k * x (p.os k))):=by
    rw [rs_congr (g:=fun k=>rs p.m (fun h=>(if p.bs h < n0 then Cv (p.bs h) else 0) * (p.rw h k * x (p.os k)))) fun k _=>by
     rw [Rat.mul_comm,← rs_mul];exact rs_congr fun h _=>by grind,rs_swap p.n p.m]
    exact rs_congr fun h _=>rs_mul _ _ _
   rw [e3]
   show _ = rs p.m (fun h=>(if p.bs h < n0 then Cv (p.bs h) else 0) * p.fr h) - _
   rw [← rs_sub']
   exact rs_congr fun h hh=>by rw [hs h hh];grind
  rw [e2]
  have e4 : rs p.n (fun k=>(aimP n0 Cv p).gl k * x (p.os k)) = rs p.n (fun k=>(if p.os k < n0 then Cv (p.os k) else 0) * x (p.os k)) - rs p.n (fun k=>rs p.m (fun h=>(if p.bs h < n0 then Cv (p.bs h) else 0) * p.rw h k) * x (p.os k)):=by
   rw [← rs_sub']
   exact rs_congr fun k _=>by
    show ((if p.os k < n0 then Cv (p.os k) else 0) - rs p.m (fun h=>(if p.bs h < n0 then Cv (p.bs h) else 0) * p.rw h k)) * x (p.os k) = _
    grind
  rw [e4]
  grind
 constructor
 ·rintro ⟨h1,h2⟩
  have h1' : ∀ h,h < p.m → x (p.bs h) = p.fr h - rs p.n (fun k=>p.rw h k * x (p.os k)):=h1
  exact ⟨(hl x).1 h1',h2.trans (key h1').symm⟩
 ·rintro ⟨h1,h2⟩
  have h1':=(hl x).2 h1
  exact ⟨h1',h2.trans (key h1')⟩
end
set_option maxRecDepth 100000
set_option linter.unusedVariables false
set_option linter.unusedSimpArgs false
section
variable {n0 m : Nat} {A : Nat → Nat → Rat} {Bv Cv : Nat → Rat}
def stP (n0 m : Nat) (A : Nat → Nat → Rat) (Bv : Nat → Rat) : PD:=⟨m,n0,fun h=>n0 + h,fun k=>k,Bv,A,fun _=>0,0⟩
theorem stP_good : Good (n0 + m) (stP n0 m A Bv) where
 bN:=fun h hh=>by show n0 + h < n0 + m;have : h < m:=hh;omega
 oN:=fun k hk=>by show k < n0 + m;have : k < n0:=hk;omega
 bi:=fun h h' _ _ e=>by have : n0 + h = n0 + h':=e;omega
 oi:=fun k k' _ _ e=>e
 dis:=fun h k _ hk e=>by have h1 : n0 + h = k:=e;have h2 : k < n0:=hk;omega
 cov:=fun r hr=>by
  by_cases h : r < n0
  ·exact .inr ⟨r,h,rfl⟩
  ·exact .inl ⟨r - n0,by show r - n0 < m;omega,by show n0 + (r - n0) = r;omega⟩
theorem stP_lin (x : Nat → Rat) : (∀ h,h < (stP n0 m A Bv).m → x ((stP n0 m A Bv).bs h) = (stP n0 m A Bv).fr h - rs (stP n0 m A Bv).n (fun k=>(stP n0 m A Bv).rw h k * x ((stP n0 m A Bv).os k))) ↔ ∀ h,h < m → x (n0 + h) = Bv h - rs n0 (fun k=>A h k * x k):=Iff.rfl
def st1 (n0 m : Nat) (A : Nat → Nat → Rat) (Bv : Nat → Rat) : PD:=⟨m,n0 + 1,fun h=>n0 + h,fun k=>if k < n0 then k else n0 + m,Bv,fun h k=>if k < n0 then A h k else -1,fun k=>if k < n0 then 0 else -1,0⟩
theorem st1_good : Good (n0 + m + 1) (st1 n0 m A Bv) where
 bN:=fun h hh=>by show n0 + h < n0 + m + 1;have : h < m:=hh;omega
 oN:=fun k hk=>by show (if k < n0 then k else n0 + m) < n0 + m + 1;split <;> omega
 bi:=fun h h' _ _ e=>by have : n0 + h = n0 + h':=e;omega
 oi:=fun k k' hk hk' e=>by
  have h1 : k < n0 + 1:=hk
  have h2 : k' < n0 + 1:=hk'
  have e : (if k < n0 then k else n0 + m) = (if k' < n0 then k' else n0 + m):=e
  split at e <;> split at e <;> omega
 dis:=fun h k hh hk e=>by
  have h1 : h < m:=hh
  have e : n0 + h = (if k < n0 then k else n0 + m):=e
  split at e <;> omega
 cov:=fun r hr=>by
  by_cases h : r < n0
  ·exact .inr ⟨r,by show r < n0 + 1;omega,by show (if r < n0 then r else n0 + m) = r;rw [if_pos h]⟩
  ·by_cases h2 : r < n0 + m
   ·exact .inl ⟨r - n0,by show r - n0 < m;omega,by show n0 + (r - n0) = r;omega⟩
   ·exact .inr ⟨n0,Nat.lt_succ_self n0,by show (if n0 < n0 then n0 else n0 + m) = r;rw [if_neg (by omega)];omega⟩
theorem st1_ties : Ties1 n0 m A Bv (st1 n0 m A Bv):=fun x z=>by
 have e : ∀ h,rs (n0 + 1) (fun k=>(if k < n0 then A h k else -1) * x (if k < n0 then k else n0 + m)) = rs n0 (fun k=>A h k * x k) + -1 * x (n0 + m):=fun h=>by
  rw [rs,if_neg (by omega),if_neg (by omega)]
  congr 1
  exact rs_congr fun k hk=>by rw [if_pos hk,if_pos hk]
 have e2 : rs (n0 + 1) (fun k=>(if k < n0 then (0 : Rat) else -1) * x (if k < n0 then k else n0 + m)) = -1 * x (n0 + m):=by
  rw [rs,if_neg (by omega),if_neg (by omega),rs_all_zero fun k hk=>by rw [if_pos hk,Rat.zero_mul],Rat.zero_add]
 constructor
 ·rintro ⟨h1,h2⟩
  refine ⟨fun h hh=>?_,?_⟩
  ·have h3 : x (n0 + h) = Bv h - rs (n0 + 1) (fun k=>(if k < n0 then A h k else -1) * x (if k < n0 then k else n0 + m)):=h1 h hh
   rw [h3,e];grind
  ·have h3 : z = 0 + rs (n0 + 1) (fun k=>(if k < n0 then (0 : Rat) else -1) * x (if k < n0 then k else n0 + m)):=h2
   rw [h3,e2];grind
 ·rintro ⟨h1,h2⟩
  refine ⟨fun h hh=>?_,?_⟩
  ·show x (n0 + h) = Bv h - rs (n0 + 1) (fun k=>(if k < n0 then A h k else -1) * x (if k < n0 then k else n0 + m))
   rw [h1 h hh,e];grind
  ·show z = 0 + rs (n0 + 1) (fun k=>(if k < n0 then (0 : Rat) else -1) * x (if k < n0 then k else n0 + m))
   rw [h2,e2];grind
theorem first_piv {i : Nat} (hi : i < m) (neg : Bv i < 0) (least : ∀ h,h < m → Bv i ≤ Bv h) : (st1 n0 m A Bv).rw i n0 ≠ 0 ∧ ∀ h,h < m → 0 ≤ (piv (st1 n0 m A Bv) i n0).fr h:=by
 have r1 : ∀ h,(st1 n0 m A Bv).rw h n0 = -1:=fun h=>by show (if n0 < n0 then A h n0 else (-1 : Rat)) = -1;rw [if_neg (by omega)]
 have hne : (-1 : Rat) ≠ 0:=by decide
 refine ⟨by rw [r1];exact hne,fun h hh=>?_⟩
 have hinv : (-1 : Rat)⁻¹ * -1 = 1:=Rat.inv_mul_cancel _ hne
 show 0 ≤ (if h = i then (st1 n0 m A Bv).fr i * ((st1 n0 m A Bv).rw i n0)⁻¹ else (st1 n0 m A Bv).fr h - (st1 n0 m A Bv).rw h n0 * ((st1 n0 m A Bv).fr i * ((st1 n0 m A Bv).rw i n0)⁻¹))
 rw [r1,r1]
 show 0 ≤ (if h = i then Bv i * (-1)⁻¹ else Bv h - -1 * (Bv i * (-1)⁻¹))
 have l:=least h hh
 generalize (-1 : Rat)⁻¹ = v at *
 have hv : v = -1:=by grind
 subst hv
 split <;> grind
def dropP (p : PD) (j : Nat) : PD:={ p with
 n:=p.n - 1
 os:=fun k=>p.os (if k < j then k else k + 1)
 rw:=fun h k=>p.rw h (if k < j then k else k + 1)
 gl:=fun k=>p.gl (if k < j then k else k + 1) }
theorem rs_drop {j : Nat} (f : Nat → Rat) : ∀ {n : Nat},j < n + 1 → rs (n + 1) f = f j + rs n (fun k=>f (if k < j then k else k + 1)):=by
 intro n
 induction n with
 | zero => intro h; obtain rfl : j = 0 := by omega
           simp [rs, Rat.add_zero, Rat.zero_add]
 | succ n ih =>
  intro h
  rcases Nat.lt_succ_iff_lt_or_eq.1 h with h1 | rfl
  ·rw [rs,ih h1,rs,if_neg (show ¬ n < j by omega)];grind
  ·rw [rs,Rat.add_comm]
   congr 1
   exact rs_congr fun k hk=>by rw [if_pos hk]
theorem drop_lin {p : PD} {j : Nat} (hj : j < p.n) (ha : p.os j = n0 + m) (g : Good (n0 + m + 1) p) (ht : Ties1 n0 m A Bv p) (x : Nat → Rat) :
  (∀ h,h < (dropP p j).m → x ((dropP p j).bs h) = (dropP p j).fr h - rs (dropP p j).n (fun k=>(dropP p j).rw h k * x ((dropP p j).os k))) ↔ ∀ h,h < m → x (n0 + h) = Bv h - rs n0 (fun k=>A h k * x k):=by
 obtain ⟨n',hn'⟩ : ∃ n',p.n = n' + 1:=⟨p.n - 1,by omega⟩
 let y : Nat → Rat:=fun r=>if r = n0 + m then 0 else x r
 have yo : ∀ r,r ≠ n0 + m → y r = x r:=fun r h=>if_neg h
 have ya : y (n0 + m) = 0:=if_pos rfl
 have hsum : ∀ h,rs p.n (fun k=>p.rw h k * y (p.os k)) = rs (p.n - 1) (fun k=>p.rw h (if k < j then k else k + 1) * x (p.os (if k < j then k else k + 1))):=fun h=>by
  rw [hn',Nat.add_sub_cancel,rs_drop (j:=j) (fun k=>p.rw h k * y (p.os k)) (by omega),ha,ya,Rat.mul_zero,Rat.zero_add]
  refine rs_congr fun k hk=>?_
  have hne : p.os (if k < j then k else k + 1) ≠ n0 + m:=fun e=>by
   have:=g.oi _ j (by split <;> omega) hj (e.trans ha.symm)
   split at this <;> omega
  rw [yo _ hne]
 have hb : ∀ h,h < p.m → y (p.bs h) = x (p.bs h):=fun h hh=>yo _ fun e=>g.dis h j hh hj (e.trans ha.symm)
 have key : (∀ h,h < p.m → y (p.bs h) = p.fr h - rs p.n (fun k=>p.rw h k * y (p.os k))) ↔ ∀ h,h < m → y (n0 + h) = Bv h - rs n0 (fun k=>A h k * y k) + y (n0 + m):=by
  have h:=ht y (p.vv + rs p.n (fun k=>p.gl k * y (p.os k)))
  constructor
  ·exact fun h1=>(h.1 ⟨h1,rfl⟩).1
  ·intro h1
   have h2:=(ht y (-y (n0 + m))).2 ⟨h1,rfl⟩
   exact h2.1
 constructor
 ·intro h1 h hh
  have h2:=key.1 (fun h hh=>by rw [hsum h,hb h hh];exact h1 h hh) h hh
  rw [yo _ (by omega),ya,rs_congr (g:=fun k=>A h k * x k) fun k hk=>by rw [yo k (by omega)]] at h2
  rw [h2];grind
 ·intro h1 h hh
  have h2:=key.2 (fun h hh=>by
   rw [yo _ (by omega),ya,rs_congr (g:=fun k=>A h k * x k) fun k hk=>by rw [yo k (by omega)],h1 h hh];grind) h hh
  rw [hsum h,hb h hh] at h2
  exact h2
end
set_option maxRecDepth 100000
set_option linter.unusedVariables false
set_option linter.unusedSimpArgs false
structure Neat (N : Nat) (D : Dic) : Prop where
 A0 : ∀ r j,j < N → D.B j = true → D.A r j = 0
 c0 : ∀ j,j < N → D.B j = true → D.c j = 0
theorem neat_of {N : Nat} {p : PD} (g : Good N p) : Neat N (toDic p) where
 A0:=fun r j _ hb=>by
  obtain ⟨h,hh,e⟩:=dic_B.1 hb
  exact dic_A0 r fun k hk e2=>g.dis h k hh hk (e.trans e2.symm)
 c0:=fun j _ hb=>by
  obtain ⟨h,hh,e⟩:=dic_B.1 hb
  exact dic_c0 fun k hk e2=>g.dis h k hh hk (e.trans e2.symm)
def ptS (D : Dic) (s : Nat) (y : Rat) (j : Nat) : Rat:=if j = s then y else if D.B j = true then D.b j - D.A j s * y else 0
theorem neat_pick {N : Nat} {D E : Dic} {s : Nat} (sB : D.B s = false) (hs : s < N) (y : Rat) {f : Nat → Rat} (hf : ∀ j,j < N → D.B j = true → f j = 0) : rs N (fun j=>f j * ptS D s y j) = f s * y:=by
 rw [rs_congr (g:=fun j=>if s = j then f j * y else 0) fun j hj=>?_]
 ·exact rs_one hs (fun j=>f j * y)
 ·unfold ptS
  by_cases e : j = s
  ·subst e;rw [if_pos rfl,if_pos rfl]
  ·rw [if_neg e,if_neg (show ¬ s = j from fun h=>e h.symm)]
   by_cases hb : D.B j = true
   ·rw [if_pos hb,hf j hj hb,Rat.zero_mul]
   ·rw [if_neg hb,Rat.mul_zero]
theorem ptS_sol {N : Nat} {D : Dic} (hD : Neat N D) {s : Nat} (hs : s < N) (sB : D.B s = false) (y : Rat) : Sol N D (ptS D s y) (D.v + D.c s * y):=by
 refine ⟨fun r hr hb=>?_,?_⟩
 ·have e : r ≠ s:=fun e=>by rw [e,sB] at hb;cases hb
  rw [neat_pick (E:=D) sB hs y fun j hj hb=>hD.A0 r j hj hb,ptS,if_neg e,if_pos hb]
 ·rw [neat_pick (E:=D) sB hs y fun j hj hb=>hD.c0 j hj hb]
theorem dic_unique {N : Nat} {D E : Dic} (hD : Neat N D) (hE : Neat N E) (hq : Eqv N D E) (hB : ∀ r,r < N → D.B r = E.B r) {s : Nat} (hs : s < N) (sB : D.B s = false) :
  D.v = E.v ∧ D.c s = E.c s ∧ ∀ r,r < N → D.B r = true → D.b r = E.b r ∧ D.A r s = E.A r s:=by
 have h0:=(hq _ _).1 (ptS_sol hD hs sB 0)
 have h1:=(hq _ _).1 (ptS_sol hD hs sB 1)
 have pc : ∀ y,rs N (fun j=>E.c j * ptS D s y j) = E.c s * y:=fun y=>neat_pick (E:=D) sB hs y fun j hj hb=>hE.c0 j hj (by rw [← hB j hj];exact hb)
 have pA : ∀ r y,rs N (fun j=>E.A r j * ptS D s y j) = E.A r s * y:=fun r y=>neat_pick (E:=D) sB hs y fun j hj hb=>hE.A0 r j hj (by rw [← hB j hj];exact hb)
 have z0:=h0.2
 have z1:=h1.2
 rw [pc] at z0 z1
 refine ⟨by grind,by grind,fun r hr hb=>?_⟩
 have hb' : E.B r = true:=by rw [← hB r hr];exact hb
 have e : r ≠ s:=fun e=>by rw [e,sB] at hb;cases hb
 have r0:=h0.1 r hr hb'
 have r1:=h1.1 r hr hb'
 rw [pA,ptS,if_neg e,if_pos hb] at r0 r1
 exact ⟨by grind,by grind⟩
section
variable {N : Nat} {p q : PD}
theorem back_step (g : Good N p) (g0 : Good N q) (hq : Eqv N (toDic q) (toDic p)) {i : Nat} (hi : i < p.m) (hn : (toDic q).B (p.bs i) = false) : ∃ j,j < p.n ∧ (toDic q).B (p.os j) = true ∧ p.rw i j ≠ 0:=by
 refine Classical.byContradiction fun hno=>?_
 have hz : ∀ j,j < p.n → (toDic q).B (p.os j) = true → p.rw i j = 0:=fun j hj hb=>Classical.byContradiction fun h=>hno ⟨j,hj,hb,h⟩
 have key : ∀ y : Rat,y = p.fr i:=fun y=>by
  have hs:=(sol_iff g _ _).1 ((hq _ _).1 (ptS_sol (neat_of g0) (g.bN i hi) hn y))
  have h:=hs.1 i hi
  rw [ptS,if_pos rfl,rs_all_zero fun k hk=>?_] at h
  ·grind
  ·cases hb : (toDic q).B (p.os k) with
   | true=>rw [hz k hk hb,Rat.zero_mul]
   | false=>rw [ptS,if_neg (fun e=>g.dis i k hi hk e.symm),if_neg (by rw [hb];decide),Rat.mul_zero]
 have h0:=key 0
 have h1:=key 1
 rw [← h0] at h1
 exact absurd h1 (by decide)
theorem same_basis (g : Good N p) (g0 : Good N q) (hq : Eqv N (toDic q) (toDic p)) (hall : ∀ i,i < p.m → (toDic q).B (p.bs i) = true) : ∀ r,r < N → (toDic p).B r = (toDic q).B r:=fun r hr=>by
 cases hp : (toDic p).B r with
 | true =>
  obtain ⟨i,hi,rfl⟩:=dic_B.1 hp
  exact (hall i hi).symm
 | false =>
  cases hb : (toDic q).B r with
  | false=>rfl
  | true =>
   have key : ∀ y : Rat,y = (toDic q).b r:=fun y=>by
    have hs:=(hq _ _).2 (ptS_sol (neat_of g) hr hp y)
    have h:=hs.1 r hr hb
    rw [ptS,if_pos rfl,rs_all_zero fun j hj=>?_] at h
    ·grind
    ·cases h2 : (toDic q).B j with
     | true=>rw [(neat_of g0).A0 r j hj h2,Rat.zero_mul]
     | false =>
      have e1 : j ≠ r:=fun e=>by rw [e,hb] at h2;cases h2
      have e2 : ¬ (toDic p).B j = true:=fun h3=>by
       obtain ⟨i,hi,rfl⟩:=dic_B.1 h3
       rw [hall i hi] at h2;cases h2
      rw [ptS,if_neg e1,if_neg e2,Rat.mul_zero]
   have h0:=key 0
   have h1:=key 1
   rw [← h0] at h1
   exact absurd h1 (by decide)
end
theorem rinv_bd {k : Nat} {q : Rat} (h : bd k q) (hk : 1 ≤ k) : bd k q⁻¹:=by
 have e : q⁻¹ = mkRat (sg (decide (q.num < 0)) q.den) q.num.natAbs:=by
  rw [Rat.inv_def,← Rat.divInt_ofNat]
  by_cases h : q.num < 0
  ·rw [decide_eq_true h,show ((q.num.natAbs : Nat) : Int) = -q.num by omega,Rat.divInt_neg']
   show _ = Rat.divInt (-(-(q.den : Int))) q.num
   rw [Int.neg_neg]
  ·rw [decide_eq_false h,show ((q.num.natAbs : Nat) : Int) = q.num by omega]
   rfl
 rw [e]
 exact bd_mk hk h.2 h.1
structure PB (K : Nat) (p : PD) : Prop where
 fr : ∀ h,h < p.m → bd K (p.fr h)
 rw : ∀ h k,h < p.m → k < p.n → bd K (p.rw h k)
 gl : ∀ k,k < p.n → bd K (p.gl k)
 vv : bd K p.vv
theorem bd_sub {j k : Nat} {x y : Rat} (hx : bd j x) (hy : bd k y) : bd (j + k + 1) (x - y):=by
 rw [Rat.sub_eq_add_neg];exact bd_add hx (bd_neg hy)
theorem piv_bd {K : Nat} {p : PD} (hK : 1 ≤ K) (h : PB K p) {i j : Nat} (hi : i < p.m) (hj : j < p.n) : PB (4 * K + 1) (piv p i j):=by
 have hv:=rinv_bd (h.rw i j hi hj) hK
 have hf:=bd_mul (h.fr i hi) hv (by omega)
 refine ⟨fun g hg=>?_,fun g k hg hk=>?_,fun k hk=>?_,?_⟩
 ·show bd (4 * K + 1) (if g = i then _ else _)
  split
  ·exact bd_mono hf (by omega)
  ·exact bd_mono (bd_sub (h.fr g hg) (bd_mul (h.rw g j hg hj) hf (by omega))) (by omega)
 ·show bd (4 * K + 1) (if g = i then (if k = j then _ else _) else (if k = j then _ else _))
  have hr:=bd_mul (h.rw i k hi hk) hv (by omega)
  split
  ·split
   ·exact bd_mono hv (by omega)
   ·exact bd_mono hr (by omega)
  ·split
   ·exact bd_mono (bd_neg (bd_mul (h.rw g j hg hj) hv (by omega))) (by omega)
   ·exact bd_mono (bd_sub (h.rw g k hg hk) (bd_mul (h.rw g j hg hj) hr (by omega))) (by omega)
 ·show bd (4 * K + 1) (if k = j then _ else _)
  split
  ·exact bd_mono (bd_neg (bd_mul (h.gl j hj) hv (by omega))) (by omega)
  ·exact bd_mono (bd_sub (h.gl k hk) (bd_mul (h.gl j hj) (bd_mul (h.rw i k hi hk) hv (by omega)) (by omega))) (by omega)
 ·exact bd_mono (bd_add h.vv (bd_mul (h.gl j hj) hf (by omega))) (by omega)
theorem eqv_of {N : Nat} {p q : PD} (g : Good N p) (g' : Good N q) (h : ∀ x z,PSol p x z ↔ PSol q x z) : Eqv N (toDic p) (toDic q):=fun x z=>by rw [sol_iff g,sol_iff g'];exact h x z
theorem PB.same {N K : Nat} {p q : PD} (g : Good N p) (g' : Good N q) (hn : 0 < p.n) (hq : Eqv N (toDic q) (toDic p)) (hB : ∀ r,r < N → (toDic p).B r = (toDic q).B r) (h : PB K q) : PB K p:=by
 have uq : ∀ k,k < p.n → _:=fun k hk=>dic_unique (neat_of g) (neat_of g') (Eqv.symm hq) hB (g.oN k hk) (dic_Bo g hk)
 have place : ∀ i,i < p.m → ∃ i',i' < q.m ∧ q.bs i' = p.bs i:=fun i hi=>by
  have : (toDic q).B (p.bs i) = true:=by rw [← hB _ (g.bN i hi)];exact dic_B.2 ⟨i,hi,rfl⟩
  exact dic_B.1 this
 have placeO : ∀ k,k < p.n → ∃ k',k' < q.n ∧ q.os k' = p.os k:=fun k hk=>by
  rcases g'.cov _ (g.oN k hk) with ⟨i,hi,e⟩ | h
  ·have h1:=dic_Bo g hk
   rw [hB _ (g.oN k hk),dic_B.2 ⟨i,hi,e⟩] at h1;cases h1
  ·exact h
 refine ⟨fun i hi=>?_,fun i k hi hk=>?_,fun k hk=>?_,?_⟩
 ·obtain ⟨i',hi',e⟩:=place i hi
  have h1:=((uq 0 hn).2.2 _ (g.bN i hi) (dic_B.2 ⟨i,hi,rfl⟩)).1
  rw [dic_b g hi,← e,dic_b g' hi'] at h1
  rw [h1];exact h.fr i' hi'
 ·obtain ⟨i',hi',e⟩:=place i hi
  obtain ⟨k',hk',e'⟩:=placeO k hk
  have h1:=((uq k hk).2.2 _ (g.bN i hi) (dic_B.2 ⟨i,hi,rfl⟩)).2
  rw [dic_Ao g hi hk,← e,← e',dic_Ao g' hi' hk'] at h1
  rw [h1];exact h.rw i' k' hi' hk'
 ·obtain ⟨k',hk',e'⟩:=placeO k hk
  have h1:=(uq k hk).2.1
  rw [dic_c g hk,← e',dic_c g' hk'] at h1
  rw [h1];exact h.gl k' hk'
 ·have h1 : p.vv = q.vv:=(uq 0 hn).1
  rw [h1];exact h.vv
def cb (f : Nat → Bool) : Nat → Nat
 | 0=>0
 | n + 1=>cb f n + (if f n = true then 1 else 0)
theorem cb_zero {f : Nat → Bool} : ∀ {n : Nat},cb f n = 0 → ∀ i,i < n → f i = false:=by
 intro n
 induction n with
 | zero=>intro _ i hi;omega
 | succ n ih =>
  intro h i hi
  rw [cb] at h
  cases hf : f n with
  | true=>rw [hf,if_pos rfl] at h;omega
  | false =>
   rcases Nat.lt_succ_iff_lt_or_eq.1 hi with h1 | rfl
   ·exact ih (by omega) i h1
   ·exact hf
theorem cb_pos {f : Nat → Bool} : ∀ {n : Nat},cb f n ≠ 0 → ∃ i,i < n ∧ f i = true:=by
 intro n
 induction n with
 | zero=>intro h;exact absurd rfl h
 | succ n ih =>
  intro h
  cases hf : f n with
  | true=>exact ⟨n,Nat.lt_succ_self n,hf⟩
  | false =>
   rw [cb,hf,if_neg (by decide)] at h
   obtain ⟨i,h1,h2⟩:=ih (by omega)
   exact ⟨i,by omega,h2⟩
theorem cb_dec {f f' : Nat → Bool} {i : Nat} (h1 : f i = true) (h2 : f' i = false) (h3 : ∀ h,h ≠ i → f' h = f h) : ∀ {n : Nat},i < n → cb f' n + 1 = cb f n:=by
 have low : ∀ {n : Nat},n ≤ i → cb f' n = cb f n:=by
  intro n
  induction n with
  | zero=>intro _;rfl
  | succ n ih=>intro h;rw [cb,cb,ih (by omega),h3 n (by omega)]
 intro n
 induction n with
 | zero=>intro h;omega
 | succ n ih =>
  intro h
  rw [cb,cb]
  rcases Nat.lt_succ_iff_lt_or_eq.1 h with h4 | rfl
  ·rw [h3 n (by omega)];have:=ih h4;omega
  ·rw [low (Nat.le_refl i),h1,h2,if_neg (by decide),if_pos rfl]
def szP' (K : Nat) : Nat → Nat
 | 0=>K
 | d + 1=>4 * szP' K d + 1
theorem szP'_pos {K : Nat} (hK : 1 ≤ K) : ∀ d,1 ≤ szP' K d
 | 0=>hK
 | d + 1=>by rw [szP'];omega
theorem inv_ne {a : Rat} (h : a ≠ 0) : a⁻¹ ≠ 0:=fun e=>by
 have:=Rat.inv_mul_cancel a h
 rw [e,Rat.zero_mul] at this
 exact absurd this (by decide)
theorem size_all {N K : Nat} {q : PD} (g0 : Good N q) (hK : 1 ≤ K) (hb : PB K q) : ∀ (d : Nat) (p : PD),Good N p → 0 < p.n → Eqv N (toDic q) (toDic p) → cb (fun i=>!(toDic q).B (p.bs i)) p.m = d → PB (szP' K d) p:=by
 intro d
 induction d with
 | zero =>
  intro p g hn hq hc
  refine PB.same g g0 hn hq (same_basis g g0 hq fun i hi=>?_) hb
  have:=cb_zero hc i hi
  simpa using this
 | succ d ih =>
  intro p g hn hq hc
  obtain ⟨i,hi,hf⟩:=cb_pos (f:=fun i=>!(toDic q).B (p.bs i)) (n:=p.m) (by omega)
  have hf' : (toDic q).B (p.bs i) = false:=by simpa using hf
  obtain ⟨j,hj,hj1,hj2⟩:=back_step g g0 hq hi hf'
  have g1:=g.piv hi hj
  have e1 : Eqv N (toDic p) (toDic (piv p i j)):=eqv_of g g1 fun x z=>piv_sol hi hj hj2 x z
  have bi : (piv p i j).bs i = p.os j:=if_pos rfl
  have bh : ∀ h,h ≠ i → (piv p i j).bs h = p.bs h:=fun h hne=>if_neg hne
  have hc1 : cb (fun i'=>!(toDic q).B ((piv p i j).bs i')) p.m = d:=by
   have:=cb_dec (f:=fun i=>!(toDic q).B (p.bs i)) (f':=fun i'=>!(toDic q).B ((piv p i j).bs i')) (i:=i) hf (by show (!(toDic q).B ((piv p i j).bs i)) = false;rw [bi,hj1];rfl) (fun h hne=>by show (!(toDic q).B ((piv p i j).bs h)) = _;rw [bh h hne]) hi
   omega
  have hb1:=ih (piv p i j) g1 hn (hq.trans e1) hc1
  have hr : (piv p i j).rw i j = (p.rw i j)⁻¹:=by show (if i = i then (if j = j then _ else _) else _) = _;rw [if_pos rfl,if_pos rfl]
  have g2:=g1.piv (i:=i) (j:=j) hi hj
  have e2 : Eqv N (toDic (piv p i j)) (toDic (piv (piv p i j) i j)):=eqv_of g1 g2 fun x z=>piv_sol (p:=piv p i j) hi hj (by rw [hr];exact inv_ne hj2) x z
  have hb2:=piv_bd (p:=piv p i j) (szP'_pos hK d) hb1 hi hj
  refine PB.same g g2 hn (Eqv.symm (e1.trans e2)) (fun r hr'=>?_) hb2
  have bs2 : ∀ h,(piv (piv p i j) i j).bs h = p.bs h:=fun h=>by
   show (if h = i then (if j = j then p.bs i else p.os j) else (if h = i then p.os j else p.bs h)) = p.bs h
   by_cases e : h = i
   ·rw [if_pos e,if_pos rfl,e]
   ·rw [if_neg e,if_neg e]
  cases h1 : (toDic p).B r with
  | true =>
   obtain ⟨h,hh,e⟩:=dic_B.1 h1
   exact ((dic_B (p:=piv (piv p i j) i j)).2 ⟨h,hh,(bs2 h).trans e⟩).symm
  | false =>
   cases h2 : (toDic (piv (piv p i j) i j)).B r with
   | false=>rfl
   | true =>
    obtain ⟨h,hh,e⟩:=dic_B.1 h2
    have:=(dic_B (p:=p)).2 ⟨h,hh,(bs2 h).symm.trans e⟩
    rw [h1] at this;cases this
set_option maxRecDepth 100000
set_option linter.unusedVariables false
set_option linter.unusedSimpArgs false
theorem quot_le {x y a b : Rat} (ha : 0 < a) (hb : 0 < b) : x * a⁻¹ ≤ y * b⁻¹ ↔ x * b ≤ y * a:=by
 have h1 : a⁻¹ * a = 1:=Rat.inv_mul_cancel _ (by intro e;rw [e] at ha;exact absurd ha (by decide))
 have h2 : b⁻¹ * b = 1:=Rat.inv_mul_cancel _ (by intro e;rw [e] at hb;exact absurd hb (by decide))
 have hab:=Rat.mul_pos ha hb
 have e1 : x * b = x * a⁻¹ * (a * b):=by
  have : x * a⁻¹ * (a * b) = x * (a⁻¹ * a) * b:=by grind
  rw [this,h1,Rat.mul_one]
 have e2 : y * a = y * b⁻¹ * (a * b):=by
  have : y * b⁻¹ * (a * b) = y * (b⁻¹ * b) * a:=by grind
  rw [this,h2,Rat.mul_one]
 rw [e1,e2]
 generalize x * a⁻¹ = u
 generalize y * b⁻¹ = w
 generalize a * b = c at hab
 constructor
 ·intro h
  have:=Rat.mul_nonneg (show 0 ≤ w - u by grind) (Rat.le_of_lt hab)
  grind
 ·intro h
  rcases Rat.le_total (a:=u) (b:=w) with h3 | h3
  ·exact h3
  ·by_cases h4 : u = w
   ·rw [h4];exact Rat.le_refl
   ·have:=Rat.mul_pos (show 0 < u - w by grind) hab
    grind
def lm (p : PD) (j h : Nat) : Rat:=p.fr h * (p.rw h j)⁻¹
def lvQ (p : PD) (j : Nat) (pf : Int) (k : Nat) (best : Int) : Prop :=
 (best = -1 ∧ ∀ h,h < k → p.rw h j ≤ 0) ∨ ∃ i : Nat,best = i ∧ i < k ∧ 0 < p.rw i j ∧ ∀ h,h < k → 0 < p.rw h j → lm p j i ≤ lm p j h ∧ (lm p j i = lm p j h → (p.bs i : Int) = pf ∨ ((p.bs h : Int) ≠ pf ∧ p.bs i ≤ p.bs h))
theorem lvQ_zero (p : PD) (j : Nat) (pf : Int) : lvQ p j pf 0 (-1):=.inl ⟨rfl,fun h hh=>absurd hh (Nat.not_lt_zero _)⟩
theorem lvQ_skip {p : PD} {j k : Nat} {pf best : Int} (h : lvQ p j pf k best) (hn : p.rw k j ≤ 0) : lvQ p j pf (k + 1) best:=by
 rcases h with ⟨e,h⟩ | ⟨i,e,hi,hp,h⟩
 ·refine .inl ⟨e,fun g hg=>?_⟩
  rcases Nat.lt_succ_iff_lt_or_eq.1 hg with h1 | rfl
  ·exact h g h1
  ·exact hn
 ·refine .inr ⟨i,e,by omega,hp,fun g hg hg2=>?_⟩
  rcases Nat.lt_succ_iff_lt_or_eq.1 hg with h1 | rfl
  ·exact h g h1 hg2
  ·exact absurd hg2 (Rat.not_lt.2 hn)
theorem lvQ_first {p : PD} {j k : Nat} {pf : Int} (h : ∀ h,h < k → p.rw h j ≤ 0) (hp : 0 < p.rw k j) : lvQ p j pf (k + 1) k :=
 .inr ⟨k,rfl,Nat.lt_succ_self k,hp,fun g hg hg2=>by
  rcases Nat.lt_succ_iff_lt_or_eq.1 hg with h1 | rfl
  ·exact absurd hg2 (Rat.not_lt.2 (h g h1))
  ·exact ⟨Rat.le_refl,fun _=>by
    by_cases e : (p.bs g : Int) = pf
    ·exact .inl e
    ·exact .inr ⟨e,Nat.le_refl _⟩⟩⟩
theorem lvQ_less {p : PD} {j k i : Nat} {pf : Int} (h : lvQ p j pf k i) (hp : 0 < p.rw k j) (hl : lm p j k < lm p j i) : lvQ p j pf (k + 1) k:=by
 rcases h with ⟨e,h⟩ | ⟨i',e,hi,hp',h⟩
 ·omega
 ·obtain rfl : i = i':=by omega
  refine .inr ⟨k,rfl,Nat.lt_succ_self k,hp,fun g hg hg2=>?_⟩
  rcases Nat.lt_succ_iff_lt_or_eq.1 hg with h1 | rfl
  ·have h2:=(h g h1 hg2).1
   exact ⟨by grind,fun e=>by grind⟩
  ·exact ⟨Rat.le_refl,fun _=>by
    by_cases e : (p.bs g : Int) = pf
    ·exact .inl e
    ·exact .inr ⟨e,Nat.le_refl _⟩⟩
theorem lvQ_tie {p : PD} {j k i : Nat} {pf : Int} (h : lvQ p j pf k i) (hp : 0 < p.rw k j) (hl : lm p j k = lm p j i) (h1 : (p.bs i : Int) ≠ pf) (h2 : (p.bs k : Int) = pf ∨ p.bs k < p.bs i) : lvQ p j pf (k + 1) k:=by
 rcases h with ⟨e,h⟩ | ⟨i',e,hi,hp',h⟩
 ·omega
 ·obtain rfl : i = i':=by omega
  refine .inr ⟨k,rfl,Nat.lt_succ_self k,hp,fun g hg hg2=>?_⟩
  rcases Nat.lt_succ_iff_lt_or_eq.1 hg with h3 | rfl
  ·obtain ⟨h4,h5⟩:=h g h3 hg2
   refine ⟨by rw [hl];exact h4,fun e=>?_⟩
   rcases h2 with h2 | h2
   ·exact .inl h2
   ·rcases h5 (hl.symm.trans e) with h6 | ⟨h6,h7⟩
    ·exact absurd h6 h1
    ·exact .inr ⟨h6,by omega⟩
  ·exact ⟨Rat.le_refl,fun _=>by
    by_cases e : (p.bs g : Int) = pf
    ·exact .inl e
    ·exact .inr ⟨e,Nat.le_refl _⟩⟩
theorem lvQ_keep {p : PD} {j k i : Nat} {pf : Int} (h : lvQ p j pf k i) (hl : lm p j i ≤ lm p j k) (ht : lm p j k = lm p j i → (p.bs i : Int) = pf ∨ ((p.bs k : Int) ≠ pf ∧ p.bs i ≤ p.bs k)) : lvQ p j pf (k + 1) i:=by
 rcases h with ⟨e,h⟩ | ⟨i',e,hi,hp',h⟩
 ·omega
 ·obtain rfl : i = i':=by omega
  refine .inr ⟨i,rfl,by omega,hp',fun g hg hg2=>?_⟩
  rcases Nat.lt_succ_iff_lt_or_eq.1 hg with h1 | rfl
  ·exact h g h1 hg2
  ·exact ⟨hl,fun e=>ht e.symm⟩
theorem lvQ_min {p : PD} {i j : Nat} {pf : Int} (h : lvQ p j pf p.m i) : i < p.m ∧ 0 < p.rw i j ∧ ∀ h,h < p.m → 0 < p.rw h j → p.fr i * p.rw h j ≤ p.fr h * p.rw i j:=by
 rcases h with ⟨e,_⟩ | ⟨i',e,hi,hp,h⟩
 ·omega
 ·obtain rfl : i = i':=by omega
  exact ⟨hi,hp,fun g hg hg2=>(quot_le hp hg2).1 (h g hg hg2).1⟩
theorem choice_of {p : PD} {i j : Nat} {pf : Int} (hj : j < p.n) (up : 0 < p.gl j) (low : ∀ k,k < p.n → 0 < p.gl k → p.os j ≤ p.os k) (h : lvQ p j pf p.m i) (hne : (p.bs i : Int) ≠ pf) : Choice p i j:=by
 obtain ⟨h1,h2,h3⟩:=lvQ_min h
 refine ⟨h1,hj,up,low,h2,h3,fun g hg hg2 e=>?_⟩
 rcases h with ⟨e',_⟩ | ⟨i',e',hi,hp,h⟩
 ·omega
 ·obtain rfl : i = i':=by omega
  have e1 : lm p j i = lm p j g:=Rat.le_antisymm ((quot_le hp hg2).2 (by rw [e];exact Rat.le_refl)) ((quot_le hg2 hp).2 (by rw [e];exact Rat.le_refl))
  rcases (h g hg hg2).2 e1 with h4 | h4
  ·exact absurd h4 hne
  ·exact h4.2
structure Run (N : Nat) (q p : PD) : Prop where
 g : Good N p
 sol : ∀ x z,PSol q x z ↔ PSol p x z
 m : p.m = q.m
 n : p.n = q.n
theorem Run.refl {N : Nat} {p : PD} (g : Good N p) : Run N p p:=⟨g,fun _ _=>Iff.rfl,rfl,rfl⟩
theorem Run.piv {N : Nat} {q p : PD} (r : Run N q p) {i j : Nat} (hi : i < p.m) (hj : j < p.n) (ha : p.rw i j ≠ 0) : Run N q (piv p i j) :=
 ⟨r.g.piv hi hj,fun x z=>(r.sol x z).trans (piv_sol hi hj ha x z),r.m,r.n⟩
theorem Run.trans {N : Nat} {q p r : PD} (a : Run N q p) (b : Run N p r) : Run N q r:=⟨b.g,fun x z=>(a.sol x z).trans (b.sol x z),b.m.trans a.m,b.n.trans a.n⟩
theorem szP'_mono {K : Nat} : ∀ {d e : Nat},d ≤ e → szP' K d ≤ szP' K e:=by
 intro d e h
 induction e with
 | zero=>rw [Nat.le_zero.1 h];exact Nat.le_refl _
 | succ e ih =>
  rcases Nat.lt_succ_iff_lt_or_eq.1 (Nat.lt_succ_of_le h) with h1 | rfl
  ·have:=ih (by omega);rw [szP'];omega
  ·exact Nat.le_refl _
theorem PB.mono {K L : Nat} {p : PD} (h : PB K p) (hk : K ≤ L) : PB L p:=⟨fun a b=>bd_mono (h.fr a b) hk,fun a b c d=>bd_mono (h.rw a b c d) hk,fun a b=>bd_mono (h.gl a b) hk,bd_mono h.vv hk⟩
theorem cb_le (f : Nat → Bool) : ∀ n,cb f n ≤ n
 | 0=>Nat.le_refl 0
 | n + 1=>by have:=cb_le f n;rw [cb];split <;> omega
theorem Run.size {N K : Nat} {q p : PD} (r : Run N q p) (g : Good N q) (hK : 1 ≤ K) (hb : PB K q) (hn : 0 < p.n) : PB (szP' K q.m) p :=
 (size_all g hK hb _ p r.g hn (eqv_of g r.g r.sol) rfl).mono (szP'_mono (by have:=cb_le (fun i=>!(toDic q).B (p.bs i)) p.m;rw [r.m] at this;rw [r.m];exact this))
theorem no_ray1 {n0 m : Nat} {A : Nat → Nat → Rat} {Bv : Nat → Rat} {p : PD} (g : Good (n0 + m + 1) p) (hf : ∀ h,h < p.m → 0 ≤ p.fr h) (ht : Ties1 n0 m A Bv p) {j : Nat} (hj : j < p.n) (up : 0 < p.gl j) (free : ∀ h,h < p.m → p.rw h j ≤ 0) : False:=by
 have pt : ∀ y : Rat,0 ≤ y → ∃ x : Nat → Rat,PSol p x (p.vv + p.gl j * y) ∧ ∀ r,0 ≤ x r:=fun y hy=>by
  refine ⟨fun r=>if r = p.os j then y else if (toDic p).B r = true then (toDic p).b r - (toDic p).A r (p.os j) * y else 0,(sol_iff g _ _).1 (ptS_sol (neat_of g) (g.oN j hj) (dic_Bo g hj) y |> fun h=>by rw [dic_c g hj] at h;exact h),fun r=>?_⟩
  dsimp only
  split
  ·exact hy
  ·split
   ·next hb =>
    obtain ⟨h,hh,rfl⟩:=dic_B.1 hb
    rw [dic_b g hh,dic_Ao g hh hj]
    have:=Rat.mul_nonneg (show 0 ≤ -p.rw h j by have:=free h hh;grind) hy
    have:=hf h hh
    grind
   ·exact Rat.le_refl
 obtain ⟨x0,s0,n0'⟩:=pt 0 Rat.le_refl
 have z0:=((ht _ _).1 s0).2
 have hv : 0 ≤ (p.gl j)⁻¹:=Rat.le_of_lt (Rat.inv_pos.2 up)
 have h1 : (p.gl j)⁻¹ * p.gl j = 1:=Rat.inv_mul_cancel _ (by intro e;rw [e] at up;exact absurd up (by decide))
 have hx0:=n0' (n0 + m)
 have hvv : 0 ≤ 1 - p.vv:=by grind
 obtain ⟨x,s,nn⟩:=pt ((1 - p.vv) * (p.gl j)⁻¹) (Rat.mul_nonneg hvv hv)
 have z:=((ht _ _).1 s).2
 have hx:=nn (n0 + m)
 have e : p.gl j * ((1 - p.vv) * (p.gl j)⁻¹) = (1 - p.vv) * ((p.gl j)⁻¹ * p.gl j):=by grind
 rw [e,h1] at z
 grind
theorem val1_out {n0 m : Nat} {A : Nat → Nat → Rat} {Bv : Nat → Rat} {p : PD} (g : Good (n0 + m + 1) p) (hf : ∀ h,h < p.m → 0 ≤ p.fr h) (ht : Ties1 n0 m A Bv p) {j : Nat} (hj : j < p.n) (ha : p.os j = n0 + m) : p.vv = 0:=by
 rw [val1 g hf ht,vl,if_neg (by rw [← ha,dic_Bo g hj];decide)];rfl
open Go Go.Fw
set_option maxHeartbeats 4000000
theorem vq_inv1 (q : Rat) : vq ((rt q).1,(rt q).2.2,(rt q).2.1) = q⁻¹:=by
 rw [vq_eq]
 simp only [num_rt,den_rt,neg_rt]
 rw [Rat.inv_def,← Rat.divInt_ofNat]
 by_cases h : q.num < 0
 ·rw [decide_eq_true h,show ((q.num.natAbs : Nat) : Int) = -q.num by omega,Rat.divInt_neg']
  show Rat.divInt (-(-(q.den : Int))) q.num = _
  rw [Int.neg_neg]
 ·rw [decide_eq_false h,show ((q.num.natAbs : Nat) : Int) = q.num by omega]
  rfl
theorem S_simplex_zero : Ctr Tryz.prog 54 [] [] [] (RtV (rt 0)):=by
 refine Ctr_of_j' (F:=F_simplex_zero) rfl fun C=>?_
 rw [rt_zero]
 refine j_nf [_,_] rfl (j_step rfl (x_alloc zo26 fun b1=>?_))
 refine j_nf [_,_] rfl (j_step rfl (x_lit sl24 zo24e rfl rfl rfl rfl (by decide) (by decide) rfl fun b2=>?_))
 refine j_step rfl (x_build (cs:=[Value.bool false,Value.slice none 0 0,Value.slice (some { block:=b2,off:=0 }) 1 1]) st26 zo26 rfl rfl ?_)
 refine j_step rfl (x_bst_all 1 rfl rfl rfl ld26 rfl rfl (by simp [Value.oneCell']) ?_)
 refine j_nf [_] rfl ?_
 refine j_pub_made (n:=1) (kd:=.u32) 4 [1] 0 rfl rfl (by simp [InR]) (by decide) (by decide) ?_
 refine j_add (slF U32 none 0 0 []) (fun w A _=>slF_nil _ _ _ _ _) ?_
 refine j_givC [0,1] rfl (.agg 0 rfl rfl ld26 rfl .nil) rfl ⟨_,_,_,_,rfl,rfl,rfl⟩
theorem S_simplex_one : Ctr Tryz.prog 59 [] [] [] (RtV (rt 1)):=by
 refine Ctr_of_j' (F:=F_simplex_one) rfl fun C=>?_
 rw [rt_one]
 refine j_nf [_,_] rfl (j_step rfl (x_alloc zo26 fun b1=>?_))
 refine j_nf [_,_] rfl (j_step rfl (x_lit sl24 zo24e rfl rfl rfl rfl (by decide) (by decide) rfl fun b2=>?_))
 refine j_step rfl (x_lit sl24 zo24e rfl rfl rfl rfl (by decide) (by decide) rfl fun b3=>?_)
 refine j_step rfl (x_build (cs:=[Value.bool false,Value.slice (some { block:=b2,off:=0 }) 1 1,Value.slice (some { block:=b3,off:=0 }) 1 1]) st26 zo26 rfl rfl ?_)
 refine j_step rfl (x_bst_all 2 rfl rfl rfl ld26 rfl rfl (by simp [Value.oneCell']) ?_)
 refine j_nf [_] rfl ?_
 refine j_pub_made (n:=1) (kd:=.u32) 4 [1] 0 rfl rfl (by simp [InR]) (by decide) (by decide) ?_
 refine j_pub_made (n:=1) (kd:=.u32) 4 [1] 0 rfl rfl (by simp [InR]) (by decide) (by decide) ?_
 refine j_givC [0,1] rfl (.agg 0 rfl rfl ld26 rfl .nil) rfl ⟨_,_,_,_,rfl,rfl,rfl⟩
theorem S_rational_Div {a b : Rat} {pn1 pd1 pn2 pd2 : Option Addr} {cn1 cd1 cn2 cd2 K : Nat} (hb : b ≠ 0) (hK : 1 ≤ K) (hK2 : K ≤ 33554432) (l1 : (rt a).2.1.length ≤ K) (l2 : (rt a).2.2.length ≤ K) (l3 : (rt b).2.1.length ≤ K) (l4 : (rt b).2.2.length ≤ K) :
  Ctr Tryz.prog 88 [.agg #[.bool (rt a).1,.slice pn1 (rt a).2.1.length cn1,.slice pd1 (rt a).2.2.length cd1],.agg #[.bool (rt b).1,.slice pn2 (rt b).2.1.length cn2,.slice pd2 (rt b).2.2.length cd2]] [] [slF U32 pn1 (rt a).2.1.length cn1 (rt a).2.1,slF U32 pd1 (rt a).2.2.length cd1 (rt a).2.2,slF U32 pn2 (rt b).2.1.length cn2 (rt b).2.1,slF U32 pd2 (rt b).2.2.length cd2 (rt b).2.2] (RtErr (rt (a * b⁻¹)) 0):=by
 refine Ctr_of_j' (F:=F_rational_Div) rfl fun C=>?_
 have hs : ¬ b.num.sign = 0:=fun h=>hb (Rat.num_eq_zero.1 (Int.sign_eq_zero_iff_zero.1 h))
 have side : ∀ r ∈ [(((rt a).1,(rt a).2.1,(rt a).2.2) : Rt),((rt b).1,(rt b).2.2,(rt b).2.1)],r.2.1.length ≤ K ∧ r.2.2.length ≤ K:=by
  intro r hr
  simp only [List.mem_cons,List.not_mem_nil,or_false] at hr
  rcases hr with rfl | rfl
  ·exact ⟨l1,l2⟩
  ·exact ⟨l4,l3⟩
 refine j_nf [_,_] rfl (j_step rfl (x_box_agg rfl fun b1=>?_))
 refine j_step rfl (x_box_agg rfl fun b2=>?_)
 refine j_step rfl (x_alloc zo26 fun b3=>?_)
 refine j_run it 1 rfl (by simp) ?_
 refine j_nf [_,_,_] rfl (j_step rfl (x_bld_all 1 rfl rfl ld26 rfl ?_))
 refine j_step rfl (x_call [2,3] rfl (S_rational_Sign) rfl ?_)
 rintro _ _ _ ⟨rfl,rfl,rfl⟩
 simp only [List.cons_append,List.nil_append]
 simp only [vq_rt']
 refine j_run it 1 rfl (by simp) ?_
 refine j_nf [_,_] rfl (j_if rfl rfl (fun h1=>by exfalso;omega) (fun h1=>?_))
 refine j_nf [_,_] rfl (j_step rfl (x_bld_all 2 rfl rfl ld26 rfl ?_))
 refine j_step rfl (x_field rfl fd26_0 ?_)
 refine j_step rfl (x_bld 1 rfl rfl ld4 rfl ?_)
 refine j_step rfl (x_field rfl fd26_2 ?_)
 refine j_step rfl (x_bld 1 rfl rfl ld24 rfl ?_)
 refine j_step rfl (x_field rfl fd26_1 ?_)
 refine j_step rfl (x_bld 1 rfl rfl ld24 rfl ?_)
 refine j_step rfl (x_build (cs:=[Value.bool (rt b).fst,Value.slice pd2 (rt b).snd.snd.length cd2,Value.slice pn2 (rt b).snd.fst.length cn2]) st26 zo26 rfl rfl ?_)
 refine j_step rfl (x_lit sl27 zo27e rfl rfl rfl rfl (by decide) (by decide) rfl fun b4=>?_)
 refine j_pub_all (E:=RatE) (n:=2) [[Value.bool (rt a).fst,Value.slice pn1 (rt a).snd.fst.length cn1,Value.slice pd1 (rt a).snd.snd.length cd1],[Value.bool (rt b).fst,Value.slice pd2 (rt b).snd.snd.length cd2,Value.slice pn2 (rt b).snd.fst.length cn2]] [((rt a).fst,(rt a).snd.fst,(rt a).snd.snd),((rt b).fst,(rt b).snd.snd,(rt b).snd.fst)] 0 (fun w A hG=>(allrd_cons (rd_rt (hG _ (fact_mem (n:=0) rfl)) (hG _ (fact_mem (n:=1) rfl))) (allrd_cons (rd_rt (hG _ (fact_mem (n:=3) rfl)) (hG _ (fact_mem (n:=2) rfl))) allrd_nil))) rfl rfl rfl rfl (by first | decide | exact Nat.le_of_ble_eq_true rfl) (by first | decide | exact Nat.le_of_ble_eq_true rfl) ?_
 refine j_step rfl (x_call [0] rfl (S_rational_Mul (by omega) (by omega) (by simp;omega) (by omega)) rfl ?_)
 rintro _ _ _ ⟨pn3,cn3,pd3,cd3,rfl,rfl,rfl⟩
 simp only [List.cons_append,List.nil_append]
 refine j_step rfl (x_bst_all 0 rfl rfl rfl ld26 rfl rfl (by simp [Value.oneCell']) ?_)
 refine j_run it 1 rfl (by simp) ?_
 refine j_nf [_] rfl ?_
 have e : prodQ [(((rt a).1,(rt a).2.1,(rt a).2.2) : Rt),((rt b).1,(rt b).2.2,(rt b).2.1)] = a * b⁻¹:=by
  simp only [prodQ]
  rw [vq_rt',vq_inv1,Rat.mul_one]
 rw [e]
 refine j_givC [0,1] rfl (.agg 0 rfl rfl ld26 rfl (.tmp rfl .nil)) rfl ⟨_,_,_,_,rfl,rfl,rfl⟩
def rl (n : Nat) (f : Nat → Rat) : List Rt:=(List.range n).map fun k=>rt (f k)
theorem rl_len {n : Nat} {f : Nat → Rat} : (rl n f).length = n:=by simp [rl]
theorem rl_get {n i : Nat} {f : Nat → Rat} (h : i < n) : (rl n f)[i]? = some (rt (f i)):=by
 rw [rl,List.getElem?_map,List.getElem?_range h];rfl
theorem rl_set {n i : Nat} {f : Nat → Rat} {x : Rat} : (rl n f).set i (rt x) = rl n (upd f i x):=by
 refine List.ext_getElem? fun j=>?_
 rw [List.getElem?_set]
 by_cases e : i = j
 ·subst e
  by_cases h : i < n
  ·rw [if_pos rfl,if_pos (by rw [rl_len];exact h),rl_get h,upd_self]
  ·rw [if_pos rfl,if_neg (by rw [rl_len];exact h),List.getElem?_eq_none (by rw [rl_len];omega)]
 ·rw [if_neg e]
  by_cases h : j < n
  ·rw [rl_get h,rl_get h,upd_ne fun h=>e h.symm]
  ·rw [List.getElem?_eq_none (by rw [rl_len];omega),List.getElem?_eq_none (by rw [rl_len];omega)]
theorem rl_congr {n : Nat} {f g : Nat → Rat} (h : ∀ i,i < n → f i = g i) : rl n f = rl n g:=List.map_congr_left fun k hk=>by rw [h k (List.mem_range.1 hk)]
theorem prod2R (a b : Rat) : prodQ [(((rt a).1,(rt a).2.1,(rt a).2.2) : Rt),((rt b).1,(rt b).2.1,(rt b).2.2)] = a * b:=by
 simp only [prodQ]
 rw [vq_rt',vq_rt',Rat.mul_one]
def rpl (f g : Nat → Rat) (j k : Nat) : Rat:=(if k = j then 0 else f k) - f j * g k
def rplS (f g : Nat → Rat) (j c k : Nat) : Rat:=if k < c then rpl f g j k else if k = j then 0 else f k
theorem rplS_zero (f g : Nat → Rat) (j : Nat) : upd f j 0 = rplS f g j 0:=by
 funext k
 rw [rplS,if_neg (Nat.not_lt_zero _)]
 by_cases h : k = j
 ·subst h;rw [upd_self,if_pos rfl]
 ·rw [upd_ne h,if_neg h]
theorem rplS_next (f g : Nat → Rat) (j c : Nat) : upd (rplS f g j c) c ((rplS f g j c c) - f j * g c) = rplS f g j (c + 1):=by
 funext k
 by_cases h : k = c
 ·subst h
  rw [upd_self,rplS,rplS,if_neg (Nat.lt_irrefl _),if_pos (Nat.lt_succ_self _),rpl]
 ·rw [upd_ne h,rplS,rplS]
  by_cases h2 : k < c
  ·rw [if_pos h2,if_pos (by omega)]
  ·rw [if_neg h2,if_neg (show ¬ k < c + 1 by omega)]
abbrev RplQ (r r2 : Row) (n : Nat) (f g : Nat → Rat) (j : Nat) (x : Rat) : Value → List Fact → List Blk → Prop:=fun v Φ β=>∃ (cs' : List Value) (pn : Option Addr) (cn : Nat) (pd : Option Addr) (cd : Nat),
 v = .agg #[.bool (rt x).1,.slice pn (rt x).2.1.length cn,.slice pd (rt x).2.2.length cd] ∧ Φ = [rowF RatE ⟨r.bo,r.cap,cs'⟩ n (rl n (rpl f g j)),rowF RatE r2 n (rl n g),slF U32 pn (rt x).2.1.length cn (rt x).2.1,slF U32 pd (rt x).2.2.length cd (rt x).2.2] ∧ β = [(r.bo,26,cs'),(r2.bo,26,r2.cs)]
theorem S_simplex_replaced {r r2 : Row} {n j K : Nat} {f g : Nat → Rat} {free term : Rat} {pn1 pd1 pn2 pd2 : Option Addr} {cn1 cd1 cn2 cd2 : Nat} (hj : j < n) (hn : n ≤ 1000) (hK : 1 ≤ K) (hK2 : K ≤ 4194304) (hf : ∀ k,k < n → bd K (f k)) (hg : ∀ k,k < n → bd K (g k)) (h1 : bd K free) (h2 : bd K term) :
  Ctr Tryz.prog 89 [.slice (ad r.bo) n r.cap,.slice (ad r2.bo) n r2.cap,.int .i64 j,.agg #[.bool (rt free).1,.slice pn1 (rt free).2.1.length cn1,.slice pd1 (rt free).2.2.length cd1],.agg #[.bool (rt term).1,.slice pn2 (rt term).2.1.length cn2,.slice pd2 (rt term).2.2.length cd2]]
   [(r.bo,26,r.cs),(r2.bo,26,r2.cs)] [rowF RatE r n (rl n f),rowF RatE r2 n (rl n g),slF U32 pn1 (rt free).2.1.length cn1 (rt free).2.1,slF U32 pd1 (rt free).2.2.length cd1 (rt free).2.2,slF U32 pn2 (rt term).2.1.length cn2 (rt term).2.1,slF U32 pd2 (rt term).2.2.length cd2 (rt term).2.2]
   (RplQ r r2 n f g j (free - f j * term)):=by
 refine Ctr_of_j' (F:=F_simplex_replaced) rfl fun C=>?_
 refine j_rowB 0 rfl (by omega) fun b cap cs hr=>?_
 subst hr
 refine j_rowB 1 rfl (by omega) fun b' cap' cs' hr=>?_
 subst hr
 obtain ⟨x1,x2⟩:=bd_len h1
 obtain ⟨x3,x4⟩:=bd_len h2
 obtain ⟨x5,x6⟩:=bd_len (hf j hj)
 refine j_nf [_,_] rfl ?_
 refine j_step rfl (x_box_agg rfl fun b1=>?_)
 refine j_step rfl (x_box_agg rfl fun b2=>?_)
 refine j_step rfl (x_alloc zo26 fun b3=>?_)
 refine j_nf [_,_] rfl ?_
 refine j_run it 2 rfl (by simp) ?_
 refine j_step rfl (x_idx_own (j) _ rfl rfl sl27 rfl (by omega) rfl ?_)
 refine j_step rfl (x_ldR_vw vw_RatE 3 0 (j) rfl rfl rfl ld26 rfl (by omega) fun z1 hz1 g1=>?_)
 dsimp only [vw_RatE,List.cons_append,List.nil_append,List.map_cons,List.map_nil]
 refine j_step rfl (x_alloc zo26 fun b4=>?_)
 refine j_step rfl (x_bst_all 0 rfl rfl rfl ld26 rfl rfl (by simp [Value.oneCell']) ?_)
 refine j_nf [_,_] rfl ?_
 refine j_run it 2 rfl (by simp) ?_
 refine j_step rfl (x_call [] rfl (S_simplex_zero) rfl ?_)
 rintro _ _ _ ⟨pn3,cn3,pd3,cd3,rfl,rfl,rfl⟩
 simp only [List.cons_append,List.nil_append]
 refine j_step rfl (x_idx_own (j) _ rfl rfl sl27 rfl (by omega) rfl ?_)
 refine j_step rfl (x_stR (vs:=[Value.bool (rt 0).fst,Value.slice pn3 (rt 0).snd.fst.length cn3,Value.slice pd3 (rt 0).snd.snd.length cd3]) (z:=((rt 0).fst,((rt 0).snd.fst,(rt 0).snd.snd))) 4 4 (j) rfl rfl rfl rfl rfl ld26 rfl (by omega) (fun w A hG=>(rd_pair (v1:=[Value.bool (rt 0).fst]) (rd_bool _) (rd_pair (v1:=[Value.slice pn3 (rt 0).snd.fst.length cn3]) (rd_of_slF (hG _ (fact_mem (n:=0) rfl))) (rd_of_slF (hG _ (fact_mem (n:=1) rfl)))))) fun cs1=>?_)
 refine j_nf [_,_,_] rfl ?_
 refine j_run it 1 rfl (by simp) ?_
 refine j_step rfl (x_len sl27 rfl ?_)
 refine j_run it 1 rfl (by simp) ?_
 refine j_nf [_,_,_] rfl ?_
 obtain rfl : z1 = rt (f j):=Option.some.inj (hz1.symm.trans (rl_get hj))
 rw [show ((rt 0).1,(rt 0).2.1,(rt 0).2.2) = rt 0 from rfl,rl_set,rplS_zero f g j]
 refine j_loopG (X:=Nat × List Value) [0,1,8,9,10,11,22] [3,4,6,7,8,9,10] (fun x=>[(23,.int .i64 (x.1 : Int))])
  (fun x=>[(some b4,26,[.bool (rt (f j)).1,.slice (g1 0).1 (rt (f j)).2.1.length (g1 0).2.1,.slice (g1 1).1 (rt (f j)).2.2.length (g1 1).2.1]),(some b3,26,[.bool false,.slice none 0 0,.slice none 0 0]),(some b2,26,[.bool (rt term).1,.slice pn2 (rt term).2.1.length cn2,.slice pd2 (rt term).2.2.length cd2]),(some b1,26,[.bool (rt free).1,.slice pn1 (rt free).2.1.length cn1,.slice pd1 (rt free).2.2.length cd1]),(some b,26,x.2),(some b',26,cs')])
  (fun x=>[rowF RatE ⟨some b,cap,x.2⟩ n (rl n (rplS f g j x.1))])
  (fun x=>x.1 ≤ n) (fun x=>n - x.1) (0,cs1) [0] rfl rfl rfl (Nat.zero_le _) (by repeat (first | exact Fr.sub_nil _ | refine Fr.sub_cons rfl ?_)) rfl rfl ?_
 rintro ⟨k,cs⟩ hk ih
 simp only [List.cons_append,List.nil_append] at hk ih ⊢
 have side2 : ∀ x : Rat,bd K x → ∀ r ∈ [(((rt (f j)).1,(rt (f j)).2.1,(rt (f j)).2.2) : Rt),((rt x).1,(rt x).2.1,(rt x).2.2)],r.2.1.length ≤ K ∧ r.2.2.length ≤ K:=by
  intro x hx r hr
  simp only [List.mem_cons,List.not_mem_nil,or_false] at hr
  rcases hr with rfl | rfl
  ·exact ⟨x5,x6⟩
  ·exact bd_len hx
 by_cases hkl : k < n
 ·have z1:=rl_get (f:=rplS f g j k) hkl
  have z2:=rl_get (f:=g) hkl
  have side:=side2 _ (hg k hkl)
  have hb1 : bd K (rplS f g j k k):=by
   rw [rplS,if_neg (Nat.lt_irrefl _)]
   split
   ·exact bd_zero hK
   ·exact hf k hkl
  have hb2 : bd (K + K) (f j * g k):=bd_mul (hf j hj) (hg k hkl) (by omega)
  obtain ⟨y1,y2⟩:=bd_len hb1
  obtain ⟨y3,y4⟩:=bd_len hb2
  refine j_nf [_,_,_,_,_] rfl ?_
  refine j_run it 1 rfl (by simp) ?_
  refine j_nf [_,_,_,_,_] rfl ?_
  refine j_if rfl rfl (fun h3=>?_) (fun h3=>by exfalso;omega)
  refine j_nf [_,_,_,_,_,_,_] rfl ?_
  refine j_run it 2 rfl (by simp) ?_
  refine j_nf [_,_,_,_,_,_] rfl ?_
  (apply j_drawK it mx 14;(· rfl);(· rfl))
  (apply lxk_run 4;(· rfl);(· simp))
  (apply lxk_eq;(· rfl);(· exact d_x fun _=>x_idx_own (k) _ rfl rfl sl27 rfl (by omega) rfl dk_eq))
  (apply lxk_vw vw_RatE;(· rfl);(· exact d_ldR_vw vw_RatE 4 0 (k) rfl rfl rfl ld26 rfl (by assumption));intro g2)
  dsimp only [vw_RatE,List.cons_append,List.nil_append,List.map_cons,List.map_nil]
  (apply lxk_eq;(· rfl);(· exact d_bld_all 0 rfl rfl ld26 rfl))
  (apply lxk_run 2;(· rfl);(· simp))
  (apply lxk_eq;(· rfl);(· exact d_x fun _=>x_idx_own (k) _ rfl rfl sl27 rfl (by omega) rfl dk_eq))
  (apply lxk_vw vw_RatE;(· rfl);(· exact d_ldR_vw vw_RatE 5 3 (k) rfl rfl rfl ld26 rfl (by assumption));intro g3)
  dsimp only [vw_RatE,List.cons_append,List.nil_append,List.map_cons,List.map_nil]
  (apply lxk_sl;(· rfl);(· exact d_x fun _=>x_lit sl27 zo27e rfl rfl rfl rfl (by decide) (by decide) rfl fun b5=>dk_all (E:=RatE) [[Value.bool (rt (f j)).fst,Value.slice (g1 0).fst (rt (f j)).snd.fst.length (g1 0).snd.fst,Value.slice (g1 1).fst (rt (f j)).snd.snd.length (g1 1).snd.fst],[Value.bool (rt (g k)).fst,Value.slice (g3 0).fst (rt (g k)).snd.fst.length (g3 0).snd.fst,Value.slice (g3 1).fst (rt (g k)).snd.snd.length (g3 1).snd.fst]] [((rt (f j)).fst,(rt (f j)).snd.fst,(rt (f j)).snd.snd),((rt (g k)).fst,(rt (g k)).snd.fst,(rt (g k)).snd.snd)] (fun w A hG=>(allrd_cons (rd_rt (hG _ (fact_mem (n:=3) rfl)) (hG _ (fact_mem (n:=4) rfl))) (allrd_cons (rd_rt (hG _ (fact_mem (n:=0) rfl)) (hG _ (fact_mem (n:=1) rfl))) allrd_nil))) rfl rfl rfl (by first | decide | exact Nat.le_of_ble_eq_true rfl));intro pa1 ca1)
  (apply lxk_rq;(· rfl);(· exact d_x fun _=>x_call [0] rfl (S_rational_Mul (by omega) (by omega) (by simp;omega) (by omega)) rfl (by rintro _ _ _ ⟨pn4,cn4,pd4,cd4,rfl,rfl,rfl⟩;exact (dk_rq 0 1 rfl rfl)));intro pn4 cn4 pd4 cd4)
  simp only [vq_rt'] --ok
  rw [prod2R]
  (apply lxk_rq;(· rfl);(· exact d_x fun _=>x_call [5,6,0,1] rfl (S_rational_Sub (by omega) (by omega) (by omega) (by omega)) rfl (by rintro _ _ _ ⟨pn5,cn5,pd5,cd5,rfl,rfl,rfl⟩;exact (dk_rq 0 1 rfl rfl)));intro pn5 cn5 pd5 cd5)
  simp only [vq_rt']
  refine lxk_end rfl ?_
  simp only [List.map_cons,List.map_nil,List.cons_append,List.nil_append]
  refine j_step rfl (x_idx_own (k) _ rfl rfl sl27 rfl (by omega) rfl ?_)
  refine j_step rfl (x_stR (vs:=[Value.bool (rt (rplS f g j k k - f j * g k)).fst,Value.slice pn5 (rt (rplS f g j k k - f j * g k)).snd.fst.length cn5,Value.slice pd5 (rt (rplS f g j k k - f j * g k)).snd.snd.length cd5]) (z:=((rt (rplS f g j k k - f j * g k)).fst,((rt (rplS f g j k k - f j * g k)).snd.fst,(rt (rplS f g j k k - f j * g k)).snd.snd))) 4 9 (k) rfl rfl rfl rfl rfl ld26 rfl (by omega) (fun w A hG=>(rd_pair (v1:=[Value.bool (rt (rplS f g j k k - f j * g k)).fst]) (rd_bool _) (rd_pair (v1:=[Value.slice pn5 (rt (rplS f g j k k - f j * g k)).snd.fst.length cn5]) (rd_of_slF (hG _ (fact_mem (n:=0) rfl))) (rd_of_slF (hG _ (fact_mem (n:=1) rfl)))))) fun cs2=>?_)
  refine j_nf [_,_,_,_] rfl ?_
  refine j_run it 2 rfl ⟨trivial,⟨by omega,by omega⟩,trivial⟩ ?_
  refine j_nfn 1 [.lp (pL 244),.blk 0,.c [1,1,1,1]] rfl ?_
  rw [show ((rt (rplS f g j k k - f j * g k)).1,(rt (rplS f g j k k - f j * g k)).2.1,(rt (rplS f g j k k - f j * g k)).2.2) = rt (rplS f g j k k - f j * g k) from rfl,rl_set,rplS_next f g j k]
  refine j_to [0,11,12,13,14,15,16,17] (by exact fra rfl) rfl rfl (ih (k + 1,cs2) (by dsimp only;omega) (by dsimp only;omega))
 ·obtain rfl : n = k:=by omega
  have side:=side2 _ h2
  have hb2 : bd (K + K) (f j * term):=bd_mul (hf j hj) h2 (by omega)
  obtain ⟨y3,y4⟩:=bd_len hb2
  refine j_nf [_,_,_,_,_] rfl ?_
  refine j_run it 1 rfl (by simp) ?_
  refine j_nf [_,_,_,_,_] rfl ?_
  refine j_if rfl rfl (fun h3=>by exfalso;omega) (fun h3=>?_)
  refine j_nf [_,_] rfl ?_
  (apply j_drawK it mx 6;(· rfl);(· rfl))
  (apply lxk_eq;(· rfl);(· exact d_bld_all 3 rfl rfl ld26 rfl))
  (apply lxk_eq;(· rfl);(· exact d_bld_all 0 rfl rfl ld26 rfl))
  (apply lxk_eq;(· rfl);(· exact d_bld_all 2 rfl rfl ld26 rfl))
  (apply lxk_sl;(· rfl);(· exact d_x fun _=>x_lit sl27 zo27e rfl rfl rfl rfl (by decide) (by decide) rfl fun b5=>dk_all (E:=RatE) [[Value.bool (rt (f j)).fst,Value.slice (g1 0).fst (rt (f j)).snd.fst.length (g1 0).snd.fst,Value.slice (g1 1).fst (rt (f j)).snd.snd.length (g1 1).snd.fst],[Value.bool (rt term).fst,Value.slice pn2 (rt term).snd.fst.length cn2,Value.slice pd2 (rt term).snd.snd.length cd2]] [((rt (f j)).fst,(rt (f j)).snd.fst,(rt (f j)).snd.snd),((rt term).fst,(rt term).snd.fst,(rt term).snd.snd)] (fun w A hG=>(allrd_cons (rd_rt (hG _ (fact_mem (n:=1) rfl)) (hG _ (fact_mem (n:=2) rfl))) (allrd_cons (rd_rt (hG _ (fact_mem (n:=6) rfl)) (hG _ (fact_mem (n:=7) rfl))) allrd_nil))) rfl rfl rfl (by first | decide | exact Nat.le_of_ble_eq_true rfl));intro pa1 ca1)
  (apply lxk_rq;(· rfl);(· exact d_x fun _=>x_call [0] rfl (S_rational_Mul (by omega) (by omega) (by simp;omega) (by omega)) rfl (by rintro _ _ _ ⟨pn4,cn4,pd4,cd4,rfl,rfl,rfl⟩;exact (dk_rq 0 1 rfl rfl)));intro pn4 cn4 pd4 cd4)
  simp only [vq_rt'] --ok
  rw [prod2R]
  (apply lxk_rq;(· rfl);(· exact d_x fun _=>x_call [7,8,0,1] rfl (S_rational_Sub (by omega) (by omega) (by omega) (by omega)) rfl (by rintro _ _ _ ⟨pn5,cn5,pd5,cd5,rfl,rfl,rfl⟩;exact (dk_rq 0 1 rfl rfl)));intro pn5 cn5 pd5 cd5)
  simp only [vq_rt']
  refine lxk_end rfl ?_
  simp only [List.map_cons,List.map_nil,List.cons_append,List.nil_append]
  refine j_step rfl (x_bst_all 1 rfl rfl rfl ld26 rfl rfl (by simp [Value.oneCell']) ?_)
  refine j_nf [_] rfl ?_
  rw [show rl n (rplS f g j n) = rl n (rpl f g j) from rl_congr fun i hi=>by rw [rplS,if_pos hi]]
  refine j_givK 6 [4,5] [5,8,0,1] rfl (.agg 1 rfl rfl ld26 rfl .nil) rfl rfl rfl ⟨_,_,_,_,_,rfl,rfl,rfl⟩
abbrev NegQ (r : Row) (n : Nat) (f : Nat → Rat) : Value → List Fact → List Blk → Prop:=fun v Φ β=>∃ r' : Row,v = .slice (ad r'.bo) n r'.cap ∧ Φ = [rowF RatE r' n (rl n fun k=>-f k),rowF RatE r n (rl n f)] ∧ β = [(r'.bo,26,r'.cs),(r.bo,26,r.cs)]
theorem rl_snoc (n : Nat) (f : Nat → Rat) : rl n f++[rt (f n)] = rl (n + 1) f:=(range_snoc (fun k=>rt (f k)) n).symm
theorem S_simplex_negativeH {r : Row} {n K : Nat} {f : Nat → Rat} (hn : n ≤ 1000) (hK : 1 ≤ K) (hK2 : K ≤ 4194304) (hf : ∀ k,k < n → bd K (f k)) : Ctr Tryz.prog 90 [.slice (ad r.bo) n r.cap] [(r.bo,26,r.cs)] [rowF RatE r n (rl n f)] (NegQ r n f):=by
 refine Ctr_of_j' (F:=F_simplex_negative) rfl fun C=>?_
 refine j_nf [_,_] rfl (j_run it 1 rfl (by simp) ?_)
 refine j_nf [_,_] rfl (j_run it 1 rfl (by simp) ?_)
 refine j_nf [_,_,_] rfl (j_run it 1 rfl (by simp) ?_)
 refine j_step rfl (x_len sl27 rfl ?_)
 refine j_run it 1 rfl (by simp) ?_
 refine j_nf [_,_,_] rfl ?_
 refine j_row0 RatE 26 ?_
 refine j_loopG (X:=Nat × Row) [2,6,7] [1] (fun x=>[(3,.slice (ad x.2.bo) x.1 x.2.cap),(8,.int .i64 x.1)]) (fun x=>[(x.2.bo,26,x.2.cs),(r.bo,26,r.cs)]) (fun x=>[rowF RatE x.2 x.1 (rl x.1 fun k=>-f k)])
  (fun x=>x.1 ≤ n) (fun x=>n - x.1) (0,⟨none,0,[]⟩) [0] rfl rfl rfl (Nat.zero_le _) (by repeat (first | exact Fr.sub_nil _ | refine Fr.sub_cons rfl ?_)) rfl rfl ?_
 rintro ⟨k,r2⟩ hk ih
 simp only [List.cons_append,List.nil_append] at hk ih ⊢
 by_cases hkl : k < n
 ·refine j_rowB 1 rfl (by omega) fun b cap cs hr=>?_
  subst hr
  obtain ⟨y1,y2⟩:=bd_len (hf k hkl)
  refine j_nf [_,_,_,_,_] rfl (j_run it 1 rfl (by simp) ?_)
  refine j_nf [_,_,_,_,_] rfl (j_if rfl rfl (fun h1=>?_) (fun h1=>by exfalso;omega))
  refine j_nf [_,_,_,_,_,_,_] rfl (j_step rfl (x_idx_own (k) _ rfl rfl sl27 rfl (by omega) rfl ?_))
  refine j_step rfl (x_ldR_vw vw_RatE 1 1 (k) rfl rfl rfl ld26 rfl (by omega) fun z1 hz1 g1=>?_)
  dsimp only [vw_RatE,List.cons_append,List.nil_append,List.map_cons,List.map_nil]
  refine j_step rfl (x_alloc zo26 fun b1=>?_)
  refine j_step rfl (x_bst_all 0 rfl rfl rfl ld26 rfl rfl (by simp [Value.oneCell']) ?_)
  refine j_nf [_,_,_,_,_,_] rfl (j_run it 1 rfl (by simp) ?_)
  refine j_step rfl (x_bld_all 0 rfl rfl ld26 rfl ?_) --ok
  obtain rfl : z1 = rt (f k):=Option.some.inj (hz1.symm.trans (rl_get hkl))
  refine j_step rfl (x_call [0,1] rfl (S_rational_Neg (by omega) (by omega)) rfl ?_)
  rintro _ _ _ ⟨pn1,cn1,pd1,cd1,rfl,rfl,rfl⟩
  simp only [List.cons_append,List.nil_append]
  simp only [vq_rt']
  refine j_step rfl (x_lit sl27 zo27e rfl rfl rfl rfl (by decide) (by decide) rfl fun b2=>?_)
  refine j_step rfl (x_appR (z:=((rt (-f k)).fst,((rt (-f k)).snd.fst,(rt (-f k)).snd.snd))) 2 0 4 rfl rfl rfl rfl rfl sl27 zo27e rfl (fun w A hG=>(rd_pair (v1:=[Value.bool (rt (-f k)).fst]) (rd_bool _) (rd_pair (v1:=[Value.slice pn1 (rt (-f k)).snd.fst.length cn1]) (rd_of_slF (hG _ (fact_mem (n:=0) rfl))) (rd_of_slF (hG _ (fact_mem (n:=1) rfl)))))) (by omega) _ by27e (by omega) fun r1=>?_)
  refine j_run it 1 rfl (by simp) ?_
  refine j_nf [_,_,_,_] rfl (j_run it 2 rfl ⟨trivial,⟨by omega,by omega⟩,trivial⟩ ?_)
  refine j_nfn 1 [.lp (pL 116),.blk 0,.c [1,1,1]] rfl ?_
  rw [show ((rt (-f k)).1,(rt (-f k)).2.1,(rt (-f k)).2.2) = rt (-f k) from rfl,rl_snoc k fun k=>-f k]
  refine j_toM [true,false,false,true] [0,6] (by exact fra rfl) rfl rfl (ih (k + 1,r1) (by dsimp only;omega) (by dsimp only;omega))
 ·obtain rfl : n = k:=by omega
  refine j_nf [_,_,_,_,_] rfl (j_run it 1 rfl (by simp) ?_)
  refine j_nf [_,_,_,_,_] rfl (j_if rfl rfl (fun h1=>by exfalso;omega) (fun h1=>?_))
  refine j_nf [_,_] rfl (j_run it 2 rfl (by simp) ?_)
  refine j_nf [_] rfl ?_
  refine j_givK 2 [0,1] [0,1] rfl (.tmp rfl .nil) rfl rfl rfl ⟨_,rfl,rfl,rfl⟩
structure DX where
 bs : Row
 os : Row
 fr : Row
 rw : Row
 gl : Row
 hd : Nat → Hd
 cs : Nat → List Value
 pn : Option Addr
 cn : Nat
 pd : Option Addr
 cd : Nat
def il (n : Nat) (f : Nat → Nat) : List Int:=(List.range n).map fun k=>(f k : Int)
theorem il_len {n : Nat} {f : Nat → Nat} : (il n f).length = n:=by simp [il]
theorem il_get {n i : Nat} {f : Nat → Nat} (h : i < n) : (il n f)[i]? = some (f i : Int):=by
 rw [il,List.getElem?_map,List.getElem?_range h];rfl
theorem il_set {n i : Nat} {f : Nat → Nat} {x : Nat} : (il n f).set i (x : Int) = il n (upd f i x):=by
 refine List.ext_getElem? fun j=>?_
 rw [List.getElem?_set]
 by_cases e : i = j
 ·subst e
  by_cases h : i < n
  ·rw [if_pos rfl,if_pos (by rw [il_len];exact h),il_get h,upd_self]
  ·rw [if_pos rfl,if_neg (by rw [il_len];exact h),List.getElem?_eq_none (by rw [il_len];omega)]
 ·rw [if_neg e]
  by_cases h : j < n
  ·rw [il_get h,il_get h,upd_ne fun h=>e h.symm]
  ·rw [List.getElem?_eq_none (by rw [il_len];omega),List.getElem?_eq_none (by rw [il_len];omega)]
abbrev dicC (x : DX) (p : PD) (left : Int) : List Value:=[.slice (ad x.bs.bo) p.m x.bs.cap,.slice (ad x.os.bo) p.n x.os.cap,.slice (ad x.fr.bo) p.m x.fr.cap,.slice (ad x.rw.bo) p.m x.rw.cap,.slice (ad x.gl.bo) p.n x.gl.cap,.bool (rt p.vv).1,.slice x.pn (rt p.vv).2.1.length x.cn,.slice x.pd (rt p.vv).2.2.length x.cd,.int .i64 left]
abbrev dicB (b : Nat) (x : DX) (p : PD) (left : Int) : List Blk :=
 (some b,65,dicC x p left)::(x.bs.bo,3,x.bs.cs)::(x.os.bo,3,x.os.cs)::(x.fr.bo,26,x.fr.cs)::(x.rw.bo,27,x.rw.cs)::(x.gl.bo,26,x.gl.cs)::famB 26 x.hd x.cs p.m []
abbrev dicF (x : DX) (p : PD) : List Fact :=
 [rowF I64 x.bs p.m (il p.m p.bs),rowF I64 x.os p.n (il p.n p.os),rowF RatE x.fr p.m (rl p.m p.fr),rowF hdE x.rw p.m (hdl x.hd p.m),rowF RatE x.gl p.n (rl p.n p.gl),matF RatE x.hd x.cs (fun h=>rl p.n (p.rw h)) p.m [],slF U32 x.pn (rt p.vv).2.1.length x.cn (rt p.vv).2.1,slF U32 x.pd (rt p.vv).2.2.length x.cd (rt p.vv).2.2]
set_option maxHeartbeats 8000000
def pvS (f : Nat → Rat) (j : Nat) (v : Rat) (c k : Nat) : Rat:=if k < c ∧ k ≠ j then f k * v else f k
theorem pvS_zero (f : Nat → Rat) (j : Nat) (v : Rat) : pvS f j v 0 = f:=by
 funext k;rw [pvS,if_neg (fun h=>Nat.not_lt_zero _ h.1)]
theorem pvS_next (f : Nat → Rat) {j : Nat} (v : Rat) {c : Nat} (h : c ≠ j) : upd (pvS f j v c) c (f c * v) = pvS f j v (c + 1):=by
 funext k
 by_cases e : k = c
 ·subst e;rw [upd_self,pvS,if_pos ⟨Nat.lt_succ_self _,h⟩]
 ·rw [upd_ne e,pvS,pvS]
  by_cases e2 : k < c ∧ k ≠ j
  ·rw [if_pos e2,if_pos ⟨by omega,e2.2⟩]
  ·rw [if_neg e2,if_neg (fun h=>e2 ⟨by omega,h.2⟩)]
theorem pvS_same (f : Nat → Rat) (v : Rat) (c : Nat) : pvS f c v c = pvS f c v (c + 1):=by
 funext k
 rw [pvS,pvS]
 by_cases e2 : k < c ∧ k ≠ c
 ·rw [if_pos e2,if_pos ⟨by omega,e2.2⟩]
 ·rw [if_neg e2,if_neg (fun h=>e2 ⟨by omega,h.2⟩)]
theorem pvS_at (f : Nat → Rat) (j : Nat) (v : Rat) (c : Nat) : pvS f j v c c = f c:=by
 rw [pvS,if_neg (fun h=>Nat.lt_irrefl _ h.1)]
def pvG (f : Nat → Rat) (j k : Nat) : Rat:=if k = j then (f j)⁻¹ else f k * (f j)⁻¹
theorem pvG_eq {n j : Nat} (f : Nat → Rat) : rl n (upd (pvS f j (f j)⁻¹ n) j (f j)⁻¹) = rl n (pvG f j):=rl_congr fun k hk=>by
 by_cases e : k = j
 ·subst e;rw [upd_self,pvG,if_pos rfl]
 ·rw [upd_ne e,pvG,if_neg e,pvS,if_pos ⟨hk,e⟩]
theorem pvG_bd {n j K : Nat} {f : Nat → Rat} (hj : j < n) (hK : 1 ≤ K) (h : ∀ k,k < n → bd K (f k)) {k : Nat} (hk : k < n) : bd (K + K) (pvG f j k):=by
 rw [pvG]
 split
 ·exact bd_mono (rinv_bd (h j hj) hK) (by omega)
 ·exact bd_mul (h k hk) (rinv_bd (h j hj) hK) (by omega)
def pvF (fr : Nat → Rat) (rw : Nat → Nat → Rat) (i j : Nat) (h g : Nat) : Rat:=if g = i then fr i * (rw i j)⁻¹ else if g < h then fr g - rw g j * (fr i * (rw i j)⁻¹) else fr g
def pvR (rw : Nat → Nat → Rat) (i j : Nat) (h g k : Nat) : Rat:=if g < h then rpl (rw g) (pvG (rw i) j) j k else rw g k
theorem pvF_zero (fr : Nat → Rat) (rw : Nat → Nat → Rat) (i j : Nat) : upd fr i (fr i * (rw i j)⁻¹) = pvF fr rw i j 0:=by
 funext g
 by_cases e : g = i
 ·subst e;rw [upd_self,pvF,if_pos rfl]
 ·rw [upd_ne e,pvF,if_neg e,if_neg (Nat.not_lt_zero _)]
theorem pvF_next (fr : Nat → Rat) (rw : Nat → Nat → Rat) {i : Nat} (j : Nat) {h : Nat} (hi : h ≠ i) : upd (pvF fr rw i j h) h (fr h - rw h j * (fr i * (rw i j)⁻¹)) = pvF fr rw i j (h + 1):=by
 funext g
 by_cases e : g = h
 ·subst e;rw [upd_self,pvF,if_neg hi,if_pos (Nat.lt_succ_self _)]
 ·rw [upd_ne e,pvF,pvF]
  split
  ·rfl
  ·by_cases e2 : g < h
   ·rw [if_pos e2,if_pos (by omega)]
   ·rw [if_neg e2,if_neg (by omega)]
theorem pvF_at (fr : Nat → Rat) (rw : Nat → Nat → Rat) {i : Nat} (j : Nat) {h : Nat} (hi : h ≠ i) : pvF fr rw i j h h = fr h:=by
 rw [pvF,if_neg hi,if_neg (Nat.lt_irrefl _)]
theorem pvF_i (fr : Nat → Rat) (rw : Nat → Nat → Rat) (i j h : Nat) : pvF fr rw i j h i = fr i * (rw i j)⁻¹:=by rw [pvF,if_pos rfl]
theorem pvF_self (fr : Nat → Rat) (rw : Nat → Nat → Rat) (i j : Nat) : pvF fr rw i j i = pvF fr rw i j (i + 1):=by
 funext g
 rw [pvF,pvF]
 split
 ·rfl
 ·by_cases e2 : g < i
  ·rw [if_pos e2,if_pos (by omega)]
  ·rw [if_neg e2,if_neg (by omega)]
theorem pvF_skip (fr : Nat → Rat) (rw : Nat → Nat → Rat) (i j h : Nat) (hz : rw h j = 0) : pvF fr rw i j h = pvF fr rw i j (h + 1):=by
 funext g
 rw [pvF,pvF]
 split
 ·rfl
 ·by_cases e2 : g < h
  ·rw [if_pos e2,if_pos (by omega)]
  ·rw [if_neg e2]
   by_cases e3 : g = h
   ·subst e3;rw [if_pos (Nat.lt_succ_self _),hz];grind
   ·rw [if_neg (by omega)]
theorem pvR_zero (rw : Nat → Nat → Rat) (i j g : Nat) : pvR rw i j 0 g = rw g:=by funext k;rw [pvR,if_neg (Nat.not_lt_zero _)]
theorem pvR_at (rw : Nat → Nat → Rat) (i j h : Nat) : pvR rw i j h h = rw h:=by funext k;rw [pvR,if_neg (Nat.lt_irrefl _)]
theorem pvR_skip (rw : Nat → Nat → Rat) (i j h g : Nat) (hz : rw h j = 0) : pvR rw i j h g = pvR rw i j (h + 1) g:=by
 funext k
 rw [pvR,pvR]
 by_cases e2 : g < h
 ·rw [if_pos e2,if_pos (by omega)]
 ·rw [if_neg e2]
  by_cases e3 : g = h
  ·subst e3
   rw [if_pos (Nat.lt_succ_self _),rpl,hz]
   by_cases e4 : k = j
   ·subst e4;rw [if_pos rfl,hz];grind
   ·rw [if_neg e4];grind
  ·rw [if_neg (by omega)]
theorem pvR_ne (rw : Nat → Nat → Rat) (i j h g : Nat) (hg : g ≠ h) : pvR rw i j h g = pvR rw i j (h + 1) g:=by
 funext k
 rw [pvR,pvR]
 by_cases e2 : g < h
 ·rw [if_pos e2,if_pos (by omega)]
 ·rw [if_neg e2,if_neg (by omega)]
theorem pvR_next (rw : Nat → Nat → Rat) (i j h : Nat) : pvR rw i j (h + 1) h = rpl (rw h) (pvG (rw i) j) j:=by funext k;rw [pvR,if_pos (Nat.lt_succ_self _)]
theorem sign0 (q : Rat) : (vq ((rt q).1,(rt q).2.1,(rt q).2.2)).num.sign = 0 ↔ q = 0:=by
 rw [vq_rt',Int.sign_eq_zero_iff_zero,Rat.num_eq_zero]
theorem pivFr {p : PD} {i j : Nat} : rl p.m (pvF p.fr p.rw i j p.m) = rl p.m (piv p i j).fr:=rl_congr fun g hg=>by
 rw [pvF]
 show _ = if g = i then _ else _
 split
 ·rfl
 ·first
  | rfl
  | rw [if_pos hg]
theorem pivM {p : PD} {i j g : Nat} (hg : g < p.m) : upd (fun h=>rl p.n (pvR p.rw i j p.m h)) i (rl p.n (pvG (p.rw i) j)) g = rl p.n ((piv p i j).rw g):=by
 by_cases e : g = i
 ·subst e
  rw [upd_self]
  refine rl_congr fun k _=>?_
  show _ = if g = g then (if k = j then (p.rw g j)⁻¹ else p.rw g k * (p.rw g j)⁻¹) else _
  rw [if_pos rfl];rfl
 ·rw [upd_ne e]
  refine rl_congr fun k _=>?_
  show _ = if g = i then _ else (if k = j then -(p.rw g j * (p.rw i j)⁻¹) else p.rw g k - p.rw g j * (p.rw i k * (p.rw i j)⁻¹))
  rw [if_neg e,pvR,if_pos hg,rpl,pvG]
  by_cases e2 : k = j
  ·rw [if_pos e2,if_pos e2,if_pos e2];grind
  ·rw [if_neg e2,if_neg e2,if_neg e2]
theorem pivGl {p : PD} {i j : Nat} : rl p.n (fun k=>-rpl (fun k=>-p.gl k) (pvG (p.rw i) j) j k) = rl p.n (piv p i j).gl:=rl_congr fun k _=>by
 show _ = if k = j then -(p.gl j * (p.rw i j)⁻¹) else p.gl k - p.gl j * (p.rw i k * (p.rw i j)⁻¹)
 rw [rpl,pvG]
 by_cases e2 : k = j
 ·rw [if_pos e2,if_pos e2,if_pos e2];grind
 ·rw [if_neg e2,if_neg e2,if_neg e2];grind
theorem pivGl0 {p : PD} {i j : Nat} (hz : p.gl j = 0) : rl p.n p.gl = rl p.n (piv p i j).gl:=rl_congr fun k _=>by
 show _ = if k = j then -(p.gl j * (p.rw i j)⁻¹) else p.gl k - p.gl j * (p.rw i k * (p.rw i j)⁻¹)
 by_cases e2 : k = j
 ·rw [if_pos e2,e2,hz];grind
 ·rw [if_neg e2,hz];grind
abbrev PivQ (b : Nat) (p : PD) (left : Int) : Value → List Fact → List Blk → Prop:=fun v Φ β=>∃ x',v = .tuple #[] ∧ Φ = dicF x' p ∧ β = dicB b x' p left
abbrev PivS (b : Nat) (x : DX) (p : PD) (left : Int) : Value → List Fact → List Blk → Prop:=fun v Φ β=>∃ x',v = .tuple #[] ∧ Φ = dicF x' p ∧ β = dicB b x' p left ∧ x'.bs.bo = x.bs.bo ∧ x'.bs.cap = x.bs.cap
theorem S_simplex_dictionary__pivot {b : Nat} {x : DX} {p : PD} {left : Int} {i j K : Nat} (hi : i < p.m) (hj : j < p.n) (hm : p.m ≤ 100) (hn : p.n ≤ 100) (hl : -1000000 ≤ left) (hl2 : left ≤ 1000000) (hK : 1 ≤ K) (hK2 : K ≤ 1000000) (hb : PB K p) (hbs : ∀ h,h < p.m → p.bs h ≤ 1000000) (hos : ∀ k,k < p.n → p.os k ≤ 1000000) (ha : p.rw i j ≠ 0) :
  Ctr Tryz.prog 60 [.pointer (some ⟨b,0,none⟩),.int .i64 i,.int .i64 j] (dicB b x p left) (dicF x p) (PivS b x (piv p i j) (left - 1)):=by
 refine Ctr_of_j' (F:=F_simplex_dictionary__pivot) rfl fun C=>?_
 obtain ⟨bs,os,fr,rw',gl,hd,cs,pn,cn,pd,cd⟩:=x
 obtain ⟨m,n,pbs,pos,pfr,prw,pgl,pvv⟩:=p
 simp only [dicB,dicF,dicC] at *
 refine j_rowB 0 rfl (by omega) fun bbs cbs ebs h=>?_
 subst h
 refine j_rowB 1 rfl (by omega) fun bos cos eos h=>?_
 subst h
 refine j_rowB 2 rfl (by omega) fun bfr cfr efr h=>?_
 subst h
 refine j_rowB 3 rfl (by omega) fun brw crw erw h=>?_
 subst h
 refine j_rowB 4 rfl (by omega) fun bgl cgl egl h=>?_
 subst h
 refine j_hdlen 5 rfl fun hlen=>?_
 have hN : (hd i).2.1 = n:=by rw [hlen i hi rfl,rl_len]
 refine j_focusL 6 (i) 5 (n) rfl rfl (by first | assumption | omega) (by first | rfl | assumption | (simp [memB_cons,memB];done) | (simp [memB_cons,memB];omega)) (by first | assumption | omega) fun r1 hr1=>?_
 simp only [List.take_succ_cons,List.take_zero,List.cons_append,List.nil_append]
 refine j_rowB 0 rfl (by omega) fun br cr er h=>?_
 subst h
 have z1:=rl_get (f:=prw i) hj
 have ha : prw i j ≠ 0:=ha
 have w1:=il_get (f:=pos) hj
 have w2:=il_get (f:=pbs) hi
 have w4:=hos j hj
 have w5:=hbs i hi
 have w3:=rl_get (f:=pfr) hi
 obtain ⟨y1,y2⟩:=bd_len (hb.rw i j hi hj)
 obtain ⟨y3,y4⟩:=bd_len (bd_one hK)
 refine j_nf [_,_] rfl ?_
 refine j_run it 2 rfl (by simp) ?_
 refine j_step rfl (x_field rfl fd65_6 ?_)
 refine j_step rfl (x_bld 1 rfl rfl ld3 rfl ?_)
 refine j_run it 2 rfl ⟨trivial,⟨by omega,by omega⟩,trivial⟩ ?_
 refine j_step rfl (x_field rfl fd65_6 ?_)
 refine j_step rfl (x_bst1 1 rfl rfl rfl rfl ld3 rfl (Nat.le_of_ble_eq_true rfl) ?_)
 refine j_nf [_,_] rfl ?_
 (apply j_drawKW (x0:=none) it mx 0 16 [14] 1;(· rfl);(· rfl);(· rfl);(· decide))
 simp only [List.drop_zero]
 (apply lxk_rq;(· rfl);(· exact d_x fun _=>x_call [] rfl (S_simplex_one) rfl (by rintro _ _ _ ⟨pn1,cn1,pd1,cd1,rfl,rfl,rfl⟩;exact (dk_rq 0 1 rfl rfl)));intro pn1 cn1 pd1 cd1)
 (apply lxk_run 2;(· rfl);(· simp))
 (apply lxk_eq;(· rfl);(· exact d_x fun _=>x_field rfl fd65_3 dk_eq))
 (apply lxk_eq;(· rfl);(· exact d_bld 1 rfl rfl ld39 rfl))
 (apply lxk_run 1;(· rfl);(· simp))
 (apply lxk_eq;(· rfl);(· exact d_x fun _=>x_idx_own (i) (i) rfl rfl sl39 rfl (by omega) (Nat.mul_one _) dk_eq))
 (apply lxk_eq;(· rfl);(· exact d_ldR_hd 5 5 (i) rfl rfl rfl ld27 rfl (by assumption)))
 dsimp only
 (apply lxk_run 1;(· rfl);(· simp))
 (apply lxk_eq;(· rfl);(· exact d_x fun _=>x_idx_own (j) _ rfl rfl sl27 rfl (by omega) rfl dk_eq))
 (apply lxk_vw vw_RatE;(· rfl);(· exact d_ldR_vw vw_RatE 0 0 (j) rfl rfl rfl ld26 rfl (by assumption));intro g1)
 dsimp only [vw_RatE,List.cons_append,List.nil_append,List.map_cons,List.map_nil]
 (apply lxk_fa (val:=(fun g=>Value.tuple #[Value.agg #[Value.bool (rt (1 * (prw i j)⁻¹)).fst,Value.slice (g 0).fst (rt (1 * (prw i j)⁻¹)).snd.fst.length (g 1).snd.fst,Value.slice (g 2).fst (rt (1 * (prw i j)⁻¹)).snd.snd.length (g 3).snd.fst],Value.int IntKind.i64 0])) (f:=(fun g=>[slF U32 (g 0).fst (rt (1 * (prw i j)⁻¹)).snd.fst.length (g 1).snd.fst (rt (1 * (prw i j)⁻¹)).snd.fst,slF U32 (g 2).fst (rt (1 * (prw i j)⁻¹)).snd.snd.length (g 3).snd.fst (rt (1 * (prw i j)⁻¹)).snd.snd]));(· rfl);(· exact d_x fun _=>x_call [2,3,0,1] rfl (S_rational_Div (by omega) (by omega) (by omega) (by omega) (by omega) (by omega) (by omega)) rfl (by rintro _ _ _ ⟨png0,cng1,pdg2,cdg3,rfl,rfl,rfl⟩;exact fun _ _ _ hG=>⟨(fun | 0=>(png0,0,0,[]) | 1=>(none,cng1,0,[]) | 2=>(pdg2,0,0,[]) | 3=>(none,cdg3,0,[]) | _=>default),rfl,fun g hg=>drop_own (hG _ (List.mem_append_left _ hg))⟩));intro g2;dsimp only [List.map_cons,List.map_nil])
 (apply lxk_fa (val:=fun g=>Value.tuple #[Value.agg #[Value.bool (rt (1 * (prw i j)⁻¹)).fst,Value.slice (g 0).1 ((rt (1 * (prw i j)⁻¹)).snd.fst.length) (g 0).2.1,Value.slice (g 1).1 ((rt (1 * (prw i j)⁻¹)).snd.snd.length) (g 1).2.1],Value.int IntKind.i64 0]) (f:=fun g=>[slF (U32) (g 0).1 ((rt (1 * (prw i j)⁻¹)).snd.fst.length) (g 0).2.1 ((rt (1 * (prw i j)⁻¹)).snd.fst),slF (U32) (g 1).1 ((rt (1 * (prw i j)⁻¹)).snd.snd.length) (g 1).2.1 ((rt (1 * (prw i j)⁻¹)).snd.snd)]);(· rfl);(· exact d_x fun _=>x_pv it rfl (by trivial) (fun _ _ _ hG=>⟨(fun | 0=>((g2 0).fst,(g2 1).snd.fst,0,[]) | 1=>((g2 2).fst,(g2 3).snd.fst,0,[]) | _=>default),rfl,fun g hg=>by (simp only [List.mem_cons,List.not_mem_nil,or_false] at hg;rcases hg with rfl | rfl;(· exact drop_own (hG _ (fact_mem (n:=0) rfl)));(· exact drop_own (hG _ (fact_mem (n:=1) rfl))))⟩));intro g3;dsimp only [List.map_cons,List.map_nil,List.cons_append,List.nil_append])
 (apply lxk_fa (val:=fun g=>Value.agg #[Value.bool (rt (1 * (prw i j)⁻¹)).fst,Value.slice (g 0).1 ((rt (1 * (prw i j)⁻¹)).snd.fst.length) (g 0).2.1,Value.slice (g 1).1 ((rt (1 * (prw i j)⁻¹)).snd.snd.length) (g 1).2.1]) (f:=fun g=>[slF (U32) (g 0).1 ((rt (1 * (prw i j)⁻¹)).snd.fst.length) (g 0).2.1 ((rt (1 * (prw i j)⁻¹)).snd.fst),slF (U32) (g 1).1 ((rt (1 * (prw i j)⁻¹)).snd.snd.length) (g 1).2.1 ((rt (1 * (prw i j)⁻¹)).snd.snd)]);(· rfl);(· exact d_x fun _=>x_pv it rfl (by trivial) (fun _ _ _ hG=>⟨(fun | 0=>((g3 0).fst,(g3 0).snd.fst,0,[]) | 1=>((g3 1).fst,(g3 1).snd.fst,0,[]) | _=>default),rfl,fun g hg=>by (simp only [List.mem_cons,List.not_mem_nil,or_false] at hg;rcases hg with rfl | rfl;(· exact drop_own (hG _ (fact_mem (n:=0) rfl)));(· exact drop_own (hG _ (fact_mem (n:=1) rfl))))⟩));intro g4;dsimp only [List.map_cons,List.map_nil,List.cons_append,List.nil_append])
 (apply lxk_eq;(· rfl);(· exact d_x fun _=>x_pv it rfl (by trivial) dk_eq))
 (apply lxk_alloc;(· rfl);(· exact zo26);intro b1)
 refine lxk_endW rfl ?_
 (rotate_left;rfl;rotate_right)
 simp only [List.map_cons,List.map_nil,List.cons_append,List.nil_append]
 refine win_step it rfl rfl ⟨⟨_,_,_,_,rfl,rfl,rfl,rfl,rfl,rfl,(by first | trivial | (repeat' first | exact trivial | apply And.intro | omega))⟩,trivial⟩ (x_bst_all 0 rfl rfl rfl ld26 rfl rfl (by simp [Value.oneCell']) ?_)
 refine win_end it ⟨⟨_,_,_,_,rfl,rfl,rfl,rfl,rfl,rfl,(by first | trivial | (repeat' first | exact trivial | apply And.intro | omega))⟩,trivial⟩ ?_
 refine j_run it 1 rfl (by simp) ?_
 refine j_nf [_,_] rfl ?_
 rw [Rat.one_mul]
 have y5 : bd K (prw i j)⁻¹:=rinv_bd (hb.rw i j hi hj) hK
 have side2 : ∀ x : Rat,bd K x → ∀ r ∈ [((rt x).1,(rt x).2.1,(rt x).2.2),(((rt (prw i j)⁻¹).1,(rt (prw i j)⁻¹).2.1,(rt (prw i j)⁻¹).2.2) : Rt)],r.2.1.length ≤ K ∧ r.2.2.length ≤ K:=by
  intro x hx r hr
  simp only [List.mem_cons,List.not_mem_nil,or_false] at hr
  rcases hr with rfl | rfl
  ·exact bd_len hx
  ·exact bd_len y5
 have side:=side2 _ (hb.fr i hi)
 (apply j_drawKW (x0:=none) it mx 0 25 [9] 1;(· rfl);(· rfl);(· rfl);(· decide))
 simp only [List.drop_zero]
 (apply lxk_run 2;(· rfl);(· simp))
 (apply lxk_eq;(· rfl);(· exact d_x fun _=>x_field rfl fd65_0 dk_eq))
 (apply lxk_eq;(· rfl);(· exact d_bld 2 rfl rfl ld63 rfl))
 (apply lxk_run 3;(· rfl);(· simp))
 (apply lxk_eq;(· rfl);(· exact d_x fun _=>x_field rfl fd65_1 dk_eq))
 (apply lxk_eq;(· rfl);(· exact d_bld 2 rfl rfl ld63 rfl))
 (apply lxk_run 3;(· rfl);(· simp))
 (apply lxk_eq;(· rfl);(· exact d_x fun _=>x_field rfl fd65_1 dk_eq))
 (apply lxk_eq;(· rfl);(· exact d_bld 2 rfl rfl ld63 rfl))
 (apply lxk_run 1;(· rfl);(· simp))
 (apply lxk_eq;(· rfl);(· exact d_x fun _=>x_idx_own (j) (j) rfl rfl sl63 rfl (by omega) (Nat.mul_one _) dk_eq))
 (apply lxk_eq;(· rfl);(· exact d_ldR_int 4 13 (j) rfl rfl rfl ld3 rfl (by assumption)))
 (apply lxk_run 2;(· rfl);(· simp))
 (apply lxk_eq;(· rfl);(· exact d_x fun _=>x_field rfl fd65_0 dk_eq))
 (apply lxk_eq;(· rfl);(· exact d_bld 2 rfl rfl ld63 rfl))
 (apply lxk_run 1;(· rfl);(· simp))
 (apply lxk_eq;(· rfl);(· exact d_x fun _=>x_idx_own (i) (i) rfl rfl sl63 rfl (by omega) (Nat.mul_one _) dk_eq))
 (apply lxk_eq;(· rfl);(· exact d_ldR_int 3 12 (i) rfl rfl rfl ld3 rfl (by assumption)))
 (apply lxk_eq;(· rfl);(· exact d_x fun _=>x_idx_own (i) (i) rfl rfl sl63 rfl (by omega) (Nat.mul_one _) dk_eq))
 refine lxk_endW rfl ?_
 (rotate_left;rfl;rotate_right)
 simp only [List.map_cons,List.map_nil,List.cons_append,List.nil_append]
 refine win_step it rfl rfl ⟨⟨_,_,_,_,rfl,rfl,rfl,rfl,rfl,rfl,(by first | trivial | (repeat' first | exact trivial | apply And.intro | omega))⟩,trivial⟩ (x_stR (vs:=[Value.int IntKind.i64 ↑(pos j)]) (z:=(↑(pos j) : Int)) 3 12 (i) rfl rfl rfl rfl rfl ld3 (Nat.mul_one _).symm (by omega) (fun w A hG=>(rd_int (by first | (simp only [InR];omega) | (simp [InR];done)))) fun cs1=>?_)
 refine win_end it ⟨⟨_,_,_,_,rfl,rfl,rfl,rfl,rfl,rfl,(by first | trivial | (repeat' first | exact trivial | apply And.intro | omega))⟩,trivial⟩ ?_
 refine j_step rfl (x_idx_own (j) (j) rfl rfl sl63 rfl (by omega) (Nat.mul_one _) ?_)
 refine j_step rfl (x_stR (vs:=[Value.int IntKind.i64 ↑(pbs i)]) (z:=(↑(pbs i) : Int)) 4 14 (j) rfl rfl rfl rfl rfl ld3 (Nat.mul_one _).symm (by omega) (fun w A hG=>(rd_int (by first | (simp only [InR];omega) | (simp [InR];done)))) fun cs2=>?_)
 refine j_nf [_,_] rfl ?_
 (apply j_drawK it mx 15;(· rfl);(· rfl))
 (apply lxk_run 2;(· rfl);(· simp))
 (apply lxk_eq;(· rfl);(· exact d_x fun _=>x_field rfl fd65_2 dk_eq))
 (apply lxk_eq;(· rfl);(· exact d_bld 2 rfl rfl ld27 rfl))
 (apply lxk_run 3;(· rfl);(· simp))
 (apply lxk_eq;(· rfl);(· exact d_x fun _=>x_field rfl fd65_2 dk_eq))
 (apply lxk_eq;(· rfl);(· exact d_bld 2 rfl rfl ld27 rfl))
 (apply lxk_run 1;(· rfl);(· simp))
 (apply lxk_eq;(· rfl);(· exact d_x fun _=>x_idx_own (i) _ rfl rfl sl27 rfl (by omega) rfl dk_eq))
 (apply lxk_vw vw_RatE;(· rfl);(· exact d_ldR_vw vw_RatE 5 16 (i) rfl rfl rfl ld26 rfl (by assumption));intro g5)
 dsimp only [vw_RatE,List.cons_append,List.nil_append,List.map_cons,List.map_nil]
 (apply lxk_eq;(· rfl);(· exact d_bld_all 0 rfl rfl ld26 rfl))
 (apply lxk_sl;(· rfl);(· exact d_x fun _=>x_lit sl27 zo27e rfl rfl rfl rfl (by decide) (by decide) rfl fun b2=>dk_all (E:=RatE) [[Value.bool (rt (pfr i)).fst,Value.slice (g5 0).fst (rt (pfr i)).snd.fst.length (g5 0).snd.fst,Value.slice (g5 1).fst (rt (pfr i)).snd.snd.length (g5 1).snd.fst],[Value.bool (rt (prw i j)⁻¹).fst,Value.slice (g4 0).fst (rt (prw i j)⁻¹).snd.fst.length (g4 0).snd.fst,Value.slice (g4 1).fst (rt (prw i j)⁻¹).snd.snd.length (g4 1).snd.fst]] [((rt (pfr i)).fst,(rt (pfr i)).snd.fst,(rt (pfr i)).snd.snd),((rt (prw i j)⁻¹).fst,(rt (prw i j)⁻¹).snd.fst,(rt (prw i j)⁻¹).snd.snd)] (fun w A hG=>(allrd_cons (rd_rt (hG _ (fact_mem (n:=0) rfl)) (hG _ (fact_mem (n:=1) rfl))) (allrd_cons (rd_rt (hG _ (fact_mem (n:=4) rfl)) (hG _ (fact_mem (n:=5) rfl))) allrd_nil))) rfl rfl rfl (by first | decide | exact Nat.le_of_ble_eq_true rfl));intro pa1 ca1)
 (apply lxk_rq;(· rfl);(· exact d_x fun _=>x_call [0] rfl (S_rational_Mul (by omega) (by omega) (by simp;omega) (by omega)) rfl (by rintro _ _ _ ⟨pn2,cn2,pd2,cd2,rfl,rfl,rfl⟩;exact (dk_rq 0 1 rfl rfl)));intro pn2 cn2 pd2 cd2)
 simp only [vq_rt']
 refine lxk_end rfl ?_
 simp only [List.map_cons,List.map_nil,List.cons_append,List.nil_append]
 refine j_step rfl (x_idx_own (i) _ rfl rfl sl27 rfl (by omega) rfl ?_)
 refine j_step rfl (x_stR (vs:=[Value.bool (rt (prodQ [((rt (pfr i)).fst,(rt (pfr i)).snd.fst,(rt (pfr i)).snd.snd),((rt (prw i j)⁻¹).fst,(rt (prw i j)⁻¹).snd.fst,(rt (prw i j)⁻¹).snd.snd)])).fst,Value.slice pn2 (rt (prodQ [((rt (pfr i)).fst,(rt (pfr i)).snd.fst,(rt (pfr i)).snd.snd),((rt (prw i j)⁻¹).fst,(rt (prw i j)⁻¹).snd.fst,(rt (prw i j)⁻¹).snd.snd)])).snd.fst.length cn2,Value.slice pd2 (rt (prodQ [((rt (pfr i)).fst,(rt (pfr i)).snd.fst,(rt (pfr i)).snd.snd),((rt (prw i j)⁻¹).fst,(rt (prw i j)⁻¹).snd.fst,(rt (prw i j)⁻¹).snd.snd)])).snd.snd.length cd2]) (z:=((rt (prodQ [((rt (pfr i)).fst,(rt (pfr i)).snd.fst,(rt (pfr i)).snd.snd),((rt (prw i j)⁻¹).fst,(rt (prw i j)⁻¹).snd.fst,(rt (prw i j)⁻¹).snd.snd)])).fst,((rt (prodQ [((rt (pfr i)).fst,(rt (pfr i)).snd.fst,(rt (pfr i)).snd.snd),((rt (prw i j)⁻¹).fst,(rt (prw i j)⁻¹).snd.fst,(rt (prw i j)⁻¹).snd.snd)])).snd.fst,(rt (prodQ [((rt (pfr i)).fst,(rt (pfr i)).snd.fst,(rt (pfr i)).snd.snd),((rt (prw i j)⁻¹).fst,(rt (prw i j)⁻¹).snd.fst,(rt (prw i j)⁻¹).snd.snd)])).snd.snd))) 5 21 (i) rfl rfl rfl rfl rfl ld26 rfl (by omega) (fun w A hG=>(rd_pair (v1:=[Value.bool (rt (prodQ [((rt (pfr i)).fst,(rt (pfr i)).snd.fst,(rt (pfr i)).snd.snd),((rt (prw i j)⁻¹).fst,(rt (prw i j)⁻¹).snd.fst,(rt (prw i j)⁻¹).snd.snd)])).fst]) (rd_bool _) (rd_pair (v1:=[Value.slice pn2 (rt (prodQ [((rt (pfr i)).fst,(rt (pfr i)).snd.fst,(rt (pfr i)).snd.snd),((rt (prw i j)⁻¹).fst,(rt (prw i j)⁻¹).snd.fst,(rt (prw i j)⁻¹).snd.snd)])).snd.fst.length cn2]) (rd_of_slF (hG _ (fact_mem (n:=0) rfl))) (rd_of_slF (hG _ (fact_mem (n:=1) rfl)))))) fun cs3=>?_)
 refine j_nf [_,_,_] rfl ?_
 refine j_run it 2 rfl (by simp) ?_
 refine j_step rfl (x_field rfl fd65_3 ?_)
 refine j_step rfl (x_bld 2 rfl rfl ld39 rfl ?_)
 refine j_run it 1 rfl (by simp) ?_
 refine j_step rfl (x_idx_own (i) (i) rfl rfl sl39 rfl (by omega) (Nat.mul_one _) ?_)
 refine j_step rfl (x_ldR_hd 6 23 (i) rfl rfl rfl ld27 rfl (by assumption) ?_)
 refine j_step rfl (x_len sl27 rfl ?_)
 refine j_run it 1 rfl (by simp) ?_
 refine j_nf [_,_,_] rfl ?_
 rw [prod2R,show ((rt (pfr i * (prw i j)⁻¹)).1,(rt (pfr i * (prw i j)⁻¹)).2.1,(rt (pfr i * (prw i j)⁻¹)).2.2) = rt (pfr i * (prw i j)⁻¹) from rfl,rl_set,il_set,il_set]
 rw [show rl n (prw i) = rl n (pvS (prw i) j (prw i j)⁻¹ 0) by rw [pvS_zero]]
 refine j_loopG (X:=Nat × List Value) [0,1,2,6,82] [0,6,7,8,9,19,23,24,26,27] (fun x=>[(83,.int .i64 (x.1 : Int))])
  (fun x=>(some b1,26,[.bool (rt (prw i j)⁻¹).1,.slice (g4 0).1 (rt (prw i j)⁻¹).2.1.length (g4 0).2.1,.slice (g4 1).1 (rt (prw i j)⁻¹).2.2.length (g4 1).2.1])::(some br,26,x.2)::(some b,65,[.slice (ad (some bbs)) m cbs,.slice (ad (some bos)) n cos,.slice (ad (some bfr)) m cfr,.slice (ad (some brw)) m crw,.slice (ad (some bgl)) n cgl,.bool (rt pvv).1,.slice pn (rt pvv).2.1.length cn,.slice pd (rt pvv).2.2.length cd,.int .i64 (left - 1)])::(some bbs,3,cs1)::(some bos,3,cs2)::(some bfr,26,cs3)::(some brw,27,erw)::(some bgl,26,egl)::famB 26 hd cs m [i])
  (fun x=>[rowF RatE ⟨some br,cr,x.2⟩ n (rl n (pvS (prw i) j (prw i j)⁻¹ x.1))])
  (fun x=>x.1 ≤ n) (fun x=>n - x.1) (0,er) [18] rfl rfl rfl (Nat.zero_le _) (by repeat (first | exact Fr.sub_nil _ | refine Fr.sub_cons rfl ?_)) rfl rfl ?_
 rintro ⟨k,csr⟩ hk ih
 simp only [List.cons_append,List.nil_append] at hk ih ⊢
 by_cases hkl : k < n
 ·have z1 : (rl n (pvS (prw i) j (prw i j)⁻¹ k))[k]? = some (rt (prw i k)):=by rw [rl_get hkl,pvS_at]
  have side:=side2 _ (hb.rw i k hi hkl)
  by_cases hkj : k = j
  ·subst hkj
   refine j_nf [_,_,_,_,_] rfl ?_
   refine j_run it 1 rfl (by simp) ?_
   refine j_nf [_,_,_,_,_] rfl ?_
   refine j_if rfl rfl (fun h1=>?_) (fun h1=>by exfalso;omega)
   refine j_nf [_,_,_,_,_,_,_] rfl ?_
   refine j_run it 2 rfl (by simp) ?_
   refine j_nf [_,_,_,_,_,_,_] rfl ?_
   refine j_run it 3 rfl (by simp) ?_
   refine j_nf [_,_,_,_,_,_] rfl ?_
   refine j_ifn rfl rfl (fun h2=>by exfalso;omega) (fun h2=>?_)
   refine j_nf [_,_,_,_] rfl ?_
   refine j_run it 2 rfl ⟨trivial,⟨by omega,by omega⟩,trivial⟩ ?_
   refine j_nfn 1 [.lp (pL 500),.blk 0,.c [1,1,1,1,1]] rfl ?_
   rw [pvS_same]
   refine j_to [0,1,2,3,4,5,6,7,8,9,10] (by exact fra rfl) rfl rfl (ih (k + 1,csr) (by dsimp only;omega) (by dsimp only;omega))
  ·refine j_nf [_,_,_,_,_] rfl ?_
   refine j_run it 1 rfl (by simp) ?_
   refine j_nf [_,_,_,_,_] rfl ?_
   refine j_if rfl rfl (fun h1=>?_) (fun h1=>by exfalso;omega)
   refine j_nf [_,_,_,_,_,_,_] rfl ?_
   refine j_run it 2 rfl (by simp) ?_
   refine j_nf [_,_,_,_,_,_,_] rfl ?_
   refine j_run it 3 rfl (by simp) ?_
   refine j_nf [_,_,_,_,_,_] rfl ?_
   refine j_ifn rfl rfl (fun h2=>?_) (fun h2=>by exfalso;omega)
   (apply j_drawK it mx 21;(· rfl);(· rfl))
   (apply lxk_run 2;(· rfl);(· simp))
   (apply lxk_eq;(· rfl);(· exact d_x fun _=>x_field rfl fd65_3 dk_eq))
   (apply lxk_eq;(· rfl);(· exact d_bld 2 rfl rfl ld39 rfl))
   (apply lxk_run 1;(· rfl);(· simp))
   (apply lxk_eq;(· rfl);(· exact d_x fun _=>x_idx_own (i) (i) rfl rfl sl39 rfl (by omega) (Nat.mul_one _) dk_eq))
   (apply lxk_eq;(· rfl);(· exact d_ldR_hd 6 7 (i) rfl rfl rfl ld27 rfl (by assumption)))
   dsimp only
   (apply lxk_run 3;(· rfl);(· simp))
   (apply lxk_eq;(· rfl);(· exact d_x fun _=>x_field rfl fd65_3 dk_eq))
   (apply lxk_eq;(· rfl);(· exact d_bld 2 rfl rfl ld39 rfl))
   (apply lxk_run 1;(· rfl);(· simp))
   (apply lxk_eq;(· rfl);(· exact d_x fun _=>x_idx_own (i) (i) rfl rfl sl39 rfl (by omega) (Nat.mul_one _) dk_eq))
   (apply lxk_eq;(· rfl);(· exact d_ldR_hd 6 7 (i) rfl rfl rfl ld27 rfl (by assumption)))
   dsimp only
   (apply lxk_run 1;(· rfl);(· simp))
   (apply lxk_eq;(· rfl);(· exact d_x fun _=>x_idx_own (k) _ rfl rfl sl27 rfl (by omega) rfl dk_eq))
   (apply lxk_vw vw_RatE;(· rfl);(· exact d_ldR_vw vw_RatE 1 0 (k) rfl rfl rfl ld26 rfl (by assumption));intro g6)
   dsimp only [vw_RatE,List.cons_append,List.nil_append,List.map_cons,List.map_nil]
   (apply lxk_eq;(· rfl);(· exact d_bld_all 0 rfl rfl ld26 rfl))
   (apply lxk_sl;(· rfl);(· exact d_x fun _=>x_lit sl27 zo27e rfl rfl rfl rfl (by decide) (by decide) rfl fun b2=>dk_all (E:=RatE) [[Value.bool (rt (prw i k)).fst,Value.slice (g6 0).fst (rt (prw i k)).snd.fst.length (g6 0).snd.fst,Value.slice (g6 1).fst (rt (prw i k)).snd.snd.length (g6 1).snd.fst],[Value.bool (rt (prw i j)⁻¹).fst,Value.slice (g4 0).fst (rt (prw i j)⁻¹).snd.fst.length (g4 0).snd.fst,Value.slice (g4 1).fst (rt (prw i j)⁻¹).snd.snd.length (g4 1).snd.fst]] [((rt (prw i k)).fst,(rt (prw i k)).snd.fst,(rt (prw i k)).snd.snd),((rt (prw i j)⁻¹).fst,(rt (prw i j)⁻¹).snd.fst,(rt (prw i j)⁻¹).snd.snd)] (fun w A hG=>(allrd_cons (rd_rt (hG _ (fact_mem (n:=0) rfl)) (hG _ (fact_mem (n:=1) rfl))) (allrd_cons (rd_rt (hG _ (fact_mem (n:=6) rfl)) (hG _ (fact_mem (n:=7) rfl))) allrd_nil))) rfl rfl rfl (by first | decide | exact Nat.le_of_ble_eq_true rfl));intro pa2 ca2)
   (apply lxk_rq;(· rfl);(· exact d_x fun _=>x_call [0] rfl (S_rational_Mul (by omega) (by omega) (by simp;omega) (by omega)) rfl (by rintro _ _ _ ⟨pn3,cn3,pd3,cd3,rfl,rfl,rfl⟩;exact (dk_rq 0 1 rfl rfl)));intro pn3 cn3 pd3 cd3)
   simp only [vq_rt']
   refine lxk_end rfl ?_
   simp only [List.map_cons,List.map_nil,List.cons_append,List.nil_append]
   refine j_step rfl (x_idx_own (k) _ rfl rfl sl27 rfl (by omega) rfl ?_)
   refine j_step rfl (x_stR (vs:=[Value.bool (rt (prodQ [((rt (prw i k)).fst,(rt (prw i k)).snd.fst,(rt (prw i k)).snd.snd),((rt (prw i j)⁻¹).fst,(rt (prw i j)⁻¹).snd.fst,(rt (prw i j)⁻¹).snd.snd)])).fst,Value.slice pn3 (rt (prodQ [((rt (prw i k)).fst,(rt (prw i k)).snd.fst,(rt (prw i k)).snd.snd),((rt (prw i j)⁻¹).fst,(rt (prw i j)⁻¹).snd.fst,(rt (prw i j)⁻¹).snd.snd)])).snd.fst.length cn3,Value.slice pd3 (rt (prodQ [((rt (prw i k)).fst,(rt (prw i k)).snd.fst,(rt (prw i k)).snd.snd),((rt (prw i j)⁻¹).fst,(rt (prw i j)⁻¹).snd.fst,(rt (prw i j)⁻¹).snd.snd)])).snd.snd.length cd3]) (z:=((rt (prodQ [((rt (prw i k)).fst,(rt (prw i k)).snd.fst,(rt (prw i k)).snd.snd),((rt (prw i j)⁻¹).fst,(rt (prw i j)⁻¹).snd.fst,(rt (prw i j)⁻¹).snd.snd)])).fst,((rt (prodQ [((rt (prw i k)).fst,(rt (prw i k)).snd.fst,(rt (prw i k)).snd.snd),((rt (prw i j)⁻¹).fst,(rt (prw i j)⁻¹).snd.fst,(rt (prw i j)⁻¹).snd.snd)])).snd.fst,(rt (prodQ [((rt (prw i k)).fst,(rt (prw i k)).snd.fst,(rt (prw i k)).snd.snd),((rt (prw i j)⁻¹).fst,(rt (prw i j)⁻¹).snd.fst,(rt (prw i j)⁻¹).snd.snd)])).snd.snd))) 1 5 (k) rfl rfl rfl rfl rfl ld26 rfl (by omega) (fun w A hG=>(rd_pair (v1:=[Value.bool (rt (prodQ [((rt (prw i k)).fst,(rt (prw i k)).snd.fst,(rt (prw i k)).snd.snd),((rt (prw i j)⁻¹).fst,(rt (prw i j)⁻¹).snd.fst,(rt (prw i j)⁻¹).snd.snd)])).fst]) (rd_bool _) (rd_pair (v1:=[Value.slice pn3 (rt (prodQ [((rt (prw i k)).fst,(rt (prw i k)).snd.fst,(rt (prw i k)).snd.snd),((rt (prw i j)⁻¹).fst,(rt (prw i j)⁻¹).snd.fst,(rt (prw i j)⁻¹).snd.snd)])).snd.fst.length cn3]) (rd_of_slF (hG _ (fact_mem (n:=0) rfl))) (rd_of_slF (hG _ (fact_mem (n:=1) rfl)))))) fun cs4=>?_)
   refine j_nf [_,_,_,_] rfl ?_
   refine j_run it 2 rfl ⟨trivial,⟨by omega,by omega⟩,trivial⟩ ?_
   refine j_nfn 1 [.lp (pL 500),.blk 0,.c [1,1,1,1,1]] rfl ?_
   rw [prod2R,show ((rt (prw i k * (prw i j)⁻¹)).1,(rt (prw i k * (prw i j)⁻¹)).2.1,(rt (prw i k * (prw i j)⁻¹)).2.2) = rt (prw i k * (prw i j)⁻¹) from rfl,rl_set,pvS_next (prw i) _ hkj]
   refine j_to [0,7,8,9,10,11,12,13,14,15,16] (by exact fra rfl) rfl rfl (ih (k + 1,cs4) (by dsimp only;omega) (by dsimp only;omega))
 ·obtain rfl : n = k:=by omega
  refine j_nf [_,_,_,_,_] rfl ?_
  refine j_run it 1 rfl (by simp) ?_
  refine j_nf [_,_,_,_,_] rfl ?_
  refine j_if rfl rfl (fun h1=>by exfalso;omega) (fun h1=>?_)
  refine j_nf [_,_] rfl ?_
  (apply j_drawK it mx 9;(· rfl);(· rfl))
  (apply lxk_run 2;(· rfl);(· simp))
  (apply lxk_eq;(· rfl);(· exact d_x fun _=>x_field rfl fd65_3 dk_eq))
  (apply lxk_eq;(· rfl);(· exact d_bld 2 rfl rfl ld39 rfl))
  (apply lxk_run 1;(· rfl);(· simp))
  (apply lxk_eq;(· rfl);(· exact d_x fun _=>x_idx_own (i) (i) rfl rfl sl39 rfl (by omega) (Nat.mul_one _) dk_eq))
  (apply lxk_eq;(· rfl);(· exact d_ldR_hd 6 7 (i) rfl rfl rfl ld27 rfl (by assumption)))
  dsimp only
  (apply lxk_run 1;(· rfl);(· simp))
  (apply lxk_eq;(· rfl);(· exact d_bld_all 0 rfl rfl ld26 rfl))
  refine lxk_end rfl ?_
  simp only [List.map_cons,List.map_nil,List.cons_append,List.nil_append]
  refine j_step rfl (x_idx_own (j) _ rfl rfl sl27 rfl (by omega) rfl ?_)
  refine j_step rfl (x_stR (vs:=[Value.bool (rt (prw i j)⁻¹).fst,Value.slice (g4 0).fst (rt (prw i j)⁻¹).snd.fst.length (g4 0).snd.fst,Value.slice (g4 1).fst (rt (prw i j)⁻¹).snd.snd.length (g4 1).snd.fst]) (z:=((rt (prw i j)⁻¹).fst,((rt (prw i j)⁻¹).snd.fst,(rt (prw i j)⁻¹).snd.snd))) 1 0 (j) rfl rfl rfl rfl rfl ld26 rfl (by omega) (fun w A hG=>(rd_pair (v1:=[Value.bool (rt (prw i j)⁻¹).fst]) (rd_bool _) (rd_pair (v1:=[Value.slice (g4 0).fst (rt (prw i j)⁻¹).snd.fst.length (g4 0).snd.fst]) (rd_of_slF (hG _ (fact_mem (n:=4) rfl))) (rd_of_slF (hG _ (fact_mem (n:=5) rfl)))))) fun cs4=>?_)
  refine j_nf [_,_,_] rfl ?_
  refine j_run it 2 rfl (by simp) ?_
  refine j_step rfl (x_field rfl fd65_3 ?_)
  refine j_step rfl (x_bld 2 rfl rfl ld39 rfl ?_)
  refine j_step rfl (x_len sl39 rfl ?_)
  refine j_run it 1 rfl (by simp) ?_
  refine j_nf [_,_,_] rfl ?_
  rw [show ((rt (prw i j)⁻¹).1,(rt (prw i j)⁻¹).2.1,(rt (prw i j)⁻¹).2.2) = rt (prw i j)⁻¹ from rfl,rl_set,pvG_eq,pvF_zero]
  refine j_matCongr (fun h=>rl n (pvR prw i j 0 h)) 7 rfl (fun h _=>by rw [pvR_zero]) ?_
  refine j_loopG (X:=Nat × (Nat → List Value) × List Value) [0,1,2,126] [1,4,5,6,7,9,10,11,12] (fun x=>[(127,.int .i64 (x.1 : Int))])
   (fun x=>(some b1,26,[.bool (rt (prw i j)⁻¹).1,.slice (g4 0).1 (rt (prw i j)⁻¹).2.1.length (g4 0).2.1,.slice (g4 1).1 (rt (prw i j)⁻¹).2.2.length (g4 1).2.1])::(some br,26,cs4)::(some b,65,[.slice (ad (some bbs)) m cbs,.slice (ad (some bos)) n cos,.slice (ad (some bfr)) m cfr,.slice (ad (some brw)) m crw,.slice (ad (some bgl)) n cgl,.bool (rt pvv).1,.slice pn (rt pvv).2.1.length cn,.slice pd (rt pvv).2.2.length cd,.int .i64 (left - 1)])::(some bbs,3,cs1)::(some bos,3,cs2)::(some bfr,26,x.2.2)::(some brw,27,erw)::(some bgl,26,egl)::famB 26 hd x.2.1 m [i])
   (fun x=>[matF RatE hd x.2.1 (fun h=>rl n (pvR prw i j x.1 h)) m [i],rowF RatE ⟨some bfr,cfr,x.2.2⟩ m (rl m (pvF pfr prw i j x.1))])
   (fun x=>x.1 ≤ m) (fun x=>m - x.1) (0,cs,cs3) [0,3] rfl rfl rfl (Nat.zero_le _) (by repeat (first | exact Fr.sub_nil _ | refine Fr.sub_cons rfl ?_)) rfl rfl ?_
  rintro ⟨h,cs,csf⟩ hh ih
  simp only [List.cons_append,List.nil_append] at hh ih ⊢
  by_cases hhl : h < m
  ·by_cases hhi : h = i
   ·subst hhi
    refine j_nf [_,_,_,_,_] rfl ?_
    refine j_run it 1 rfl (by simp) ?_
    refine j_nf [_,_,_,_,_] rfl ?_
    refine j_if rfl rfl (fun h2=>?_) (fun h2=>by exfalso;omega)
    refine j_nf [_,_,_,_,_,_,_] rfl ?_
    refine j_run it 2 rfl (by simp) ?_
    refine j_nf [_,_,_,_,_,_,_] rfl ?_
    refine j_run it 4 rfl (by simp) ?_
    refine j_split_ndec (t:=133) rfl (fun h3=>by exfalso;omega) (fun h3=>?_)
    refine j_run it 13 rfl (by simp) ?_
    refine j_nf [_,_,_,_,_,_] rfl ?_
    refine j_false rfl rfl ?_
    refine j_nf [_,_,_,_] rfl ?_
    refine j_run it 2 rfl ⟨trivial,⟨by omega,by omega⟩,trivial⟩ ?_
    refine j_nfn 1 [.lp (pL 2036),.blk 2,.c (pL 255)] rfl ?_
    refine j_matCongrS (fun g=>rl n (pvR prw h j (h + 1) g)) 0 rfl (fun g _ hs=>by rw [pvR_ne prw h j h g (by rintro rfl;simp [memB_cons,memB] at hs)]) ?_
    rw [pvF_self pfr prw h j]
    refine j_to [0,2,3,4,5,6,7,8,9,10,11] (by exact fra rfl) rfl rfl (ih (h + 1,cs,csf) (by dsimp only;omega) (by dsimp only;omega))
   ·have hN : (hd h).2.1 = n:=by rw [hlen h hhl rfl,rl_len]
    have hmb : memB h [i] = false:=by rw [memB_cons,decide_eq_false hhi];rfl
    refine j_focusL 8 (h) 0 (n) rfl rfl (by first | assumption | omega) (by first | rfl | assumption | (simp [memB_cons,memB];done) | (simp [memB_cons,memB];omega)) (by first | assumption | omega) fun r1 hr2=>?_
    simp only [List.take_succ_cons,List.take_zero,List.cons_append,List.nil_append]
    refine j_rowB 0 rfl (by omega) fun br2 cr2 er2 hr2=>?_
    subst hr2
    have z9 : (rl n (pvR prw i j h h))[j]? = some (rt (prw h j)):=by rw [rl_get hj,pvR_at]
    refine j_nf [_,_,_,_,_] rfl ?_
    refine j_run it 1 rfl (by simp) ?_
    refine j_nf [_,_,_,_,_] rfl ?_
    refine j_if rfl rfl (fun h2=>?_) (fun h2=>by exfalso;omega)
    refine j_nf [_,_,_,_,_,_,_] rfl ?_
    refine j_run it 2 rfl (by simp) ?_
    refine j_nf [_,_,_,_,_,_,_] rfl ?_
    refine j_run it 4 rfl (by simp) ?_
    refine j_split_ndec (t:=133) rfl (fun h3=>?_) (fun h3=>by exfalso;omega)
    refine j_run it 2 rfl (by simp) ?_
    refine j_gstep rfl rfl (x_field rfl fd65_3 ?_)
    refine j_gstep rfl rfl (x_bld 3 rfl rfl ld39 rfl ?_)
    refine j_run it 1 rfl (by simp) ?_
    refine j_gstep rfl rfl (x_idx_own (h) (h) rfl rfl sl39 rfl (by omega) (Nat.mul_one _) ?_)
    refine j_gstep rfl rfl (x_ldR_hd 7 9 (h) rfl rfl rfl ld27 rfl (by assumption) ?_)
    refine j_run it 1 rfl (by simp) ?_
    refine j_gstep rfl rfl (x_idx_own (j) _ rfl rfl sl27 rfl (by omega) rfl ?_)
    refine j_gstep rfl rfl (x_ldR_vw vw_RatE 0 0 (j) rfl rfl rfl ld26 rfl (by omega) fun z2 hz1 g6=>?_)
    dsimp only [vw_RatE,List.cons_append,List.nil_append,List.map_cons,List.map_nil]
    refine j_gstep rfl rfl (x_call [0,1] rfl (S_rational_Sign) rfl ?_)
    rintro _ _ _ ⟨rfl,rfl,rfl⟩
    simp only [List.cons_append,List.nil_append]
    refine j_run it 2 rfl (by simp) ?_
    refine j_nf [_,_,_,_,_,_] rfl ?_
    refine j_ifn rfl rfl (fun h4=>?_) (fun h4=>?_)
    ·obtain rfl : z2 = rt (prw h j):=Option.some.inj (hz1.symm.trans z9)
     refine j_selT 9 [0,2,1,3,4,5,6,7,8] rfl rfl ?_
     simp only [List.cons_append,List.nil_append,List.drop_succ_cons,List.drop_zero]
     apply j_drawKB it mx 2 35
     ·rfl
     ·rfl
     ·rfl
     have v1 : (rl m (pvF pfr prw i j h))[h]? = some (rt (pfr h)):=by rw [rl_get hhl,pvF_at _ _ _ hhi]
     have v2 : (rl m (pvF pfr prw i j h))[i]? = some (rt (pfr i * (prw i j)⁻¹)):=by rw [rl_get hi,pvF_i]
     rw [pvR_at]
     have c_simplex_replaced:=fun {r r2 : Row} {pn1 pd1 pn2 pd2 : Option Addr} {cn1 cd1 cn2 cd2 : Nat}=>S_simplex_replaced (r:=r) (r2:=r2) (n:=n) (j:=j) (K:=K + K) (f:=prw h) (g:=pvG (prw i) j) (free:=pfr h) (term:=pfr i * (prw i j)⁻¹) (pn1:=pn1) (pd1:=pd1) (pn2:=pn2) (pd2:=pd2) (cn1:=cn1) (cd1:=cd1) (cn2:=cn2) (cd2:=cd2) hj (by omega) (by omega) (by omega) (fun k hk=>bd_mono (hb.rw h k hhl hk) (by omega)) (fun k hk=>pvG_bd hj hK (fun k hk=>hb.rw i k hi hk) hk) (bd_mono (hb.fr h hhl) (by omega)) (bd_mul (hb.fr i hi) y5 (by omega))
     (apply lxk_run 2;(· rfl);(· simp))
     (apply lxk_eq;(· rfl);(· exact d_x fun _=>x_field rfl fd65_2 dk_eq))
     (apply lxk_eq;(· rfl);(· exact d_bld 1 rfl rfl ld27 rfl))
     (apply lxk_run 3;(· rfl);(· simp))
     (apply lxk_eq;(· rfl);(· exact d_x fun _=>x_field rfl fd65_3 dk_eq))
     (apply lxk_eq;(· rfl);(· exact d_bld 1 rfl rfl ld39 rfl))
     (apply lxk_run 1;(· rfl);(· simp))
     (apply lxk_eq;(· rfl);(· exact d_x fun _=>x_idx_own (h) (h) rfl rfl sl39 rfl (by omega) (Nat.mul_one _) dk_eq))
     (apply lxk_eq;(· rfl);(· exact d_ldR_hd 5 11 (h) rfl rfl rfl ld27 rfl (by assumption)))
     dsimp only
     (apply lxk_run 2;(· rfl);(· simp))
     (apply lxk_eq;(· rfl);(· exact d_x fun _=>x_field rfl fd65_3 dk_eq))
     (apply lxk_eq;(· rfl);(· exact d_bld 1 rfl rfl ld39 rfl))
     (apply lxk_run 1;(· rfl);(· simp))
     (apply lxk_eq;(· rfl);(· exact d_x fun _=>x_idx_own (i) (i) rfl rfl sl39 rfl (by omega) (Nat.mul_one _) dk_eq))
     (apply lxk_eq;(· rfl);(· exact d_ldR_hd 5 11 (i) rfl rfl rfl ld27 rfl (by assumption)))
     dsimp only
     (apply lxk_run 3;(· rfl);(· simp))
     (apply lxk_eq;(· rfl);(· exact d_x fun _=>x_field rfl fd65_2 dk_eq))
     (apply lxk_eq;(· rfl);(· exact d_bld 1 rfl rfl ld27 rfl))
     (apply lxk_run 1;(· rfl);(· simp))
     (apply lxk_eq;(· rfl);(· exact d_x fun _=>x_idx_own (h) _ rfl rfl sl27 rfl (by omega) rfl dk_eq))
     (apply lxk_vw vw_RatE;(· rfl);(· exact d_ldR_vw vw_RatE 4 5 (h) rfl rfl rfl ld26 rfl (by assumption));intro g7)
     dsimp only [vw_RatE,List.cons_append,List.nil_append,List.map_cons,List.map_nil]
     (apply lxk_run 2;(· rfl);(· simp))
     (apply lxk_eq;(· rfl);(· exact d_x fun _=>x_field rfl fd65_2 dk_eq))
     (apply lxk_eq;(· rfl);(· exact d_bld 1 rfl rfl ld27 rfl))
     (apply lxk_run 1;(· rfl);(· simp))
     (apply lxk_eq;(· rfl);(· exact d_x fun _=>x_idx_own (i) _ rfl rfl sl27 rfl (by omega) rfl dk_eq))
     (apply lxk_vw vw_RatE;(· rfl);(· exact d_ldR_vw vw_RatE 4 5 (i) rfl rfl rfl ld26 rfl (by assumption));intro g8)
     dsimp only [vw_RatE,List.cons_append,List.nil_append,List.map_cons,List.map_nil]
     (apply lxk_callH (val:=(fun g=>Value.agg #[Value.bool (rt (pfr h - prw h j * (pfr i * (prw i j)⁻¹))).fst,Value.slice (g 1).fst (rt (pfr h - prw h j * (pfr i * (prw i j)⁻¹))).snd.fst.length (g 2).snd.fst,Value.slice (g 3).fst (rt (pfr h - prw h j * (pfr i * (prw i j)⁻¹))).snd.snd.length (g 4).snd.fst])) (bl:=(fun g=>[(some br2,26,(g 0).snd.snd.snd),(some br,26,cs4)])) (fa:=(fun g=>[rowF RatE { bo:=some br2,cap:=cr2,cs:=(g 0).snd.snd.snd } n (rl n (rpl (prw h) (pvG (prw i) j) j)),rowF RatE { bo:=some br,cap:=cr,cs:=cs4 } n (rl n (pvG (prw i) j)),slF U32 (g 1).fst (rt (pfr h - prw h j * (pfr i * (prw i j)⁻¹))).snd.fst.length (g 2).snd.fst (rt (pfr h - prw h j * (pfr i * (prw i j)⁻¹))).snd.fst,slF U32 (g 3).fst (rt (pfr h - prw h j * (pfr i * (prw i j)⁻¹))).snd.snd.length (g 4).snd.fst (rt (pfr h - prw h j * (pfr i * (prw i j)⁻¹))).snd.snd])) [6,10,2,3,0,1];(· rfl);(· rfl);(· exact c_simplex_replaced (r:=⟨some br2,cr2,er2⟩) (r2:=⟨some br,cr,cs4⟩));(· rfl);(· rintro _ _ _ ⟨cs'g0,png1,cng2,pdg3,cdg4,rfl,rfl,rfl⟩;exact ⟨(fun | 0=>(none,0,0,cs'g0) | 1=>(png1,0,0,[]) | 2=>(none,cng2,0,[]) | 3=>(pdg3,0,0,[]) | 4=>(none,cdg4,0,[]) | _=>default),rfl,rfl,rfl,fun _ hg=>hg⟩);intro g9;dsimp only [List.map_cons,List.map_nil,List.cons_append,List.nil_append])
     refine lxk_end rfl ?_
     simp only [List.map_cons,List.map_nil,List.cons_append,List.nil_append]
     refine j_step rfl (x_idx_own (h) _ rfl rfl sl27 rfl (by omega) rfl ?_)
     refine j_step rfl (x_stR (vs:=[Value.bool (rt (pfr h - prw h j * (pfr i * (prw i j)⁻¹))).fst,Value.slice (g9 1).fst (rt (pfr h - prw h j * (pfr i * (prw i j)⁻¹))).snd.fst.length (g9 2).snd.fst,Value.slice (g9 3).fst (rt (pfr h - prw h j * (pfr i * (prw i j)⁻¹))).snd.snd.length (g9 4).snd.fst]) (z:=((rt (pfr h - prw h j * (pfr i * (prw i j)⁻¹))).fst,((rt (pfr h - prw h j * (pfr i * (prw i j)⁻¹))).snd.fst,(rt (pfr h - prw h j * (pfr i * (prw i j)⁻¹))).snd.snd))) 6 13 (h) rfl rfl rfl rfl rfl ld26 rfl (by omega) (fun w A hG=>(rd_pair (v1:=[Value.bool (rt (pfr h - prw h j * (pfr i * (prw i j)⁻¹))).fst]) (rd_bool _) (rd_pair (v1:=[Value.slice (g9 1).fst (rt (pfr h - prw h j * (pfr i * (prw i j)⁻¹))).snd.fst.length (g9 2).snd.fst]) (rd_of_slF (hG _ (fact_mem (n:=2) rfl))) (rd_of_slF (hG _ (fact_mem (n:=3) rfl)))))) fun cs5=>?_)
     refine j_nf [_,_,_,_] rfl ?_
     refine j_run it 2 rfl ⟨trivial,⟨by omega,by omega⟩,trivial⟩ ?_
     refine j_nfn 1 [.lp (pL 2036),.blk 2,.c (pL 255)] rfl ?_
     rw [show ((rt (pfr h - prw h j * (pfr i * (prw i j)⁻¹))).1,(rt (pfr h - prw h j * (pfr i * (prw i j)⁻¹))).2.1,(rt (pfr h - prw h j * (pfr i * (prw i j)⁻¹))).2.2) = rt (pfr h - prw h j * (pfr i * (prw i j)⁻¹)) from rfl,rl_set,pvF_next pfr prw j hhi]
     refine j_unfocusL 8 (h) 0 1 12 rfl rfl rfl rfl (by first | assumption | omega) (by first | rfl | assumption | (simp [memB_cons,memB];done) | (simp [memB_cons,memB];omega)) ?_
     simp only [List.eraseIdx_cons_zero,List.eraseIdx_cons_succ,List.take_succ_cons,List.take_zero,List.cons_append,List.nil_append]
     rw [upd_id (hdl_at hr2 hhl)]
     refine j_matCongrS (fun g=>rl n (pvR prw i j (h + 1) g)) 0 rfl (fun g _ _=>by
      by_cases e : g = h
      ·subst e;rw [upd_self,pvR_next]
      ·rw [upd_ne e,pvR_ne prw i j h g e]) ?_
     refine j_toXT 8 [1,0,2,3,4,5,6,7] [0,2,4,18,19,20,21,22,23,24,25] (by exact fra rfl) rfl rfl rfl rfl (ih (h + 1,upd cs h (g9 0).2.2.2,cs5) (by dsimp only;omega) (by dsimp only;omega))
    ·obtain rfl : z2 = rt (prw h j):=Option.some.inj (hz1.symm.trans z9)
     have hz : prw h j = 0:=(sign0 _).1 (by first | assumption | exact Decidable.of_not_not (by assumption))
     refine j_nf [_,_,_,_] rfl ?_
     refine j_run it 2 rfl ⟨trivial,⟨by omega,by omega⟩,trivial⟩ ?_
     refine j_nfn 1 [.lp (pL 2036),.blk 2,.c (pL 255)] rfl ?_
     refine j_unfocusL 8 (h) 0 2 3 rfl rfl rfl rfl (by first | assumption | omega) (by first | rfl | assumption | (simp [memB_cons,memB];done) | (simp [memB_cons,memB];omega)) ?_
     simp only [List.eraseIdx_cons_zero,List.eraseIdx_cons_succ,List.take_succ_cons,List.take_zero,List.cons_append,List.nil_append]
     rw [upd_id (hdl_at hr2 hhl)]
     refine j_matCongrS (fun g=>rl n (pvR prw i j (h + 1) g)) 0 rfl (fun g _ _=>by
      by_cases e : g = h
      ·subst e;rw [upd_self,pvR_at,pvR_next,← pvR_next,← pvR_skip prw i j g g hz,pvR_at]
      ·rw [upd_ne e,pvR_ne prw i j h g e]) ?_
     rw [pvF_skip pfr prw i j h hz]
     refine j_to [0,7,8,9,10,11,12,13,14,15,16] (by exact fra rfl) rfl rfl (ih (h + 1,upd cs h er2,csf) (by dsimp only;omega) (by dsimp only;omega))
  ·obtain rfl : m = h:=by omega
   have z9:=rl_get (f:=pgl) hj
   refine j_nf [_,_,_,_,_] rfl ?_
   refine j_run it 1 rfl (by simp) ?_
   refine j_nf [_,_,_,_,_] rfl ?_
   refine j_if rfl rfl (fun h2=>by exfalso;omega) (fun h2=>?_)
   refine j_nf [_,_] rfl ?_
   refine j_run it 2 rfl (by simp) ?_
   refine j_step rfl (x_field rfl fd65_4 ?_)
   refine j_step rfl (x_bld 2 rfl rfl ld27 rfl ?_)
   refine j_run it 1 rfl (by simp) ?_
   refine j_step rfl (x_idx_own (j) _ rfl rfl sl27 rfl (by omega) rfl ?_)
   refine j_step rfl (x_ldR_vw vw_RatE 7 8 (j) rfl rfl rfl ld26 rfl (by omega) fun z2 hz1 g6=>?_)
   dsimp only [vw_RatE,List.cons_append,List.nil_append,List.map_cons,List.map_nil]
   refine j_step rfl (x_call [0,1] rfl (S_rational_Sign) rfl ?_)
   rintro _ _ _ ⟨rfl,rfl,rfl⟩
   simp only [List.cons_append,List.nil_append]
   refine j_run it 1 rfl (by simp) ?_
   refine j_nf [_] rfl ?_
   refine j_ifn rfl rfl (fun h3=>?_) (fun h3=>?_)
   ·obtain rfl : z2 = rt (pgl j):=Option.some.inj (hz1.symm.trans z9)
    have v2 : (rl m (pvF pfr prw i j m))[i]? = some (rt (pfr i * (prw i j)⁻¹)):=by rw [rl_get hi,pvF_i]
    have c_simplex_negative:=fun {r : Row}=>S_simplex_negativeH (r:=r) (n:=n) (K:=K) (f:=pgl) (by omega) hK (by omega) fun k hk=>hb.gl k hk
    refine j_nf [_,_] rfl ?_
    refine j_run it 2 rfl (by simp) ?_
    refine j_step rfl (x_field rfl fd65_4 ?_)
    refine j_step rfl (x_bld 2 rfl rfl ld27 rfl ?_)
    refine j_step rfl (x_callB 7 [10] rfl rfl (c_simplex_negative (r:=⟨some bgl,cgl,egl⟩)) rfl ?_)
    rintro _ _ _ ⟨r'1,rfl,rfl,rfl⟩
    simp only [List.cons_append,List.nil_append]
    refine j_run it 1 rfl (by simp) ?_
    refine j_nf [_,_] rfl ?_
    simp only [List.eraseIdx_cons_zero,List.eraseIdx_cons_succ]
    refine j_rowB 0 rfl (by omega) fun bmn cmn emn hr=>?_
    subst hr
    refine j_selT 9 [0,3,1,2,4,5,6,7,8] rfl rfl ?_
    simp only [List.cons_append,List.nil_append,List.drop_succ_cons,List.drop_zero]
    apply j_drawKB it mx 2 22
    ·rfl
    ·rfl
    ·rfl
    have c_simplex_replaced:=fun {r r2 : Row} {pn1 pd1 pn2 pd2 : Option Addr} {cn1 cd1 cn2 cd2 : Nat}=>S_simplex_replaced (r:=r) (r2:=r2) (n:=n) (j:=j) (K:=K + K) (f:=fun k=>-pgl k) (g:=pvG (prw i) j) (free:=pvv) (term:=pfr i * (prw i j)⁻¹) (pn1:=pn1) (pd1:=pd1) (pn2:=pn2) (pd2:=pd2) (cn1:=cn1) (cd1:=cd1) (cn2:=cn2) (cd2:=cd2) hj (by omega) (by omega) (by omega) (fun k hk=>bd_mono (bd_neg (hb.gl k hk)) (by omega)) (fun k hk=>pvG_bd hj hK (fun k hk=>hb.rw i k hi hk) hk) (bd_mono hb.vv (by omega)) (bd_mul (hb.fr i hi) y5 (by omega))
    have c_simplex_negative:=fun {r : Row}=>S_simplex_negativeH (r:=r) (n:=n) (K:=4 * K + 1) (f:=rpl (fun k=>-pgl k) (pvG (prw i) j) j) (by omega) (by omega) (by omega) fun k hk=>by
     refine bd_mono (bd_sub (j:=K) (k:=K + (K + K)) (?_ : bd K (if k = j then 0 else -pgl k)) (bd_mul (bd_neg (hb.gl j hj)) (pvG_bd hj hK (fun k hk=>hb.rw i k hi hk) hk) (by omega))) (by omega)
     split
     ·exact bd_zero hK
     ·exact bd_neg (hb.gl k hk)
    (apply lxk_run 4;(· rfl);(· simp))
    (apply lxk_eq;(· rfl);(· exact d_x fun _=>x_field rfl fd65_3 dk_eq))
    (apply lxk_eq;(· rfl);(· exact d_bld 2 rfl rfl ld39 rfl))
    (apply lxk_run 1;(· rfl);(· simp))
    (apply lxk_eq;(· rfl);(· exact d_x fun _=>x_idx_own (i) (i) rfl rfl sl39 rfl (by omega) (Nat.mul_one _) dk_eq))
    (apply lxk_eq;(· rfl);(· exact d_ldR_hd 6 11 (i) rfl rfl rfl ld27 rfl (by assumption)))
    dsimp only
    (apply lxk_run 3;(· rfl);(· simp))
    (apply lxk_eq;(· rfl);(· exact d_x fun _=>x_field rfl fd65_5 dk_eq))
    (apply lxk_eq;(· rfl);(· exact d_bld_agg 2 rfl rfl ld26 rfl rfl))
    (apply lxk_run 2;(· rfl);(· simp))
    (apply lxk_eq;(· rfl);(· exact d_x fun _=>x_field rfl fd65_2 dk_eq))
    (apply lxk_eq;(· rfl);(· exact d_bld 2 rfl rfl ld27 rfl))
    (apply lxk_run 1;(· rfl);(· simp))
    (apply lxk_eq;(· rfl);(· exact d_x fun _=>x_idx_own (i) _ rfl rfl sl27 rfl (by omega) rfl dk_eq))
    (apply lxk_vw vw_RatE;(· rfl);(· exact d_ldR_vw vw_RatE 5 5 (i) rfl rfl rfl ld26 rfl (by assumption));intro g7)
    dsimp only [vw_RatE,List.cons_append,List.nil_append,List.map_cons,List.map_nil]
    (apply lxk_callH (val:=(fun g=>Value.agg #[Value.bool (rt (pvv - -pgl j * (pfr i * (prw i j)⁻¹))).fst,Value.slice (g 1).fst (rt (pvv - -pgl j * (pfr i * (prw i j)⁻¹))).snd.fst.length (g 2).snd.fst,Value.slice (g 3).fst (rt (pvv - -pgl j * (pfr i * (prw i j)⁻¹))).snd.snd.length (g 4).snd.fst])) (bl:=(fun g=>[(some bmn,26,(g 0).snd.snd.snd),(some br,26,cs4)])) (fa:=(fun g=>[rowF RatE { bo:=some bmn,cap:=cmn,cs:=(g 0).snd.snd.snd } n (rl n (rpl (fun k=>-pgl k) (pvG (prw i) j) j)),rowF RatE { bo:=some br,cap:=cr,cs:=cs4 } n (rl n (pvG (prw i) j)),slF U32 (g 1).fst (rt (pvv - -pgl j * (pfr i * (prw i j)⁻¹))).snd.fst.length (g 2).snd.fst (rt (pvv - -pgl j * (pfr i * (prw i j)⁻¹))).snd.fst,slF U32 (g 3).fst (rt (pvv - -pgl j * (pfr i * (prw i j)⁻¹))).snd.snd.length (g 4).snd.fst (rt (pvv - -pgl j * (pfr i * (prw i j)⁻¹))).snd.snd])) [2,8,15,16,0,1];(· rfl);(· rfl);(· exact c_simplex_replaced (r:=⟨some bmn,cmn,emn⟩) (r2:=⟨some br,cr,cs4⟩));(· rfl);(· rintro _ _ _ ⟨cs'g0,png1,cng2,pdg3,cdg4,rfl,rfl,rfl⟩;exact ⟨(fun | 0=>(none,0,0,cs'g0) | 1=>(png1,0,0,[]) | 2=>(none,cng2,0,[]) | 3=>(pdg3,0,0,[]) | 4=>(none,cdg4,0,[]) | _=>default),rfl,rfl,rfl,fun _ hg=>hg⟩);intro g8;dsimp only [List.map_cons,List.map_nil,List.cons_append,List.nil_append])
    refine lxk_end rfl ?_
    simp only [List.map_cons,List.map_nil,List.cons_append,List.nil_append]
    refine j_run it 1 rfl (by simp) ?_
    refine j_step rfl (x_field rfl fd65_5 ?_)
    refine j_step rfl (x_bst (vs:=[Value.bool (rt (pvv - -pgl j * (pfr i * (prw i j)⁻¹))).fst,Value.slice (g8 1).fst (rt (pvv - -pgl j * (pfr i * (prw i j)⁻¹))).snd.fst.length (g8 2).snd.fst,Value.slice (g8 3).fst (rt (pvv - -pgl j * (pfr i * (prw i j)⁻¹))).snd.snd.length (g8 4).snd.fst]) 4 rfl rfl rfl rfl ld26 (by simp [Value.oneCell']) (Nat.le_of_ble_eq_true rfl) rfl ?_)
    refine j_nf [_] rfl ?_
    refine j_run it 2 rfl (by simp) ?_
    refine j_step rfl (x_callB 0 [0] rfl rfl (c_simplex_negative (r:=⟨some bmn,cmn,(g8 0).snd.snd.2⟩)) rfl ?_)
    rintro _ _ _ ⟨r'1,rfl,rfl,rfl⟩
    simp only [List.cons_append,List.nil_append]
    refine j_run it 1 rfl (by simp) ?_
    refine j_step rfl (x_field rfl fd65_4 ?_)
    refine j_step rfl (x_bst1 5 rfl rfl rfl rfl ld27 rfl (Nat.le_of_ble_eq_true rfl) ?_)
    refine j_nf [] rfl ?_
    refine j_selT 10 [2,5,6,7,8,9,0] rfl rfl ?_
    refine j_unfocusL 6 (i) 0 3 12 rfl rfl rfl rfl (by first | assumption | omega) (by first | rfl | assumption | (simp [memB_cons,memB];done) | (simp [memB_cons,memB];omega)) ?_
    simp only [List.eraseIdx_cons_zero,List.eraseIdx_cons_succ,List.take_succ_cons,List.take_zero,List.cons_append,List.nil_append]
    rw [upd_id (hdl_at hr1 hi)]
    refine j_matCongr (fun g=>rl n ((piv ⟨m,n,pbs,pos,pfr,prw,pgl,pvv⟩ i j).rw g)) 0 rfl (fun g hg=>pivM (p:=⟨m,n,pbs,pos,pfr,prw,pgl,pvv⟩) hg) ?_
    rw [pivFr (p:=⟨m,n,pbs,pos,pfr,prw,pgl,pvv⟩),pivGl (p:=⟨m,n,pbs,pos,pfr,prw,pgl,pvv⟩),show pvv - -pgl j * (pfr i * (prw i j)⁻¹) = (piv ⟨m,n,pbs,pos,pfr,prw,pgl,pvv⟩ i j).vv by show _ = pvv + pgl j * (pfr i * (prw i j)⁻¹);grind]
    refine j_gives_end [18,17,15,21,2,0,6,7] rfl rfl ⟨⟨⟨some bbs,cbs,cs1⟩,⟨some bos,cos,cs2⟩,⟨some bfr,cfr,csf⟩,⟨some brw,crw,erw⟩,r'1,hd,upd cs i cs4,(g8 1).1,(g8 2).2.1,(g8 3).1,(g8 4).2.1⟩,rfl,rfl,rfl,rfl,rfl⟩
   ·obtain rfl : z2 = rt (pgl j):=Option.some.inj (hz1.symm.trans z9)
    have hz : pgl j = 0:=(sign0 _).1 (by first | assumption | exact Decidable.of_not_not (by assumption))
    refine j_nf [] rfl ?_
    refine j_unfocusL 7 (i) 1 4 2 rfl rfl rfl rfl (by first | assumption | omega) (by first | rfl | assumption | (simp [memB_cons,memB];done) | (simp [memB_cons,memB];omega)) ?_
    simp only [List.eraseIdx_cons_zero,List.eraseIdx_cons_succ,List.take_succ_cons,List.take_zero,List.cons_append,List.nil_append]
    rw [upd_id (hdl_at hr1 hi)]
    refine j_matCongr (fun g=>rl n ((piv ⟨m,n,pbs,pos,pfr,prw,pgl,pvv⟩ i j).rw g)) 0 rfl (fun g hg=>pivM (p:=⟨m,n,pbs,pos,pfr,prw,pgl,pvv⟩) hg) ?_
    have e3 : (piv ⟨m,n,pbs,pos,pfr,prw,pgl,pvv⟩ i j).vv = pvv:=by show pvv + pgl j * (pfr i * (prw i j)⁻¹) = pvv;rw [hz];grind
    rw [pivFr (p:=⟨m,n,pbs,pos,pfr,prw,pgl,pvv⟩),pivGl0 (p:=⟨m,n,pbs,pos,pfr,prw,pgl,pvv⟩) (i:=i) (j:=j) hz]
    refine j_selT 7 [1,2,3,4,5,6] rfl rfl ?_
    refine j_gives_end [8,7,5,11,12,0,13,14] rfl rfl ⟨⟨⟨some bbs,cbs,cs1⟩,⟨some bos,cos,cs2⟩,⟨some bfr,cfr,csf⟩,⟨some brw,crw,erw⟩,⟨some bgl,cgl,egl⟩,hd,upd cs i cs4,pn,cn,pd,cd⟩,rfl,?_,?_,rfl,rfl⟩
    ·simp only [dicF,e3];rfl
    ·simp only [dicB,dicC,e3];rfl
def vals (p : PD) (n0 : Nat) : Nat → Nat → Rat
 | 0=>fun _=>0
 | k + 1=>if p.bs k < n0 then upd (vals p n0 k) (p.bs k) (p.fr k) else vals p n0 k
theorem vals_in {p : PD} {n0 k : Nat} (h : p.bs k < n0) : vals p n0 (k + 1) = upd (vals p n0 k) (p.bs k) (p.fr k):=by rw [vals,if_pos h]
theorem vals_out {p : PD} {n0 k : Nat} (h : ¬ p.bs k < n0) : vals p n0 (k + 1) = vals p n0 k:=by rw [vals,if_neg h]
abbrev RowQ (b : Nat) (x : DX) (p : PD) (left : Int) (n0 : Nat) (f : Nat → Rat) : Value → List Fact → List Blk → Prop:=fun v Φ β=>∃ (pa : Option Addr) (ca : Nat),v = .slice pa n0 ca ∧ Φ = slF RatE pa n0 ca (rl n0 f)::dicF x p ∧ β = dicB b x p left
theorem S_simplex_dictionary__values {b : Nat} {x : DX} {p : PD} {left : Int} {n0 K : Nat} (hn0 : n0 ≤ 100) (hm : p.m ≤ 100) (hK : 1 ≤ K) (hK2 : K ≤ 1000000) (hfr : ∀ h,h < p.m → bd K (p.fr h)) (hbs : ∀ h,h < p.m → p.bs h ≤ 1000000) :
  Ctr Tryz.prog 39 [.pointer (some ⟨b,0,none⟩),.int .i64 n0] (dicB b x p left) (dicF x p) (RowQ b x p left n0 (vals p n0 p.m)):=by
 refine Ctr_of_j' (F:=F_simplex_dictionary__values) rfl fun C=>?_
 obtain ⟨bs,os,fr,rw',gl,hd,cs,pn,cn,pd,cd⟩:=x
 obtain ⟨m,n,pbs,pos,pfr,prw,pgl,pvv⟩:=p
 simp only [dicB,dicF,dicC] at *
 refine j_nf [_,_] rfl (j_run it 1 rfl (by simp) ?_)
 refine j_nf [_,_] rfl (j_run it 1 rfl (by simp) ?_)
 refine j_step rfl (x_makeR RatE default (n0) _ rfl rfl sl27 zo27e rfl rfl by27e (by omega) (by omega) (by omega) rz26 fun b1 cs1=>?_)
 refine j_run it 1 rfl (by simp) ?_
 refine j_nf [_,_,_] rfl (j_run it 1 rfl (by simp) ?_)
 refine j_step rfl (x_len sl27 rfl ?_)
 refine j_run it 1 rfl (by simp) ?_
 refine j_nf [_,_,_] rfl ?_
 rw [← mapTo_zero (fun _=>rt 0)]
 refine j_loopG (X:=Nat × List Value) [0,1,4,5,12] [1,2,3,4,5,6,7,8] (fun x=>[(13,.int .i64 (x.1 : Int))])
  (fun x=>(some b1,26,x.2)::(some b,65,[.slice (ad bs.bo) m bs.cap,.slice (ad os.bo) n os.cap,.slice (ad fr.bo) m fr.cap,.slice (ad rw'.bo) m rw'.cap,.slice (ad gl.bo) n gl.cap,.bool (rt pvv).1,.slice pn (rt pvv).2.1.length cn,.slice pd (rt pvv).2.2.length cd,.int .i64 left])::(bs.bo,3,bs.cs)::(os.bo,3,os.cs)::(fr.bo,26,fr.cs)::(rw'.bo,27,rw'.cs)::(gl.bo,26,gl.cs)::famB 26 hd cs m [])
  (fun x=>[rowF RatE ⟨some b1,n0,x.2⟩ n0 (mapTo (fun _=>rt 0) default n0 x.1)])
  (fun x=>x.1 ≤ n0) (fun x=>n0 - x.1) (0,cs1) [0] rfl rfl rfl (Nat.zero_le _) (by repeat (first | exact Fr.sub_nil _ | refine Fr.sub_cons rfl ?_)) rfl rfl ?_
 rintro ⟨k,cs2⟩ hk ih
 simp only [List.cons_append,List.nil_append] at hk ih ⊢
 by_cases hkl : k < n0
 ·refine j_nf [_,_,_,_,_] rfl (j_run it 1 rfl (by simp) ?_)
  refine j_nf [_,_,_,_,_] rfl (j_if rfl rfl (fun h1=>?_) (fun h1=>by exfalso;omega))
  refine j_nf [_,_,_,_,_,_,_] rfl (j_run it 2 rfl (by simp) ?_)
  refine j_nf [_,_,_,_,_,_] rfl (j_run it 2 rfl (by simp) ?_)
  refine j_step rfl (x_call [] rfl (S_simplex_zero) rfl ?_)
  rintro _ _ _ ⟨pn1,cn1,pd1,cd1,rfl,rfl,rfl⟩
  simp only [List.cons_append,List.nil_append]
  refine j_step rfl (x_idx_own (k) _ rfl rfl sl27 rfl (by omega) rfl ?_)
  refine j_step rfl (x_stR (vs:=[Value.bool (rt 0).fst,Value.slice pn1 (rt 0).snd.fst.length cn1,Value.slice pd1 (rt 0).snd.snd.length cd1]) (z:=((rt 0).fst,((rt 0).snd.fst,(rt 0).snd.snd))) 0 2 (k) rfl rfl rfl rfl rfl ld26 rfl (by omega) (fun w A hG=>(rd_pair (v1:=[Value.bool (rt 0).fst]) (rd_bool _) (rd_pair (v1:=[Value.slice pn1 (rt 0).snd.fst.length cn1]) (rd_of_slF (hG _ (fact_mem (n:=0) rfl))) (rd_of_slF (hG _ (fact_mem (n:=1) rfl)))))) fun cs3=>?_)
  refine j_nf [_,_,_,_] rfl (j_run it 2 rfl ⟨trivial,⟨by omega,by omega⟩,trivial⟩ ?_)
  refine j_nfn 1 [.lp (pL 116),.blk 0,.c [1,1,1]] rfl ?_
  rw [show ((rt 0).1,(rt 0).2.1,(rt 0).2.2) = (fun _=>rt 0) k from rfl,mapTo_set (fun _=>rt 0)]
  refine j_to [0,4,5,6,7,8,9,10,11] (by exact fra rfl) rfl rfl (ih (k + 1,cs3) (by dsimp only;omega) (by dsimp only;omega))
 ·obtain rfl : n0 = k:=by omega
  refine j_nf [_,_,_,_,_] rfl (j_run it 1 rfl (by simp) ?_)
  refine j_nf [_,_,_,_,_] rfl (j_if rfl rfl (fun h1=>by exfalso;omega) (fun h1=>?_))
  refine j_nf [_,_,_] rfl (j_run it 2 rfl (by simp) ?_)
  refine j_step rfl (x_field rfl fd65_0 ?_)
  refine j_step rfl (x_bld 1 rfl rfl ld63 rfl ?_)
  refine j_step rfl (x_len sl63 rfl ?_)
  refine j_run it 1 rfl (by simp) ?_
  refine j_nf [_,_,_] rfl ?_
  rw [mapTo_all,show (List.range n0).map (fun _=>rt 0) = rl n0 (vals ⟨m,n,pbs,pos,pfr,prw,pgl,pvv⟩ n0 0) from rfl]
  refine j_loopG (X:=Nat × List Value) [0,1,4,5,24,25] [1,2,3,4,5,6,7,8] (fun x=>[(26,.int .i64 (x.1 : Int))])
   (fun x=>(some b1,26,x.2)::(some b,65,[.slice (ad bs.bo) m bs.cap,.slice (ad os.bo) n os.cap,.slice (ad fr.bo) m fr.cap,.slice (ad rw'.bo) m rw'.cap,.slice (ad gl.bo) n gl.cap,.bool (rt pvv).1,.slice pn (rt pvv).2.1.length cn,.slice pd (rt pvv).2.2.length cd,.int .i64 left])::(bs.bo,3,bs.cs)::(os.bo,3,os.cs)::(fr.bo,26,fr.cs)::(rw'.bo,27,rw'.cs)::(gl.bo,26,gl.cs)::famB 26 hd cs m [])
   (fun x=>[rowF RatE ⟨some b1,n0,x.2⟩ n0 (rl n0 (vals ⟨m,n,pbs,pos,pfr,prw,pgl,pvv⟩ n0 x.1))])
   (fun x=>x.1 ≤ m) (fun x=>m - x.1) (0,cs2) [0] rfl rfl rfl (Nat.zero_le _) (by repeat (first | exact Fr.sub_nil _ | refine Fr.sub_cons rfl ?_)) rfl rfl ?_
  rintro ⟨k,cs3⟩ hk ih
  simp only [List.cons_append,List.nil_append] at hk ih ⊢
  by_cases hkl : k < m
  ·refine j_rowB 3 rfl (by omega) fun bfr cfr efr h=>?_
   subst h
   refine j_rowB 1 rfl (by omega) fun bbs cbs ebs h=>?_
   subst h
   have z3:=rl_get (f:=pfr) hkl
   have w1:=il_get (f:=pbs) hkl
   have w4:=hbs k hkl
   obtain ⟨y3,y4⟩:=bd_len (hfr k hkl)
   by_cases hv : pbs k < n0
   ·refine j_nf [_,_,_,_,_] rfl (j_run it 1 rfl (by simp) ?_)
    refine j_nf [_,_,_,_,_] rfl (j_if rfl rfl (fun h2=>?_) (fun h2=>by exfalso;omega))
    refine j_nf [_,_,_,_,_,_,_] rfl (j_run it 1 rfl (by simp) ?_)
    refine j_step rfl (x_idx_own (k) (k) rfl rfl sl63 rfl (by omega) (Nat.mul_one _) ?_)
    refine j_step rfl (x_ldR_int 2 1 (k) rfl rfl rfl ld3 rfl (by assumption) fun hr1=>?_)
    refine j_run it 2 rfl (by simp) ?_
    refine j_nf [_,_,_,_,_,_,_] rfl (j_run it 3 rfl (by simp) ?_)
    refine j_nf [_,_,_,_,_,_] rfl (j_if rfl rfl (fun h3=>?_) (fun h3=>by exfalso;omega))
    refine j_nf [_,_,_,_,_,_] rfl (j_run it 4 rfl (by simp) ?_)
    refine j_step rfl (x_field rfl fd65_2 ?_)
    refine j_step rfl (x_bld 1 rfl rfl ld27 rfl ?_)
    refine j_run it 1 rfl (by simp) ?_
    refine j_step rfl (x_idx_own (k) _ rfl rfl sl27 rfl (by omega) rfl ?_)
    refine j_step rfl (x_ldR_vw vw_RatE 4 3 (k) rfl rfl rfl ld26 rfl (by omega) fun z1 hz1 g1=>?_)
    dsimp only [vw_RatE,List.cons_append,List.nil_append,List.map_cons,List.map_nil] --ok
    obtain rfl : z1 = rt (pfr k):=Option.some.inj (hz1.symm.trans z3)
    refine j_step rfl (x_call [0,1] rfl (S_rational_Trim (by omega) (by omega)) rfl ?_)
    rintro _ _ _ ⟨pn1,cn1,pd1,cd1,rfl,rfl,rfl⟩
    simp only [List.cons_append,List.nil_append]
    simp only [vq_rt']
    refine j_step rfl (x_idx_own (pbs k) _ rfl rfl sl27 rfl (by omega) rfl ?_)
    refine j_step rfl (x_stR (vs:=[Value.bool (rt (pfr k)).fst,Value.slice pn1 (rt (pfr k)).snd.fst.length cn1,Value.slice pd1 (rt (pfr k)).snd.snd.length cd1]) (z:=((rt (pfr k)).fst,((rt (pfr k)).snd.fst,(rt (pfr k)).snd.snd))) 0 4 (pbs k) rfl rfl rfl rfl rfl ld26 rfl (by omega) (fun w A hG=>(rd_pair (v1:=[Value.bool (rt (pfr k)).fst]) (rd_bool _) (rd_pair (v1:=[Value.slice pn1 (rt (pfr k)).snd.fst.length cn1]) (rd_of_slF (hG _ (fact_mem (n:=0) rfl))) (rd_of_slF (hG _ (fact_mem (n:=1) rfl)))))) fun cs4=>?_)
    refine j_nf [_,_,_,_] rfl (j_run it 2 rfl ⟨trivial,⟨by omega,by omega⟩,trivial⟩ ?_)
    refine j_nfn 1 [.lp (pL 244),.blk 2,.c [1,1,1,1]] rfl ?_
    rw [show ((rt (pfr k)).1,(rt (pfr k)).2.1,(rt (pfr k)).2.2) = rt (pfr k) from rfl,rl_set,← vals_in (p:=⟨m,n,pbs,pos,pfr,prw,pgl,pvv⟩) hv]
    refine j_to [0,6,7,8,9,10,11,12,13] (by exact fra rfl) rfl rfl (ih (k + 1,cs4) (by dsimp only;omega) (by dsimp only;omega))
   ·refine j_nf [_,_,_,_,_] rfl (j_run it 1 rfl (by simp) ?_)
    refine j_nf [_,_,_,_,_] rfl (j_if rfl rfl (fun h2=>?_) (fun h2=>by exfalso;omega))
    refine j_nf [_,_,_,_,_,_,_] rfl (j_run it 1 rfl (by simp) ?_)
    refine j_step rfl (x_idx_own (k) (k) rfl rfl sl63 rfl (by omega) (Nat.mul_one _) ?_)
    refine j_step rfl (x_ldR_int 2 1 (k) rfl rfl rfl ld3 rfl (by assumption) fun hr1=>?_)
    refine j_run it 2 rfl (by simp) ?_
    refine j_nf [_,_,_,_,_,_,_] rfl (j_run it 3 rfl (by simp) ?_)
    refine j_nf [_,_,_,_,_,_] rfl (j_if rfl rfl (fun h3=>by exfalso;omega) (fun h3=>?_))
    refine j_nf [_,_,_,_] rfl (j_run it 2 rfl ⟨trivial,⟨by omega,by omega⟩,trivial⟩ ?_)
    refine j_nfn 1 [.lp (pL 244),.blk 2,.c [1,1,1,1]] rfl ?_
    rw [← vals_out (p:=⟨m,n,pbs,pos,pfr,prw,pgl,pvv⟩) hv]
    refine j_to [0,1,2,3,4,5,6,7,8] (by exact fra rfl) rfl rfl (ih (k + 1,cs3) (by dsimp only;omega) (by dsimp only;omega))
  ·obtain rfl : m = k:=by omega
   refine j_nf [_,_,_,_,_] rfl (j_run it 1 rfl (by simp) ?_)
   refine j_nf [_,_,_,_,_] rfl (j_if rfl rfl (fun h2=>by exfalso;omega) (fun h2=>?_))
   refine j_nf [_,_] rfl (j_run it 2 rfl (by simp) ?_)
   refine j_nf [_] rfl ?_
   refine j_pubR 0 0 rfl rfl (by show n0 * 56 ≤ 140737488355328;omega) ?_
   refine j_givK 6 [0,1,2,3,4,5] [0,2,3,4,5,6,7,8,9] rfl (.tmp rfl .nil) rfl rfl rfl ⟨_,_,rfl,rfl,rfl⟩
theorem S_rational_Add {pa : Option Addr} {n ca K : Nat} {ls : List Rt} (hK : 1 ≤ K) (hL : ∀ r ∈ ls,r.2.1.length ≤ K ∧ r.2.2.length ≤ K) (hn : (K + 1) * ls.length ≤ 33554432) :
  Ctr Tryz.prog 62 [.slice pa n ca] [] [slF RatE pa n ca ls] (RtV (rt (sumQ ls))):=by
 refine Ctr_of_j' (F:=F_rational_Add) rfl fun C=>?_
 refine j_len 0 rfl fun e1 hb _=>?_
 subst e1
 have hb' : ls.length * 56 ≤ 140737488355328:=hb
 refine rts_range 0 rfl fun hr=>?_
 have hok : ∀ r ∈ ls,okR K r:=fun r h=>⟨(hr r h).1,(hr r h).2,(hL r h).1,(hL r h).2⟩
 refine j_add (slF U32 none 0 0 []) (fun w A _=>slF_nil _ _ _ _ _) ?_
 refine j_nf [_,_] rfl ?_
 refine j_step rfl (x_alloc zo26 fun b1=>?_)
 refine j_nf [_,_] rfl ?_
 refine j_step rfl (x_call [] rfl (S_rational_one) rfl ?_)
 rintro _ _ _ ⟨pa1,ca1,rfl,rfl,rfl⟩
 simp only [List.cons_append,List.nil_append]
 refine j_step rfl (x_build (cs:=[Value.bool false,Value.slice none 0 0,Value.slice pa1 [1].length ca1]) st26 zo26 rfl rfl ?_)
 refine j_step rfl (x_alloc zo26 fun b2=>?_)
 refine j_step rfl (x_bst_all 0 rfl rfl rfl ld26 rfl rfl (by simp [Value.oneCell']) ?_)
 refine j_nf [_,_,_] rfl ?_
 refine j_run it 1 rfl (by simp) ?_
 refine j_step rfl (x_len sl27 rfl ?_)
 refine j_run it 1 rfl (by simp) ?_
 refine j_nf [_,_,_] rfl ?_
 simp only [setB]
 refine j_loopG (X:=Nat × Rat × (Option Addr × Nat) × (Option Addr × Nat)) [2,3,8,9] [2] (fun x=>[(10,.int .i64 (x.1 : Int))])
  (fun x=>[(some b2,26,[.bool (rt x.2.1).1,.slice x.2.2.1.1 (rt x.2.1).2.1.length x.2.2.1.2,.slice x.2.2.2.1 (rt x.2.1).2.2.length x.2.2.2.2]),(some b1,26,[.bool false,.slice none 0 0,.slice none 0 0])]) (fun x=>[slF U32 x.2.2.1.1 (rt x.2.1).2.1.length x.2.2.1.2 (rt x.2.1).2.1,slF U32 x.2.2.2.1 (rt x.2.1).2.2.length x.2.2.2.2 (rt x.2.1).2.2])
  (fun x=>x.1 ≤ ls.length ∧ x.2.1 = sumQ (ls.take x.1) ∧ bd ((K + 1) * x.1 + 1) x.2.1) (fun x=>ls.length - x.1) (0,0,(none,0),(pa1,ca1)) [1,0] rfl rfl rfl ⟨Nat.zero_le _,by simp [sumQ],bd_zero (by omega)⟩ (by repeat (first | exact Fr.sub_nil _ | refine Fr.sub_cons rfl ?_)) (by rw [rt_zero];rfl) (by rw [rt_zero];rfl) ?_
 rintro ⟨k,q,⟨pn,cn⟩,⟨pd,cd⟩⟩ ⟨hk,hq,hbq⟩ ih
 simp only [List.cons_append,List.nil_append] at hk hq hbq ih ⊢
 by_cases hkl : k < ls.length
 ·have hKk : (K + 1) * k + (K + 1) ≤ (K + 1) * ls.length:=by rw [← Nat.mul_succ];exact Nat.mul_le_mul_left _ hkl
  obtain ⟨z,hz⟩ : ∃ z,ls[k]? = some z:=⟨_,List.getElem?_eq_getElem hkl⟩
  have hm:=List.mem_of_getElem? hz
  obtain ⟨zg,zN,zD⟩:=z
  obtain ⟨y1,y2,y3,y4⟩:=hok _ hm
  obtain ⟨w1,w2⟩:=rt_len (g:=zg) (N:=zN) (D:=zD) y1 y2 y3 y4 hK
  obtain ⟨w3,w4⟩:=bd_len hbq
  dsimp only at y3 y4 ⊢
  refine j_nf [_,_,_,_,_] rfl ?_
  refine j_run it 1 rfl (by simp) ?_
  refine j_nf [_,_,_,_,_] rfl ?_
  refine j_if rfl rfl (fun h1=>?_) (fun h1=>by exfalso;omega)
  refine j_nf [_,_,_,_,_,_,_] rfl ?_
  refine j_step rfl (x_idx 2 (k) rfl rfl rfl sl27 rfl (by omega) fun z1 hz1 b3 o1=>?_)
  refine j_step rfl (x_ld_rt 0 rfl rfl ld26 fun pa2 ca2 pa3 ca3=>?_)
  refine j_step rfl (x_alloc zo26 fun b4=>?_)
  obtain rfl : z1 = (zg,zN,zD):=Option.some.inj (hz1.symm.trans hz)
  have hst : bd ((K + 1) * (k + 1) + 1) (q + vq (zg,zN,zD)):=by
   have h1:=bd_add hbq (bd_vq (r:=(zg,zN,zD)) y1 y2 y3 y4 hK)
   have e : (K + 1) * (k + 1) = (K + 1) * k + (K + 1):=Nat.mul_succ _ _
   exact bd_mono h1 (by omega)
  refine j_step rfl (x_bst_all 0 rfl rfl rfl ld26 rfl rfl (by simp [Value.oneCell']) ?_)
  refine j_nf [_,_,_,_,_,_] rfl ?_
  (apply j_drawK it mx 4;(· rfl);(· rfl))
  (apply lxk_eq;(· rfl);(· exact d_bld_all 1 rfl rfl ld26 rfl))
  (apply lxk_eq;(· rfl);(· exact d_bld_all 0 rfl rfl ld26 rfl))
  (apply lxk_rq;(· rfl);(· exact d_x fun _=>x_call [0,1] rfl (S_rational_Trim (by simp;omega) (by simp;omega)) rfl (by rintro _ _ _ ⟨pn1,cn1,pd1,cd1,rfl,rfl,rfl⟩;exact (dk_rq 0 1 rfl rfl)));intro pn1 cn1 pd1 cd1)
  simp only [vq_rt']
  (apply lxk_rq;(· rfl);(· exact d_x fun _=>x_call [5,6,0,1] rfl (S_rational_plus (by rfl) (by rfl) (by omega) (by omega) (by omega) (by omega)) rfl (by rintro _ _ _ ⟨pn2,cn2,pd2,cd2,rfl,rfl,rfl⟩;exact (dk_rq 0 1 rfl rfl)));intro pn2 cn2 pd2 cd2)
  simp only [vq_rt']
  refine lxk_end rfl ?_
  simp only [List.map_cons,List.map_nil,List.cons_append,List.nil_append]
  refine j_step rfl (x_bst_all 1 rfl rfl rfl ld26 rfl rfl (by simp [Value.oneCell']) ?_)
  refine j_nf [_,_,_,_] rfl ?_
  refine j_run it 2 rfl ⟨trivial,⟨by omega,by omega⟩,trivial⟩ ?_
  refine j_nfn 1 [.lp (pL 116),.blk 0,.c [1,1,1]] rfl ?_
  refine j_toM [false,true,true] [0,1,9] (by exact fra rfl) rfl rfl (ih (k + 1,q + vq (zg,zN,zD),(pn2,cn2),(pd2,cd2)) (by simp only;omega) ⟨by simp only;omega,by simp only;rw [sumQ_take hz,hq],hst⟩)
 ·have ek : k = ls.length:=by omega
  subst ek
  rw [List.take_length] at hq
  subst hq
  refine j_nf [_,_,_,_,_] rfl ?_
  refine j_run it 1 rfl (by simp) ?_
  refine j_nf [_,_,_,_,_] rfl ?_
  refine j_if rfl rfl (fun h1=>by exfalso;omega) (fun h1=>?_)
  refine j_nf [_,_] rfl ?_
  refine j_step rfl (x_bld_all 0 rfl rfl ld26 rfl ?_)
  refine j_step rfl (x_bst_all 1 rfl rfl rfl ld26 rfl rfl (by simp [Value.oneCell']) ?_)
  refine j_nf [_] rfl ?_
  simp only [setB]
  refine j_givC [0,1] rfl (.agg 1 rfl rfl ld26 rfl .nil) rfl ⟨_,_,_,_,rfl,rfl,rfl⟩
end Go.Proofs.YthahejfpdhcpiaaGreat
