/-
Elimination in the document. Canonical rows, null spaces, combinations and columns in the document. The document's tests of spaces and codes, of sets and pairs. Columns and ranks in the document, what is enough, and the least witness. What is enough by ranks and by witnesses; the walk of RepairSuffices. Words of messages in the document; the walk of RepairDetermines.
-/
import Derived.Test.YtlecjbjgbcdilaaRB6
set_option linter.unusedVariables false
set_option linter.unusedSimpArgs false
namespace Go.Proofs.Ytlecjbjgbcdilaa
open Go Go.Fw
set_option maxRecDepth 100000
set_option linter.unusedVariables false
set_option linter.unusedSimpArgs false
set_option maxHeartbeats 8000000
abbrev ElR (n : Nat) (E : List (List Int) × List Nat) : Value → List Fact → List Blk → Prop:=fun v Φ β=>∃ (pb pp : Option Addr) (cb cp : Nat),v = .tuple #[.slice pb n cb,.slice pp E.2.length cp]
 ∧ Φ = [slF (encSl I64) pb n cb E.1,slF I64 pp E.2.length cp (toI E.2)] ∧ β = []
theorem S_codewrightref09_Eliminate {p m n N W nm cm c : Nat} {pm ps : Option Addr} {rows : List (List Int)} {md : List Int} (K : Fok p m md) (hn : n ≤ 1000000) (hNW : N ≤ W) (hW : W ≤ 1000000) (hl : rows.length = n) (hM : Mat (p ^ m) W rows) :
  Ctr Try.prog 49 [.agg #[.int .i64 p,.int .i64 m,.slice pm nm cm],.slice ps n c,.int .i64 N] [] [slF I64 pm nm cm md,slF (encSl I64) ps n c rows] (ElR n (elP p m md N 0 0 rows)):=by
 refine Ctr_of_j' (F:=F_codewrightref09_Eliminate) rfl fun C=>?_
 have O:=fok_fo K
 have hq:=K.q
 have q2:=O.q2
 subst hl
 generalize hEE : elP p m md N 0 0 rows = EE
 have c_codewrightref09_Copy:=fun {ps : Option Addr} {n c : Nat}=>S_codewrightref09_Copy (ps:=ps) (n:=n) (c:=c) (rows:=rows) fun r hr=>by rw [(hM r hr).1];exact hW
 have hb0 : rows.length * 24 ≤ 140737488355328:=by omega
 rcases Nat.eq_zero_or_pos rows.length with hn0 | hn0
 ·have hr0:=List.length_eq_zero_iff.1 hn0
  subst hr0
  rw [elP,elim_full _ _ _ _ (Nat.zero_le _)] at hEE
  subst hEE
  refine j_nf [_,_] rfl ?_
  refine j_step rfl (x_box_agg rfl fun b1=>?_)
  refine j_run it 2 rfl (by simp) ?_
  refine j_nf [_,_] rfl ?_
  refine j_run it 1 rfl (by simp) ?_
  refine j_step rfl (x_call [1] rfl (c_codewrightref09_Copy) rfl ?_)
  rintro _ _ _ ⟨r1,rfl,rfl,rfl⟩
  simp only [List.cons_append,List.nil_append]
  refine j_run it 1 rfl (by simp) ?_
  refine j_nf [_,_] rfl ?_
  refine j_run it 1 rfl (by simp) ?_
  refine j_nf [_,_] rfl ?_
  refine j_run it 1 rfl (by simp) ?_
  refine j_nf [_,_,_] rfl ?_
  refine j_run it 1 rfl (by simp) ?_
  refine j_nf [_,_,_] rfl ?_
  refine j_row0 I64 3 ?_
  refine j_loopG (X:=Unit) [2,3,6,7,8] [0,1,2,3] (fun _=>[(11,.int .i64 0),(10,.int .i64 0),(9,.slice none 0 0)]) (fun _=>_) (fun _=>[]) (fun _=>True) (fun _=>0) () [] rfl rfl rfl trivial (by repeat (first | exact Fr.sub_nil _ | refine Fr.sub_cons rfl ?_)) rfl rfl ?_
  rintro ⟨⟩ - ih
  simp only [List.cons_append,List.nil_append] at ih ⊢
  refine j_pubR 0 0 rfl rfl (by show 0 * 8 ≤ 140737488355328;omega) ?_
  refine j_pubR 0 2 rfl rfl (by show 0 * 24 ≤ 140737488355328;omega) ?_
  rcases Nat.eq_zero_or_pos N with hN0 | hN0
  ·subst hN0
   refine j_nf [_,_,_,_,_,_] rfl ?_
   refine j_run it 9 rfl (by simp) ?_
   refine j_nf [_,_,_,_,_] rfl ?_
   refine j_false rfl rfl ?_
   refine j_nf [_,_] rfl ?_
   refine j_run it 4 rfl (by simp) ?_
   refine j_nf [_] rfl ?_
   refine j_giv [0,1] rfl rfl rfl ⟨_,_,_,_,rfl,rfl,rfl⟩
  ·refine j_nf [_,_,_,_,_,_] rfl ?_
   refine j_run it 4 rfl (by simp) ?_
   refine j_split_dec (t:=19) rfl (fun h1=>?_) (fun h1=>by exfalso;omega)
   refine j_run it 2 rfl (by simp) ?_
   refine j_gstep rfl rfl (x_len sl25 rfl ?_)
   refine j_run it 2 rfl (by simp) ?_
   refine j_nf [_,_,_,_,_] rfl ?_
   refine j_if rfl rfl (fun h2=>by exfalso;omega) (fun h2=>?_)
   refine j_nf [_,_] rfl ?_
   refine j_run it 4 rfl (by simp) ?_
   refine j_nf [_] rfl ?_
   refine j_giv [0,1] rfl rfl rfl ⟨_,_,_,_,rfl,rfl,rfl⟩
 refine j_nf [_,_] rfl ?_
 refine j_step rfl (x_box_agg rfl fun b1=>?_)
 refine j_run it 2 rfl (by simp) ?_
 refine j_nf [_,_] rfl ?_
 refine j_run it 1 rfl (by simp) ?_
 refine j_step rfl (x_call [1] rfl (c_codewrightref09_Copy) rfl ?_)
 rintro _ _ _ ⟨r1,rfl,rfl,rfl⟩
 simp only [List.cons_append,List.nil_append]
 refine j_run it 1 rfl (by simp) ?_
 refine j_nf [_,_] rfl ?_
 refine j_run it 1 rfl (by simp) ?_
 refine j_nf [_,_] rfl ?_
 refine j_run it 1 rfl (by simp) ?_
 refine j_nf [_,_,_] rfl ?_
 refine j_run it 1 rfl (by simp) ?_
 refine j_nf [_,_,_] rfl ?_
 refine j_rowB 0 rfl hn0 fun bh caph csh hr=>?_
 subst hr
 dsimp only
 refine j_row0 I64 3 ?_
 refine j_loopG (X:=Nat × List Value × Row × List (List Int) × List Nat) [2,3,6,7,8] [2] (fun x=>[(11,.int .i64 (x.1 : Int)),(10,.int .i64 (x.2.2.2.2.length : Int)),(9,.slice (ad x.2.2.1.bo) x.2.2.2.2.length x.2.2.1.cap)])
  (fun x=>(x.2.2.1.bo,3,x.2.2.1.cs)::(some bh,22,x.2.1)::_)
  (fun x=>[rowF I64 x.2.2.1 x.2.2.2.2.length (toI x.2.2.2.2),rowF (encSl I64) ⟨some bh,caph,x.2.1⟩ rows.length x.2.2.2.1])
  (fun x=>x.1 ≤ N ∧ x.2.2.2.1.length = rows.length ∧ Mat (p ^ m) W x.2.2.2.1 ∧ x.2.2.2.2.length ≤ rows.length ∧ (elP p m md (N - x.1) x.1 x.2.2.2.2.length x.2.2.2.1).1 = EE.1 ∧ x.2.2.2.2++(elP p m md (N - x.1) x.1 x.2.2.2.2.length x.2.2.2.1).2 = EE.2) (fun x=>N - x.1)
  (0,csh,⟨none,0,[]⟩,rows,[]) [0,1] rfl rfl rfl ⟨Nat.zero_le _,rfl,hM,Nat.zero_le _,congrArg Prod.fst hEE,congrArg Prod.snd hEE⟩ (by repeat (first | exact Fr.sub_nil _ | refine Fr.sub_cons rfl ?_)) rfl rfl ?_
 clear hEE
 generalize hnn : rows.length = n at *
 rintro ⟨c,ch,rp,L,pv⟩ ⟨hcN,hL,hLM,hpv,hE1,hE2⟩ ih
 simp only [List.cons_append,List.nil_append] at hcN hL hLM hpv hE1 hE2 ih ⊢
 by_cases hcl : c < N
 ·by_cases hpl : pv.length < n
  ·have hrl : ∀ k,k < n → (row0 L k).length = W:=fun k hk=>(hLM.row (by omega)).1
   have hra : ∀ k,k < n → L[k]? = some (row0 L k):=fun k hk=>by rw [row0,List.getD_eq_getElem?_getD,List.getElem?_eq_getElem (by omega)];rfl
   have hre : ∀ k,k < n → (row0 L k)[c]? = some (en L k c):=fun k hk=>by
    rw [en,at0,List.getD_eq_getElem?_getD,List.getElem?_eq_getElem (by rw [hrl k hk];omega)];rfl
   have hen : ∀ k,k < n → 0 ≤ en L k c ∧ en L k c < ((p ^ m : Nat) : Int):=fun k hk=>wd_at (by omega) (hLM.row (by omega)) c
   refine j_nf [_,_,_,_,_,_] rfl ?_
   refine j_run it 4 rfl (by simp) ?_
   refine j_split_dec (t:=19) rfl (fun h1=>?_) (fun h1=>by exfalso;omega)
   refine j_run it 2 rfl (by simp) ?_
   refine j_gstep rfl rfl (x_len sl25 rfl ?_)
   refine j_run it 2 rfl (by simp) ?_
   refine j_nf [_,_,_,_,_] rfl ?_
   refine j_if rfl rfl (fun h2=>?_) (fun h2=>by exfalso;omega)
   refine j_nf [_,_,_,_,_,_,_] rfl ?_
   refine j_run it 2 rfl (by simp) ?_
   refine j_nf [_,_,_,_,_,_,_,_] rfl ?_
   refine j_loopG (X:=Nat) [2,3,6,7,8,9,10,11,16,17,18,19,20,21,22,23,24,27] [0,1,2] (fun k=>[(12,.int .i64 (k : Int))]) (fun _=>_) (fun _=>[]) (fun k=>pv.length ≤ k ∧ k ≤ n ∧ ∀ j,pv.length ≤ j → j < k → en L j c = 0) (fun k=>n - k) pv.length [] rfl rfl rfl ⟨Nat.le_refl _,hpv,fun j h1 h2=>by omega⟩ (by repeat (first | exact Fr.sub_nil _ | refine Fr.sub_cons rfl ?_)) rfl rfl ?_
   rintro k ⟨hk1,hk2,hk3⟩ ihk
   simp only [List.cons_append,List.nil_append] at hk1 hk2 hk3 ihk ⊢
   by_cases hkn : k < n
   ·have at_u:=hra k hkn
    have at_z:=hre k hkn
    have hru:=hrl k hkn
    by_cases hz0 : en L k c = 0
    ·rw [hz0] at at_z
     refine j_nf [_,_,_,_,_,_,_,_,_,_,_] rfl ?_
     refine j_run it 2 rfl (by simp) ?_
     refine j_step rfl (x_len sl25 rfl ?_)
     refine j_run it 2 rfl (by simp) ?_
     refine j_split_dec (t:=32) rfl (fun h3=>?_) (fun h3=>by exfalso;omega)
     refine j_run it 2 rfl (by simp) ?_
     refine j_gstep rfl rfl (x_idx_own (k) (k) rfl rfl sl25 rfl (by omega) (Nat.mul_one _) ?_)
     refine j_gstep rfl rfl (x_ldR_sl 1 1 (k) rfl rfl rfl ld22 rfl (by omega) fun z1 hz1 pa1 ca1=>?_)
     obtain rfl : _ = z1:=Option.some.inj (at_u.symm.trans hz1)
     refine j_run it 1 rfl (by simp) ?_
     refine j_gstep rfl rfl (x_idx 0 (c) rfl rfl rfl sl22 rfl (by omega) fun z1 hz2 b2 o1=>?_)
     obtain rfl : _ = z1:=Option.some.inj (at_z.symm.trans hz2)
     refine j_gstep rfl rfl (x_ld_int 0 rfl rfl ld3 fun ⟨r1,r2⟩=>?_)
     refine j_run it 2 rfl (by simp) ?_
     refine j_nf [_,_,_,_,_,_,_,_,_,_] rfl ?_
     refine j_if rfl rfl (fun h4=>?_) (fun h4=>by exfalso;omega)
     refine j_nf [_,_,_,_,_,_,_,_,_,_] rfl ?_
     refine j_run it 3 rfl ⟨trivial,⟨by omega,by omega⟩,trivial,trivial⟩ ?_
     refine j_nfn 2 [.lp (pL 64072),.blk 2,.c (pL 16019),.blk 1,.c (pL 2003),.lp (pL 500),.blk 0,.c [1,1,1,1,1]] rfl ?_
     refine j_to [2,3,4] (by exact fra rfl) rfl rfl (ihk (k + 1) (by omega) ⟨by omega,by omega,fun j h1 h2=>by
      rcases Nat.lt_succ_iff_lt_or_eq.1 h2 with h | rfl
      ·exact hk3 j h1 h
      ·exact hz0⟩)
    ·clear ihk
     have hrt:=hra pv.length hpl
     obtain ⟨e0,e1⟩:=hen k hkn
     obtain ⟨⟨v0,v1⟩,hiv⟩:=O.iv _ e0 e1 hz0
     have hSl : (swpL L pv.length k).length = n:=by rw [swpL,List.length_set,List.length_set,hL]
     have hSW : ∀ i,i < n → Wd (p ^ m) W (row0 (swpL L pv.length k) i):=fun i hi=>swp_wd hLM (by omega) (by omega) (by omega)
     have hSra : ∀ i,i < n → (swpL L pv.length k)[i]? = some (row0 (swpL L pv.length k) i):=fun i hi=>by rw [row0,List.getD_eq_getElem?_getD,List.getElem?_eq_getElem (by omega)];rfl
     have hSt : row0 (swpL L pv.length k) pv.length = row0 L k:=by
      rw [swp_row (by omega) (by omega)]
      split
      ·rename_i e;rw [← e]
      ·rw [if_pos rfl]
     have at_v:=hSra pv.length hpl
     rw [hSt,swpL] at at_v
     have hrk:=hrl k hkn
     have ek : (row0 L k).getD c default = en L k c:=gd_at at_z
     have key : ∀ ch' : List Value,J F_codewrightref09_Eliminate C [It.c (pL 128159),It.blk 1,It.c (pL 2003),It.lp (pL 500),It.blk 0,It.c [1,1,1,1,1]]
       [(2,.int .i64 N),(3,.pointer (some ⟨b1,0,none⟩)),(6,.slice none 0 0),(7,.slice none 0 0),(8,.slice (ad (some bh)) n caph),(9,.slice (ad rp.bo) pv.length rp.cap),(10,.int .i64 (pv.length : Int)),(11,.int .i64 (c : Int))]
       [(rp.bo,3,rp.cs),(some bh,22,ch'),(some b1,24,[.int .i64 p,.int .i64 m,.slice pm nm cm])]
       [rowF I64 rp pv.length (toI pv),rowF (encSl I64) ⟨some bh,caph,ch'⟩ n ((swpL L pv.length k).set pv.length (sclL (liftI (fM p (fpo m md))) (invI p m md (en L k c)) (row0 L k))),slF I64 pm nm cm md] (Gives C (ElR n EE)):=by
      intro ch'
      clear at_v at_u at_z hrt hrk ek
      have hprW : Wd (p ^ m) W (sclL (liftI (fM p (fpo m md))) (invI p m md (en L k c)) (row0 L k)):=O.scl_wd v0 v1 (hLM.row (by omega))
      have hpiv : pivL (liftI (fA p m)) (liftI (fM p (fpo m md))) (negI p m) (invI p m md) pv.length k c L = (List.range n).map fun i=>if i = pv.length then sclL (liftI (fM p (fpo m md))) (invI p m md (en L k c)) (row0 L k) else axp (liftI (fA p m)) (liftI (fM p (fpo m md))) (negI p m (en (swpL L pv.length k) i c)) (sclL (liftI (fM p (fpo m md))) (invI p m md (en L k c)) (row0 L k)) (row0 (swpL L pv.length k) i):=by rw [pivL,hL]
      have hpM:=O.piv_wd hLM (show pv.length < L.length by omega) (show k < L.length by omega) hz0
      have hf : findP L pv.length c = some k:=findP_of hk1 (by omega) hz0 fun j h1 h2=>hk3 j h1 h2
      rw [elP,show N - c = (N - (c + 1)) + 1 by omega,elimL,hf] at hE1 hE2
      have hE1' : (elP p m md (N - (c + 1)) (c + 1) (pv.length + 1) (pivL (liftI (fA p m)) (liftI (fM p (fpo m md))) (negI p m) (invI p m md) pv.length k c L)).1 = EE.1:=hE1
      have hE2' : pv++c::(elP p m md (N - (c + 1)) (c + 1) (pv.length + 1) (pivL (liftI (fA p m)) (liftI (fM p (fpo m md))) (negI p m) (invI p m md) pv.length k c L)).2 = EE.2:=hE2
      have hpM' : Mat (p ^ m) W (pivL (liftI (fA p m)) (liftI (fM p (fpo m md))) (negI p m) (invI p m md) pv.length k c L):=hpM
      have hplen : (pivL (liftI (fA p m)) (liftI (fM p (fpo m md))) (negI p m) (invI p m md) pv.length k c L).length = n:=by rw [pivL_len,hL]
      clear hE1 hE2 hpM
      generalize pivL (liftI (fA p m)) (liftI (fM p (fpo m md))) (negI p m) (invI p m md) pv.length k c L = PV at *
      generalize sclL (liftI (fM p (fpo m md))) (invI p m md (en L k c)) (row0 L k) = pr at *
      have hSen : ∀ i,i < n → 0 ≤ en (swpL L pv.length k) i c ∧ en (swpL L pv.length k) i c < ((p ^ m : Nat) : Int):=fun i hi=>wd_at (by omega) (hSW i hi) c
      have hSre : ∀ i,i < n → (row0 (swpL L pv.length k) i)[c]? = some (en (swpL L pv.length k) i c):=fun i hi=>by
       rw [en,at0,List.getD_eq_getElem?_getD,List.getElem?_eq_getElem (by rw [(hSW i hi).1];omega)];rfl
      clear hSt hre hen hra hrl hf hz0 e0 e1 hiv v0 v1 hk3 hLM
      generalize swpL L pv.length k = S at *
      let CL : Nat → List (List Int):=fun i=>(List.range n).map fun j=>if j = pv.length then pr else if j < i then axp (liftI (fA p m)) (liftI (fM p (fpo m md))) (negI p m (en S j c)) pr (row0 S j) else row0 S j
      have hCl : ∀ i,(CL i).length = n:=fun i=>by simp [CL]
      have hCa : ∀ i j,j < n → (CL i)[j]? = some (if j = pv.length then pr else if j < i then axp (liftI (fA p m)) (liftI (fM p (fpo m md))) (negI p m (en S j c)) pr (row0 S j) else row0 S j):=fun i j hj=>by
       show ((List.range n).map _)[j]? = _
       rw [List.getElem?_map,List.getElem?_range hj];rfl
      have hC0 : S.set pv.length pr = CL 0:=by
       refine List.ext_getElem? fun j=>?_
       by_cases hj : j < n
       ·rw [hCa 0 j hj,List.getElem?_set]
        by_cases e : pv.length = j
        ·rw [if_pos e,if_pos (by omega),if_pos e.symm]
        ·rw [if_neg e,if_neg (fun h=>e h.symm),if_neg (by omega),hSra j hj]
       ·rw [List.getElem?_eq_none (by rw [List.length_set];omega),List.getElem?_eq_none (by rw [hCl];omega)]
      have hCn : CL n = PV:=by
       rw [hpiv]
       refine List.map_congr_left fun j hj=>?_
       have:=List.mem_range.1 hj
       by_cases e : j = pv.length
       ·rw [if_pos e,if_pos e]
       ·rw [if_neg e,if_neg e,if_pos this]
      have hCt : ∀ i,(CL i)[pv.length]? = some pr:=fun i=>by rw [hCa i _ hpl,if_pos rfl]
      have hCi : ∀ i,i < n → i ≠ pv.length → (CL i)[i]? = some (row0 S i):=fun i hi e=>by rw [hCa i i hi,if_neg e,if_neg (Nat.lt_irrefl i)]
      have hCsame : ∀ i,i < n → (i = pv.length ∨ en S i c = 0) → CL (i + 1) = CL i:=fun i hi h=>by
       refine List.map_congr_left fun j hj=>?_
       have hjn:=List.mem_range.1 hj
       by_cases e : j = pv.length
       ·rw [if_pos e,if_pos e]
       ·rw [if_neg e,if_neg e]
        by_cases e2 : j < i
        ·rw [if_pos e2,if_pos (by omega)]
        ·rw [if_neg e2]
         by_cases e3 : j = i
         ·subst e3
          rcases h with h | h
          ·exact absurd h e
          ·have n0 : negI p m 0 = 0:=O.n0
           rw [if_pos (by omega),h,n0,axp_id O.fi hprW (hSW j hjn)]
         ·rw [if_neg (by omega)]
      have hCset : ∀ i,i < n → i ≠ pv.length → CL (i + 1) = (CL i).set i (axp (liftI (fA p m)) (liftI (fM p (fpo m md))) (negI p m (en S i c)) pr (row0 S i)):=fun i hi e=>by
       refine List.ext_getElem? fun j=>?_
       by_cases hj : j < n
       ·rw [hCa _ j hj,List.getElem?_set]
        by_cases e2 : i = j
        ·subst e2
         rw [if_neg e,if_pos (Nat.lt_succ_self i),if_pos rfl,if_pos (by rw [hCl];exact hi)]
        ·rw [if_neg e2,hCa i j hj]
         by_cases e3 : j = pv.length
         ·rw [if_pos e3,if_pos e3]
         ·rw [if_neg e3,if_neg e3]
          by_cases e4 : j < i
          ·rw [if_pos e4,if_pos (by omega)]
          ·rw [if_neg e4,if_neg (by omega)]
       ·rw [List.getElem?_eq_none (by rw [hCl];omega),List.getElem?_eq_none (by rw [List.length_set,hCl];omega)]
      clear_value CL
      rw [hC0]
      refine j_nf [_,_,_,_,_,_,_,_] rfl ?_
      refine j_run it 1 rfl (by simp) ?_
      refine j_nf [_,_,_,_,_,_,_,_] rfl ?_
      refine j_loopG (X:=Nat × List Value) [2,3,6,7,8,9,10,11] [0,1,2] (fun x=>[(13,.int .i64 (x.1 : Int))]) (fun x=>(rp.bo,3,rp.cs)::(some bh,22,x.2)::_) (fun x=>[rowF (encSl I64) ⟨some bh,caph,x.2⟩ n (CL x.1)]) (fun x=>x.1 ≤ n) (fun x=>n - x.1) (0,ch') [1] rfl rfl rfl (Nat.zero_le _) (by repeat (first | exact Fr.sub_nil _ | refine Fr.sub_cons rfl ?_)) rfl rfl ?_
      rintro ⟨i,ch2⟩ hi ihi
      simp only [List.cons_append,List.nil_append] at hi ihi ⊢
      by_cases hin : i < n
      ·by_cases hit : i = pv.length
       ·have ih':=fun ch=>ihi (i + 1,ch) (by dsimp only;omega) (by dsimp only;omega)
        simp only [hCsame i hin (.inl hit)] at ih'
        refine j_nf [_,_,_,_,_,_,_,_,_,_,_] rfl ?_
        refine j_run it 2 rfl (by simp) ?_
        refine j_step rfl (x_len sl25 rfl ?_)
        refine j_run it 1 rfl (by simp) ?_
        refine j_nf [_,_,_,_,_,_,_,_,_,_] rfl ?_
        refine j_if rfl rfl (fun h3=>?_) (fun h3=>by exfalso;omega)
        refine j_nf [_,_,_,_,_,_,_,_,_,_,_,_] rfl ?_
        refine j_run it 4 rfl (by simp) ?_
        refine j_split_ndec (t:=97) rfl (fun h4=>by exfalso;omega) (fun h4=>?_)
        refine j_run it 9 rfl (by simp) ?_
        refine j_nf [_,_,_,_,_,_,_,_,_,_,_] rfl ?_
        refine j_false rfl rfl ?_
        refine j_nf [_,_,_,_,_,_,_,_,_] rfl ?_
        refine j_run it 3 rfl ⟨trivial,⟨by omega,by omega⟩,trivial,trivial⟩ ?_
        refine j_nfn 1 [.lp (pL 2050548),.blk 4,.c (pL 256319),.blk 1,.c (pL 2003),.lp (pL 500),.blk 0,.c [1,1,1,1,1]] rfl ?_
        refine j_to [0,1,2,3] (by exact fra rfl) rfl rfl (ih' ch2)
       ·have at_w:=hCi i hin hit
        have at_x:=hSre i hin
        have hwl:=(hSW i hin).1
        by_cases hx0 : en S i c = 0
        ·have ih':=fun ch=>ihi (i + 1,ch) (by dsimp only;omega) (by dsimp only;omega)
         simp only [hCsame i hin (.inr hx0)] at ih'
         refine j_nf [_,_,_,_,_,_,_,_,_,_,_] rfl ?_
         refine j_run it 2 rfl (by simp) ?_
         refine j_step rfl (x_len sl25 rfl ?_)
         refine j_run it 1 rfl (by simp) ?_
         refine j_nf [_,_,_,_,_,_,_,_,_,_] rfl ?_
         refine j_if rfl rfl (fun h3=>?_) (fun h3=>by exfalso;omega)
         refine j_nf [_,_,_,_,_,_,_,_,_,_,_,_] rfl ?_
         refine j_run it 4 rfl (by simp) ?_
         refine j_split_ndec (t:=97) rfl (fun h4=>?_) (fun h4=>by exfalso;omega)
         refine j_run it 2 rfl (by simp) ?_
         refine j_gstep rfl rfl (x_idx_own (i) (i) rfl rfl sl25 rfl (by omega) (Nat.mul_one _) ?_)
         refine j_gstep rfl rfl (x_ldR_sl 1 0 (i) rfl rfl rfl ld22 rfl (by omega) fun z1 hz1 pa1 ca1=>?_)
         obtain rfl : _ = z1:=Option.some.inj (at_w.symm.trans hz1)
         refine j_run it 1 rfl (by simp) ?_
         refine j_gstep rfl rfl (x_idx 0 (c) rfl rfl rfl sl22 rfl (by omega) fun z1 hz2 b2 o1=>?_)
         obtain rfl : _ = z1:=Option.some.inj (at_x.symm.trans hz2)
         refine j_gstep rfl rfl (x_ld_int 0 rfl rfl ld3 fun ⟨r1,r2⟩=>?_)
         refine j_run it 2 rfl (by simp) ?_
         refine j_nf [_,_,_,_,_,_,_,_,_,_,_] rfl ?_
         refine j_ifn rfl rfl (fun h5=>by exfalso;omega) (fun h5=>?_)
         refine j_nf [_,_,_,_,_,_,_,_,_] rfl ?_
         refine j_run it 3 rfl ⟨trivial,⟨by omega,by omega⟩,trivial,trivial⟩ ?_
         refine j_nfn 1 [.lp (pL 2050548),.blk 4,.c (pL 256319),.blk 1,.c (pL 2003),.lp (pL 500),.blk 0,.c [1,1,1,1,1]] rfl ?_
         refine j_to [2,3,4,5] (by exact fra rfl) rfl rfl (ih' ch2)
        ·have ih':=fun ch=>ihi (i + 1,ch) (by dsimp only;omega) (by dsimp only;omega)
         simp only [hCset i hin hit] at ih'
         have at_p:=hCt i
         have ex : (row0 S i).getD c default = en S i c:=gd_at at_x
         obtain ⟨x0,x1⟩:=hSen i hin
         obtain ⟨⟨g0,g1⟩,-⟩:=O.ng _ x0 x1
         have hneg : 0 ≤ ((nP p m ((row0 S i).getD c default).toNat : Nat) : Int) ∧ ((nP p m ((row0 S i).getD c default).toNat : Nat) : Int) < ((p ^ m : Nat) : Int):=by rw [ex];exact ⟨g0,g1⟩
         have c_codewrightref04_Neg:=fun {nm cm : Nat} {pm : Option Addr} {x : Int}=>S_codewrightref04_Neg (nm:=nm) (cm:=cm) (pm:=pm) (x:=x) K
         have c_codewrightref09_AddTo:=fun {nm cm nu cu nv cv : Nat} {pm pu pv : Option Addr} {a : Int} (a0 : 0 ≤ a) (a1 : a < ((p ^ m : Nat) : Int))=>(S_codewrightref09_AddTo (nm:=nm) (cm:=cm) (pm:=pm) (pu:=pu) (nu:=nu) (cu:=cu) (pv:=pv) (nv:=nv) (cv:=cv) (a:=a) K a0 a1 hprW (hSW i hin)).pubR (by show W * 8 ≤ 140737488355328;omega)
         refine j_nf [_,_,_,_,_,_,_,_,_,_,_] rfl ?_
         refine j_run it 2 rfl (by simp) ?_
         refine j_step rfl (x_len sl25 rfl ?_)
         refine j_run it 1 rfl (by simp) ?_
         refine j_nf [_,_,_,_,_,_,_,_,_,_] rfl ?_
         refine j_if rfl rfl (fun h3=>?_) (fun h3=>by exfalso;omega)
         refine j_nf [_,_,_,_,_,_,_,_,_,_,_,_] rfl ?_
         refine j_run it 4 rfl (by simp) ?_
         refine j_split_ndec (t:=97) rfl (fun h4=>?_) (fun h4=>by exfalso;omega)
         refine j_run it 2 rfl (by simp) ?_
         refine j_gstep rfl rfl (x_idx_own (i) (i) rfl rfl sl25 rfl (by omega) (Nat.mul_one _) ?_)
         refine j_gstep rfl rfl (x_ldR_sl 1 0 (i) rfl rfl rfl ld22 rfl (by omega) fun z1 hz1 pa1 ca1=>?_)
         obtain rfl : _ = z1:=Option.some.inj (at_w.symm.trans hz1)
         refine j_run it 1 rfl (by simp) ?_
         refine j_gstep rfl rfl (x_idx 0 (c) rfl rfl rfl sl22 rfl (by omega) fun z1 hz2 b2 o1=>?_)
         obtain rfl : _ = z1:=Option.some.inj (at_x.symm.trans hz2)
         refine j_gstep rfl rfl (x_ld_int 0 rfl rfl ld3 fun ⟨r1,r2⟩=>?_)
         refine j_run it 2 rfl (by simp) ?_
         refine j_nf [_,_,_,_,_,_,_,_,_,_,_] rfl ?_
         refine j_ifn rfl rfl (fun h5=>?_) (fun h5=>by exfalso;omega)
         (apply j_drawK it mx 21;(· rfl);(· rfl))
         (apply lxk_run 2;(· rfl);(· simp))
         (apply lxk_eq;(· rfl);(· exact d_bld_all 2 rfl rfl ld24 rfl))
         (apply lxk_run 2;(· rfl);(· simp))
         (apply lxk_eq;(· rfl);(· exact d_x fun _=>x_idx_own (i) (i) rfl rfl sl25 rfl (by omega) (Nat.mul_one _) dk_eq))
         (apply lxk_sl;(· rfl);(· exact d_ldR_sl 1 2 (i) rfl rfl rfl ld22 rfl (by assumption));intro pa2 ca2)
         (apply lxk_eq;(· rfl);(· exact d_bld_all 2 rfl rfl ld24 rfl))
         (apply lxk_run 2;(· rfl);(· simp))
         (apply lxk_eq;(· rfl);(· exact d_x fun _=>x_idx_own (i) (i) rfl rfl sl25 rfl (by omega) (Nat.mul_one _) dk_eq))
         (apply lxk_sl;(· rfl);(· exact d_ldR_sl 1 2 (i) rfl rfl rfl ld22 rfl (by assumption));intro pa3 ca3)
         (apply lxk_run 1;(· rfl);(· simp))
         (apply lxk_pt;(· rfl);(· exact d_x fun _=>x_idx 0 (c) rfl rfl rfl sl22 rfl (by omega) fun z1 hz3 b3 o2=>(dk_ptD default hz3 0 rfl));intro b3 o2)
         (apply lxk_eq;(· rfl);(· exact d_x fun _=>x_ld_int 0 rfl rfl ld3 fun ⟨r3,r4⟩=>dk_eq))
         (apply lxk_eq;(· rfl);(· exact d_x fun _=>x_call [] rfl (c_codewrightref04_Neg (by omega) (by omega)) rfl (by rintro _ _ _ ⟨rfl,rfl,rfl⟩;exact dk_eq)))
         (apply lxk_run 2;(· rfl);(· simp))
         (apply lxk_eq;(· rfl);(· exact d_x fun _=>x_idx_own (pv.length) (pv.length) rfl rfl sl25 rfl (by omega) (Nat.mul_one _) dk_eq))
         (apply lxk_sl;(· rfl);(· exact d_ldR_sl 1 2 (pv.length) rfl rfl rfl ld22 rfl (by assumption));intro pa4 ca4)
         (apply lxk_sl;(· rfl);(· exact d_x fun _=>x_call [9,3,0] rfl (c_codewrightref09_AddTo (by omega) (by omega)) rfl (by rintro _ _ _ ⟨pa5,ca5,rfl,rfl,rfl⟩;exact (dk_sl 0 rfl)));intro pa5 ca5)
         refine lxk_end rfl ?_
         simp only [List.map_cons,List.map_nil,List.cons_append,List.nil_append]
         refine j_step rfl (x_idx_own (i) (i) rfl rfl sl25 rfl (by omega) (Nat.mul_one _) ?_)
         refine j_step rfl (x_stR (vs:=[Value.slice pa5 W ca5]) (z:=axp (liftI (fA p m)) (liftI (fM p (fpo m md))) (↑(nP p m ((row0 S i).getD c default).toNat)) pr (row0 S i)) 1 7 (i) rfl rfl rfl rfl rfl ld22 (Nat.mul_one _).symm (by omega) (fun w A hG=>(rd_of_slF (hG _ (fact_mem (n:=0) rfl)))) fun cs1=>?_)
         refine j_nf [_,_,_,_,_,_,_,_,_] rfl ?_
         refine j_run it 3 rfl ⟨trivial,⟨by omega,by omega⟩,trivial,trivial⟩ ?_
         refine j_nfn 1 [.lp (pL 2050548),.blk 4,.c (pL 256319),.blk 1,.c (pL 2003),.lp (pL 500),.blk 0,.c [1,1,1,1,1]] rfl ?_
         rw [ex]
         refine j_to [0,9,10,11] (by exact fra rfl) rfl rfl (ih' cs1)
      ·obtain rfl : i = n:=by omega
       rw [hCn]
       clear ihi hC0 hCn hCt hCi hCsame hCset hCa hCl
       refine j_nf [_,_,_,_,_,_,_,_,_,_,_] rfl ?_
       refine j_run it 2 rfl (by simp) ?_
       refine j_step rfl (x_len sl25 rfl ?_)
       refine j_run it 1 rfl (by simp) ?_
       refine j_nf [_,_,_,_,_,_,_,_,_,_] rfl ?_
       refine j_if rfl rfl (fun h3=>by exfalso;omega) (fun h3=>?_)
       refine j_nf [_,_,_,_,_,_,_] rfl ?_
       refine j_run it 2 rfl (by simp) ?_
       refine j_step rfl (x_lit sl22 zo22e rfl rfl rfl rfl (by decide) (by decide) rfl fun b2=>?_)
       refine j_step rfl (x_appR (z:=(↑c : Int)) 1 0 1 rfl rfl rfl rfl rfl sl22 zo22e rfl (fun w A hG=>(rd_int (by first | (simp only [InR];omega) | (simp [InR];done)))) (by omega) _ by22e (by omega) fun r1=>?_)
       refine j_run it 1 rfl (by simp) ?_
       refine j_nf [_,_,_,_,_,_] rfl ?_
       refine j_run it 3 rfl ⟨trivial,⟨by omega,by omega⟩,trivial,trivial⟩ ?_
       refine j_nf [_,_,_,_] rfl ?_
       refine j_run it 3 rfl ⟨trivial,⟨by omega,by omega⟩,trivial,trivial⟩ ?_
       refine j_nfn 1 [.lp (pL 500),.blk 0,.c [1,1,1,1,1]] rfl ?_
       have ih':=fun ch rp=>ih (c + 1,ch,rp,PV,pv++[c]) (by dsimp only;omega) ⟨by dsimp only;omega,hplen,hpM',by rw [List.length_append,List.length_singleton];omega,by rw [List.length_append,List.length_singleton];exact hE1',by rw [List.length_append,List.length_singleton,List.append_assoc];exact hE2'⟩
       have et : toI (pv++[c]) = toI pv++[(c : Int)]:=by simp [toI]
       simp only [et,List.length_append,List.length_singleton] at ih'
       refine j_toM [true,false,true,true] [0,1,4] (by exact fra rfl) rfl rfl (ih' ch2 r1)
     by_cases h1 : en L k c = 1
     ·have hV : invI p m md (en L k c) = 1:=by
       rw [h1] at hiv v0 v1 ⊢
       have v0' : 0 ≤ invI p m md 1:=v0
       have v1' : invI p m md 1 < ((p ^ m : Nat) : Int):=v1
       have h2 : liftI (fM p (fpo m md)) 1 (invI p m md 1) = 1:=hiv
       rw [O.fi.mc 1 _ (by omega) (by omega) v0' v1',O.fi.m1 _ v0' v1'] at h2
       exact h2
      have hs1 : (swpL L pv.length k).set pv.length (sclL (liftI (fM p (fpo m md))) (invI p m md (en L k c)) (row0 L k)) = (L.set pv.length (row0 L k)).set k (row0 L pv.length):=by
       rw [hV,scl_one O.fi (hLM.row (by omega))]
       obtain ⟨h2,h3⟩:=List.getElem?_eq_some_iff.1 at_v
       refine List.ext_getElem? fun j=>?_
       rw [List.getElem?_set]
       by_cases e : pv.length = j
       ·subst e
        rw [if_pos rfl,if_pos (by rw [hSl];exact hpl),at_v]
       ·rw [if_neg e];rfl
      rw [hs1] at key
      refine j_nf [_,_,_,_,_,_,_,_,_,_,_] rfl ?_
      refine j_run it 2 rfl (by simp) ?_
      refine j_step rfl (x_len sl25 rfl ?_)
      refine j_run it 2 rfl (by simp) ?_
      refine j_split_dec (t:=32) rfl (fun h3=>?_) (fun h3=>by exfalso;omega)
      refine j_run it 2 rfl (by simp) ?_
      refine j_gstep rfl rfl (x_idx_own (k) (k) rfl rfl sl25 rfl (by omega) (Nat.mul_one _) ?_)
      refine j_gstep rfl rfl (x_ldR_sl 1 1 (k) rfl rfl rfl ld22 rfl (by omega) fun z1 hz1 pa1 ca1=>?_)
      obtain rfl : _ = z1:=Option.some.inj (at_u.symm.trans hz1)
      refine j_run it 1 rfl (by simp) ?_
      refine j_gstep rfl rfl (x_idx 0 (c) rfl rfl rfl sl22 rfl (by omega) fun z1 hz2 b2 o1=>?_)
      obtain rfl : _ = z1:=Option.some.inj (at_z.symm.trans hz2)
      refine j_gstep rfl rfl (x_ld_int 0 rfl rfl ld3 fun ⟨r1,r2⟩=>?_)
      refine j_run it 2 rfl (by simp) ?_
      refine j_nf [_,_,_,_,_,_,_,_,_,_] rfl ?_
      refine j_if rfl rfl (fun h4=>by exfalso;omega) (fun h4=>?_)
      refine j_nf [_,_,_,_,_,_,_,_] rfl ?_
      refine j_run it 2 rfl (by simp) ?_
      refine j_step rfl (x_len sl25 rfl ?_)
      refine j_run it 1 rfl (by simp) ?_
      refine j_nf [_,_,_,_,_,_,_] rfl ?_
      refine j_if rfl rfl (fun h5=>by exfalso;omega) (fun h5=>?_)
      refine j_nf [_,_,_,_,_,_,_] rfl ?_
      (apply j_drawKW (x0:=none) it mx 0 13 [2,3] 1;(· rfl);(· rfl);(· rfl);(· decide))
      simp only [List.drop_zero]
      (apply lxk_run 6;(· rfl);(· simp))
      (apply lxk_eq;(· rfl);(· exact d_x fun _=>x_idx_own (k) (k) rfl rfl sl25 rfl (by omega) (Nat.mul_one _) dk_eq))
      (apply lxk_sl;(· rfl);(· exact d_ldR_sl 1 3 (k) rfl rfl rfl ld22 rfl (by assumption));intro pa2 ca2)
      (apply lxk_run 2;(· rfl);(· simp))
      (apply lxk_eq;(· rfl);(· exact d_x fun _=>x_idx_own (pv.length) (pv.length) rfl rfl sl25 rfl (by omega) (Nat.mul_one _) dk_eq))
      (apply lxk_sl;(· rfl);(· exact d_ldR_sl 1 3 (pv.length) rfl rfl rfl ld22 rfl (by assumption));intro pa3 ca3)
      (apply lxk_eq;(· rfl);(· exact d_x fun _=>x_idx_own (pv.length) (pv.length) rfl rfl sl25 rfl (by omega) (Nat.mul_one _) dk_eq))
      refine lxk_endW rfl ?_
      (rotate_left;rfl;rotate_right)
      simp only [List.map_cons,List.map_nil,List.cons_append,List.nil_append]
      refine win_step it rfl rfl ⟨⟨_,_,_,_,rfl,rfl,rfl,rfl,rfl,rfl,(by first | trivial | (repeat' first | exact trivial | apply And.intro | omega))⟩,⟨⟨_,_,_,_,rfl,rfl,rfl,rfl,rfl,rfl,(by first | trivial | (repeat' first | exact trivial | apply And.intro | omega))⟩,trivial⟩⟩ (x_stR (vs:=[Value.slice pa2 (row0 L k).length ca2]) (z:=row0 L k) 1 5 (pv.length) rfl rfl rfl rfl rfl ld22 (Nat.mul_one _).symm (by omega) (fun w A hG=>(rd_of_slF (hG _ (fact_mem (n:=1) rfl)))) fun cs1=>?_)
      refine win_end it ⟨⟨_,_,_,_,rfl,rfl,rfl,rfl,rfl,rfl,(by first | trivial | (repeat' first | exact trivial | apply And.intro | omega))⟩,⟨⟨_,_,_,_,rfl,rfl,rfl,rfl,rfl,rfl,(by first | trivial | (repeat' first | exact trivial | apply And.intro | omega))⟩,trivial⟩⟩ ?_
      refine j_step rfl (x_idx_own (k) (k) rfl rfl sl25 rfl (by omega) (Nat.mul_one _) ?_)
      refine j_step rfl (x_stR (vs:=[Value.slice pa3 (row0 L pv.length).length ca3]) (z:=row0 L pv.length) 1 0 (k) rfl rfl rfl rfl rfl ld22 (Nat.mul_one _).symm (by omega) (fun w A hG=>(rd_of_slF (hG _ (fact_mem (n:=1) rfl)))) fun cs2=>?_)
      refine j_nf [_,_,_,_,_,_,_,_] rfl ?_
      refine j_run it 2 rfl (by simp) ?_
      refine j_step rfl (x_idx_own (pv.length) (pv.length) rfl rfl sl25 rfl (by omega) (Nat.mul_one _) ?_)
      refine j_step rfl (x_ldR_sl 1 0 (pv.length) rfl rfl rfl ld22 rfl (by omega) fun z1 hz3 pa4 ca4=>?_)
      obtain rfl : _ = z1:=Option.some.inj (at_v.symm.trans hz3)
      refine j_run it 1 rfl (by simp) ?_
      refine j_step rfl (x_idx 0 (c) rfl rfl rfl sl22 rfl (by omega) fun z1 hz4 b3 o2=>?_)
      obtain rfl : _ = z1:=Option.some.inj (at_z.symm.trans hz4)
      refine j_step rfl (x_ld_int 0 rfl rfl ld3 fun ⟨r3,r4⟩=>?_)
      refine j_run it 1 rfl (by simp) ?_
      refine j_nf [_,_,_,_,_,_,_] rfl ?_
      refine j_ifn rfl rfl (fun h6=>by exfalso;omega) (fun h6=>?_)
      refine j_nfn 1 [.c (pL 128159),.blk 1,.c (pL 2003),.lp (pL 500),.blk 0,.c [1,1,1,1,1]] rfl ?_
      refine j_to [8,2,10] (by exact fra rfl) rfl rfl (key cs2)
     ·have c_codewrightref04_Inv:=fun {nm cm : Nat} {pm : Option Addr} {x : Int}=>S_codewrightref04_Inv (nm:=nm) (cm:=cm) (pm:=pm) (x:=x) K
      have c_codewrightref09_scale:=fun {nm cm cu : Nat} {pm pu : Option Addr} {a : Int} (a0 : 0 ≤ a) (a1 : a < ((p ^ m : Nat) : Int))=>(S_codewrightref09_scale (nm:=nm) (cm:=cm) (pm:=pm) (pu:=pu) (nu:=(row0 L k).length) (cu:=cu) (a:=a) (u:=row0 L k) K a0 a1 (hLM.row (by omega)).2).pubR (by show (row0 L k).length * 8 ≤ 140737488355328;omega)
      have hiv2 : 0 ≤ ((iF (p ^ m) (fM p (fpo m md)) ((row0 L k).getD c default).toNat : Nat) : Int) ∧ ((iF (p ^ m) (fM p (fpo m md)) ((row0 L k).getD c default).toNat : Nat) : Int) < ((p ^ m : Nat) : Int):=by rw [ek];exact ⟨v0,v1⟩
      rw [show (swpL L pv.length k).set pv.length (sclL (liftI (fM p (fpo m md))) (invI p m md (en L k c)) (row0 L k)) = ((L.set pv.length (row0 L k)).set k (row0 L pv.length)).set pv.length (sclL (liftI (fM p (fpo m md))) ((iF (p ^ m) (fM p (fpo m md)) (en L k c).toNat : Nat) : Int) (row0 L k)) from rfl] at key
      refine j_nf [_,_,_,_,_,_,_,_,_,_,_] rfl ?_
      refine j_run it 2 rfl (by simp) ?_
      refine j_step rfl (x_len sl25 rfl ?_)
      refine j_run it 2 rfl (by simp) ?_
      refine j_split_dec (t:=32) rfl (fun h3=>?_) (fun h3=>by exfalso;omega)
      refine j_run it 2 rfl (by simp) ?_
      refine j_gstep rfl rfl (x_idx_own (k) (k) rfl rfl sl25 rfl (by omega) (Nat.mul_one _) ?_)
      refine j_gstep rfl rfl (x_ldR_sl 1 1 (k) rfl rfl rfl ld22 rfl (by omega) fun z1 hz1 pa1 ca1=>?_)
      obtain rfl : _ = z1:=Option.some.inj (at_u.symm.trans hz1)
      refine j_run it 1 rfl (by simp) ?_
      refine j_gstep rfl rfl (x_idx 0 (c) rfl rfl rfl sl22 rfl (by omega) fun z1 hz2 b2 o1=>?_)
      obtain rfl : _ = z1:=Option.some.inj (at_z.symm.trans hz2)
      refine j_gstep rfl rfl (x_ld_int 0 rfl rfl ld3 fun ⟨r1,r2⟩=>?_)
      refine j_run it 2 rfl (by simp) ?_
      refine j_nf [_,_,_,_,_,_,_,_,_,_] rfl ?_
      refine j_if rfl rfl (fun h4=>by exfalso;omega) (fun h4=>?_)
      refine j_nf [_,_,_,_,_,_,_,_] rfl ?_
      refine j_run it 2 rfl (by simp) ?_
      refine j_step rfl (x_len sl25 rfl ?_)
      refine j_run it 1 rfl (by simp) ?_
      refine j_nf [_,_,_,_,_,_,_] rfl ?_
      refine j_if rfl rfl (fun h5=>by exfalso;omega) (fun h5=>?_)
      refine j_nf [_,_,_,_,_,_,_] rfl ?_
      (apply j_drawKW (x0:=none) it mx 0 13 [2,3] 1;(· rfl);(· rfl);(· rfl);(· decide))
      simp only [List.drop_zero]
      (apply lxk_run 6;(· rfl);(· simp))
      (apply lxk_eq;(· rfl);(· exact d_x fun _=>x_idx_own (k) (k) rfl rfl sl25 rfl (by omega) (Nat.mul_one _) dk_eq))
      (apply lxk_sl;(· rfl);(· exact d_ldR_sl 1 3 (k) rfl rfl rfl ld22 rfl (by assumption));intro pa2 ca2)
      (apply lxk_run 2;(· rfl);(· simp))
      (apply lxk_eq;(· rfl);(· exact d_x fun _=>x_idx_own (pv.length) (pv.length) rfl rfl sl25 rfl (by omega) (Nat.mul_one _) dk_eq))
      (apply lxk_sl;(· rfl);(· exact d_ldR_sl 1 3 (pv.length) rfl rfl rfl ld22 rfl (by assumption));intro pa3 ca3)
      (apply lxk_eq;(· rfl);(· exact d_x fun _=>x_idx_own (pv.length) (pv.length) rfl rfl sl25 rfl (by omega) (Nat.mul_one _) dk_eq))
      refine lxk_endW rfl ?_
      (rotate_left;rfl;rotate_right)
      simp only [List.map_cons,List.map_nil,List.cons_append,List.nil_append]
      refine win_step it rfl rfl ⟨⟨_,_,_,_,rfl,rfl,rfl,rfl,rfl,rfl,(by first | trivial | (repeat' first | exact trivial | apply And.intro | omega))⟩,⟨⟨_,_,_,_,rfl,rfl,rfl,rfl,rfl,rfl,(by first | trivial | (repeat' first | exact trivial | apply And.intro | omega))⟩,trivial⟩⟩ (x_stR (vs:=[Value.slice pa2 (row0 L k).length ca2]) (z:=row0 L k) 1 5 (pv.length) rfl rfl rfl rfl rfl ld22 (Nat.mul_one _).symm (by omega) (fun w A hG=>(rd_of_slF (hG _ (fact_mem (n:=1) rfl)))) fun cs1=>?_)
      refine win_end it ⟨⟨_,_,_,_,rfl,rfl,rfl,rfl,rfl,rfl,(by first | trivial | (repeat' first | exact trivial | apply And.intro | omega))⟩,⟨⟨_,_,_,_,rfl,rfl,rfl,rfl,rfl,rfl,(by first | trivial | (repeat' first | exact trivial | apply And.intro | omega))⟩,trivial⟩⟩ ?_
      refine j_step rfl (x_idx_own (k) (k) rfl rfl sl25 rfl (by omega) (Nat.mul_one _) ?_)
      refine j_step rfl (x_stR (vs:=[Value.slice pa3 (row0 L pv.length).length ca3]) (z:=row0 L pv.length) 1 0 (k) rfl rfl rfl rfl rfl ld22 (Nat.mul_one _).symm (by omega) (fun w A hG=>(rd_of_slF (hG _ (fact_mem (n:=1) rfl)))) fun cs2=>?_)
      refine j_nf [_,_,_,_,_,_,_,_] rfl ?_
      refine j_run it 2 rfl (by simp) ?_
      refine j_step rfl (x_idx_own (pv.length) (pv.length) rfl rfl sl25 rfl (by omega) (Nat.mul_one _) ?_)
      refine j_step rfl (x_ldR_sl 1 0 (pv.length) rfl rfl rfl ld22 rfl (by omega) fun z1 hz3 pa4 ca4=>?_)
      obtain rfl : _ = z1:=Option.some.inj (at_v.symm.trans hz3)
      refine j_run it 1 rfl (by simp) ?_
      refine j_step rfl (x_idx 0 (c) rfl rfl rfl sl22 rfl (by omega) fun z1 hz4 b3 o2=>?_)
      obtain rfl : _ = z1:=Option.some.inj (at_z.symm.trans hz4)
      refine j_step rfl (x_ld_int 0 rfl rfl ld3 fun ⟨r3,r4⟩=>?_)
      refine j_run it 1 rfl (by simp) ?_
      refine j_nf [_,_,_,_,_,_,_] rfl ?_
      refine j_ifn rfl rfl (fun h6=>?_) (fun h6=>by exfalso;omega)
      (apply j_drawK it mx 17;(· rfl);(· rfl))
      (apply lxk_run 2;(· rfl);(· simp))
      (apply lxk_eq;(· rfl);(· exact d_bld_all 2 rfl rfl ld24 rfl))
      (apply lxk_eq;(· rfl);(· exact d_bld_all 2 rfl rfl ld24 rfl))
      (apply lxk_run 2;(· rfl);(· simp))
      (apply lxk_eq;(· rfl);(· exact d_x fun _=>x_idx_own (pv.length) (pv.length) rfl rfl sl25 rfl (by omega) (Nat.mul_one _) dk_eq))
      (apply lxk_sl;(· rfl);(· exact d_ldR_sl 1 2 (pv.length) rfl rfl rfl ld22 rfl (by assumption));intro pa5 ca5)
      (apply lxk_run 1;(· rfl);(· simp))
      (apply lxk_pt;(· rfl);(· exact d_x fun _=>x_idx 0 (c) rfl rfl rfl sl22 rfl (by omega) fun z1 hz5 b4 o3=>(dk_ptD default hz5 0 rfl));intro b4 o3)
      (apply lxk_eq;(· rfl);(· exact d_x fun _=>x_ld_int 0 rfl rfl ld3 fun ⟨r5,r6⟩=>dk_eq))
      (apply lxk_eq;(· rfl);(· exact d_x fun _=>x_call [12] rfl (c_codewrightref04_Inv (by omega) (by omega)) rfl (by rintro _ _ _ ⟨rfl,rfl,rfl⟩;exact dk_eq)))
      (apply lxk_run 2;(· rfl);(· simp))
      (apply lxk_eq;(· rfl);(· exact d_x fun _=>x_idx_own (pv.length) (pv.length) rfl rfl sl25 rfl (by omega) (Nat.mul_one _) dk_eq))
      (apply lxk_sl;(· rfl);(· exact d_ldR_sl 1 2 (pv.length) rfl rfl rfl ld22 rfl (by assumption));intro pa6 ca6)
      (apply lxk_sl;(· rfl);(· exact d_x fun _=>x_call [13,0] rfl (c_codewrightref09_scale (by omega) (by omega)) rfl (by rintro _ _ _ ⟨pa7,ca7,rfl,rfl,rfl⟩;exact (dk_sl 0 rfl)));intro pa7 ca7)
      refine lxk_end rfl ?_
      simp only [List.map_cons,List.map_nil,List.cons_append,List.nil_append]
      refine j_step rfl (x_idx_own (pv.length) (pv.length) rfl rfl sl25 rfl (by omega) (Nat.mul_one _) ?_)
      refine j_step rfl (x_stR (vs:=[Value.slice pa7 (row0 L k).length ca7]) (z:=sclL (liftI (fM p (fpo m md))) (↑(iF (p ^ m) (fM p (fpo m md)) ((row0 L k).getD c default).toNat)) (row0 L k)) 1 6 (pv.length) rfl rfl rfl rfl rfl ld22 (Nat.mul_one _).symm (by omega) (fun w A hG=>(rd_of_slF (hG _ (fact_mem (n:=0) rfl)))) fun cs3=>?_)
      refine j_nfn 1 [.c (pL 128159),.blk 1,.c (pL 2003),.lp (pL 500),.blk 0,.c [1,1,1,1,1]] rfl ?_
      rw [ek]
      refine j_to [13,0,15] (by exact fra rfl) rfl rfl (key cs3)
   ·clear ihk
    obtain rfl : n = k:=by omega
    have hf : findP L pv.length c = none:=findP_no fun j h1 h2=>hk3 j h1 (by omega)
    rw [elP,show N - c = (N - (c + 1)) + 1 by omega,elimL,hf] at hE1 hE2
    refine j_nf [_,_,_,_,_,_,_,_,_,_,_] rfl ?_
    refine j_run it 2 rfl (by simp) ?_
    refine j_step rfl (x_len sl25 rfl ?_)
    refine j_run it 2 rfl (by simp) ?_
    refine j_split_dec (t:=32) rfl (fun h3=>by exfalso;omega) (fun h3=>?_)
    refine j_run it 9 rfl (by simp) ?_
    refine j_nf [_,_,_,_,_,_,_,_,_,_] rfl ?_
    refine j_false rfl rfl ?_
    refine j_nf [_,_,_,_,_,_,_,_] rfl ?_
    refine j_run it 2 rfl (by simp) ?_
    refine j_step rfl (x_len sl25 rfl ?_)
    refine j_run it 1 rfl (by simp) ?_
    refine j_nf [_,_,_,_,_,_,_] rfl ?_
    refine j_if rfl rfl (fun h4=>?_) (fun h4=>by exfalso;omega)
    refine j_nf [_,_,_,_] rfl ?_
    refine j_run it 3 rfl ⟨trivial,⟨by omega,by omega⟩,trivial,trivial⟩ ?_
    refine j_nfn 1 [.lp (pL 500),.blk 0,.c [1,1,1,1,1]] rfl ?_
    refine j_to [0,1,2] (by exact fra rfl) rfl rfl (ih (c + 1,ch,rp,L,pv) (by dsimp only;omega) ⟨by dsimp only;omega,hL,hLM,hpv,hE1,hE2⟩)
  ·rw [elP,elim_full _ _ _ _ (by omega)] at hE1 hE2
   rw [List.append_nil] at hE2
   obtain ⟨E1,E2⟩:=EE
   obtain rfl : L = E1:=hE1
   obtain rfl : pv = E2:=hE2
   clear ih
   refine j_pubR 0 0 rfl rfl (by show pv.length * 8 ≤ 140737488355328;omega) ?_
   refine j_pubR 0 2 rfl rfl (by show n * 24 ≤ 140737488355328;omega) ?_
   refine j_nf [_,_,_,_,_,_] rfl ?_
   refine j_run it 4 rfl (by simp) ?_
   refine j_split_dec (t:=19) rfl (fun h1=>?_) (fun h1=>by exfalso;omega)
   refine j_run it 2 rfl (by simp) ?_
   refine j_gstep rfl rfl (x_len sl25 rfl ?_)
   refine j_run it 2 rfl (by simp) ?_
   refine j_nf [_,_,_,_,_] rfl ?_
   refine j_if rfl rfl (fun h2=>by exfalso;omega) (fun h2=>?_)
   refine j_nf [_,_] rfl ?_
   refine j_run it 4 rfl (by simp) ?_
   refine j_nf [_] rfl ?_
   refine j_giv [0,1] rfl rfl rfl ⟨_,_,_,_,rfl,rfl,rfl⟩
 ·obtain rfl : c = N:=by omega
  rw [Nat.sub_self,elP,elimL] at hE1 hE2
  rw [List.append_nil] at hE2
  obtain ⟨E1,E2⟩:=EE
  obtain rfl : L = E1:=hE1
  obtain rfl : pv = E2:=hE2
  clear ih
  refine j_pubR 0 0 rfl rfl (by show pv.length * 8 ≤ 140737488355328;omega) ?_
  refine j_pubR 0 2 rfl rfl (by show n * 24 ≤ 140737488355328;omega) ?_
  refine j_nf [_,_,_,_,_,_] rfl ?_
  refine j_run it 4 rfl (by simp) ?_
  refine j_split_dec (t:=19) rfl (fun h1=>by exfalso;omega) (fun h1=>?_)
  refine j_run it 5 rfl (by simp) ?_
  refine j_nf [_,_,_,_,_] rfl ?_
  refine j_false rfl rfl ?_
  refine j_nf [_,_] rfl ?_
  refine j_run it 4 rfl (by simp) ?_
  refine j_nf [_] rfl ?_
  refine j_giv [0,1] rfl rfl rfl ⟨_,_,_,_,rfl,rfl,rfl⟩
theorem S_codewrightref09_Canon {p m n N nm cm c : Nat} {pm ps : Option Addr} {rows : List (List Int)} {md : List Int} (K : Fok p m md) (hn : n ≤ 1000000) (hN : N ≤ 1000000) (hl : rows.length = n) (hM : Mat (p ^ m) N rows) :
  Ctr Try.prog 25 [.agg #[.int .i64 p,.int .i64 m,.slice pm nm cm],.slice ps n c,.int .i64 N] [] [slF I64 pm nm cm md,slF (encSl I64) ps n c rows] (CnR (cnP p m md N rows)):=by
 refine Ctr_of_j' (F:=F_codewrightref09_Canon) rfl fun C=>?_
 have c_codewrightref09_Eliminate:=fun {nm cm c : Nat} {pm ps : Option Addr}=>S_codewrightref09_Eliminate (nm:=nm) (cm:=cm) (pm:=pm) (ps:=ps) (c:=c) K hn (Nat.le_refl N) hN hl hM
 have hEk : (elP p m md N 0 0 rows).2.length ≤ n:=by
  have:=elim_le (A:=liftI (fA p m)) (M:=liftI (fM p (fpo m md))) (N:=negI p m) (V:=invI p m md) N 0 0 rows (Nat.zero_le _)
  rw [Nat.zero_add,hl] at this;exact this
 show J _ _ _ _ _ _ (Gives C (CnR ((elP p m md N 0 0 rows).1.take (elP p m md N 0 0 rows).2.length,(elP p m md N 0 0 rows).2)))
 generalize elP p m md N 0 0 rows = E at *
 refine j_nf [_,_] rfl (j_step rfl (x_box_agg rfl fun b1=>?_))
 refine j_run it 2 rfl (by simp) ?_
 refine j_nf [_,_] rfl (j_step rfl (x_bld_all 0 rfl rfl ld24 rfl ?_))
 refine j_run it 2 rfl (by simp) ?_
 refine j_step rfl (x_call [0,1] rfl (c_codewrightref09_Eliminate) rfl ?_)
 rintro _ _ _ ⟨pb1,pp1,cb1,cp1,rfl,rfl,rfl⟩
 simp only [List.cons_append,List.nil_append]
 refine j_run it 5 rfl (by simp) ?_
 refine j_nf [_,_] rfl (j_run it 2 rfl (by simp) ?_)
 refine j_step rfl (x_len sl22 rfl ?_)
 refine j_step rfl (x_slice_h 0 (E.snd.length) rfl rfl rfl sl25 (by omega) (by omega) ?_)
 refine j_run it 3 rfl (by simp) ?_
 refine j_nf [_] rfl ?_
 refine j_giv [0,2] rfl rfl rfl ⟨_,_,_,_,rfl,rfl,rfl⟩
theorem S_codewrightref09_Turn {n c N W : Nat} {ps : Option Addr} {rows : List (List Int)} (hN : N ≤ 1000000) (hNW : N ≤ W) (hM : ∀ r ∈ rows,r.length = W) :
  Ctr Try.prog 46 [.slice ps n c,.int .i64 N] [] [slF (encSl I64) ps n c rows]
   (fun v Φ β=>∃ (pb : Option Addr) (cb : Nat),v = .slice pb N cb ∧ Φ = [slF (encSl I64) pb N cb (trL N rows)] ∧ β = []):=by
 refine Ctr_of_j' (F:=F_codewrightref09_Turn) rfl fun C=>?_
 refine j_len 0 rfl fun hn hb _=>?_
 subst hn
 have hb' : rows.length * 24 ≤ 140737488355328:=hb
 have htl : ∀ k,(trL k rows).length = k:=fun k=>by simp [trL]
 have hts : ∀ k,trL (k + 1) rows = trL k rows++[colL rows k]:=fun k=>by rw [trL,trL,List.range_succ,List.map_append];rfl
 refine j_nf [_,_] rfl (j_run it 1 rfl (by simp) ?_)
 refine j_nf [_,_] rfl (j_run it 1 rfl (by simp) ?_)
 refine j_nf [_,_,_] rfl (j_run it 1 rfl (by simp) ?_)
 refine j_nf [_,_,_] rfl ?_
 refine j_row0 (encSl I64) 22 ?_
 refine j_loopG (X:=Nat × Row) [0,1,4] [0,1] (fun x=>[(6,.int .i64 (x.1 : Int)),(5,.slice (ad x.2.bo) x.1 x.2.cap)]) (fun x=>[(x.2.bo,22,x.2.cs)]) (fun x=>[rowF (encSl I64) x.2 x.1 (trL x.1 rows)]) (fun x=>x.1 ≤ N) (fun x=>N - x.1) (0,⟨none,0,[]⟩) [0] rfl rfl rfl (Nat.zero_le _) (by repeat (first | exact Fr.sub_nil _ | refine Fr.sub_cons rfl ?_)) rfl rfl ?_
 rintro ⟨k,r⟩ hk ih
 simp only [List.cons_append,List.nil_append] at hk ih ⊢
 by_cases hkn : k < N
 ·have ih':=fun r=>ih (k + 1,r) (by dsimp only;omega) (by dsimp only;omega)
  simp only [hts] at ih'
  clear ih
  refine j_nf [_,_,_,_,_,_] rfl (j_run it 3 rfl (by simp) ?_)
  refine j_nf [_,_,_,_,_] rfl (j_if rfl rfl (fun h1=>?_) (fun h1=>by exfalso;omega))
  refine j_nf [_,_,_,_,_,_,_] rfl (j_run it 1 rfl (by simp) ?_)
  refine j_nf [_,_,_,_,_,_,_,_] rfl (j_run it 1 rfl (by simp) ?_)
  refine j_nf [_,_,_,_,_,_,_,_] rfl ?_
  refine j_row0 I64 3 ?_
  refine j_loopG (X:=Nat × Row) [0,1,4,5,6,9,10,11] [0,1,2,3] (fun x=>[(8,.int .i64 (x.1 : Int)),(7,.slice (ad x.2.bo) x.1 x.2.cap)]) (fun x=>(x.2.bo,3,x.2.cs)::_) (fun x=>[rowF I64 x.2 x.1 ((rows.take x.1).map fun r=>at0 r k)]) (fun x=>x.1 ≤ rows.length) (fun x=>rows.length - x.1) (0,⟨none,0,[]⟩) [0] rfl rfl rfl (Nat.zero_le _) (by repeat (first | exact Fr.sub_nil _ | refine Fr.sub_cons rfl ?_)) rfl rfl ?_
  rintro ⟨i,r2⟩ hi ihi
  simp only [List.cons_append,List.nil_append] at hi ihi ⊢
  by_cases hin : i < rows.length
  ·obtain ⟨u,at_u⟩ : ∃ u,rows[i]? = some u:=⟨_,List.getElem?_eq_getElem hin⟩
   have hul:=hM u (List.mem_of_getElem? at_u)
   have at_y : u[k]? = some (at0 u k):=by
    rw [at0,List.getD_eq_getElem?_getD,List.getElem?_eq_getElem (by omega)];rfl
   have ih2:=fun r=>ihi (i + 1,r) (by dsimp only;omega) (by dsimp only;omega)
   simp only [List.take_add_one,at_u,Option.toList_some,List.map_append,List.map_cons,List.map_nil] at ih2
   refine j_nf [_,_,_,_,_,_,_,_,_,_,_] rfl (j_run it 2 rfl (by simp) ?_)
   refine j_step rfl (x_len sl25 rfl ?_)
   refine j_run it 1 rfl (by simp) ?_
   refine j_nf [_,_,_,_,_,_,_,_,_,_] rfl (j_if rfl rfl (fun h2=>?_) (fun h2=>by exfalso;omega))
   refine j_nf [_,_,_,_,_,_,_,_,_,_,_] rfl (j_run it 3 rfl (by simp) ?_)
   refine j_step rfl (x_idx 4 (i) rfl rfl rfl sl25 rfl (by omega) fun z1 hz1 b1 o1=>?_)
   obtain rfl : _ = z1:=Option.some.inj (at_u.symm.trans hz1)
   refine j_step rfl (x_ld_sl 0 rfl rfl ld22 fun pa1 ca1=>?_)
   refine j_run it 1 rfl (by simp) ?_
   refine j_step rfl (x_idx 0 (k) rfl rfl rfl sl22 rfl (by omega) fun z1 hz2 b2 o2=>?_)
   obtain rfl : _ = z1:=Option.some.inj (at_y.symm.trans hz2)
   refine j_step rfl (x_ld_int 0 rfl rfl ld3 fun ⟨r1,r3⟩=>?_)
   refine j_step rfl (x_lit sl22 zo22e rfl rfl rfl rfl (by decide) (by decide) rfl fun b3=>?_)
   refine j_step rfl (x_appR (z:=(at0 u k : Int)) 1 0 3 rfl rfl rfl rfl rfl sl22 zo22e rfl (fun w A hG=>(rd_int (by first | (simp only [InR];omega) | (simp [InR];done)))) (by omega) _ by22e (by omega) fun r4=>?_)
   refine j_run it 1 rfl (by simp) ?_
   refine j_nf [_,_,_,_,_,_,_,_,_] rfl (j_run it 3 rfl ⟨trivial,⟨by omega,by omega⟩,trivial,trivial⟩ ?_)
   refine j_nfn 1 [.lp (pL 29844),.blk 2,.c (pL 3731),.blk 1,.c (pL 467),.lp (pL 116),.blk 0,.c [1,1,1]] rfl ?_
   refine j_toM [true,false,true] [0,5,6,7,8] (by exact fra rfl) rfl rfl (ih2 r4)
  ·obtain rfl : i = rows.length:=by omega
   rw [List.take_length]
   clear ihi
   refine j_nf [_,_,_,_,_,_,_,_,_,_,_] rfl (j_run it 2 rfl (by simp) ?_)
   refine j_step rfl (x_len sl25 rfl ?_)
   refine j_run it 1 rfl (by simp) ?_
   refine j_nf [_,_,_,_,_,_,_,_,_,_] rfl (j_if rfl rfl (fun h2=>by exfalso;omega) (fun h2=>?_))
   refine j_nf [_,_,_,_,_,_] rfl (j_run it 2 rfl (by simp) ?_)
   refine j_step rfl (x_lit sl25 zo25e rfl rfl rfl rfl (by decide) (by decide) rfl fun b1=>?_)
   refine j_pubR 1 0 rfl rfl (by show (rows.length) * 8 ≤ 140737488355328;omega) ?_
   refine j_step rfl (x_appR (z:=List.map (fun r=>at0 r k) rows) 1 0 3 rfl rfl rfl rfl rfl sl25 zo25e rfl (fun w A hG=>(rd_of_slF (hG _ (fact_mem (n:=0) rfl)))) (by omega) _ by25e (by omega) fun r1=>?_)
   refine j_run it 1 rfl (by simp) ?_
   refine j_nf [_,_,_,_] rfl (j_run it 3 rfl ⟨trivial,⟨by omega,by omega⟩,trivial,trivial⟩ ?_)
   refine j_nfn 1 [.lp (pL 116),.blk 0,.c [1,1,1]] rfl ?_
   refine j_toM [true,false] [0,5,6] (by exact fra rfl) rfl rfl (ih' r1)
 ·obtain rfl : k = N:=by omega
  refine j_pubR 0 0 rfl rfl (by show k * 24 ≤ 140737488355328;omega) ?_
  refine j_nf [_,_,_,_,_,_] rfl (j_run it 3 rfl (by simp) ?_)
  refine j_nf [_,_,_,_,_] rfl (j_if rfl rfl (fun h1=>by exfalso;omega) (fun h1=>?_))
  refine j_nf [_,_] rfl (j_run it 2 rfl (by simp) ?_)
  refine j_nf [_] rfl ?_
  refine j_giv [0] rfl rfl rfl ⟨_,_,rfl,rfl,rfl⟩
theorem S_codewrightref09_Combine {p m nm cm nx cx n c N : Nat} {pm px ps : Option Addr} {x md : List Int} {rows : List (List Int)} (K : Fok p m md) (hN : N ≤ 1000000) (hM : Mat (p ^ m) N rows) (hx : Wd (p ^ m) rows.length x) :
  Ctr Try.prog 23 [.agg #[.int .i64 p,.int .i64 m,.slice pm nm cm],.slice px nx cx,.slice ps n c,.int .i64 N] [] [slF I64 pm nm cm md,slF I64 px nx cx x,slF (encSl I64) ps n c rows]
   (fun v Φ β=>∃ (pb : Option Addr) (cb : Nat),v = .slice pb N cb ∧ Φ = [slF I64 pb N cb (cbP p m md N x rows)] ∧ β = []):=by
 refine Ctr_of_j' (F:=F_codewrightref09_Combine) rfl fun C=>?_
 have O:=fok_fo K
 have hq:=K.q
 refine j_len 1 rfl fun hn hb _=>?_
 subst hn
 refine j_len 2 rfl fun hn hb2 _=>?_
 subst hn
 have hb' : x.length * 8 ≤ 140737488355328:=hb
 have hb2' : rows.length * 24 ≤ 140737488355328:=hb2
 have hxl:=hx.1
 have c_codewrightref09_AddTo:=fun {nm cm nu cu nv cv : Nat} {pm pu pv : Option Addr} {a : Int} {u v : List Int} (a0 : 0 ≤ a) (a1 : a < ((p ^ m : Nat) : Int)) (hu : Wd (p ^ m) N u) (hv : Wd (p ^ m) N v)=>(S_codewrightref09_AddTo (nm:=nm) (cm:=cm) (pm:=pm) (pu:=pu) (nu:=nu) (cu:=cu) (pv:=pv) (nv:=nv) (cv:=cv) (a:=a) (u:=u) (v:=v) K a0 a1 hu hv).pubR (by show N * 8 ≤ 140737488355328;omega)
 refine j_nf [_,_] rfl ?_
 refine j_step rfl (x_box_agg rfl fun b1=>?_)
 refine j_run it 1 rfl (by simp) ?_
 refine j_nf [_,_] rfl ?_
 refine j_run it 1 rfl (by simp) ?_
 refine j_step rfl (x_make_nat (N) _ rfl rfl sl22 zo22e by22e (by omega) (by omega) (by omega) fun b2=>?_)
 refine j_run it 1 rfl (by simp) ?_
 refine j_nf [_,_,_] rfl ?_
 refine j_run it 1 rfl (by simp) ?_
 refine j_nf [_,_,_] rfl ?_
 have hz:=O.wz N
 rw [show natCells .i64 (List.replicate N 0) = intCells .i64 (zW N) by simp [natCells,intCells,zW]]
 refine j_pub_madei (kd:=.i64) (n:=N) 8 (zW N) 0 rfl hz.1.symm (fun y hy=>by have:=hz.2 y hy;simp only [InR];omega) (by omega) (by omega) ?_
 refine j_loopG (X:=Nat × Option Addr × Nat × List Int) [1,2,4,8] [0,1,2,3] (fun i=>[(10,.int .i64 (i.1 : Int)),(9,.slice i.2.1 N i.2.2.1)]) (fun _=>_) (fun i=>[slF I64 i.2.1 N i.2.2.1 i.2.2.2]) (fun i=>i.1 ≤ x.length ∧ Wd (p ^ m) N i.2.2.2 ∧ cmbF (liftI (fA p m)) (liftI (fM p (fpo m md))) (x.drop i.1) (rows.drop i.1) i.2.2.2 = cbP p m md N x rows) (fun i=>x.length - i.1) (0,some ⟨b2,0,none⟩,N,zW N) [0] rfl rfl rfl ⟨Nat.zero_le _,hz,rfl⟩ (by repeat (first | exact Fr.sub_nil _ | refine Fr.sub_cons rfl ?_)) rfl rfl ?_
 rintro ⟨i,pa,ca,u⟩ ⟨hi,hu,he⟩ ih
 simp only [List.cons_append,List.nil_append] at hi hu he ih ⊢
 by_cases h9 : i < x.length
 ·obtain ⟨a,at_a⟩ : ∃ a,x[i]? = some a:=⟨_,List.getElem?_eq_getElem h9⟩
  obtain ⟨v,at_v⟩ : ∃ v,rows[i]? = some v:=⟨_,List.getElem?_eq_getElem (by omega)⟩
  obtain ⟨a0,a1⟩:=hx.2 a (List.mem_of_getElem? at_a)
  have hv:=hM v (List.mem_of_getElem? at_v)
  have ea:=gd_at at_a
  have ev:=gd_at at_v
  rw [cmbF_drop at_a at_v] at he
  by_cases ha : a = 0
  ·rw [if_pos ha] at he
   refine j_nf [_,_,_,_,_,_] rfl ?_
   refine j_run it 2 rfl (by simp) ?_
   refine j_step rfl (x_len sl25 rfl ?_)
   refine j_run it 2 rfl (by simp) ?_
   refine j_split_dec (t:=17) rfl (fun h1=>?_) (fun h1=>by exfalso;omega)
   refine j_run it 2 rfl (by simp) ?_
   refine j_gstep rfl rfl (x_len sl22 rfl ?_)
   refine j_run it 2 rfl (by simp) ?_
   refine j_nf [_,_,_,_,_] rfl ?_
   refine j_if rfl rfl (fun h2=>?_) (fun h2=>by exfalso;omega)
   refine j_nf [_,_,_,_,_,_,_] rfl ?_
   refine j_run it 2 rfl (by simp) ?_
   refine j_step rfl (x_idx 3 (i) rfl rfl rfl sl22 rfl (by omega) fun z1 hz1 b3 o1=>?_)
   obtain rfl : _ = z1:=Option.some.inj (at_a.symm.trans hz1)
   refine j_step rfl (x_ld_int 0 rfl rfl ld3 fun ⟨r1,r2⟩=>?_)
   refine j_run it 1 rfl (by simp) ?_
   refine j_nf [_,_,_,_,_,_] rfl ?_
   refine j_ifn rfl rfl (fun h3=>by exfalso;omega) (fun h3=>?_)
   refine j_nf [_,_,_,_] rfl ?_
   refine j_run it 3 rfl ⟨trivial,⟨by omega,by omega⟩,trivial,trivial⟩ ?_
   refine j_nfn 1 [.lp (pL 116),.blk 0,.c [1,1,1]] rfl ?_
   refine j_to [1,2,3,4,5] (by exact fra rfl) rfl rfl (ih (i + 1,pa,ca,u) (by dsimp only;omega) ⟨by dsimp only;omega,hu,he⟩)
  ·rw [if_neg ha] at he
   rw [← ea,← ev] at he
   rw [← ev] at hv
   have hw:=O.fi.axw a0 a1 hv hu
   rw [← ea] at hw
   refine j_nf [_,_,_,_,_,_] rfl ?_
   refine j_run it 2 rfl (by simp) ?_
   refine j_step rfl (x_len sl25 rfl ?_)
   refine j_run it 2 rfl (by simp) ?_
   refine j_split_dec (t:=17) rfl (fun h1=>?_) (fun h1=>by exfalso;omega)
   refine j_run it 2 rfl (by simp) ?_
   refine j_gstep rfl rfl (x_len sl22 rfl ?_)
   refine j_run it 2 rfl (by simp) ?_
   refine j_nf [_,_,_,_,_] rfl ?_
   refine j_if rfl rfl (fun h2=>?_) (fun h2=>by exfalso;omega)
   refine j_nf [_,_,_,_,_,_,_] rfl ?_
   refine j_run it 2 rfl (by simp) ?_
   refine j_step rfl (x_idx 3 (i) rfl rfl rfl sl22 rfl (by omega) fun z1 hz1 b3 o1=>?_)
   obtain rfl : _ = z1:=Option.some.inj (at_a.symm.trans hz1)
   refine j_step rfl (x_ld_int 0 rfl rfl ld3 fun ⟨r1,r2⟩=>?_)
   refine j_run it 1 rfl (by simp) ?_
   refine j_nf [_,_,_,_,_,_] rfl ?_
   refine j_ifn rfl rfl (fun h3=>?_) (fun h3=>by exfalso;omega)
   (apply j_drawK it mx 11;(· rfl);(· rfl))
   (apply lxk_eq;(· rfl);(· exact d_bld_all 0 rfl rfl ld24 rfl))
   (apply lxk_run 3;(· rfl);(· simp))
   (apply lxk_pt;(· rfl);(· exact d_x fun _=>x_idx 4 (i) rfl rfl rfl sl22 rfl (by omega) fun z1 hz2 b4 o2=>(dk_ptD default hz2 0 rfl));intro b4 o2)
   (apply lxk_eq;(· rfl);(· exact d_x fun _=>x_ld_int 0 rfl rfl ld3 fun ⟨r3,r4⟩=>dk_eq))
   (apply lxk_run 2;(· rfl);(· simp))
   (apply lxk_pt;(· rfl);(· exact d_x fun _=>x_idx 5 (i) rfl rfl rfl sl25 rfl (by omega) fun z1 hz2 b5 o3=>(dk_ptD default hz2 0 rfl));intro b5 o3)
   (apply lxk_sl;(· rfl);(· exact d_x fun _=>x_ld_sl 0 rfl rfl ld22 fun pa1 ca1=>(dk_sl 0 rfl));intro pa1 ca1)
   (apply lxk_sl;(· rfl);(· exact d_x fun _=>x_call [6,4,0] rfl (c_codewrightref09_AddTo (by omega) (by omega) (by omega) (by omega)) rfl (by rintro _ _ _ ⟨pa2,ca2,rfl,rfl,rfl⟩;exact (dk_sl 0 rfl)));intro pa2 ca2)
   refine lxk_end rfl ?_
   simp only [List.map_cons,List.map_nil,List.cons_append,List.nil_append]
   refine j_run it 1 rfl (by simp) ?_
   refine j_nf [_,_,_,_] rfl ?_
   refine j_run it 3 rfl ⟨trivial,⟨by omega,by omega⟩,trivial,trivial⟩ ?_
   refine j_nfn 1 [.lp (pL 116),.blk 0,.c [1,1,1]] rfl ?_
   refine j_to [0,6,7,8,9] (by exact fra rfl) rfl rfl (ih (i + 1,pa2,ca2,axp (liftI (fA p m)) (liftI (fM p (fpo m md))) (x.getD i default) (rows.getD i default) u) (by dsimp only;omega) ⟨by dsimp only;omega,hw,he⟩)
 ·rw [cmbF_end (by omega)] at he
  subst he
  refine j_nf [_,_,_,_,_,_] rfl ?_
  refine j_run it 2 rfl (by simp) ?_
  refine j_step rfl (x_len sl25 rfl ?_)
  refine j_run it 2 rfl (by simp) ?_
  refine j_split_dec (t:=17) rfl (fun h1=>by exfalso;omega) (fun h1=>?_)
  refine j_run it 5 rfl (by simp) ?_
  refine j_nf [_,_,_,_,_] rfl ?_
  refine j_false rfl rfl ?_
  refine j_nf [_,_] rfl ?_
  refine j_run it 2 rfl (by simp) ?_
  refine j_nf [_] rfl ?_
  refine j_giv [0] rfl rfl rfl ⟨_,_,rfl,rfl,rfl⟩
def ldL (N : Nat) (P : List Nat) (k : Nat) : List Int:=(List.range N).map fun e=>if e ∈ P.take k then ((P.idxOf e : Nat) : Int) else -1
theorem ldL_len {N k : Nat} {P : List Nat} : (ldL N P k).length = N:=by simp [ldL]
theorem ldL_zero {N : Nat} {P : List Nat} : ldL N P 0 = List.replicate N (-1):=by
 refine List.ext_getElem (by simp [ldL]) fun j h1 h2=>?_
 simp only [ldL,List.getElem_map,List.getElem_range,List.take_zero,List.getElem_replicate]
 exact if_neg (by simp)
theorem ldL_set {q N n k a : Nat} {R : List (List Int)} {P : List Nat} (h : Red q n R P) (hk : P[k]? = some a) : (ldL N P k).set a (k : Int) = ldL N P (k + 1):=by
 refine List.ext_getElem (by simp [ldL]) fun j h1 h2=>?_
 rw [List.getElem_set]
 simp only [ldL,List.getElem_map,List.getElem_range]
 by_cases e : a = j
 ·subst e
  rw [if_pos rfl,if_pos (List.mem_of_getElem? (i:=k) (by rw [List.getElem?_take,if_pos (by omega),hk])),h.idx hk]
 ·rw [if_neg e,List.take_add_one,hk]
  by_cases hm : j ∈ P.take k
  ·rw [if_pos hm,if_pos (List.mem_append_left _ hm)]
  ·rw [if_neg hm,if_neg]
   intro hm2
   rcases List.mem_append.1 hm2 with h3 | h3
   ·exact hm h3
   ·rw [Option.toList_some,List.mem_singleton] at h3;exact e h3.symm
theorem ldL_at {N j : Nat} {P : List Nat} (hj : j < N) : (ldL N P P.length)[j]? = some (if j ∈ P then ((P.idxOf j : Nat) : Int) else -1):=by
 rw [ldL,List.getElem?_map,List.getElem?_range hj,List.take_length];rfl
theorem S_codewrightref09_Null {p m n N nm cm c : Nat} {pm ps : Option Addr} {rows : List (List Int)} {md : List Int} (K : Fok p m md) (hn : n ≤ 1000000) (hN : N ≤ 1000000) (hl : rows.length = n) (hM : Mat (p ^ m) N rows) :
  Ctr Try.prog 24 [.agg #[.int .i64 p,.int .i64 m,.slice pm nm cm],.slice ps n c,.int .i64 N] [] [slF I64 pm nm cm md,slF (encSl I64) ps n c rows]
   (fun v Φ β=>∃ (pb : Option Addr) (cb : Nat),v = .slice pb (nuP p m md N rows).length cb ∧ Φ = [slF (encSl I64) pb (nuP p m md N rows).length cb (nuP p m md N rows)] ∧ β = []):=by
 refine Ctr_of_j' (F:=F_codewrightref09_Null) rfl fun C=>?_
 have O:=fok_fn K
 have hq:=K.q
 have q2:=O.q2
 have c_codewrightref09_Canon:=fun {nm cm c n : Nat} {pm ps : Option Addr} {rows : List (List Int)} (hn : n ≤ 1000000) (hl : rows.length = n) (hM : Mat (p ^ m) N rows)=>S_codewrightref09_Canon (nm:=nm) (cm:=cm) (pm:=pm) (ps:=ps) (c:=c) K hn hN hl hM
 have c_codewrightref04_Neg:=fun {nm cm : Nat} {pm : Option Addr} {x : Int}=>S_codewrightref04_Neg (nm:=nm) (cm:=cm) (pm:=pm) (x:=x) K
 have hred : Red (p ^ m) N (cnP p m md N rows).1 (cnP p m md N rows).2:=(O.cn hM).1
 have hEl : (cnP p m md N rows).1.length = (cnP p m md N rows).2.length:=O.cn_len hM
 have hnm : Mat (p ^ m) N (nvK (negI p m) N (cnP p m md N rows) N):=O.nv_mat hred
 have hnl : (cnP p m md N (nvK (negI p m) N (cnP p m md N rows) N)).1.length = (cnP p m md N (nvK (negI p m) N (cnP p m md N rows) N)).2.length:=O.cn_len hnm
 have hnk:=fun k=>nvK_len (N:=negI p m) (n:=N) (k:=k) (E:=cnP p m md N rows)
 rw [show nuP p m md N rows = (cnP p m md N (nvK (negI p m) N (cnP p m md N rows) N)).1 from rfl,hnl]
 clear hnl
 refine j_nf [_,_] rfl ?_
 refine j_step rfl (x_box_agg rfl fun b1=>?_)
 refine j_run it 1 rfl (by simp) ?_
 refine j_nf [_,_] rfl ?_
 refine j_step rfl (x_bld_all 0 rfl rfl ld24 rfl ?_)
 refine j_run it 2 rfl (by simp) ?_
 refine j_step rfl (x_call [0,1] rfl (c_codewrightref09_Canon (by omega) (by omega) (by omega)) rfl ?_)
 rintro _ _ _ ⟨pb1,pp1,cb1,cp1,rfl,rfl,rfl⟩
 simp only [List.cons_append,List.nil_append]
 refine j_run it 5 rfl (by simp) ?_
 refine j_nf [_,_] rfl ?_
 refine j_run it 1 rfl (by simp) ?_
 refine j_step rfl (x_make_nat (N) _ rfl rfl sl22 zo22e by22e (by omega) (by omega) (by omega) fun b2=>?_)
 refine j_run it 1 rfl (by simp) ?_
 refine j_nf [_,_,_] rfl ?_
 refine j_run it 1 rfl (by simp) ?_
 refine j_nf [_,_,_] rfl ?_
 generalize hE : cnP p m md N rows = E at *
 have hple:=hred.piv_le
 rw [show natCells .i64 (List.replicate N 0) = intCells .i64 (List.replicate 0 (-1 : Int)++List.replicate (N - 0) (0 : Int)) by simp [natCells,intCells]]
 refine j_loopG (X:=Nat) [2,3,6,7,8,9] [0,1,2,3] (fun i=>[(10,.int .i64 (i : Int))]) (fun i=>(some b2,3,intCells .i64 (List.replicate i (-1 : Int)++List.replicate (N - i) (0 : Int)))::_) (fun _=>[]) (fun i=>i ≤ N) (fun i=>N - i) 0 [] rfl rfl rfl (Nat.zero_le _) (by repeat (first | exact Fr.sub_nil _ | refine Fr.sub_cons rfl ?_)) rfl rfl ?_
 rintro i hi ih
 simp only [List.cons_append,List.nil_append] at hi ih ⊢
 by_cases hiN : i < N
 ·have ih':=ih (i + 1) (by omega) (by omega)
  have hset : List.replicate (i + 1) (-1 : Int)++List.replicate (N - (i + 1)) (0 : Int) = (List.replicate i (-1 : Int)++List.replicate (N - i) (0 : Int)).set i (-1):=by
   have e2 : List.replicate (N - i) (0 : Int) = 0::List.replicate (N - (i + 1)) 0:=by rw [show N - i = (N - (i + 1)) + 1 by omega,List.replicate_succ]
   rw [e2,List.set_append_right _ _ (by simp),List.length_replicate,Nat.sub_self,List.set_cons_zero,List.replicate_succ',List.append_assoc];rfl
  rw [hset] at ih'
  have hln : (List.replicate i (-1 : Int)++List.replicate (N - i) (0 : Int)).length = N:=by simp;omega
  generalize List.replicate i (-1 : Int)++List.replicate (N - i) (0 : Int) = L at *
  refine j_nf [_,_,_,_,_,_] rfl ?_
  refine j_run it 3 rfl (by simp) ?_
  refine j_nf [_,_,_,_,_] rfl ?_
  refine j_if rfl rfl (fun h1=>?_) (fun h1=>by exfalso;omega)
  refine j_nf [_,_,_,_,_,_] rfl ?_
  refine j_run it 2 rfl (by simp) ?_
  refine j_step rfl (x_idx_own (i) (i) rfl rfl sl22 rfl (by omega) (Nat.mul_one _) ?_)
  refine j_step rfl (x_bst_int 0 rfl rfl rfl ld3 (by first | omega | (simp;omega)) ?_)
  refine j_nf [_,_,_,_] rfl ?_
  refine j_run it 3 rfl ⟨trivial,⟨by omega,by omega⟩,trivial,trivial⟩ ?_
  refine j_nfn 1 [.lp (pL 244),.blk 0,.c [1,1,1,1]] rfl ?_
  refine j_to [0,1,2,3] (by exact fra rfl) rfl rfl (ih')
 ·obtain rfl : i = N:=by omega
  clear ih
  rw [Nat.sub_self,List.replicate_zero,List.append_nil,← ldL_zero (P:=E.2)]
  refine j_nf [_,_,_,_,_,_] rfl ?_
  refine j_run it 3 rfl (by simp) ?_
  refine j_nf [_,_,_,_,_] rfl ?_
  refine j_if rfl rfl (fun h1=>by exfalso;omega) (fun h1=>?_)
  refine j_nf [_,_,_] rfl ?_
  refine j_run it 1 rfl (by simp) ?_
  refine j_nf [_,_,_] rfl ?_
  refine j_loopG (X:=Nat) [2,3,6,7,8,9] [0,1,2,3] (fun k=>[(11,.int .i64 (k : Int))]) (fun k=>(some b2,3,intCells .i64 (ldL i E.2 k))::_) (fun _=>[]) (fun k=>k ≤ E.2.length) (fun k=>E.2.length - k) 0 [] rfl rfl rfl (Nat.zero_le _) (by repeat (first | exact Fr.sub_nil _ | refine Fr.sub_cons rfl ?_)) rfl rfl ?_
  rintro k hk ih
  simp only [List.cons_append,List.nil_append] at hk ih ⊢
  by_cases hkE : k < E.2.length
  ·obtain ⟨a,ha⟩ : ∃ a,E.2[k]? = some a:=⟨_,List.getElem?_eq_getElem hkE⟩
   have at_a : (toI E.2)[k]? = some (a : Int):=by rw [toI,List.getElem?_map,ha];rfl
   have haN:=hred.ech.lt a (List.mem_of_getElem? ha)
   have ih':=ih (k + 1) (by omega) (by omega)
   rw [← ldL_set hred ha] at ih'
   have hln:=ldL_len (N:=i) (P:=E.2) (k:=k)
   generalize ldL i E.2 k = L at *
   refine j_nf [_,_,_,_,_,_] rfl ?_
   refine j_run it 2 rfl (by simp) ?_
   refine j_step rfl (x_len sl22 rfl ?_)
   refine j_run it 1 rfl (by simp) ?_
   refine j_nf [_,_,_,_,_] rfl ?_
   refine j_if rfl rfl (fun h2=>?_) (fun h2=>by exfalso;omega)
   refine j_nf [_,_,_,_,_,_] rfl ?_
   refine j_run it 3 rfl (by simp) ?_
   refine j_step rfl (x_idx 1 (k) rfl rfl rfl sl22 rfl (by omega) fun z1 hz1 b3 o1=>?_)
   obtain rfl : _ = z1:=Option.some.inj (at_a.symm.trans hz1)
   refine j_step rfl (x_ld_int 0 rfl rfl ld3 fun ⟨r1,r2⟩=>?_)
   refine j_run it 1 rfl (by simp) ?_
   refine j_step rfl (x_idx_own (a) (a) rfl rfl sl22 rfl (by omega) (Nat.mul_one _) ?_)
   refine j_step rfl (x_bst_int 0 rfl rfl rfl ld3 (by first | omega | (simp;omega)) ?_)
   refine j_nf [_,_,_,_] rfl ?_
   refine j_run it 3 rfl ⟨trivial,⟨by omega,by omega⟩,trivial,trivial⟩ ?_
   refine j_nfn 1 [.lp (pL 500),.blk 2,.c [1,1,1,1,1]] rfl ?_
   refine j_to [1,2,3,4] (by exact fra rfl) rfl rfl (ih')
  ·obtain rfl : k = E.2.length:=by omega
   clear ih
   have hla:=fun j (hj : j < i)=>ldL_at (P:=E.2) hj
   have hln:=ldL_len (N:=i) (P:=E.2) (k:=E.2.length)
   generalize ldL i E.2 E.2.length = LD at *
   refine j_nf [_,_,_,_,_,_] rfl ?_
   refine j_run it 2 rfl (by simp) ?_
   refine j_step rfl (x_len sl22 rfl ?_)
   refine j_run it 1 rfl (by simp) ?_
   refine j_nf [_,_,_,_,_] rfl ?_
   refine j_if rfl rfl (fun h2=>by exfalso;omega) (fun h2=>?_)
   refine j_nf [_,_] rfl ?_
   refine j_run it 1 rfl (by simp) ?_
   refine j_nf [_,_,_] rfl ?_
   refine j_run it 1 rfl (by simp) ?_
   refine j_nf [_,_,_] rfl ?_
   refine j_row0 (encSl I64) 22 ?_
   refine j_loopG (X:=Nat × Row) [2,3,6,7,8,9] [0,1,2,3,4] (fun x=>[(13,.int .i64 (x.1 : Int)),(12,.slice (ad x.2.bo) (nvK (negI p m) i E x.1).length x.2.cap)]) (fun x=>(x.2.bo,22,x.2.cs)::_) (fun x=>[rowF (encSl I64) x.2 (nvK (negI p m) i E x.1).length (nvK (negI p m) i E x.1)]) (fun x=>x.1 ≤ i) (fun x=>i - x.1) (0,⟨none,0,[]⟩) [0] rfl rfl rfl (Nat.zero_le _) (by repeat (first | exact Fr.sub_nil _ | refine Fr.sub_cons rfl ?_)) rfl rfl ?_
   rintro ⟨k,r⟩ hk ih
   simp only [List.cons_append,List.nil_append] at hk ih ⊢
   by_cases h8 : k < i
   ·have ih':=fun r=>ih (k + 1,r) (by dsimp only;omega) (by dsimp only;omega)
    simp only [nvK_succ] at ih'
    have hnk1:=hnk k
    have at_l:=hla k h8
    clear ih
    by_cases hm : k ∈ E.2
    ·rw [if_pos hm] at at_l
     simp only [if_pos hm,List.append_nil] at ih'
     refine j_nf [_,_,_,_,_,_] rfl ?_
     refine j_run it 3 rfl (by simp) ?_
     refine j_nf [_,_,_,_,_] rfl ?_
     refine j_if rfl rfl (fun h3=>?_) (fun h3=>by exfalso;omega)
     refine j_nf [_,_,_,_,_,_,_,_] rfl ?_
     refine j_run it 2 rfl (by simp) ?_
     refine j_step rfl (x_idx_own (k) (k) rfl rfl sl22 rfl (by omega) (Nat.mul_one _) ?_)
     refine j_step rfl (x_bld_int 1 rfl rfl ld3 (by first | omega | (simp;omega)) fun z1 hz1=>?_)
     obtain rfl : _ = z1:=Option.some.inj (at_l.symm.trans hz1)
     refine j_run it 1 rfl (by simp) ?_
     refine j_nf [_,_,_,_,_,_,_] rfl ?_
     refine j_if rfl rfl (fun h4=>?_) (fun h4=>by exfalso;omega)
     refine j_nf [_,_,_,_] rfl ?_
     refine j_run it 3 rfl ⟨trivial,⟨by omega,by omega⟩,trivial,trivial⟩ ?_
     refine j_nfn 1 [.lp (pL 2036),.blk 4,.c (pL 255)] rfl ?_
     refine j_to [0,1,2,3,4,5] (by exact fra rfl) rfl rfl (ih' r)
    ·rw [if_neg hm] at at_l
     simp only [if_neg hm,List.length_append,List.length_singleton] at ih'
     refine j_nf [_,_,_,_,_,_] rfl ?_
     refine j_run it 3 rfl (by simp) ?_
     refine j_nf [_,_,_,_,_] rfl ?_
     refine j_if rfl rfl (fun h3=>?_) (fun h3=>by exfalso;omega)
     refine j_nf [_,_,_,_,_,_,_,_] rfl ?_
     refine j_run it 2 rfl (by simp) ?_
     refine j_step rfl (x_idx_own (k) (k) rfl rfl sl22 rfl (by omega) (Nat.mul_one _) ?_)
     refine j_step rfl (x_bld_int 1 rfl rfl ld3 (by first | omega | (simp;omega)) fun z1 hz1=>?_)
     obtain rfl : _ = z1:=Option.some.inj (at_l.symm.trans hz1)
     refine j_run it 1 rfl (by simp) ?_
     refine j_nf [_,_,_,_,_,_,_] rfl ?_
     refine j_if rfl rfl (fun h4=>by exfalso;omega) (fun h4=>?_)
     refine j_nf [_,_,_,_,_,_,_] rfl ?_
     refine j_run it 1 rfl (by simp) ?_
     refine j_step rfl (x_make_nat (i) _ rfl rfl sl22 zo22e by22e (by omega) (by omega) (by omega) fun b3=>?_)
     refine j_run it 1 rfl (by simp) ?_
     refine j_nf [_,_,_,_,_,_,_] rfl ?_
     refine j_run it 2 rfl (by simp) ?_
     refine j_step rfl (x_idx_own (k) (k) rfl rfl sl22 rfl (by omega) (Nat.mul_one _) ?_)
     refine j_step rfl (x_bst_nat 0 1 rfl rfl rfl ld3 (by first | rfl | omega) (by first | omega | (simp;omega)) ?_)
     refine j_nf [_,_,_,_,_,_,_,_] rfl ?_
     refine j_run it 1 rfl (by simp) ?_
     refine j_nf [_,_,_,_,_,_,_,_] rfl ?_
     have hx0 : natCells .i64 ((List.replicate i 0).set k 1) = intCells .i64 (nvI (negI p m) i E.1 E.2 k 0):=by
      rw [nvI_zero]
      simp [natCells,intCells,zW,List.map_set]
     simp only [setB]
     rw [hx0]
     refine j_loopG (X:=Nat) [2,3,6,7,8,9,12,13,14,46,47,48,51,52,53,54,55,56,57,58,59,60] [0,1,2,3,4,5] (fun t=>[(15,.int .i64 (t : Int))]) (fun t=>(some b3,3,intCells .i64 (nvI (negI p m) i E.1 E.2 k t))::_) (fun _=>[]) (fun t=>t ≤ E.2.length) (fun t=>E.2.length - t) 0 [] rfl rfl rfl (Nat.zero_le _) (by repeat (first | exact Fr.sub_nil _ | refine Fr.sub_cons rfl ?_)) rfl rfl ?_
     rintro t ht ih
     simp only [List.cons_append,List.nil_append] at ht ih ⊢
     by_cases h9 : t < E.2.length
     ·obtain ⟨a,ha⟩ : ∃ a,E.2[t]? = some a:=⟨_,List.getElem?_eq_getElem h9⟩
      have at_a : (toI E.2)[t]? = some (a : Int):=by rw [toI,List.getElem?_map,ha];rfl
      obtain ⟨u,at_u⟩ : ∃ u,E.1[t]? = some u:=⟨_,List.getElem?_eq_getElem (by omega)⟩
      have hu:=hred.mat u (List.mem_of_getElem? at_u)
      have hul:=hu.1
      have ea:=gd_at at_a
      have eu:=gd_at at_u
      have hen : at0 u k = en E.1 t k:=by rw [en,row0,List.getD_eq_getElem?_getD,at_u];rfl
      have at_y : (E.1.getD t default)[k]? = some (en E.1 t k):=by
       rw [eu,← hen,at0,List.getD_eq_getElem?_getD,List.getElem?_eq_getElem (by omega)];rfl
      have ey:=gd_at at_y
      rw [← eu] at hul
      obtain ⟨y0,y1⟩:=wd_at (q:=p ^ m) (by omega) hu k
      rw [hen] at y0 y1
      have haN:=hred.ech.lt a (List.mem_of_getElem? ha)
      have ih':=ih (t + 1) (by omega) (by omega)
      rw [← nvI_set hred hm ha] at ih'
      have hln:=nvI_len (N:=negI p m) (n:=i) (c:=k) (i:=t) (R:=E.1) (P:=E.2)
      generalize nvI (negI p m) i E.1 E.2 k t = L at *
      refine j_nf [_,_,_,_,_,_,_,_,_,_,_] rfl ?_
      refine j_run it 2 rfl (by simp) ?_
      refine j_step rfl (x_len sl22 rfl ?_)
      refine j_run it 1 rfl (by simp) ?_
      refine j_nf [_,_,_,_,_,_,_,_,_,_] rfl ?_
      refine j_if rfl rfl (fun h5=>?_) (fun h5=>by exfalso;omega)
      refine j_nf [_,_,_,_,_,_,_,_,_,_,_] rfl ?_
      (apply j_drawK it mx 14;(· rfl);(· rfl))
      (apply lxk_run 3;(· rfl);(· simp))
      (apply lxk_pt;(· rfl);(· exact d_x fun _=>x_idx 3 (t) rfl rfl rfl sl22 rfl (by omega) fun z1 hz2 b4 o1=>(dk_ptD default hz2 0 rfl));intro b4 o1)
      (apply lxk_eq;(· rfl);(· exact d_x fun _=>x_ld_int 0 rfl rfl ld3 fun ⟨r1,r2⟩=>dk_eq))
      (apply lxk_eq;(· rfl);(· exact d_bld_all 3 rfl rfl ld24 rfl))
      (apply lxk_run 2;(· rfl);(· simp))
      (apply lxk_pt;(· rfl);(· exact d_x fun _=>x_idx 2 (t) rfl rfl rfl sl25 rfl (by omega) fun z1 hz2 b5 o2=>(dk_ptD default hz2 0 rfl));intro b5 o2)
      (apply lxk_sl;(· rfl);(· exact d_x fun _=>x_ld_sl 0 rfl rfl ld22 fun pa1 ca1=>(dk_sl 0 rfl));intro pa1 ca1)
      (apply lxk_run 1;(· rfl);(· simp))
      (apply lxk_pt;(· rfl);(· exact d_x fun _=>x_idx 0 (k) rfl rfl rfl sl22 rfl (by omega) fun z1 hz2 b6 o3=>(dk_ptD default hz2 0 rfl));intro b6 o3)
      (apply lxk_eq;(· rfl);(· exact d_x fun _=>x_ld_int 0 rfl rfl ld3 fun ⟨r1,r2⟩=>dk_eq))
      (apply lxk_eq;(· rfl);(· exact d_x fun _=>x_call [] rfl (c_codewrightref04_Neg (by omega) (by omega)) rfl (by rintro _ _ _ ⟨rfl,rfl,rfl⟩;exact dk_eq)))
      refine lxk_end rfl ?_
      simp only [List.map_cons,List.map_nil,List.cons_append,List.nil_append]
      refine j_step rfl (x_idx_own (((toI E.snd).getD t default : Int).toNat) (((toI E.snd).getD t default : Int).toNat) rfl rfl sl22 (by omega) (by omega) (Nat.mul_one _) ?_)
      refine j_step rfl (x_bst_int 0 rfl rfl rfl ld3 (by first | omega | (simp;omega)) ?_)
      refine j_nf [_,_,_,_,_,_,_,_,_] rfl ?_
      refine j_run it 3 rfl ⟨trivial,⟨by omega,by omega⟩,trivial,trivial⟩ ?_
      refine j_nfn 1 [.lp (pL 2085492),.blk 6,.c (pL 260687),.blk 5,.c (pL 8147),.lp (pL 2036),.blk 4,.c (pL 255)] rfl ?_
      simp only [ey,ea,Int.toNat_natCast]
      refine j_to [4,5,6,7,8,9] (by exact fra rfl) rfl rfl (ih')
     ·obtain rfl : t = E.2.length:=by omega
      rw [nvI_all]
      clear ih
      have hnw:=O.null_wd hred k
      have hnr : ∀ z ∈ nullV (negI p m) i E.1 E.2 k,InR .i64 z:=fun z hz=>by
       have:=hnw.2 z hz
       simp only [InR];omega
      have hnl : (nullV (negI p m) i E.1 E.2 k).length = i:=hnw.1
      generalize nullV (negI p m) i E.1 E.2 k = T at *
      refine j_nf [_,_,_,_,_,_,_,_,_,_,_] rfl ?_
      refine j_run it 2 rfl (by simp) ?_
      refine j_step rfl (x_len sl22 rfl ?_)
      refine j_rowInt 0 rfl hnl.symm hnr (by omega) ?_
      refine j_run it 1 rfl (by simp) ?_
      refine j_nf [_,_,_,_,_,_,_,_,_,_] rfl ?_
      refine j_if rfl rfl (fun h5=>by exfalso;omega) (fun h5=>?_)
      refine j_nf [_,_,_,_,_,_] rfl ?_
      refine j_run it 2 rfl (by simp) ?_
      refine j_step rfl (x_lit sl25 zo25e rfl rfl rfl rfl (by decide) (by decide) rfl fun b4=>?_)
      refine j_pubRb 1 0 rfl rfl (by show (i) * 8 ≤ 140737488355328;omega) ?_
      refine j_step rfl (x_appR (z:=T) 1 0 2 rfl rfl rfl rfl rfl sl25 zo25e rfl (fun w A hG=>(rd_of_slF (hG _ (fact_mem (n:=0) rfl)))) (by omega) _ by25e (by omega) fun r1=>?_)
      refine j_run it 1 rfl (by simp) ?_
      refine j_nf [_,_,_,_] rfl ?_
      refine j_run it 3 rfl ⟨trivial,⟨by omega,by omega⟩,trivial,trivial⟩ ?_
      refine j_nfn 1 [.lp (pL 2036),.blk 4,.c (pL 255)] rfl ?_
      refine j_toM [true,false,true,true] [0,4,5,6,7,8] (by exact fra rfl) rfl rfl (ih' r1)
   ·obtain rfl : k = i:=by omega
    have:=hnk k
    refine j_pubR 0 0 rfl rfl (by show (nvK (negI p m) k E k).length * 24 ≤ 140737488355328;omega) ?_
    refine j_nf [_,_,_,_,_,_] rfl ?_
    refine j_run it 3 rfl (by simp) ?_
    refine j_nf [_,_,_,_,_] rfl ?_
    refine j_if rfl rfl (fun h3=>by exfalso;omega) (fun h3=>?_)
    refine j_nf [_,_] rfl ?_
    refine j_step rfl (x_bld_all 1 rfl rfl ld24 rfl ?_)
    refine j_run it 2 rfl (by simp) ?_
    refine j_step rfl (x_call [5,0] rfl (c_codewrightref09_Canon (by omega) (by omega) (by omega)) rfl ?_)
    rintro _ _ _ ⟨pb2,pp2,cb2,cp2,rfl,rfl,rfl⟩
    simp only [List.cons_append,List.nil_append]
    refine j_run it 4 rfl (by simp) ?_
    refine j_nf [_,_] rfl ?_
    refine j_run it 2 rfl (by simp) ?_
    refine j_nf [_] rfl ?_
    refine j_giv [0] rfl rfl rfl ⟨_,_,rfl,rfl,rfl⟩
open Classical in
noncomputable def sfE (P M : Int) (md : List Int) (N : Int) (rows : List (List Int)) : Int:=if ¬ chkF P M md then 1 else spE P.toNat M.toNat md N rows
theorem S_codewrightref10_Check {P M N e : Int} {nm cm n c : Nat} {pm ps : Option Addr} {md : List Int} {rows : List (List Int)} (hN : InR .i64 N) (he : sfE P M md N rows = e) :
  Ctr Try.prog 47 [.agg #[.int .i64 P,.int .i64 M,.slice pm nm cm],.agg #[.int .i64 N,.slice ps n c]] [] [slF I64 pm nm cm md,slF (encSl I64) ps n c rows] (Rv (.int .i64 e) []):=by
 refine Ctr_of_j' (F:=F_codewrightref10_Check) rfl fun C=>?_
 refine j_len 1 rfl fun hn hb _=>?_
 subst hn
 have hb' : rows.length * 24 ≤ 140737488355328:=hb
 have c_codewrightref09_Check:=fun {nm cm n c : Nat} {pm ps : Option Addr}=>S_codewrightref09_Check (P:=P) (M:=M) (N:=N) (md:=md) (rows:=rows) (nm:=nm) (cm:=cm) (n:=n) (c:=c) (pm:=pm) (ps:=ps) hN rfl
 rw [sfE] at he
 by_cases hc : chkF P M md
 ·rw [if_neg (fun h=>h hc)] at he
  have hk : mkE P M md N rows = mtE N rows (P.toNat ^ M.toNat):=by rw [mkE,if_neg (fun h=>h hc)]
  rw [hk] at c_codewrightref09_Check
  obtain ⟨p,m,rfl,rfl,K⟩:=chk_ok hc
  rw [Int.toNat_natCast,Int.toNat_natCast] at he c_codewrightref09_Check
  have hr:=mtE_rng N rows (p ^ m)
  rw [spE] at he
  by_cases h0 : mtE N rows (p ^ m) = 0
  ·rw [if_neg (by omega)] at he
   rw [h0] at c_codewrightref09_Check
   obtain ⟨k,rfl,hk,hl,hM⟩:=mtE_of h0
   rw [Int.toNat_natCast] at he
   have c_codewrightref09_Canon:=fun {nm cm c : Nat} {pm ps : Option Addr}=>S_codewrightref09_Canon (nm:=nm) (cm:=cm) (pm:=pm) (ps:=ps) (c:=c) (n:=rows.length) K (by omega) (show k ≤ 1000000 by omega) rfl hM
   by_cases hcn : (cnP p m md k rows).1 = rows
   ·rw [if_pos hcn] at he
    subst he
    have hd : decide ((cnP p m md k rows).1 = rows) = true:=decide_eq_true hcn
    refine j_nf [_,_] rfl (j_step rfl (x_box_agg rfl fun b1=>?_))
    refine j_step rfl (x_box_agg rfl fun b2=>?_)
    refine j_run it 1 rfl (by simp) ?_
    refine j_nf [_,_] rfl (j_step rfl (x_bld_all 1 rfl rfl ld24 rfl ?_))
    refine j_step rfl (x_bld_all 0 rfl rfl ld70 rfl ?_)
    refine j_step rfl (x_call [0,1] rfl (c_codewrightref09_Check) rfl ?_)
    rintro _ _ _ ⟨rfl,rfl,rfl⟩
    simp only [List.cons_append,List.nil_append]
    refine j_run it 1 rfl (by simp) ?_
    refine j_nf [_,_,_] rfl (j_run it 2 rfl (by simp) ?_)
    refine j_nf [_,_] rfl (j_ifn rfl rfl (fun h1=>by exfalso;omega) (fun h1=>?_))
    refine j_nf [_,_] rfl (j_step rfl (x_bld_all 1 rfl rfl ld24 rfl ?_))
    refine j_step rfl (x_field rfl fd70_1 ?_)
    refine j_step rfl (x_bld 0 rfl rfl ld25 rfl ?_)
    refine j_step rfl (x_field rfl fd70_0 ?_)
    refine j_step rfl (x_bld 0 rfl rfl ld3 rfl ?_)
    refine j_step rfl (x_call [0,1] rfl (c_codewrightref09_Canon) rfl ?_)
    rintro _ _ _ ⟨pb1,pp1,cb1,cp1,rfl,rfl,rfl⟩
    simp only [List.cons_append,List.nil_append]
    simp only [decide_true]
    refine j_run it 5 rfl (by simp) ?_
    refine j_nf [_,_,_] rfl (j_run it 1 rfl (by simp) ?_)
    refine j_step rfl (x_field rfl fd70_1 ?_)
    refine j_step rfl (x_bld 0 rfl rfl ld25 rfl ?_)
    refine j_step rfl (x_call [0,3] rfl (S_codewrightref09_SameRows (by omega)) rfl ?_)
    rintro _ _ _ ⟨rfl,rfl,rfl⟩
    simp only [List.cons_append,List.nil_append]
    refine j_run it 1 rfl (by simp) ?_
    refine j_nf [_,_] rfl ?_
    refine j_false rfl rfl ?_
    refine j_nf [_,_] rfl (j_run it 1 rfl (by simp) ?_)
    refine j_nf [_] rfl ?_
    refine j_giv [] rfl rfl rfl ⟨rfl,rfl,rfl⟩
   ·rw [if_neg hcn] at he
    subst he
    have hd : decide ((cnP p m md k rows).1 = rows) = false:=decide_eq_false hcn
    refine j_nf [_,_] rfl (j_step rfl (x_box_agg rfl fun b1=>?_))
    refine j_step rfl (x_box_agg rfl fun b2=>?_)
    refine j_run it 1 rfl (by simp) ?_
    refine j_nf [_,_] rfl (j_step rfl (x_bld_all 1 rfl rfl ld24 rfl ?_))
    refine j_step rfl (x_bld_all 0 rfl rfl ld70 rfl ?_)
    refine j_step rfl (x_call [0,1] rfl (c_codewrightref09_Check) rfl ?_)
    rintro _ _ _ ⟨rfl,rfl,rfl⟩
    simp only [List.cons_append,List.nil_append]
    refine j_run it 1 rfl (by simp) ?_
    refine j_nf [_,_,_] rfl (j_run it 2 rfl (by simp) ?_)
    refine j_nf [_,_] rfl (j_ifn rfl rfl (fun h1=>by exfalso;omega) (fun h1=>?_))
    refine j_nf [_,_] rfl (j_step rfl (x_bld_all 1 rfl rfl ld24 rfl ?_))
    refine j_step rfl (x_field rfl fd70_1 ?_)
    refine j_step rfl (x_bld 0 rfl rfl ld25 rfl ?_)
    refine j_step rfl (x_field rfl fd70_0 ?_)
    refine j_step rfl (x_bld 0 rfl rfl ld3 rfl ?_)
    refine j_step rfl (x_call [0,1] rfl (c_codewrightref09_Canon) rfl ?_)
    rintro _ _ _ ⟨pb1,pp1,cb1,cp1,rfl,rfl,rfl⟩
    simp only [List.cons_append,List.nil_append]
    simp only [decide_true]
    refine j_run it 5 rfl (by simp) ?_
    refine j_nf [_,_,_] rfl (j_run it 1 rfl (by simp) ?_)
    refine j_step rfl (x_field rfl fd70_1 ?_)
    refine j_step rfl (x_bld 0 rfl rfl ld25 rfl ?_)
    refine j_step rfl (x_call [0,3] rfl (S_codewrightref09_SameRows (by omega)) rfl ?_)
    rintro _ _ _ ⟨rfl,rfl,rfl⟩
    simp only [List.cons_append,List.nil_append]
    refine j_run it 1 rfl (by simp) ?_
    refine j_nf [_,_] rfl ?_
    refine j_true rfl rfl ?_
    refine j_nf [_,_,_] rfl (j_run it 1 rfl (by simp) ?_)
    refine j_nf [_,_] rfl ?_
    refine j_giv [] rfl rfl rfl ⟨rfl,rfl,rfl⟩
  ·rw [if_pos h0] at he
   subst he
   refine j_nf [_,_] rfl (j_step rfl (x_box_agg rfl fun b1=>?_))
   refine j_step rfl (x_box_agg rfl fun b2=>?_)
   refine j_run it 1 rfl (by simp) ?_
   refine j_nf [_,_] rfl (j_step rfl (x_bld_all 1 rfl rfl ld24 rfl ?_))
   refine j_step rfl (x_bld_all 0 rfl rfl ld70 rfl ?_)
   refine j_step rfl (x_call [0,1] rfl (c_codewrightref09_Check) rfl ?_)
   rintro _ _ _ ⟨rfl,rfl,rfl⟩
   simp only [List.cons_append,List.nil_append]
   refine j_run it 1 rfl (by simp) ?_
   refine j_nf [_,_,_] rfl (j_run it 2 rfl (by simp) ?_)
   refine j_nf [_,_] rfl (j_ifn rfl rfl (fun h1=>?_) (fun h1=>by exfalso;omega))
   refine j_nf [_,_,_] rfl (j_run it 2 rfl (by simp) ?_)
   refine j_nf [_,_] rfl ?_
   refine j_giv [] rfl rfl rfl ⟨rfl,rfl,rfl⟩
 ·rw [if_pos hc] at he
  subst he
  have hk : mkE P M md N rows = 1:=by rw [mkE,if_pos hc]
  rw [hk] at c_codewrightref09_Check
  refine j_nf [_,_] rfl (j_step rfl (x_box_agg rfl fun b1=>?_))
  refine j_step rfl (x_box_agg rfl fun b2=>?_)
  refine j_run it 1 rfl (by simp) ?_
  refine j_nf [_,_] rfl (j_step rfl (x_bld_all 1 rfl rfl ld24 rfl ?_))
  refine j_step rfl (x_bld_all 0 rfl rfl ld70 rfl ?_)
  refine j_step rfl (x_call [0,1] rfl (c_codewrightref09_Check) rfl ?_)
  rintro _ _ _ ⟨rfl,rfl,rfl⟩
  simp only [List.cons_append,List.nil_append]
  refine j_run it 1 rfl (by simp) ?_
  refine j_nf [_,_,_] rfl (j_run it 2 rfl (by simp) ?_)
  refine j_nf [_,_] rfl (j_ifn rfl rfl (fun h1=>?_) (fun h1=>by exfalso;omega))
  refine j_nf [_,_,_] rfl (j_run it 2 rfl (by simp) ?_)
  refine j_nf [_,_] rfl ?_
  refine j_giv [] rfl rfl rfl ⟨rfl,rfl,rfl⟩
theorem S_codewrightref12_Check {P M N e : Int} {pm ps : Option Addr} {nm cm n c : Nat} {md : List Int} {rows : List (List Int)} (hN : InR .i64 N) (h : ckE P M md N rows = e) :
  Ctr Try.prog 21 [.agg #[.int .i64 P,.int .i64 M,.slice pm nm cm,.int .i64 N,.slice ps n c]] [] [slF I64 pm nm cm md,slF (encSl I64) ps n c rows] (Rv (.int .i64 e) []):=by
 refine Ctr_of_j' (F:=F_codewrightref12_Check) rfl fun C=>?_
 rw [ckE] at h
 by_cases hc : chkF P M md
 ·rw [if_neg (fun h=>h hc)] at h
  have c_codewrightref04_Check:=fun {pm : Option Addr} {nm cm : Nat}=>S_codewrightref04_Check (P:=P) (M:=M) (md:=md) (pm:=pm) (nm:=nm) (cm:=cm) (if_pos hc).symm
  have hs : sfE P M md N rows = spE P.toNat M.toNat md N rows:=by rw [sfE,if_neg (fun h=>h hc)]
  by_cases h1 : N < 1
  ·rw [if_pos (.inl h1)] at h
   subst h
   refine j_nf [_,_] rfl (j_step rfl (x_box_agg rfl fun b1=>?_))
   refine j_run it 1 rfl (by simp) ?_
   refine j_nf [_,_] rfl (j_step rfl (x_field rfl fd27_0 ?_))
   refine j_step rfl (x_bld_agg 0 rfl rfl ld24 rfl rfl ?_)
   refine j_step rfl (x_call [0] rfl (c_codewrightref04_Check) rfl ?_)
   rintro _ _ _ ⟨rfl,rfl,rfl⟩
   simp only [List.cons_append,List.nil_append]
   refine j_run it 1 rfl (by simp) ?_
   refine j_nf [_,_,_] rfl (j_run it 2 rfl (by simp) ?_)
   refine j_nf [_,_] rfl (j_ifn rfl rfl (fun h2=>by exfalso;omega) (fun h2=>?_))
   refine j_nf [_,_,_] rfl (j_step rfl (x_field rfl fd27_1 ?_))
   refine j_step rfl (x_bld 0 rfl rfl ld3 rfl ?_)
   refine j_run it 2 rfl (by simp) ?_
   refine j_split_dec (t:=13) rfl (fun h3=>?_) (fun h3=>by exfalso;omega)
   refine j_run it 4 rfl (by simp) ?_
   refine j_nf [_,_] rfl ?_
   refine j_true rfl rfl ?_
   refine j_nf [_,_,_] rfl (j_run it 1 rfl (by simp) ?_)
   refine j_nf [_,_] rfl ?_
   refine j_giv [] rfl rfl rfl ⟨rfl,rfl,rfl⟩
  ·by_cases h2 : 64 < N
   ·rw [if_pos (.inr h2)] at h
    subst h
    refine j_nf [_,_] rfl (j_step rfl (x_box_agg rfl fun b1=>?_))
    refine j_run it 1 rfl (by simp) ?_
    refine j_nf [_,_] rfl (j_step rfl (x_field rfl fd27_0 ?_))
    refine j_step rfl (x_bld_agg 0 rfl rfl ld24 rfl rfl ?_)
    refine j_step rfl (x_call [0] rfl (c_codewrightref04_Check) rfl ?_)
    rintro _ _ _ ⟨rfl,rfl,rfl⟩
    simp only [List.cons_append,List.nil_append]
    refine j_run it 1 rfl (by simp) ?_
    refine j_nf [_,_,_] rfl (j_run it 2 rfl (by simp) ?_)
    refine j_nf [_,_] rfl (j_ifn rfl rfl (fun h3=>by exfalso;omega) (fun h3=>?_))
    refine j_nf [_,_,_] rfl (j_step rfl (x_field rfl fd27_1 ?_))
    refine j_step rfl (x_bld 0 rfl rfl ld3 rfl ?_)
    refine j_run it 2 rfl (by simp) ?_
    refine j_split_dec (t:=13) rfl (fun h4=>by exfalso;omega) (fun h4=>?_)
    refine j_gstep rfl rfl (x_field rfl fd27_1 ?_)
    refine j_gstep rfl rfl (x_bld 0 rfl rfl ld3 rfl ?_)
    refine j_run it 2 rfl (by simp) ?_
    refine j_nf [_,_] rfl (j_if rfl rfl (fun h5=>?_) (fun h5=>by exfalso;omega))
    refine j_nf [_,_,_] rfl (j_run it 1 rfl (by simp) ?_)
    refine j_nf [_,_] rfl ?_
    refine j_giv [] rfl rfl rfl ⟨rfl,rfl,rfl⟩
   ·rw [if_neg (by omega),← hs] at h
    have c_codewrightref10_Check:=fun {nm cm n c : Nat} {pm ps : Option Addr}=>S_codewrightref10_Check (nm:=nm) (cm:=cm) (n:=n) (c:=c) (pm:=pm) (ps:=ps) hN h
    refine j_nf [_,_] rfl (j_step rfl (x_box_agg rfl fun b1=>?_))
    refine j_run it 1 rfl (by simp) ?_
    refine j_nf [_,_] rfl (j_step rfl (x_field rfl fd27_0 ?_))
    refine j_step rfl (x_bld_agg 0 rfl rfl ld24 rfl rfl ?_)
    refine j_step rfl (x_call [0] rfl (c_codewrightref04_Check) rfl ?_)
    rintro _ _ _ ⟨rfl,rfl,rfl⟩
    simp only [List.cons_append,List.nil_append]
    refine j_run it 1 rfl (by simp) ?_
    refine j_nf [_,_,_] rfl (j_run it 2 rfl (by simp) ?_)
    refine j_nf [_,_] rfl (j_ifn rfl rfl (fun h3=>by exfalso;omega) (fun h3=>?_))
    refine j_nf [_,_,_] rfl (j_step rfl (x_field rfl fd27_1 ?_))
    refine j_step rfl (x_bld 0 rfl rfl ld3 rfl ?_)
    refine j_run it 2 rfl (by simp) ?_
    refine j_split_dec (t:=13) rfl (fun h4=>by exfalso;omega) (fun h4=>?_)
    refine j_gstep rfl rfl (x_field rfl fd27_1 ?_)
    refine j_gstep rfl rfl (x_bld 0 rfl rfl ld3 rfl ?_)
    refine j_run it 2 rfl (by simp) ?_
    refine j_nf [_,_] rfl (j_if rfl rfl (fun h5=>by exfalso;omega) (fun h5=>?_))
    refine j_nf [_,_] rfl (j_step rfl (x_field rfl fd27_0 ?_))
    refine j_step rfl (x_bld_agg 0 rfl rfl ld24 rfl rfl ?_)
    refine j_step rfl (x_field rfl fd27_1 ?_)
    refine j_step rfl (x_bld 0 rfl rfl ld3 rfl ?_)
    refine j_step rfl (x_field rfl fd27_2 ?_)
    refine j_step rfl (x_bld 0 rfl rfl ld25 rfl ?_)
    refine j_step rfl (x_build (cs:=[Value.int IntKind.i64 N,Value.slice ps n c]) st70 zo70 rfl rfl ?_)
    refine j_step rfl (x_call [0,1] rfl (c_codewrightref10_Check) rfl ?_)
    rintro _ _ _ ⟨rfl,rfl,rfl⟩
    simp only [List.cons_append,List.nil_append]
    simp only [decide_true]
    refine j_run it 1 rfl (by simp) ?_
    refine j_nf [_] rfl ?_
    refine j_giv [] rfl rfl rfl ⟨rfl,rfl,rfl⟩
 ·rw [if_pos hc] at h
  subst h
  have c_codewrightref04_Check:=fun {pm : Option Addr} {nm cm : Nat}=>S_codewrightref04_Check (P:=P) (M:=M) (md:=md) (pm:=pm) (nm:=nm) (cm:=cm) (if_neg hc).symm
  refine j_nf [_,_] rfl (j_step rfl (x_box_agg rfl fun b1=>?_))
  refine j_run it 1 rfl (by simp) ?_
  refine j_nf [_,_] rfl (j_step rfl (x_field rfl fd27_0 ?_))
  refine j_step rfl (x_bld_agg 0 rfl rfl ld24 rfl rfl ?_)
  refine j_step rfl (x_call [0] rfl (c_codewrightref04_Check) rfl ?_)
  rintro _ _ _ ⟨rfl,rfl,rfl⟩
  simp only [List.cons_append,List.nil_append]
  refine j_run it 1 rfl (by simp) ?_
  refine j_nf [_,_,_] rfl (j_run it 2 rfl (by simp) ?_)
  refine j_nf [_,_] rfl (j_ifn rfl rfl (fun h1=>?_) (fun h1=>by exfalso;omega))
  refine j_nf [_,_,_] rfl (j_run it 2 rfl (by simp) ?_)
  refine j_nf [_,_] rfl ?_
  refine j_giv [] rfl rfl rfl ⟨rfl,rfl,rfl⟩
theorem S_codewrightref53_In {ps : Option Addr} {n c : Nat} {x : Int} {l : List Int} {res : Bool} (hr : decide (x ∈ l) = res) : Ctr Try.prog 45 [.slice ps n c,.int .i64 x] [] [slF I64 ps n c l] (Rv (.bool res) []):=by
 refine Ctr_of_j' (F:=F_codewrightref53_In) rfl fun C=>?_
 subst hr
 refine j_len 0 rfl fun hn hb _=>?_
 subst hn
 have hb' : l.length * 8 ≤ 140737488355328:=hb
 refine j_nf [_,_] rfl (j_run it 1 rfl (by simp) ?_)
 refine j_nf [_,_,_] rfl (j_run it 1 rfl (by simp) ?_)
 refine j_nf [_,_,_] rfl ?_
 refine j_loopG (X:=Nat) [0,1] [0] (fun i=>[(5,.int .i64 (i : Int))]) (fun _=>[]) (fun _=>[]) (fun i=>i ≤ l.length ∧ ∀ y ∈ l.take i,x ≠ y) (fun i=>l.length - i) 0 [] rfl rfl rfl ⟨Nat.zero_le _,fun j h=>by simp at h⟩ (by repeat (first | exact Fr.sub_nil _ | refine Fr.sub_cons rfl ?_)) rfl rfl ?_
 rintro i ⟨hi,hno⟩ ih
 simp only [List.cons_append,List.nil_append] at hi ih ⊢
 by_cases h9 : i < l.length
 ·obtain ⟨y,at_y⟩ : ∃ y,l[i]? = some y:=⟨_,List.getElem?_eq_getElem h9⟩
  by_cases h8 : y = x
  ·subst h8
   rw [decide_eq_true (List.mem_of_getElem? at_y)]
   refine j_nf [_,_,_,_,_,_] rfl (j_run it 2 rfl (by simp) ?_)
   refine j_step rfl (x_len sl22 rfl ?_)
   refine j_run it 1 rfl (by simp) ?_
   refine j_nf [_,_,_,_,_] rfl (j_if rfl rfl (fun h1=>?_) (fun h1=>by exfalso;omega))
   refine j_nf [_,_,_,_,_,_,_] rfl (j_run it 2 rfl (by simp) ?_)
   refine j_step rfl (x_idx 0 (i) rfl rfl rfl sl22 rfl (by omega) fun z1 hz1 b1 o1=>?_)
   obtain rfl : _ = z1:=Option.some.inj (at_y.symm.trans hz1)
   refine j_step rfl (x_ld_int 0 rfl rfl ld3 fun ⟨r1,r2⟩=>?_)
   refine j_run it 2 rfl (by simp) ?_
   refine j_nf [_,_,_,_,_,_] rfl (j_if rfl rfl (fun h2=>?_) (fun h2=>by exfalso;omega))
   refine j_nf [_,_,_,_,_,_,_] rfl (j_run it 1 rfl (by simp) ?_)
   refine j_nf [_,_,_,_,_,_] rfl ?_
   refine j_giv [] rfl rfl rfl ⟨rfl,rfl,rfl⟩
  ·refine j_nf [_,_,_,_,_,_] rfl (j_run it 2 rfl (by simp) ?_)
   refine j_step rfl (x_len sl22 rfl ?_)
   refine j_run it 1 rfl (by simp) ?_
   refine j_nf [_,_,_,_,_] rfl (j_if rfl rfl (fun h1=>?_) (fun h1=>by exfalso;omega))
   refine j_nf [_,_,_,_,_,_,_] rfl (j_run it 2 rfl (by simp) ?_)
   refine j_step rfl (x_idx 0 (i) rfl rfl rfl sl22 rfl (by omega) fun z1 hz1 b1 o1=>?_)
   obtain rfl : _ = z1:=Option.some.inj (at_y.symm.trans hz1)
   refine j_step rfl (x_ld_int 0 rfl rfl ld3 fun ⟨r1,r2⟩=>?_)
   refine j_run it 2 rfl (by simp) ?_
   refine j_nf [_,_,_,_,_,_] rfl (j_if rfl rfl (fun h2=>by exfalso;omega) (fun h2=>?_))
   refine j_nf [_,_,_,_] rfl (j_run it 3 rfl ⟨trivial,⟨by omega,by omega⟩,trivial,trivial⟩ ?_)
   refine j_nfn 1 [.lp [1,0,1,0,0],.blk 0,.c [1,1]] rfl ?_
   refine j_to [1] (by exact fra rfl) rfl rfl (ih (i + 1) (by omega) ⟨by omega,tk_all at_y hno fun e=>h8 e.symm⟩)
 ·rw [decide_eq_false fun hm=>hno x (by rwa [List.take_of_length_le (by omega)]) rfl]
  refine j_nf [_,_,_,_,_,_] rfl (j_run it 2 rfl (by simp) ?_)
  refine j_step rfl (x_len sl22 rfl ?_)
  refine j_run it 1 rfl (by simp) ?_
  refine j_nf [_,_,_,_,_] rfl (j_if rfl rfl (fun h1=>by exfalso;omega) (fun h1=>?_))
  refine j_nf [_,_] rfl (j_run it 1 rfl (by simp) ?_)
  refine j_nf [_] rfl ?_
  refine j_giv [] rfl rfl rfl ⟨rfl,rfl,rfl⟩
theorem S_codewrightref53_Meet {pa pb : Option Addr} {na ca nb cb : Nat} {k l : List Int} {res : Bool} (hr : (k.any fun x=>decide (x ∈ l)) = res) : Ctr Try.prog 18 [.slice pa na ca,.slice pb nb cb] [] [slF I64 pa na ca k,slF I64 pb nb cb l] (Rv (.bool res) []):=by
 refine Ctr_of_j' (F:=F_codewrightref53_Meet) rfl fun C=>?_
 subst hr
 refine j_len 0 rfl fun hn hb _=>?_
 subst hn
 have hb' : k.length * 8 ≤ 140737488355328:=hb
 refine j_nf [_,_] rfl (j_run it 1 rfl (by simp) ?_)
 refine j_nf [_,_,_] rfl (j_run it 1 rfl (by simp) ?_)
 refine j_nf [_,_,_] rfl ?_
 refine j_loopG (X:=Nat) [0,1] [0,1] (fun i=>[(5,.int .i64 (i : Int))]) (fun _=>[]) (fun _=>[]) (fun i=>i ≤ k.length ∧ ∀ y ∈ k.take i,y ∉ l) (fun i=>k.length - i) 0 [] rfl rfl rfl ⟨Nat.zero_le _,fun j h=>by simp at h⟩ (by repeat (first | exact Fr.sub_nil _ | refine Fr.sub_cons rfl ?_)) rfl rfl ?_
 rintro i ⟨hi,hno⟩ ih
 simp only [List.cons_append,List.nil_append] at hi ih ⊢
 by_cases h9 : i < k.length
 ·obtain ⟨y,at_y⟩ : ∃ y,k[i]? = some y:=⟨_,List.getElem?_eq_getElem h9⟩
  by_cases h8 : y ∈ l
  ·have hd : decide (y ∈ l) = true:=decide_eq_true h8
   rw [List.any_eq_true.2 ⟨y,List.mem_of_getElem? at_y,hd⟩]
   refine j_nf [_,_,_,_,_,_] rfl (j_run it 2 rfl (by simp) ?_)
   refine j_step rfl (x_len sl22 rfl ?_)
   refine j_run it 1 rfl (by simp) ?_
   refine j_nf [_,_,_,_,_] rfl (j_if rfl rfl (fun h1=>?_) (fun h1=>by exfalso;omega))
   refine j_nf [_,_,_,_,_,_,_] rfl (j_run it 3 rfl (by simp) ?_)
   refine j_step rfl (x_idx 0 (i) rfl rfl rfl sl22 rfl (by omega) fun z1 hz1 b1 o1=>?_)
   obtain rfl : _ = z1:=Option.some.inj (at_y.symm.trans hz1)
   refine j_step rfl (x_ld_int 0 rfl rfl ld3 fun ⟨r1,r2⟩=>?_)
   refine j_step rfl (x_call [2] rfl (S_codewrightref53_In (by omega)) rfl ?_)
   rintro _ _ _ ⟨rfl,rfl,rfl⟩
   simp only [List.cons_append,List.nil_append]
   refine j_nf [_,_,_,_,_,_] rfl ?_
   refine j_true rfl rfl ?_
   refine j_nf [_,_,_,_,_,_,_] rfl (j_run it 1 rfl (by simp) ?_)
   refine j_nf [_,_,_,_,_,_] rfl ?_
   refine j_giv [] rfl rfl rfl ⟨rfl,rfl,rfl⟩
  ·have hd : decide (y ∈ l) = false:=decide_eq_false h8
   refine j_nf [_,_,_,_,_,_] rfl (j_run it 2 rfl (by simp) ?_)
   refine j_step rfl (x_len sl22 rfl ?_)
   refine j_run it 1 rfl (by simp) ?_
   refine j_nf [_,_,_,_,_] rfl (j_if rfl rfl (fun h1=>?_) (fun h1=>by exfalso;omega))
   refine j_nf [_,_,_,_,_,_,_] rfl (j_run it 3 rfl (by simp) ?_)
   refine j_step rfl (x_idx 0 (i) rfl rfl rfl sl22 rfl (by omega) fun z1 hz1 b1 o1=>?_)
   obtain rfl : _ = z1:=Option.some.inj (at_y.symm.trans hz1)
   refine j_step rfl (x_ld_int 0 rfl rfl ld3 fun ⟨r1,r2⟩=>?_)
   refine j_step rfl (x_call [2] rfl (S_codewrightref53_In (by omega)) rfl ?_)
   rintro _ _ _ ⟨rfl,rfl,rfl⟩
   simp only [List.cons_append,List.nil_append]
   refine j_nf [_,_,_,_,_,_] rfl ?_
   refine j_false rfl rfl ?_
   refine j_nf [_,_,_,_] rfl (j_run it 3 rfl ⟨trivial,⟨by omega,by omega⟩,trivial,trivial⟩ ?_)
   refine j_nfn 1 [.lp [1,0,1,0,0],.blk 0,.c [1,1]] rfl ?_
   refine j_to [1,2] (by exact fra rfl) rfl rfl (ih (i + 1) (by omega) ⟨by omega,tk_all at_y hno h8⟩)
 ·rw [show (k.any fun x=>decide (x ∈ l)) = false from List.any_eq_false.2 fun y hy=>by
   have:=hno y (by rwa [List.take_of_length_le (by omega)])
   simpa using this]
  refine j_nf [_,_,_,_,_,_] rfl (j_run it 2 rfl (by simp) ?_)
  refine j_step rfl (x_len sl22 rfl ?_)
  refine j_run it 1 rfl (by simp) ?_
  refine j_nf [_,_,_,_,_] rfl (j_if rfl rfl (fun h1=>by exfalso;omega) (fun h1=>?_))
  refine j_nf [_,_] rfl (j_run it 1 rfl (by simp) ?_)
  refine j_nf [_] rfl ?_
  refine j_giv [] rfl rfl rfl ⟨rfl,rfl,rfl⟩
noncomputable def setsE (P M : Int) (md : List Int) (N : Int) (rows : List (List Int)) (ls : List (List Int)) : Int:=if ckE P M md N rows ≠ 0 then ckE P M md N rows else if ∀ l ∈ ls,stP N l then 0 else 5
theorem S_codewrightref53_Sets {P M N e : Int} {pm ps pl : Option Addr} {nm cm n c nl cl : Nat} {md : List Int} {rows ls : List (List Int)} (hN : InR .i64 N) (h : setsE P M md N rows ls = e) :
  Ctr Try.prog 17 [.agg #[.int .i64 P,.int .i64 M,.slice pm nm cm,.int .i64 N,.slice ps n c],.slice pl nl cl] [] [slF I64 pm nm cm md,slF (encSl I64) ps n c rows,slF (encSl I64) pl nl cl ls] (Rv (.int .i64 e) []):=by
 refine Ctr_of_j' (F:=F_codewrightref53_Sets) rfl fun C=>?_
 refine j_len 2 rfl fun hn hb _=>?_
 subst hn
 have hb' : ls.length * 24 ≤ 140737488355328:=hb
 have hr:=ckE_rng P M md N rows
 have c_codewrightref12_Check:=fun {pm ps : Option Addr} {nm cm n c : Nat}=>S_codewrightref12_Check (pm:=pm) (ps:=ps) (nm:=nm) (cm:=cm) (n:=n) (c:=c) (P:=P) (M:=M) (N:=N) (md:=md) (rows:=rows) hN rfl
 rw [setsE] at h
 by_cases h0 : ckE P M md N rows = 0
 ·rw [if_neg (fun e=>e h0)] at h
  rw [h0] at c_codewrightref12_Check
  refine j_nf [_,_] rfl ?_
  refine j_step rfl (x_box_agg rfl fun b1=>?_)
  refine j_run it 1 rfl (by simp) ?_
  refine j_nf [_,_] rfl ?_
  refine j_step rfl (x_bld_all 0 rfl rfl ld27 rfl ?_)
  refine j_step rfl (x_call [0,1] rfl (c_codewrightref12_Check) rfl ?_)
  rintro _ _ _ ⟨rfl,rfl,rfl⟩
  simp only [List.cons_append,List.nil_append]
  refine j_run it 1 rfl (by simp) ?_
  refine j_nf [_,_,_] rfl ?_
  refine j_run it 1 rfl (by simp) ?_
  refine j_nf [_,_,_] rfl ?_
  refine j_loopG (X:=Nat × Int) [1,2,4] [0,1,2] (fun i=>[(6,.int .i64 (i.1 : Int)),(5,.int .i64 i.2)]) (fun _=>_) (fun _=>[]) (fun i=>i.1 ≤ ls.length ∧ (i.2 = 0 ∧ (∀ l ∈ ls.take i.1,stP N l) ∨ i.2 = 5 ∧ e = 5)) (fun i=>ls.length - i.1) (0,0) [] rfl rfl rfl ⟨Nat.zero_le _,.inl ⟨rfl,fun x h=>by simp at h⟩⟩ (by repeat (first | exact Fr.sub_nil _ | refine Fr.sub_cons rfl ?_)) rfl rfl ?_
  rintro ⟨i,e2⟩ ⟨hi,hno⟩ ih
  simp only [List.cons_append,List.nil_append] at hi hno ih ⊢
  rcases hno with ⟨rfl,hno⟩ | ⟨rfl,rfl⟩
  ·by_cases h9 : i < ls.length
   ·obtain ⟨l,hl⟩ : ∃ l,ls[i]? = some l:=⟨_,List.getElem?_eq_getElem h9⟩
    have el:=gd_at hl
    by_cases h8 : stP N l
    ·have hd : decide (stP N (ls.getD i default)) = true:=by rw [el];exact decide_eq_true h8
     refine j_nf [_,_,_,_,_,_] rfl ?_
     refine j_run it 2 rfl (by simp) ?_
     refine j_step rfl (x_len sl25 rfl ?_)
     refine j_run it 2 rfl (by simp) ?_
     refine j_split_dec (t:=13) rfl (fun h1=>?_) (fun h1=>by exfalso;omega)
     refine j_run it 3 rfl (by simp) ?_
     refine j_nf [_,_,_,_,_] rfl ?_
     refine j_if rfl rfl (fun h2=>?_) (fun h2=>by exfalso;omega)
     refine j_nf [_,_,_,_,_,_,_] rfl ?_
     (apply j_drawK it mx 8;(· rfl);(· rfl))
     (apply lxk_eq;(· rfl);(· exact d_x fun _=>x_field rfl fd27_1 dk_eq))
     (apply lxk_eq;(· rfl);(· exact d_bld 0 rfl rfl ld3 rfl))
     (apply lxk_run 2;(· rfl);(· simp))
     (apply lxk_pt;(· rfl);(· exact d_x fun _=>x_idx 2 (i) rfl rfl rfl sl25 rfl (by omega) fun z1 hz1 b2 o1=>(dk_ptD default hz1 0 rfl));intro b2 o1)
     (apply lxk_sl;(· rfl);(· exact d_x fun _=>x_ld_sl 0 rfl rfl ld22 fun pa1 ca1=>(dk_sl 0 rfl));intro pa1 ca1)
     (apply lxk_eq;(· rfl);(· exact d_x fun _=>x_call [0] rfl (S_codewrightref11_IsSubset (by omega)) rfl (by rintro _ _ _ ⟨rfl,rfl,rfl⟩;exact dk_eq)))
     (apply lxk_run 1;(· rfl);(· simp))
     refine lxk_end rfl ?_
     simp only [List.map_cons,List.map_nil,List.cons_append,List.nil_append]
     refine j_nf [_,_,_,_,_,_] rfl ?_
     refine j_false rfl rfl ?_
     refine j_nf [_,_,_,_] rfl ?_
     refine j_run it 3 rfl ⟨trivial,⟨by omega,by omega⟩,trivial,trivial⟩ ?_
     refine j_nfn 1 [.lp (pL 116),.blk 0,.c [1,1,1]] rfl ?_
     refine j_to [2,3,4] (by exact fra rfl) rfl rfl (ih (i + 1,0) (by dsimp only;omega) ⟨by dsimp only;omega,.inl ⟨rfl,tk_all hl hno h8⟩⟩)
    ·have hd : decide (stP N (ls.getD i default)) = false:=by rw [el];exact decide_eq_false h8
     rw [if_neg fun hh=>h8 (hh l (List.mem_of_getElem? hl))] at h
     refine j_nf [_,_,_,_,_,_] rfl ?_
     refine j_run it 2 rfl (by simp) ?_
     refine j_step rfl (x_len sl25 rfl ?_)
     refine j_run it 2 rfl (by simp) ?_
     refine j_split_dec (t:=13) rfl (fun h1=>?_) (fun h1=>by exfalso;omega)
     refine j_run it 3 rfl (by simp) ?_
     refine j_nf [_,_,_,_,_] rfl ?_
     refine j_if rfl rfl (fun h2=>?_) (fun h2=>by exfalso;omega)
     refine j_nf [_,_,_,_,_,_,_] rfl ?_
     (apply j_drawK it mx 8;(· rfl);(· rfl))
     (apply lxk_eq;(· rfl);(· exact d_x fun _=>x_field rfl fd27_1 dk_eq))
     (apply lxk_eq;(· rfl);(· exact d_bld 0 rfl rfl ld3 rfl))
     (apply lxk_run 2;(· rfl);(· simp))
     (apply lxk_pt;(· rfl);(· exact d_x fun _=>x_idx 2 (i) rfl rfl rfl sl25 rfl (by omega) fun z1 hz1 b2 o1=>(dk_ptD default hz1 0 rfl));intro b2 o1)
     (apply lxk_sl;(· rfl);(· exact d_x fun _=>x_ld_sl 0 rfl rfl ld22 fun pa1 ca1=>(dk_sl 0 rfl));intro pa1 ca1)
     (apply lxk_eq;(· rfl);(· exact d_x fun _=>x_call [0] rfl (S_codewrightref11_IsSubset (by omega)) rfl (by rintro _ _ _ ⟨rfl,rfl,rfl⟩;exact dk_eq)))
     (apply lxk_run 1;(· rfl);(· simp))
     refine lxk_end rfl ?_
     simp only [List.map_cons,List.map_nil,List.cons_append,List.nil_append]
     refine j_nf [_,_,_,_,_,_] rfl ?_
     refine j_true rfl rfl ?_
     refine j_nf [_,_,_,_,_,_] rfl ?_
     refine j_run it 1 rfl (by simp) ?_
     refine j_nf [_,_,_,_] rfl ?_
     refine j_run it 3 rfl ⟨trivial,⟨by omega,by omega⟩,trivial,trivial⟩ ?_
     refine j_nfn 1 [.lp (pL 116),.blk 0,.c [1,1,1]] rfl ?_
     refine j_to [2,3,4] (by exact fra rfl) rfl rfl (ih (i + 1,5) (by dsimp only;omega) ⟨by dsimp only;omega,.inr ⟨rfl,h.symm⟩⟩)
   ·rw [if_pos fun l hl=>hno l (by rwa [List.take_of_length_le (by omega)])] at h
    subst h
    refine j_nf [_,_,_,_,_,_] rfl ?_
    refine j_run it 2 rfl (by simp) ?_
    refine j_step rfl (x_len sl25 rfl ?_)
    refine j_run it 2 rfl (by simp) ?_
    refine j_split_dec (t:=13) rfl (fun h1=>by exfalso;omega) (fun h1=>?_)
    refine j_run it 3 rfl (by simp) ?_
    refine j_nf [_,_,_,_,_] rfl ?_
    refine j_false rfl rfl ?_
    refine j_nf [_,_] rfl ?_
    refine j_run it 2 rfl (by simp) ?_
    refine j_nf [_] rfl ?_
    refine j_giv [] rfl rfl rfl ⟨rfl,rfl,rfl⟩
  ·by_cases h9 : i < ls.length
   ·refine j_nf [_,_,_,_,_,_] rfl ?_
    refine j_run it 2 rfl (by simp) ?_
    refine j_step rfl (x_len sl25 rfl ?_)
    refine j_run it 2 rfl (by simp) ?_
    refine j_split_dec (t:=13) rfl (fun h1=>?_) (fun h1=>by exfalso;omega)
    refine j_run it 3 rfl (by simp) ?_
    refine j_nf [_,_,_,_,_] rfl ?_
    refine j_if rfl rfl (fun h2=>by exfalso;omega) (fun h2=>?_)
    refine j_nf [_,_] rfl ?_
    refine j_run it 2 rfl (by simp) ?_
    refine j_nf [_] rfl ?_
    refine j_giv [] rfl rfl rfl ⟨rfl,rfl,rfl⟩
   ·refine j_nf [_,_,_,_,_,_] rfl ?_
    refine j_run it 2 rfl (by simp) ?_
    refine j_step rfl (x_len sl25 rfl ?_)
    refine j_run it 2 rfl (by simp) ?_
    refine j_split_dec (t:=13) rfl (fun h1=>by exfalso;omega) (fun h1=>?_)
    refine j_run it 3 rfl (by simp) ?_
    refine j_nf [_,_,_,_,_] rfl ?_
    refine j_false rfl rfl ?_
    refine j_nf [_,_] rfl ?_
    refine j_run it 2 rfl (by simp) ?_
    refine j_nf [_] rfl ?_
    refine j_giv [] rfl rfl rfl ⟨rfl,rfl,rfl⟩
 ·rw [if_pos h0] at h
  subst h
  refine j_nf [_,_] rfl ?_
  refine j_step rfl (x_box_agg rfl fun b1=>?_)
  refine j_run it 1 rfl (by simp) ?_
  refine j_nf [_,_] rfl ?_
  refine j_step rfl (x_bld_all 0 rfl rfl ld27 rfl ?_)
  refine j_step rfl (x_call [0,1] rfl (c_codewrightref12_Check) rfl ?_)
  rintro _ _ _ ⟨rfl,rfl,rfl⟩
  simp only [List.cons_append,List.nil_append]
  refine j_run it 1 rfl (by simp) ?_
  refine j_nf [_,_,_] rfl ?_
  refine j_run it 1 rfl (by simp) ?_
  refine j_nf [_,_,_] rfl ?_
  refine j_loopG (X:=Unit) [1,2,4] [0,1,2] (fun i=>[(6,.int .i64 0),(5,.int .i64 (ckE P M md N rows))]) (fun _=>_) (fun _=>[]) (fun _=>True) (fun _=>0) () [] rfl rfl rfl trivial (by repeat (first | exact Fr.sub_nil _ | refine Fr.sub_cons rfl ?_)) rfl rfl ?_
  rintro ⟨⟩ - ih
  simp only [List.cons_append,List.nil_append] at ih ⊢
  by_cases h9 : 0 < ls.length
  ·refine j_nf [_,_,_,_,_,_] rfl ?_
   refine j_run it 2 rfl (by simp) ?_
   refine j_step rfl (x_len sl25 rfl ?_)
   refine j_run it 2 rfl (by simp) ?_
   refine j_split_dec (t:=13) rfl (fun h1=>?_) (fun h1=>by exfalso;omega)
   refine j_run it 3 rfl (by simp) ?_
   refine j_nf [_,_,_,_,_] rfl ?_
   refine j_if rfl rfl (fun h2=>by exfalso;omega) (fun h2=>?_)
   refine j_nf [_,_] rfl ?_
   refine j_run it 2 rfl (by simp) ?_
   refine j_nf [_] rfl ?_
   refine j_giv [] rfl rfl rfl ⟨rfl,rfl,rfl⟩
  ·refine j_nf [_,_,_,_,_,_] rfl ?_
   refine j_run it 2 rfl (by simp) ?_
   refine j_step rfl (x_len sl25 rfl ?_)
   refine j_run it 2 rfl (by simp) ?_
   refine j_split_dec (t:=13) rfl (fun h1=>by exfalso;omega) (fun h1=>?_)
   refine j_run it 3 rfl (by simp) ?_
   refine j_nf [_,_,_,_,_] rfl ?_
   refine j_false rfl rfl ?_
   refine j_nf [_,_] rfl ?_
   refine j_run it 2 rfl (by simp) ?_
   refine j_nf [_] rfl ?_
   refine j_giv [] rfl rfl rfl ⟨rfl,rfl,rfl⟩
theorem S_codewrightref53_Pair {P M N e : Int} {n c nm cm nl cl nh ch : Nat} {pm ps pl ph : Option Addr} {md lost hs : List Int} {rows : List (List Int)} (hN : InR .i64 N) (h : pairE P M md N rows lost hs = e) :
  Ctr Try.prog 7 [.agg #[.int .i64 P,.int .i64 M,.slice pm nm cm,.int .i64 N,.slice ps n c],.slice pl nl cl,.slice ph nh ch] [] [slF I64 pm nm cm md,slF (encSl I64) ps n c rows,slF I64 pl nl cl lost,slF I64 ph nh ch hs] (Rv (.int .i64 e) []):=by
 refine Ctr_of_j' (F:=F_codewrightref53_Pair) rfl fun C=>?_
 have hr:=ckE_rng P M md N rows
 have c_codewrightref53_Sets:=fun {pm ps pl : Option Addr} {nm cm n c nl cl : Nat}=>S_codewrightref53_Sets (pm:=pm) (ps:=ps) (nm:=nm) (cm:=cm) (n:=n) (c:=c) (pl:=pl) (nl:=nl) (cl:=cl) (P:=P) (M:=M) (N:=N) (md:=md) (rows:=rows) (ls:=[lost,hs]) hN rfl
 have hse : setsE P M md N rows [lost,hs] = if ckE P M md N rows ≠ 0 then ckE P M md N rows else if stP N lost ∧ stP N hs then 0 else 5:=by
  rw [setsE]
  congr 1
  by_cases h2 : stP N lost ∧ stP N hs
  ·rw [if_pos h2,if_pos fun l hl=>?_]
   rcases List.mem_cons.1 hl with rfl | hl
   ·exact h2.1
   ·rw [List.mem_singleton.1 hl];exact h2.2
  ·rw [if_neg h2,if_neg fun h=>h2 ⟨h _ (.head _),h _ (.tail _ (.head _))⟩]
 rw [pairE] at h
 by_cases h0 : ckE P M md N rows = 0
 ·rw [if_neg (fun e=>e h0)] at h hse
  by_cases h1 : stP N lost ∧ stP N hs
  ·rw [if_neg (fun e=>e h1)] at h
   rw [if_pos h1] at hse
   rw [hse] at c_codewrightref53_Sets
   cases hm : (lost.any fun x=>decide (x ∈ hs)) with
   | true =>
    rw [hm,if_pos rfl] at h
    subst h
    refine j_nf [_,_] rfl (j_step rfl (x_box_agg rfl fun b1=>?_))
    refine j_run it 1 rfl (by simp) ?_
    refine j_nf [_,_] rfl (j_step rfl (x_bld_all 0 rfl rfl ld27 rfl ?_))
    refine j_run it 2 rfl (by simp) ?_
    refine j_step rfl (x_lit sl25 zo25e rfl rfl rfl rfl (by decide) (by decide) rfl fun b2=>?_)
    refine j_pub_all (E:=(encSl (I64))) (n:=2) [[Value.slice pl nl cl],[Value.slice ph nh ch]] [lost,hs] 0 (fun w A hG=>(allrd_cons (rd_of_slF (hG _ (fact_mem (n:=2) rfl))) (allrd_cons (rd_of_slF (hG _ (fact_mem (n:=3) rfl))) allrd_nil))) rfl rfl rfl rfl (by first | decide | exact Nat.le_of_ble_eq_true rfl) (by first | decide | exact Nat.le_of_ble_eq_true rfl) ?_
    refine j_step rfl (x_call [1,2,0] rfl (c_codewrightref53_Sets) rfl ?_)
    rintro _ _ _ ⟨rfl,rfl,rfl⟩
    simp only [List.cons_append,List.nil_append]
    refine j_run it 1 rfl (by simp) ?_
    refine j_nf [_,_,_] rfl (j_run it 5 rfl (by simp) ?_)
    refine j_split_dec (t:=15) rfl (fun h2=>?_) (fun h2=>by exfalso;omega)
    refine j_gstep rfl rfl (x_call [3,4] rfl (S_codewrightref53_Meet (by omega)) rfl ?_)
    rintro _ _ _ ⟨rfl,rfl,rfl⟩
    simp only [List.cons_append,List.nil_append]
    simp only [decide_true]
    refine j_run it 1 rfl (by simp) ?_
    refine j_nf [_,_] rfl ?_
    refine j_true rfl rfl ?_
    refine j_nf [_,_] rfl (j_run it 1 rfl (by simp) ?_)
    refine j_nf [_,_] rfl (j_run it 2 rfl (by simp) ?_)
    refine j_nf [_] rfl ?_
    refine j_giv [] rfl rfl rfl ⟨rfl,rfl,rfl⟩
   | false =>
    rw [hm,if_neg (by simp)] at h
    subst h
    refine j_nf [_,_] rfl (j_step rfl (x_box_agg rfl fun b1=>?_))
    refine j_run it 1 rfl (by simp) ?_
    refine j_nf [_,_] rfl (j_step rfl (x_bld_all 0 rfl rfl ld27 rfl ?_))
    refine j_run it 2 rfl (by simp) ?_
    refine j_step rfl (x_lit sl25 zo25e rfl rfl rfl rfl (by decide) (by decide) rfl fun b2=>?_)
    refine j_pub_all (E:=(encSl (I64))) (n:=2) [[Value.slice pl nl cl],[Value.slice ph nh ch]] [lost,hs] 0 (fun w A hG=>(allrd_cons (rd_of_slF (hG _ (fact_mem (n:=2) rfl))) (allrd_cons (rd_of_slF (hG _ (fact_mem (n:=3) rfl))) allrd_nil))) rfl rfl rfl rfl (by first | decide | exact Nat.le_of_ble_eq_true rfl) (by first | decide | exact Nat.le_of_ble_eq_true rfl) ?_
    refine j_step rfl (x_call [1,2,0] rfl (c_codewrightref53_Sets) rfl ?_)
    rintro _ _ _ ⟨rfl,rfl,rfl⟩
    simp only [List.cons_append,List.nil_append]
    refine j_run it 1 rfl (by simp) ?_
    refine j_nf [_,_,_] rfl (j_run it 5 rfl (by simp) ?_)
    refine j_split_dec (t:=15) rfl (fun h2=>?_) (fun h2=>by exfalso;omega)
    refine j_gstep rfl rfl (x_call [3,4] rfl (S_codewrightref53_Meet (by omega)) rfl ?_)
    rintro _ _ _ ⟨rfl,rfl,rfl⟩
    simp only [List.cons_append,List.nil_append]
    simp only [decide_true]
    refine j_run it 1 rfl (by simp) ?_
    refine j_nf [_,_] rfl ?_
    refine j_false rfl rfl ?_
    refine j_nf [_,_] rfl (j_run it 2 rfl (by simp) ?_)
    refine j_nf [_] rfl ?_
    refine j_giv [] rfl rfl rfl ⟨rfl,rfl,rfl⟩
  ·rw [if_pos h1] at h
   rw [if_neg h1] at hse
   rw [hse] at c_codewrightref53_Sets
   subst h
   refine j_nf [_,_] rfl (j_step rfl (x_box_agg rfl fun b1=>?_))
   refine j_run it 1 rfl (by simp) ?_
   refine j_nf [_,_] rfl (j_step rfl (x_bld_all 0 rfl rfl ld27 rfl ?_))
   refine j_run it 2 rfl (by simp) ?_
   refine j_step rfl (x_lit sl25 zo25e rfl rfl rfl rfl (by decide) (by decide) rfl fun b2=>?_)
   refine j_pub_all (E:=(encSl (I64))) (n:=2) [[Value.slice pl nl cl],[Value.slice ph nh ch]] [lost,hs] 0 (fun w A hG=>(allrd_cons (rd_of_slF (hG _ (fact_mem (n:=2) rfl))) (allrd_cons (rd_of_slF (hG _ (fact_mem (n:=3) rfl))) allrd_nil))) rfl rfl rfl rfl (by first | decide | exact Nat.le_of_ble_eq_true rfl) (by first | decide | exact Nat.le_of_ble_eq_true rfl) ?_
   refine j_step rfl (x_call [1,2,0] rfl (c_codewrightref53_Sets) rfl ?_)
   rintro _ _ _ ⟨rfl,rfl,rfl⟩
   simp only [List.cons_append,List.nil_append]
   refine j_run it 1 rfl (by simp) ?_
   refine j_nf [_,_,_] rfl (j_run it 7 rfl (by simp) ?_)
   refine j_nf [_,_] rfl ?_
   refine j_false rfl rfl ?_
   refine j_nf [_,_] rfl (j_run it 2 rfl (by simp) ?_)
   refine j_nf [_] rfl ?_
   refine j_giv [] rfl rfl rfl ⟨rfl,rfl,rfl⟩
 ·rw [if_pos h0] at h hse
  rw [hse] at c_codewrightref53_Sets
  subst h
  refine j_nf [_,_] rfl (j_step rfl (x_box_agg rfl fun b1=>?_))
  refine j_run it 1 rfl (by simp) ?_
  refine j_nf [_,_] rfl (j_step rfl (x_bld_all 0 rfl rfl ld27 rfl ?_))
  refine j_run it 2 rfl (by simp) ?_
  refine j_step rfl (x_lit sl25 zo25e rfl rfl rfl rfl (by decide) (by decide) rfl fun b2=>?_)
  refine j_pub_all (E:=(encSl (I64))) (n:=2) [[Value.slice pl nl cl],[Value.slice ph nh ch]] [lost,hs] 0 (fun w A hG=>(allrd_cons (rd_of_slF (hG _ (fact_mem (n:=2) rfl))) (allrd_cons (rd_of_slF (hG _ (fact_mem (n:=3) rfl))) allrd_nil))) rfl rfl rfl rfl (by first | decide | exact Nat.le_of_ble_eq_true rfl) (by first | decide | exact Nat.le_of_ble_eq_true rfl) ?_
  refine j_step rfl (x_call [1,2,0] rfl (c_codewrightref53_Sets) rfl ?_)
  rintro _ _ _ ⟨rfl,rfl,rfl⟩
  simp only [List.cons_append,List.nil_append]
  refine j_run it 1 rfl (by simp) ?_
  refine j_nf [_,_,_] rfl (j_run it 3 rfl (by simp) ?_)
  refine j_split_dec (t:=15) rfl (fun h1=>by exfalso;omega) (fun h1=>?_)
  refine j_run it 4 rfl (by simp) ?_
  refine j_nf [_,_] rfl ?_
  refine j_false rfl rfl ?_
  refine j_nf [_,_] rfl (j_run it 2 rfl (by simp) ?_)
  refine j_nf [_] rfl ?_
  refine j_giv [] rfl rfl rfl ⟨rfl,rfl,rfl⟩
abbrev coL (gen : List (List Int)) (hs : List Int) : List (List Int):=hs.map fun j=>colL gen j.toNat
theorem st_len {n : Nat} {l : List Int} (h : stP n l) : l.length ≤ n:=by
 have h1 : (l.map Int.toNat).Nodup:=by
  rw [List.Nodup,List.pairwise_map]
  refine h.2.imp_of_mem fun {a b} ha hb hab e=>?_
  have:=(h.1 a ha).1;have:=(h.1 b hb).1
  omega
 have h2:=nodup_len h1 (l':=List.range n) fun x hx=>by
  obtain ⟨y,hy,rfl⟩:=List.mem_map.1 hx
  have:=h.1 y hy
  exact List.mem_range.2 (by omega)
 rwa [List.length_map,List.length_range] at h2
theorem S_codewrightref53_columns {p m N nm cm n c nh ch : Nat} {pm ps ph : Option Addr} {md hs : List Int} {rows : List (List Int)} (CC : Cok p m md N rows) (hhl : hs.length ≤ 1000000) (hhs : ∀ x ∈ hs,0 ≤ x ∧ x < (N : Int)) :
  Ctr Try.prog 19 [.agg #[.int .i64 p,.int .i64 m,.slice pm nm cm,.int .i64 N,.slice ps n c],.slice ph nh ch] [] [slF (encSl I64) ps n c rows,slF I64 ph nh ch hs]
   (fun v Φ β=>∃ (b cap : Nat) (cs : List Value),v = .slice (some ⟨b,0,none⟩) hs.length cap ∧ Φ = [rowF (encSl I64) ⟨some b,cap,cs⟩ hs.length (coL rows hs)] ∧ β = [(some b,22,cs)]):=by
 refine Ctr_of_j' (F:=F_codewrightref53_columns) rfl fun C=>?_
 have hN:=CC.n64
 refine j_len 1 rfl fun hn hb _=>?_
 subst hn
 have hb' : hs.length * 8 ≤ 140737488355328:=hb
 have c_codewrightref09_Turn:=fun {n c : Nat} {ps : Option Addr}=>S_codewrightref09_Turn (n:=n) (c:=c) (ps:=ps) (N:=N) (W:=N) (rows:=rows) (by omega) (Nat.le_refl N) fun r hr=>(CC.mat r hr).1
 refine j_nf [_,_] rfl (j_step rfl (x_box_agg rfl fun b1=>?_))
 refine j_run it 1 rfl (by simp) ?_
 refine j_nf [_,_] rfl (j_step rfl (x_field rfl fd27_2 ?_))
 refine j_step rfl (x_bld 0 rfl rfl ld25 rfl ?_)
 refine j_step rfl (x_field rfl fd27_1 ?_)
 refine j_step rfl (x_bld 0 rfl rfl ld3 rfl ?_)
 refine j_step rfl (x_call [0] rfl (c_codewrightref09_Turn) rfl ?_)
 rintro _ _ _ ⟨pb1,cb1,rfl,rfl,rfl⟩
 simp only [List.cons_append,List.nil_append]
 refine j_run it 1 rfl (by simp) ?_
 refine j_nf [_,_] rfl (j_step rfl (x_lit0 sl25 fun b2=>?_))
 refine j_run it 1 rfl (by simp) ?_
 refine j_nf [_,_,_] rfl (j_run it 1 rfl (by simp) ?_)
 refine j_nf [_,_,_] rfl ?_
 refine j_rowlit (E:=encSl I64) (n:=0) (cs:=[]) [] [] 0 (fun w A hG=>allrd_nil) rfl rfl rfl rfl (by decide) ?_
 refine j_loopG (X:=Nat × Nat × Nat × List Value) [1,4,5] [0,1,2,3] (fun x=>[(7,.int .i64 (x.1 : Int)),(6,.slice (some ⟨x.2.1,0,none⟩) x.1 x.2.2.1)]) (fun x=>(some x.2.1,22,x.2.2.2)::_) (fun x=>[rowF (encSl I64) ⟨some x.2.1,x.2.2.1,x.2.2.2⟩ x.1 (coL rows (hs.take x.1))]) (fun x=>x.1 ≤ hs.length) (fun x=>hs.length - x.1) (0,b2,0,[]) [0] rfl rfl rfl (Nat.zero_le _) (by repeat (first | exact Fr.sub_nil _ | refine Fr.sub_cons rfl ?_)) rfl rfl ?_
 rintro ⟨k,b,cap,cs⟩ hk ih
 simp only [List.cons_append,List.nil_append] at hk ih ⊢
 by_cases hkn : k < hs.length
 ·obtain ⟨x,at_x⟩ : ∃ x,hs[k]? = some x:=⟨_,List.getElem?_eq_getElem hkn⟩
  obtain ⟨x0,x1⟩:=hhs x (List.mem_of_getElem? at_x)
  have ih':=fun b cap cs=>ih (k + 1,b,cap,cs) (by dsimp only;omega) (by dsimp only;omega)
  simp only [List.take_add_one,at_x,Option.toList_some,List.map_append,List.map_cons,List.map_nil] at ih'
  obtain ⟨x,rfl⟩:=Int.eq_ofNat_of_zero_le x0
  simp only [Int.toNat_natCast] at ih'
  have at_u : (trL N rows)[x]? = some (colL rows x):=by rw [trL,List.getElem?_map,List.getElem?_range (by omega)];rfl
  refine j_nf [_,_,_,_,_,_] rfl (j_run it 2 rfl (by simp) ?_)
  refine j_step rfl (x_len sl22 rfl ?_)
  refine j_run it 1 rfl (by simp) ?_
  refine j_nf [_,_,_,_,_] rfl (j_if rfl rfl (fun h1=>?_) (fun h1=>by exfalso;omega))
  refine j_nf [_,_,_,_,_,_] rfl (j_run it 4 rfl (by simp) ?_)
  refine j_step rfl (x_idx 4 (k) rfl rfl rfl sl22 rfl (by omega) fun z1 hz1 b3 o1=>?_)
  obtain rfl : _ = z1:=Option.some.inj (at_x.symm.trans hz1)
  refine j_step rfl (x_ld_int 0 rfl rfl ld3 fun ⟨r1,r2⟩=>?_)
  refine j_step rfl (x_idx 3 (x) rfl rfl rfl sl25 rfl (by omega) fun z1 hz2 b4 o2=>?_)
  obtain rfl : _ = z1:=Option.some.inj (at_u.symm.trans hz2)
  refine j_step rfl (x_ld_sl 0 rfl rfl ld22 fun pa1 ca1=>?_)
  refine j_step rfl (x_lit sl25 zo25e rfl rfl rfl rfl (by decide) (by decide) rfl fun b5=>?_)
  refine j_step rfl (x_appR (z:=colL rows x) 1 0 3 rfl rfl rfl rfl rfl sl25 zo25e rfl (fun w A hG=>(rd_of_slF (hG _ (fact_mem (n:=0) rfl)))) (by omega) _ by25e (by omega) fun r3=>?_)
  refine j_run it 1 rfl (by simp) ?_
  refine j_nf [_,_,_,_] rfl (j_run it 3 rfl ⟨trivial,⟨by omega,by omega⟩,trivial,trivial⟩ ?_)
  refine j_nfn 1 [.lp (pL 244),.blk 0,.c [1,1,1,1]] rfl ?_
  refine j_rowB 0 rfl (by omega) fun b9 cap9 cs9 hr=>?_
  subst hr
  dsimp only
  refine j_toM [true,false,true] [0,5,6,7,8] (by exact fra rfl) rfl rfl (ih' b9 cap9 cs9)
 ·obtain rfl : k = hs.length:=by omega
  rw [List.take_length]
  clear ih
  refine j_nf [_,_,_,_,_,_] rfl (j_run it 2 rfl (by simp) ?_)
  refine j_step rfl (x_len sl22 rfl ?_)
  refine j_run it 1 rfl (by simp) ?_
  refine j_nf [_,_,_,_,_] rfl (j_if rfl rfl (fun h1=>by exfalso;omega) (fun h1=>?_))
  refine j_nf [_,_] rfl (j_run it 2 rfl (by simp) ?_)
  refine j_nf [_] rfl ?_
  refine j_givK 2 [0] [0] rfl (.tmp rfl .nil) rfl rfl rfl ⟨b,cap,cs,rfl,rfl,rfl⟩
theorem S_codewrightref53_columnsP {p m N nm cm n c nh ch : Nat} {pm ps ph : Option Addr} {md hs : List Int} {rows : List (List Int)} (CC : Cok p m md N rows) (hhl : hs.length ≤ 1000000) (hhs : ∀ x ∈ hs,0 ≤ x ∧ x < (N : Int)) :
  Ctr Try.prog 19 [.agg #[.int .i64 p,.int .i64 m,.slice pm nm cm,.int .i64 N,.slice ps n c],.slice ph nh ch] [] [slF (encSl I64) ps n c rows,slF I64 ph nh ch hs]
   (fun v Φ β=>∃ (pa : Option Addr) (ca : Nat),v = .slice pa hs.length ca ∧ Φ = [slF (encSl I64) pa hs.length ca (coL rows hs)] ∧ β = []) :=
 Ctr.pubR (e:=22) (by show hs.length * 24 ≤ 140737488355328;omega) ((S_codewrightref53_columns (pm:=pm) (nm:=nm) (cm:=cm) CC hhl hhs).mono fun C w v Φ β ⟨b,cap,cs,h1,h2,h3⟩ hO hf=>⟨Φ,β,⟨⟨some b,cap,cs⟩,h1,h2,h3⟩,hO,hf⟩)
theorem S_codewrightref53_Witness {p m n c nm cm N nl cl nh ch : Nat} {pm ps pl ph : Option Addr} {md lost hs : List Int} {rows : List (List Int)} (CC : Cok p m md N rows) (hlo : stP N lost) (hst : stP N hs) :
  Ctr Try.prog 11 [.agg #[.int .i64 p,.int .i64 m,.slice pm nm cm,.int .i64 N,.slice ps n c],.slice pl nl cl,.slice ph nh ch] [] [slF I64 pm nm cm md,slF (encSl I64) ps n c rows,slF I64 pl nl cl lost,slF I64 ph nh ch hs]
   (fun v Φ β=>∃ (pa : Option Addr) (ca : Nat),v = .slice pa ((wtP p m md N rows lost hs).getD []).length ca ∧ Φ = [slF I64 pa ((wtP p m md N rows lost hs).getD []).length ca ((wtP p m md N rows lost hs).getD [])] ∧ β = []):=by
 refine Ctr_of_j' (F:=F_codewrightref53_Witness) rfl fun C=>?_
 have hN:=CC.n64
 have O:=fok_fn CC.K
 have hl2:=st_len hst
 have hl1:=st_len hlo
 have hm1 : Mat (p ^ m) rows.length (coL rows hs):=hs_mat CC hs
 have hlr:=CC.len
 refine j_len 1 rfl fun hn hb _=>?_
 subst hn
 refine j_len 2 rfl fun hn hb2 _=>?_
 subst hn
 have hb' : rows.length * 24 ≤ 140737488355328:=hb
 have c_codewrightref53_columns:=fun {n c nm cm nh ch : Nat} {pm ps ph : Option Addr}=>S_codewrightref53_columnsP (n:=n) (c:=c) (nm:=nm) (cm:=cm) (nh:=nh) (ch:=ch) (pm:=pm) (ps:=ps) (ph:=ph) CC (show hs.length ≤ 1000000 by omega) hst.1
 have c_codewrightref09_Null:=fun {nm cm c n : Nat} {pm ps : Option Addr} (hl : (coL rows hs).length = n)=>S_codewrightref09_Null (nm:=nm) (cm:=cm) (pm:=pm) (ps:=ps) (c:=c) (n:=n) CC.K (show n ≤ 1000000 by rw [← hl,List.length_map];omega) (show rows.length ≤ 1000000 by omega) hl hm1
 have hnum : Mat (p ^ m) rows.length (nuP p m md rows.length (coL rows hs)):=(O.nu hm1).1
 have hnul : (nuP p m md rows.length (coL rows hs)).length ≤ rows.length:=nuP_len CC.K hm1
 have hcl : (coL rows hs).length = hs.length:=List.length_map _
 have hwm : Mat (p ^ m) N (woL (liftI (fA p m)) (liftI (fM p (fpo m md))) (negI p m) (invI p m md) N rows (coL rows hs)):=O.wo_mat CC.mat hm1
 have hwo : woL (liftI (fA p m)) (liftI (fM p (fpo m md))) (negI p m) (invI p m md) N rows (coL rows hs) = (nuP p m md rows.length (coL rows hs)).map fun x=>cbP p m md N x rows:=rfl
 rw [hwo] at hwm
 have hwl : ((nuP p m md rows.length (coL rows hs)).map fun x=>cbP p m md N x rows).length ≤ 1000000:=by rw [List.length_map];omega
 have hW:=wi_wd CC hs
 have hWl:=wi_len CC hs
 have hwt : wtP p m md N rows lost hs = (cnP p m md N ((nuP p m md rows.length (coL rows hs)).map fun x=>cbP p m md N x rows)).1.find? (nzL lost):=rfl
 have hWe : wiP p m md N rows hs = (cnP p m md N ((nuP p m md rows.length (coL rows hs)).map fun x=>cbP p m md N x rows)).1:=rfl
 rw [hWe] at hW hWl
 have hWE:=(cnP_len CC.K hwm).1
 rw [hwt]
 clear hwt hWe hwo
 have c_codewrightref09_Combine:=fun {nm cm nx cx n c : Nat} {pm px ps : Option Addr} {x : List Int} (hx : Wd (p ^ m) rows.length x)=>S_codewrightref09_Combine (nm:=nm) (cm:=cm) (nx:=nx) (cx:=cx) (n:=n) (c:=c) (pm:=pm) (px:=px) (ps:=ps) (x:=x) CC.K (show N ≤ 1000000 by omega) CC.mat hx
 have c_codewrightref09_Canon:=fun {nm cm c n : Nat} {pm ps : Option Addr} (hl : ((nuP p m md rows.length (coL rows hs)).map fun x=>cbP p m md N x rows).length = n)=>S_codewrightref09_Canon (nm:=nm) (cm:=cm) (pm:=pm) (ps:=ps) (c:=c) (n:=n) CC.K (by rw [← hl];exact hwl) (show N ≤ 1000000 by omega) hl hwm
 refine j_nf [_,_] rfl ?_
 refine j_step rfl (x_box_agg rfl fun b1=>?_)
 refine j_run it 1 rfl (by simp) ?_
 refine j_nf [_,_] rfl ?_
 (apply j_drawK it mx 9;(· rfl);(· rfl))
 (apply lxk_eq;(· rfl);(· exact d_x fun _=>x_field rfl fd27_0 dk_eq))
 (apply lxk_eq;(· rfl);(· exact d_bld_agg 0 rfl rfl ld24 rfl rfl))
 (apply lxk_eq;(· rfl);(· exact d_bld_all 0 rfl rfl ld27 rfl))
 (apply lxk_run 1;(· rfl);(· simp))
 (apply lxk_sl;(· rfl);(· exact d_x fun _=>x_call [1,3] rfl (c_codewrightref53_columns) rfl (by rintro _ _ _ ⟨pa1,ca1,rfl,rfl,rfl⟩;exact (dk_sl 0 rfl)));intro pa1 ca1)
 (apply lxk_eq;(· rfl);(· exact d_x fun _=>x_field rfl fd27_2 dk_eq))
 (apply lxk_eq;(· rfl);(· exact d_bld 0 rfl rfl ld25 rfl))
 (apply lxk_eq;(· rfl);(· exact d_x fun _=>x_len sl25 rfl dk_eq))
 (apply lxk_sl;(· rfl);(· exact d_x fun _=>x_call [1,0] rfl (c_codewrightref09_Null (by omega)) rfl (by rintro _ _ _ ⟨pb1,cb1,rfl,rfl,rfl⟩;exact (dk_sl 0 rfl)));intro pa2 ca2)
 refine lxk_end rfl ?_
 simp only [List.map_cons,List.map_nil,List.cons_append,List.nil_append]
 refine j_run it 1 rfl (by simp) ?_
 refine j_nf [_,_] rfl ?_
 refine j_step rfl (x_lit0 sl25 fun b2=>?_)
 refine j_run it 1 rfl (by simp) ?_
 refine j_nf [_,_,_] rfl ?_
 refine j_run it 1 rfl (by simp) ?_
 refine j_nf [_,_,_] rfl ?_
 generalize nuP p m md rows.length (coL rows hs) = U at *
 generalize coL rows hs = H at *
 (apply j_rowlit (E:=encSl I64) (n:=0) (cs:=[]) [] [] 0 (fun w A hG=>allrd_nil);(· rfl);(· rfl);(· rfl);(· rfl);(· decide))
 refine j_loopG (X:=Nat × Row) [1,3,6,7] [0,1,2,3,4,5,6] (fun x=>[(9,.int .i64 (x.1 : Int)),(8,.slice (ad x.2.bo) x.1 x.2.cap)]) (fun x=>(x.2.bo,22,x.2.cs)::_) (fun x=>[rowF (encSl I64) x.2 x.1 ((U.take x.1).map fun x=>cbP p m md N x rows)]) (fun x=>x.1 ≤ U.length) (fun x=>U.length - x.1) (0,⟨some b2,0,[]⟩) [0] rfl rfl rfl (Nat.zero_le _) (by repeat (first | exact Fr.sub_nil _ | refine Fr.sub_cons rfl ?_)) rfl rfl ?_
 rintro ⟨k,r⟩ hk ih
 simp only [List.cons_append,List.nil_append] at hk ih ⊢
 by_cases h8 : k < U.length
 ·obtain ⟨u,at_u⟩ : ∃ u,U[k]? = some u:=⟨_,List.getElem?_eq_getElem h8⟩
  have eu:=gd_at at_u
  have hu:=hnum u (List.mem_of_getElem? at_u)
  rw [← eu] at hu
  have ih':=fun r=>ih (k + 1,r) (by dsimp only;omega) (by dsimp only;omega)
  simp only [List.take_add_one,at_u,Option.toList_some,List.map_append,List.map_cons,List.map_nil] at ih'
  rw [← eu] at ih'
  clear ih
  refine j_nf [_,_,_,_,_,_] rfl ?_
  refine j_run it 2 rfl (by simp) ?_
  refine j_step rfl (x_len sl25 rfl ?_)
  refine j_run it 1 rfl (by simp) ?_
  refine j_nf [_,_,_,_,_] rfl ?_
  refine j_if rfl rfl (fun h1=>?_) (fun h1=>by exfalso;omega)
  refine j_nf [_,_,_,_,_,_] rfl ?_
  (apply j_drawK it mx 13;(· rfl);(· rfl))
  (apply lxk_run 1;(· rfl);(· simp))
  (apply lxk_eq;(· rfl);(· exact d_x fun _=>x_field rfl fd27_0 dk_eq))
  (apply lxk_eq;(· rfl);(· exact d_bld_agg 1 rfl rfl ld24 rfl rfl))
  (apply lxk_run 2;(· rfl);(· simp))
  (apply lxk_pt;(· rfl);(· exact d_x fun _=>x_idx 2 (k) rfl rfl rfl sl25 rfl (by omega) fun z1 hz1 b3 o1=>(dk_ptD default hz1 0 rfl));intro b3 o1)
  (apply lxk_sl;(· rfl);(· exact d_x fun _=>x_ld_sl 0 rfl rfl ld22 fun pa3 ca3=>(dk_sl 0 rfl));intro pa3 ca3)
  (apply lxk_eq;(· rfl);(· exact d_x fun _=>x_field rfl fd27_2 dk_eq))
  (apply lxk_eq;(· rfl);(· exact d_bld 1 rfl rfl ld25 rfl))
  (apply lxk_eq;(· rfl);(· exact d_x fun _=>x_field rfl fd27_1 dk_eq))
  (apply lxk_eq;(· rfl);(· exact d_bld 1 rfl rfl ld3 rfl))
  (apply lxk_sl;(· rfl);(· exact d_x fun _=>x_call [6,0,7] rfl (c_codewrightref09_Combine (by omega)) rfl (by rintro _ _ _ ⟨pb1,cb1,rfl,rfl,rfl⟩;exact (dk_sl 0 rfl)));intro pa4 ca4)
  (apply lxk_sl;(· rfl);(· exact d_x fun _=>x_lit sl25 zo25e rfl rfl rfl rfl (by decide) (by decide) rfl fun b4=>dk_all (E:=(encSl (I64))) [[Value.slice pa4 N ca4]] [cbP p m md N (U.getD k default) rows] (fun w A hG=>(allrd_cons (rd_of_slF (hG _ (fact_mem (n:=0) rfl))) allrd_nil)) rfl rfl rfl (by first | decide | exact Nat.le_of_ble_eq_true rfl));intro pa5 ca5)
  refine lxk_end rfl ?_
  simp only [List.map_cons,List.map_nil,List.cons_append,List.nil_append]
  refine j_step rfl (x_appS 0 4 0 rfl rfl rfl rfl rfl sl25 zo25e rfl (by omega) _ by25e (by omega) fun r1=>?_)
  refine j_run it 1 rfl (by simp) ?_
  refine j_nf [_,_,_,_] rfl ?_
  refine j_run it 3 rfl ⟨trivial,⟨by omega,by omega⟩,trivial,trivial⟩ ?_
  refine j_nfn 1 [.lp (pL 244),.blk 0,.c [1,1,1,1]] rfl ?_
  refine j_to [0,6,7,8,9,10,11,12] (by exact fra rfl) rfl rfl (ih' r1)
 ·obtain rfl : k = U.length:=by omega
  rw [List.take_length]
  clear ih
  rw [List.length_map] at hwl
  refine j_pubR 0 0 rfl rfl (by show U.length * 24 ≤ 140737488355328;omega) ?_
  simp only [List.eraseIdx_cons_zero]
  generalize hL : (U.map fun x=>cbP p m md N x rows) = L at *
  have hLl : L.length = U.length:=by rw [← hL,List.length_map]
  refine j_nf [_,_,_,_,_,_] rfl ?_
  refine j_run it 2 rfl (by simp) ?_
  refine j_step rfl (x_len sl25 rfl ?_)
  refine j_run it 1 rfl (by simp) ?_
  refine j_nf [_,_,_,_,_] rfl ?_
  refine j_if rfl rfl (fun h1=>by exfalso;omega) (fun h1=>?_)
  refine j_nf [_,_] rfl ?_
  refine j_step rfl (x_field rfl fd27_0 ?_)
  refine j_step rfl (x_bld_agg 0 rfl rfl ld24 rfl rfl ?_)
  refine j_run it 1 rfl (by simp) ?_
  refine j_step rfl (x_field rfl fd27_1 ?_)
  refine j_step rfl (x_bld 0 rfl rfl ld3 rfl ?_)
  refine j_step rfl (x_call [5,0] rfl (c_codewrightref09_Canon (by omega)) rfl ?_)
  rintro _ _ _ ⟨pb1,pp1,cb1,cp1,rfl,rfl,rfl⟩
  simp only [List.cons_append,List.nil_append]
  refine j_run it 4 rfl (by simp) ?_
  refine j_nf [_,_,_] rfl ?_
  refine j_run it 1 rfl (by simp) ?_
  refine j_nf [_,_,_] rfl ?_
  generalize cnP p m md N L = E at *
  obtain ⟨W,pv⟩:=E
  dsimp only at hW hWl hWE ⊢
  refine j_loopG (X:=Nat) [1,8] [0,1,2,3,4,5,6,7,8,9,10] (fun i=>[(10,.int .i64 (i : Int))]) (fun _=>_) (fun _=>[]) (fun i=>i ≤ W.length ∧ W.find? (nzL lost) = (W.drop i).find? (nzL lost)) (fun i=>W.length - i) 0 [] rfl rfl rfl ⟨Nat.zero_le _,rfl⟩ (by repeat (first | exact Fr.sub_nil _ | refine Fr.sub_cons rfl ?_)) rfl rfl ?_
  rintro i ⟨hi,he⟩ ih
  simp only [List.cons_append,List.nil_append] at hi he ih ⊢
  by_cases h9 : i < W.length
  ·obtain ⟨w,at_w,ed⟩ : ∃ w,W[i]? = some w ∧ W.drop i = w::W.drop (i + 1):=⟨W[i],List.getElem?_eq_getElem h9,List.drop_eq_getElem_cons h9⟩
   have ew:=gd_at at_w
   have hw:=(hW w (List.mem_of_getElem? at_w)).1
   rw [ed,List.find?_cons] at he
   refine j_nf [_,_,_,_,_,_] rfl ?_
   refine j_run it 2 rfl (by simp) ?_
   refine j_step rfl (x_len sl25 rfl ?_)
   refine j_run it 1 rfl (by simp) ?_
   refine j_nf [_,_,_,_,_] rfl ?_
   refine j_if rfl rfl (fun h2=>?_) (fun h2=>by exfalso;omega)
   refine j_nf [_,_,_,_,_,_,_] rfl ?_
   refine j_run it 1 rfl (by simp) ?_
   refine j_nf [_,_,_,_,_,_,_] rfl ?_
   refine j_loopG (X:=Nat) [1,8,10,51,52,53,54] [0,1,2,3,4,5,6,7,8,9,10] (fun j=>[(11,.int .i64 (j : Int))]) (fun _=>_) (fun _=>[]) (fun j=>j ≤ lost.length ∧ ∀ x ∈ lost.take j,w.getD x.toNat 0 = 0) (fun j=>lost.length - j) 0 [] rfl rfl rfl ⟨Nat.zero_le _,fun x h=>by simp at h⟩ (by repeat (first | exact Fr.sub_nil _ | refine Fr.sub_cons rfl ?_)) rfl rfl ?_
   rintro j ⟨hj,hno⟩ ihj
   simp only [List.cons_append,List.nil_append] at hj ihj ⊢
   by_cases h7 : j < lost.length
   ·obtain ⟨x,hx⟩ : ∃ x,lost[j]? = some x:=⟨_,List.getElem?_eq_getElem h7⟩
    have ex:=gd_at hx
    obtain ⟨x0,x1⟩:=hlo.1 x (List.mem_of_getElem? hx)
    have hw2 : (W.getD i default).length = N:=by rw [ew];exact hw
    have ez : (W.getD i default).getD (lost.getD j default : Int).toNat default = w.getD x.toNat 0:=by rw [ew,ex];rfl
    by_cases h6 : w.getD x.toNat 0 = 0
    ·rw [h6] at ez
     refine j_nf [_,_,_,_,_,_,_,_,_,_] rfl ?_
     refine j_run it 2 rfl (by simp) ?_
     refine j_step rfl (x_len sl22 rfl ?_)
     refine j_run it 1 rfl (by simp) ?_
     refine j_nf [_,_,_,_,_,_,_,_,_] rfl ?_
     refine j_if rfl rfl (fun h3=>?_) (fun h3=>by exfalso;omega)
     refine j_nf [_,_,_,_,_,_,_,_,_,_,_] rfl ?_
     (apply j_drawK it mx 11;(· rfl);(· rfl))
     (apply lxk_run 2;(· rfl);(· simp))
     (apply lxk_pt;(· rfl);(· exact d_x fun _=>x_idx 0 (i) rfl rfl rfl sl25 rfl (by omega) fun z1 hz1 b3 o1=>(dk_ptD default hz1 0 rfl));intro b3 o1)
     (apply lxk_sl;(· rfl);(· exact d_x fun _=>x_ld_sl 0 rfl rfl ld22 fun pa3 ca3=>(dk_sl 0 rfl));intro pa3 ca3)
     (apply lxk_run 2;(· rfl);(· simp))
     (apply lxk_pt;(· rfl);(· exact d_x fun _=>x_idx 9 (j) rfl rfl rfl sl22 rfl (by omega) fun z1 hz1 b4 o2=>(dk_ptD default hz1 0 rfl));intro b4 o2)
     (apply lxk_eq;(· rfl);(· exact d_x fun _=>x_ld_int 0 rfl rfl ld3 fun ⟨r1,r2⟩=>dk_eq))
     (apply lxk_pt;(· rfl);(· exact d_x fun _=>x_idx 1 ((lost.getD j default : Int).toNat) rfl rfl rfl sl22 (by omega) (by omega) fun z1 hz1 b5 o3=>(dk_ptD default hz1 0 rfl));intro b5 o3)
     (apply lxk_eq;(· rfl);(· exact d_x fun _=>x_ld_int 0 rfl rfl ld3 fun ⟨r1,r2⟩=>dk_eq))
     (apply lxk_run 1;(· rfl);(· simp))
     refine lxk_end rfl ?_
     simp only [List.map_cons,List.map_nil,List.cons_append,List.nil_append]
     refine j_nf [_,_,_,_,_,_,_,_,_,_] rfl ?_
     refine j_ifn rfl rfl (fun h4=>by exfalso;omega) (fun h4=>?_)
     refine j_nf [_,_,_,_,_,_,_,_] rfl ?_
     refine j_run it 3 rfl ⟨trivial,⟨by omega,by omega⟩,trivial,trivial⟩ ?_
     refine j_nfn 1 [.lp (pL 64804),.blk 4,.blk 3,.c (pL 4051),.lp (pL 1012),.blk 2,.c (pL 127)] rfl ?_
     refine j_to [4,5,6,7,8,9,10,11,12,13,14] (by exact fra rfl) rfl rfl (ihj (j + 1) (by omega) ⟨by omega,tk_all hx hno h6⟩)
    ·have hz : nzL lost w = true:=List.any_eq_true.2 ⟨x,List.mem_of_getElem? hx,decide_eq_true h6⟩
     rw [hz] at he
     rw [he]
     refine j_nf [_,_,_,_,_,_,_,_,_,_] rfl ?_
     refine j_run it 2 rfl (by simp) ?_
     refine j_step rfl (x_len sl22 rfl ?_)
     refine j_run it 1 rfl (by simp) ?_
     refine j_nf [_,_,_,_,_,_,_,_,_] rfl ?_
     refine j_if rfl rfl (fun h3=>?_) (fun h3=>by exfalso;omega)
     refine j_nf [_,_,_,_,_,_,_,_,_,_,_] rfl ?_
     (apply j_drawK it mx 11;(· rfl);(· rfl))
     (apply lxk_run 2;(· rfl);(· simp))
     (apply lxk_pt;(· rfl);(· exact d_x fun _=>x_idx 0 (i) rfl rfl rfl sl25 rfl (by omega) fun z1 hz1 b3 o1=>(dk_ptD default hz1 0 rfl));intro b3 o1)
     (apply lxk_sl;(· rfl);(· exact d_x fun _=>x_ld_sl 0 rfl rfl ld22 fun pa3 ca3=>(dk_sl 0 rfl));intro pa3 ca3)
     (apply lxk_run 2;(· rfl);(· simp))
     (apply lxk_pt;(· rfl);(· exact d_x fun _=>x_idx 9 (j) rfl rfl rfl sl22 rfl (by omega) fun z1 hz1 b4 o2=>(dk_ptD default hz1 0 rfl));intro b4 o2)
     (apply lxk_eq;(· rfl);(· exact d_x fun _=>x_ld_int 0 rfl rfl ld3 fun ⟨r1,r2⟩=>dk_eq))
     (apply lxk_pt;(· rfl);(· exact d_x fun _=>x_idx 1 ((lost.getD j default : Int).toNat) rfl rfl rfl sl22 (by omega) (by omega) fun z1 hz1 b5 o3=>(dk_ptD default hz1 0 rfl));intro b5 o3)
     (apply lxk_eq;(· rfl);(· exact d_x fun _=>x_ld_int 0 rfl rfl ld3 fun ⟨r1,r2⟩=>dk_eq))
     (apply lxk_run 1;(· rfl);(· simp))
     refine lxk_end rfl ?_
     simp only [List.map_cons,List.map_nil,List.cons_append,List.nil_append]
     refine j_nf [_,_,_,_,_,_,_,_,_,_] rfl ?_
     refine j_ifn rfl rfl (fun h4=>?_) (fun h4=>by exfalso;omega)
     refine j_nf [_,_,_,_,_,_,_,_,_,_,_] rfl ?_
     refine j_run it 2 rfl (by simp) ?_
     refine j_step rfl (x_idx 4 (i) rfl rfl rfl sl25 rfl (by omega) fun z1 hz1 b6 o4=>?_)
     obtain rfl : _ = z1:=Option.some.inj (at_w.symm.trans hz1)
     refine j_step rfl (x_ld_sl 0 rfl rfl ld22 fun pa4 ca4=>?_)
     refine j_run it 1 rfl (by simp) ?_
     refine j_nf [_,_,_,_,_,_,_,_,_,_] rfl ?_
     refine j_giv [0] rfl rfl rfl ⟨_,_,rfl,rfl,rfl⟩
   ·have hz : nzL lost w = false:=List.any_eq_false.2 fun x hx=>by
     have:=hno x (by rwa [List.take_of_length_le (by omega)])
     simpa using this
    rw [hz] at he
    clear ihj
    refine j_nf [_,_,_,_,_,_,_,_,_,_] rfl ?_
    refine j_run it 2 rfl (by simp) ?_
    refine j_step rfl (x_len sl22 rfl ?_)
    refine j_run it 1 rfl (by simp) ?_
    refine j_nf [_,_,_,_,_,_,_,_,_] rfl ?_
    refine j_if rfl rfl (fun h3=>by exfalso;omega) (fun h3=>?_)
    refine j_nf [_,_,_,_] rfl ?_
    refine j_run it 3 rfl ⟨trivial,⟨by omega,by omega⟩,trivial,trivial⟩ ?_
    refine j_nfn 1 [.lp (pL 1012),.blk 2,.c (pL 127)] rfl ?_
    refine j_to [0,1,2,3,4,5,6,7,8,9,10] (by exact fra rfl) rfl rfl (ih (i + 1) (by omega) ⟨by omega,he⟩)
  ·rw [List.drop_of_length_le (by omega)] at he
   rw [he]
   clear ih
   refine j_nf [_,_,_,_,_,_] rfl ?_
   refine j_run it 2 rfl (by simp) ?_
   refine j_step rfl (x_len sl25 rfl ?_)
   refine j_run it 1 rfl (by simp) ?_
   refine j_nf [_,_,_,_,_] rfl ?_
   refine j_if rfl rfl (fun h2=>by exfalso;omega) (fun h2=>?_)
   refine j_nf [_,_] rfl ?_
   refine j_run it 1 rfl (by simp) ?_
   refine j_nf [_] rfl ?_
   refine j_add (slF I64 none 0 0 []) (fun w A _=>slF_nil I64 w A none 0) ?_
   refine j_giv [0] rfl rfl rfl ⟨_,_,rfl,rfl,rfl⟩
theorem wt_none {p m n : Nat} {md : List Int} {gen : List (List Int)} {lost hs : List Int} : wtP p m md n gen lost hs = none ↔ ∀ j ∈ lost,∀ r ∈ wiP p m md n gen hs,at0 r j.toNat = 0:=by
 rw [wtP,List.find?_eq_none]
 constructor
 ·intro h j hj r hr
  have h1:=h r hr
  refine Classical.byContradiction fun h2=>h1 ?_
  exact List.any_eq_true.2 ⟨j,hj,decide_eq_true h2⟩
 ·intro h r hr h1
  obtain ⟨j,hj,h2⟩:=List.any_eq_true.1 h1
  exact of_decide_eq_true h2 (h j hj r hr)
theorem fok2 : Fok 2 1 []:=by
 have h : chkF ((2 : Nat) : Int) ((1 : Nat) : Int) []:=⟨⟨by decide,by decide,by decide,by decide⟩,⟨by decide,fun d h1 h2=>by
  have : d < 2:=h2
  omega⟩,fun _=>rfl,fun h=>absurd rfl h⟩
 obtain ⟨p,m,h1,h2,K⟩:=chk_ok h
 obtain rfl : 2 = p:=Int.ofNat.inj h1
 obtain rfl : 1 = m:=Int.ofNat.inj h2
 exact K
theorem mat2 : Mat (2 ^ 1) 2 [[1,1]]:=fun r hr=>by
 rw [List.mem_singleton.1 hr]
 refine ⟨rfl,fun x hx=>?_⟩
 have : x = 1:=by simpa using hx
 subst this;decide
theorem cok2 : Cok 2 1 [] 2 [[1,1]]:=by
 have O:=fok_fn fok2
 refine ⟨fok2,by decide,by decide,mat2,?_⟩
 obtain ⟨⟨v0,v1⟩,hiv⟩:=O.iv 1 (by decide) (by decide) (by decide)
 have hV : invI 2 1 [] 1 = 1:=by
  rw [O.fi.mc 1 _ (by decide) (by decide) v0 v1,O.fi.m1 _ v0 v1] at hiv
  exact hiv
 have hf : findP [[1,1]] 0 0 = some 0:=by decide
 have hp : pivL (liftI (fA 2 1)) (liftI (fM 2 (fpo 1 []))) (negI 2 1) (invI 2 1 []) 0 0 0 [[1,1]] = [sclL (liftI (fM 2 (fpo 1 []))) (invI 2 1 [] 1) [1,1]]:=rfl
 rw [hV,scl_one O.fi (mat2 _ (.head _))] at hp
 have he : elimL (liftI (fA 2 1)) (liftI (fM 2 (fpo 1 []))) (negI 2 1) (invI 2 1 []) 2 0 0 [[1,1]] = ([[1,1]],[0]):=by
  rw [elimL,hf]
  show ((elimL _ _ _ _ 1 1 1 (pivL (liftI (fA 2 1)) (liftI (fM 2 (fpo 1 []))) (negI 2 1) (invI 2 1 []) 0 0 0 [[1,1]])).1,0::(elimL _ _ _ _ 1 1 1 (pivL (liftI (fA 2 1)) (liftI (fM 2 (fpo 1 []))) (negI 2 1) (invI 2 1 []) 0 0 0 [[1,1]])).2) = _
  rw [hp,elim_full _ _ _ _ (Nat.le_refl 1)]
 rw [cnP,cnE,he];rfl
theorem st2 (x : Int) (h : 0 ≤ x ∧ x < 2) : stP ((2 : Nat) : Int) [x]:=⟨fun y hy=>by rw [List.mem_singleton.1 hy];exact h,List.pairwise_singleton _ _⟩
theorem pair2 : pairE 2 1 [] 2 [[1,1]] [0] [1] = 0:=by
 have h : ckE 2 1 [] 2 [[1,1]] = 0:=cok2.ck
 rw [pairE,h,if_neg (by decide),if_neg (fun h=>h ⟨st2 0 (by decide),st2 1 (by decide)⟩)]
 rfl
theorem suf2 : sufB 2 1 [] 2 [[1,1]] [0] [1] = true:=by
 rw [sufB,pair2]
 have hw : wtP 2 1 [] 2 [[1,1]] [0] [1] = none:=wt_none.2 fun j hj=>by
  rw [List.mem_singleton.1 hj]
  exact (((fok_fn fok2).wi cok2.mat (hs_mat cok2 [1])).2 0 (by decide)).2 fun x _ hs=>hs _ (.head _)
 show (decide (0 = 0) && (wtP 2 1 [] 2 [[1,1]] [0] [1]).isNone) = true
 rw [hw];rfl
theorem S_codewrightlaw53_alive : Ctr Try.prog 8 [] [] [] (Rv (.bool true) []):=by
 refine Ctr_of_j' (F:=F_codewrightlaw53_alive) rfl fun C=>?_
 have c_repair_Suffices:=fun {n c nm cm nl cl nh ch : Nat} {pm ps pl ph : Option Addr}=>S_repair_Suffices (P:=2) (M:=1) (N:=2) (md:=[]) (rows:=[[1,1]]) (lost:=[0]) (hs:=[1]) (n:=n) (c:=c) (nm:=nm) (cm:=cm) (nl:=nl) (cl:=cl) (nh:=nh) (ch:=ch) (pm:=pm) (ps:=ps) (pl:=pl) (ph:=ph) (by simp only [InR];omega)
 rw [suf2,pair2] at c_repair_Suffices
 refine j_nf [_,_] rfl (j_run it 1 rfl (by simp) ?_)
 refine j_nf [_,_] rfl (j_step rfl (x_build (cs:=[Value.int IntKind.i64 2,Value.int IntKind.i64 1,Value.slice none 0 0]) st24 zo24 rfl rfl ?_))
 refine j_step rfl (x_lit sl22 zo22e rfl rfl rfl rfl (by decide) (by decide) rfl fun b1=>?_)
 refine j_step rfl (x_lit sl25 zo25e rfl rfl rfl rfl (by decide) (by decide) rfl fun b2=>?_)
 refine j_step rfl (x_build (cs:=[Value.int IntKind.i64 2,Value.int IntKind.i64 1,Value.slice none 0 0,Value.int IntKind.i64 2,Value.slice (some { block:=b2,off:=0 }) 1 1]) st27 zo27 rfl rfl ?_)
 refine j_step rfl (x_lit sl22 zo22e rfl rfl rfl rfl (by decide) (by decide) rfl fun b3=>?_)
 refine j_step rfl (x_lit sl22 zo22e rfl rfl rfl rfl (by decide) (by decide) rfl fun b4=>?_)
 refine j_pub_madei (kd:=.i64) (n:=2) 8 [1,1] 3 rfl rfl (by simp [InR]) (by decide) (by decide) ?_
 simp only [List.eraseIdx_cons_zero,List.eraseIdx_cons_succ]
 refine j_pub_madei (kd:=.i64) (n:=1) 8 [1] 0 rfl rfl (by simp [InR]) (by decide) (by decide) ?_
 simp only [List.eraseIdx_cons_zero]
 refine j_pub_madei (kd:=.i64) (n:=1) 8 [0] 0 rfl rfl (by simp [InR]) (by decide) (by decide) ?_
 simp only [List.eraseIdx_cons_zero]
 refine j_add (slF I64 none 0 0 []) (fun w A _=>slF_nil I64 w A none 0) ?_
 refine j_pub_all (E:=(encSl (encInt IntKind.i64 8))) (n:=1) [[Value.slice (some { block:=b1,off:=0 }) 2 2]] [[1,1]] 0 (fun w A hG=>(allrd_cons (rd_of_slF (hG _ (fact_mem (n:=3) rfl))) allrd_nil)) rfl rfl rfl rfl (by first | decide | exact Nat.le_of_ble_eq_true rfl) (by first | decide | exact Nat.le_of_ble_eq_true rfl) ?_
 refine j_step rfl (x_call [1,0,2,3] rfl (c_repair_Suffices) rfl ?_)
 rintro _ _ _ ⟨rfl,rfl,rfl⟩
 simp only [List.cons_append,List.nil_append]
 refine j_run it 5 rfl (by simp) ?_
 refine j_nf [_,_] rfl (j_run it 6 rfl (by simp) ?_)
 refine j_nf [_] rfl ?_
 refine j_giv [] rfl rfl rfl ⟨rfl,rfl,rfl⟩
def liE (l : List Int) (n q : Nat) : Int:=if l.length ≠ n then 4 else entE l q
theorem liE_iff {l : List Int} {n q : Nat} : liE l n q = 0 ↔ Wd q n l:=by
 rw [liE]
 by_cases h : l.length = n
 ·rw [if_neg (fun e=>e h),entE]
  by_cases h2 : ∀ x ∈ l,0 ≤ x ∧ x < (q : Int)
  ·rw [if_pos h2];exact ⟨fun _=>⟨h,h2⟩,fun _=>rfl⟩
  ·rw [if_neg h2];exact ⟨fun e=>by omega,fun e=>absurd e.2 h2⟩
 ·rw [if_pos h];exact ⟨fun e=>by omega,fun e=>absurd e.1 h⟩
theorem S_codewrightref12_List {p m nm cm n c k : Nat} {pm ps : Option Addr} {md l : List Int} {e : Int} (K : Fok p m md) (he : liE l k (p ^ m) = e) : Ctr Try.prog 22 [.agg #[.int .i64 p,.int .i64 m,.slice pm nm cm],.slice ps n c,.int .i64 k] [] [slF I64 pm nm cm md,slF I64 ps n c l] (Rv (.int .i64 e) []):=by
 refine Ctr_of_j' (F:=F_codewrightref12_List) rfl fun C=>?_
 refine j_len 1 rfl fun hn hb _=>?_
 subst hn
 have c_codewrightref09_Entries:=fun {nm cm n c : Nat} {pm ps : Option Addr} {l : List Int}=>S_codewrightref09_Entries (nm:=nm) (cm:=cm) (pm:=pm) (ps:=ps) (n:=n) (c:=c) (l:=l) K
 subst he
 rw [liE]
 by_cases h : l.length = k
 ·rw [if_neg (fun e=>e h)]
  refine j_nf [_,_] rfl (j_step rfl (x_box_agg rfl fun b1=>?_))
  refine j_run it 1 rfl (by simp) ?_
  refine j_nf [_,_,_] rfl (j_run it 1 rfl (by simp) ?_)
  refine j_step rfl (x_len sl22 rfl ?_)
  refine j_run it 2 rfl (by simp) ?_
  refine j_nf [_,_] rfl (j_ifn rfl rfl (fun h1=>by exfalso;omega) (fun h1=>?_))
  refine j_nf [_,_] rfl (j_step rfl (x_bld_all 0 rfl rfl ld24 rfl ?_))
  refine j_run it 1 rfl (by simp) ?_
  refine j_step rfl (x_call [1] rfl (c_codewrightref09_Entries) rfl ?_)
  rintro _ _ _ ⟨rfl,rfl,rfl⟩
  simp only [List.cons_append,List.nil_append]
  refine j_run it 1 rfl (by simp) ?_
  refine j_nf [_] rfl ?_
  refine j_giv [] rfl rfl rfl ⟨rfl,rfl,rfl⟩
 ·rw [if_pos h]
  refine j_nf [_,_] rfl (j_step rfl (x_box_agg rfl fun b1=>?_))
  refine j_run it 1 rfl (by simp) ?_
  refine j_nf [_,_,_] rfl (j_run it 1 rfl (by simp) ?_)
  refine j_step rfl (x_len sl22 rfl ?_)
  refine j_run it 2 rfl (by simp) ?_
  refine j_nf [_,_] rfl (j_ifn rfl rfl (fun h1=>?_) (fun h1=>by exfalso;omega))
  refine j_nf [_,_,_] rfl (j_run it 1 rfl (by simp) ?_)
  refine j_nf [_,_] rfl ?_
  refine j_giv [] rfl rfl rfl ⟨rfl,rfl,rfl⟩
theorem S_codewrightref12_Encode_ok {p m N nm cm n c nx cx : Nat} {pm ps px : Option Addr} {md msg : List Int} {rows : List (List Int)} (CC : Cok p m md N rows) (hx : Wd (p ^ m) rows.length msg) :
  Ctr Try.prog 10 [.agg #[.int .i64 p,.int .i64 m,.slice pm nm cm,.int .i64 N,.slice ps n c],.slice px nx cx] [] [slF I64 pm nm cm md,slF (encSl I64) ps n c rows,slF I64 px nx cx msg]
   (fun v Φ β=>∃ (pb : Option Addr) (cb : Nat),v = .tuple #[.slice pb N cb,.int .i64 0] ∧ Φ = [slF I64 pb N cb (cbP p m md N msg rows)] ∧ β = []):=by
 refine Ctr_of_j' (F:=F_codewrightref12_Encode) rfl fun C=>?_
 have hN:=CC.n64
 have hlr:=CC.len
 refine j_len 1 rfl fun hn hb _=>?_
 subst hn
 have c_codewrightref12_Check:=fun {pm ps : Option Addr} {nm cm n c : Nat}=>S_codewrightref12_Check (pm:=pm) (ps:=ps) (nm:=nm) (cm:=cm) (n:=n) (c:=c) (show InR .i64 (N : Int) by simp only [InR];omega) CC.ck
 have c_codewrightref12_List:=fun {nm cm n c : Nat} {pm ps : Option Addr}=>S_codewrightref12_List (nm:=nm) (cm:=cm) (pm:=pm) (ps:=ps) (n:=n) (c:=c) CC.K (liE_iff.2 hx)
 have c_codewrightref09_Combine:=fun {nm cm nx cx n c : Nat} {pm px ps : Option Addr}=>S_codewrightref09_Combine (nm:=nm) (cm:=cm) (nx:=nx) (cx:=cx) (n:=n) (c:=c) (pm:=pm) (px:=px) (ps:=ps) CC.K (show N ≤ 1000000 by omega) CC.mat hx
 refine j_nf [_,_] rfl (j_step rfl (x_box_agg rfl fun b1=>?_))
 refine j_run it 2 rfl (by simp) ?_
 refine j_nf [_,_] rfl (j_step rfl (x_bld_all 0 rfl rfl ld27 rfl ?_))
 refine j_step rfl (x_call [0,1] rfl (c_codewrightref12_Check) rfl ?_)
 rintro _ _ _ ⟨rfl,rfl,rfl⟩
 simp only [List.cons_append,List.nil_append]
 refine j_run it 1 rfl (by simp) ?_
 refine j_nf [_,_,_] rfl (j_run it 2 rfl (by simp) ?_)
 refine j_nf [_,_] rfl (j_if rfl rfl (fun h1=>?_) (fun h1=>by exfalso;omega))
 refine j_nf [_,_] rfl (j_step rfl (x_field rfl fd27_0 ?_))
 refine j_step rfl (x_bld_agg 0 rfl rfl ld24 rfl rfl ?_)
 refine j_run it 1 rfl (by simp) ?_
 refine j_step rfl (x_field rfl fd27_2 ?_)
 refine j_step rfl (x_bld 0 rfl rfl ld25 rfl ?_)
 refine j_step rfl (x_len sl25 rfl ?_)
 refine j_step rfl (x_call [0,2] rfl (c_codewrightref12_List) rfl ?_)
 rintro _ _ _ ⟨rfl,rfl,rfl⟩
 simp only [List.cons_append,List.nil_append]
 simp only [decide_true]
 refine j_run it 1 rfl (by simp) ?_
 refine j_nf [_,_,_] rfl (j_run it 2 rfl (by simp) ?_)
 refine j_nf [_,_] rfl (j_ifn rfl rfl (fun h2=>by exfalso;omega) (fun h2=>?_))
 refine j_nf [_,_] rfl (j_step rfl (x_field rfl fd27_0 ?_))
 refine j_step rfl (x_bld_agg 0 rfl rfl ld24 rfl rfl ?_)
 refine j_run it 1 rfl (by simp) ?_
 refine j_step rfl (x_field rfl fd27_2 ?_)
 refine j_step rfl (x_bld 0 rfl rfl ld25 rfl ?_)
 refine j_step rfl (x_field rfl fd27_1 ?_)
 refine j_step rfl (x_bld 0 rfl rfl ld3 rfl ?_)
 refine j_step rfl (x_call [0,2,1] rfl (c_codewrightref09_Combine) rfl ?_)
 rintro _ _ _ ⟨pb1,cb1,rfl,rfl,rfl⟩
 simp only [List.cons_append,List.nil_append]
 simp only [decide_true]
 refine j_run it 2 rfl (by simp) ?_
 refine j_nf [_] rfl ?_
 refine j_giv [0] rfl rfl rfl ⟨_,_,rfl,rfl,rfl⟩
theorem S_codewrightref12_Encode_bad {p m N nm cm n c nx cx : Nat} {pm ps px : Option Addr} {md msg : List Int} {rows : List (List Int)} {e : Int} (CC : Cok p m md N rows) (he : liE msg rows.length (p ^ m) = e) (h0 : e ≠ 0) :
  Ctr Try.prog 10 [.agg #[.int .i64 p,.int .i64 m,.slice pm nm cm,.int .i64 N,.slice ps n c],.slice px nx cx] [] [slF I64 pm nm cm md,slF (encSl I64) ps n c rows,slF I64 px nx cx msg]
   (Rv (.tuple #[.slice none 0 0,.int .i64 e]) []):=by
 refine Ctr_of_j' (F:=F_codewrightref12_Encode) rfl fun C=>?_
 have hN:=CC.n64
 have hlr:=CC.len
 refine j_len 1 rfl fun hn hb _=>?_
 subst hn
 have c_codewrightref12_Check:=fun {pm ps : Option Addr} {nm cm n c : Nat}=>S_codewrightref12_Check (pm:=pm) (ps:=ps) (nm:=nm) (cm:=cm) (n:=n) (c:=c) (show InR .i64 (N : Int) by simp only [InR];omega) CC.ck
 have c_codewrightref12_List:=fun {nm cm n c : Nat} {pm ps : Option Addr}=>S_codewrightref12_List (nm:=nm) (cm:=cm) (pm:=pm) (ps:=ps) (n:=n) (c:=c) CC.K he
 refine j_nf [_,_] rfl (j_step rfl (x_box_agg rfl fun b1=>?_))
 refine j_run it 2 rfl (by simp) ?_
 refine j_nf [_,_] rfl (j_step rfl (x_bld_all 0 rfl rfl ld27 rfl ?_))
 refine j_step rfl (x_call [0,1] rfl (c_codewrightref12_Check) rfl ?_)
 rintro _ _ _ ⟨rfl,rfl,rfl⟩
 simp only [List.cons_append,List.nil_append]
 refine j_run it 1 rfl (by simp) ?_
 refine j_nf [_,_,_] rfl (j_run it 2 rfl (by simp) ?_)
 refine j_nf [_,_] rfl (j_if rfl rfl (fun h1=>?_) (fun h1=>by exfalso;omega))
 refine j_nf [_,_] rfl (j_step rfl (x_field rfl fd27_0 ?_))
 refine j_step rfl (x_bld_agg 0 rfl rfl ld24 rfl rfl ?_)
 refine j_run it 1 rfl (by simp) ?_
 refine j_step rfl (x_field rfl fd27_2 ?_)
 refine j_step rfl (x_bld 0 rfl rfl ld25 rfl ?_)
 refine j_step rfl (x_len sl25 rfl ?_)
 refine j_step rfl (x_call [0,2] rfl (c_codewrightref12_List) rfl ?_)
 rintro _ _ _ ⟨rfl,rfl,rfl⟩
 simp only [List.cons_append,List.nil_append]
 simp only [decide_true]
 refine j_run it 1 rfl (by simp) ?_
 refine j_nf [_,_,_] rfl (j_run it 2 rfl (by simp) ?_)
 refine j_nf [_,_] rfl (j_ifn rfl rfl (fun h2=>?_) (fun h2=>by exfalso;omega))
 refine j_nf [_,_,_] rfl (j_run it 3 rfl (by simp) ?_)
 refine j_nf [_,_] rfl ?_
 refine j_giv [] rfl rfl rfl ⟨rfl,rfl,rfl⟩
theorem suf_word {p m n : Nat} {md : List Int} {gen : List (List Int)} {lost hs msg : List Int} (CC : Cok p m md n gen) (hlo : stP n lost) (hst : stP n hs) (hx : Wd (p ^ m) gen.length msg) (hw : wtP p m md n gen lost hs = none)
  (hz : ∀ x ∈ hs,(cbP p m md n msg gen).getD x.toNat 0 = 0) : ∀ x ∈ lost,(cbP p m md n msg gen).getD x.toNat 0 = 0:=fun x hxl=>by
 have O:=fok_fn CC.K
 have h1:=wt_none.1 hw x hxl
 have:=hlo.1 x hxl
 have h2:=((O.wi CC.mat (hs_mat CC hs)).2 x.toNat (by omega)).1 h1 msg hx fun r hr=>by
  obtain ⟨j,hj,rfl⟩:=List.mem_map.1 hr
  rw [← O.cmb_at hx.2 CC.mat]
  exact hz j hj
 rw [← O.cmb_at hx.2 CC.mat] at h2
 exact h2
theorem S_RepairDetermines {P M N : Int} {n c nm cm nl cl na ca nh ch nx cx : Nat} {pm ps pl pa ph px : Option Addr} {md lost away hs msg : List Int} {rows : List (List Int)} (hN : InR .i64 N) :
  Ctr Try.prog 4 [.agg #[.int .i64 P,.int .i64 M,.slice pm nm cm,.int .i64 N,.slice ps n c,.slice pl nl cl,.slice pa na ca,.slice ph nh ch,.slice px nx cx]] [] [slF I64 pm nm cm md,slF (encSl I64) ps n c rows,slF I64 pl nl cl lost,slF I64 pa na ca away,slF I64 ph nh ch hs,slF I64 px nx cx msg] (Rv (.bool true) []):=by
 refine Ctr_of_j' (F:=F_codewrightlaw53_RepairDetermines) rfl fun C=>?_
 have hr:=pairE_rng P M md N rows lost hs
 have c_repair_Suffices:=fun {n c nm cm nl cl nh ch : Nat} {pm ps pl ph : Option Addr}=>S_repair_Suffices (P:=P) (M:=M) (N:=N) (md:=md) (rows:=rows) (lost:=lost) (hs:=hs) (n:=n) (c:=c) (nm:=nm) (cm:=cm) (nl:=nl) (cl:=cl) (nh:=nh) (ch:=ch) (pm:=pm) (ps:=ps) (pl:=pl) (ph:=ph) hN
 have c_codewrightref53_Pair:=fun {n c nm cm nl cl nh ch : Nat} {pm ps pl ph : Option Addr}=>S_codewrightref53_Pair (P:=P) (M:=M) (N:=N) (md:=md) (rows:=rows) (lost:=lost) (hs:=hs) (pm:=pm) (nm:=nm) (cm:=cm) (ps:=ps) (n:=n) (c:=c) (pl:=pl) (nl:=nl) (cl:=cl) (ph:=ph) (nh:=nh) (ch:=ch) hN rfl
 by_cases h0 : pairE P M md N rows lost hs = 0
 ·obtain ⟨p,m,N,rfl,rfl,rfl,CC,hlo,hhs,-⟩:=pair_of h0
  have hsu : sufB p m md N rows lost hs = (wtP p m md N rows lost hs).isNone:=by
   rw [sufB,h0,Int.toNat_natCast,Int.toNat_natCast,Int.toNat_natCast];rfl
  rw [hsu,h0] at c_repair_Suffices
  rw [h0] at c_codewrightref53_Pair
  have hl1:=st_len hlo
  have hl2:=st_len hhs
  have hN64:=CC.n64
  have hN1:=CC.n1
  refine j_len 2 rfl fun hn hb _=>?_
  subst hn
  refine j_len 4 rfl fun hn hb2 _=>?_
  subst hn
  by_cases hx : liE msg rows.length (p ^ m) = 0
  ·have hx:=liE_iff.1 hx
   have c_codewrightref12_Encode:=fun {n c nm cm nx cx : Nat} {pm ps px : Option Addr}=>S_codewrightref12_Encode_ok (n:=n) (c:=c) (nm:=nm) (cm:=cm) (nx:=nx) (cx:=cx) (pm:=pm) (ps:=ps) (px:=px) CC hx
   have c_codewrightref53_Witness:=fun {n c nm cm nl cl nh ch : Nat} {pm ps pl ph : Option Addr}=>S_codewrightref53_Witness (pm:=pm) (nm:=nm) (cm:=cm) (ps:=ps) (n:=n) (c:=c) (pl:=pl) (nl:=nl) (cl:=cl) (ph:=ph) (nh:=nh) (ch:=ch) CC hlo hhs
   have hsw:=suf_word CC hlo hhs hx
   have hwl : (cbP p m md N msg rows).length = N:=((fok_fn CC.K).cmb_wd hx.2 CC.mat).1
   have hlen : decide (((((wtP p m md N rows lost hs).getD []).length : Nat) : Int) = 0) = (wtP p m md N rows lost hs).isNone:=by
    cases hw : wtP p m md N rows lost hs with
    | none=>rfl
    | some w =>
     have:=(wi_wd CC hs w (List.mem_of_find?_eq_some hw)).1
     show decide ((w.length : Int) = 0) = false
     exact decide_eq_false (by omega)
   generalize wtP p m md N rows lost hs = W at *
   generalize cbP p m md N msg rows = w at *
   have hd:=decide_eq_true (show (0 : Int) = 0 from rfl)
   refine j_nf [_,_] rfl (j_step rfl (x_box_agg rfl fun b1=>?_))
   refine j_run it 1 rfl (by simp) ?_
   refine j_nf [_,_,_] rfl (j_step rfl (x_call [] rfl (S_codewrightlaw53_alive) rfl ?_))
   rintro _ _ _ ⟨rfl,rfl,rfl⟩
   simp only [List.cons_append,List.nil_append]
   refine j_run it 1 rfl (by simp) ?_
   refine j_nf [_,_] rfl ?_
   refine j_false rfl rfl ?_
   refine j_nf [_,_] rfl (j_step rfl (x_field rfl fd35_0 ?_))
   refine j_step rfl (x_bld_agg 0 rfl rfl ld27 rfl rfl ?_)
   refine j_step rfl (x_field rfl fd35_1 ?_)
   refine j_step rfl (x_bld 0 rfl rfl ld22 rfl ?_)
   refine j_step rfl (x_field rfl fd35_3 ?_)
   refine j_step rfl (x_bld 0 rfl rfl ld22 rfl ?_)
   refine j_step rfl (x_call [0,1,2,4] rfl (c_repair_Suffices) rfl ?_)
   rintro _ _ _ ⟨rfl,rfl,rfl⟩
   simp only [List.cons_append,List.nil_append]
   refine j_run it 5 rfl (by simp) ?_
   refine j_nf [_,_,_] rfl (j_step rfl (x_field rfl fd35_0 ?_))
   refine j_step rfl (x_bld_agg 0 rfl rfl ld27 rfl rfl ?_)
   refine j_step rfl (x_field rfl fd35_1 ?_)
   refine j_step rfl (x_bld 0 rfl rfl ld22 rfl ?_)
   refine j_step rfl (x_field rfl fd35_3 ?_)
   refine j_step rfl (x_bld 0 rfl rfl ld22 rfl ?_)
   refine j_step rfl (x_call [0,1,2,4] rfl (c_codewrightref53_Pair) rfl ?_)
   rintro _ _ _ ⟨rfl,rfl,rfl⟩
   simp only [List.cons_append,List.nil_append]
   refine j_run it 1 rfl (by simp) ?_
   refine j_nf [_,_] rfl (j_ifn rfl rfl (fun h1=>by exfalso;omega) (fun h1=>?_))
   refine j_nf [_,_,_] rfl (j_run it 2 rfl (by simp) ?_)
   refine j_nf [_,_] rfl (j_ifn rfl rfl (fun h2=>by exfalso;omega) (fun h2=>?_))
   refine j_nf [_,_] rfl (j_step rfl (x_field rfl fd35_0 ?_))
   refine j_step rfl (x_bld_agg 0 rfl rfl ld27 rfl rfl ?_)
   refine j_step rfl (x_field rfl fd35_4 ?_)
   refine j_step rfl (x_bld 0 rfl rfl ld22 rfl ?_)
   refine j_step rfl (x_call [0,1,5] rfl (c_codewrightref12_Encode) rfl ?_)
   rintro _ _ _ ⟨pb1,cb1,rfl,rfl,rfl⟩
   simp only [List.cons_append,List.nil_append]
   simp only [decide_true]
   refine j_run it 5 rfl (by simp) ?_
   refine j_nf [_,_,_] rfl (j_run it 2 rfl (by simp) ?_)
   refine j_nf [_,_] rfl (j_ifn rfl rfl (fun h3=>by exfalso;omega) (fun h3=>?_))
   refine j_nf [_,_] rfl (j_run it 1 rfl (by simp) ?_)
   refine j_nf [_,_,_] rfl (j_run it 1 rfl (by simp) ?_)
   refine j_nf [_,_,_] rfl ?_
   refine j_loopG (X:=Nat × Bool) [1,2,3,5] [0,1,2,3,4,5,6] (fun x=>[(8,.int .i64 (x.1 : Int)),(7,.bool x.2)]) (fun _=>_) (fun _=>[]) (fun x=>x.1 ≤ hs.length ∧ x.2 = (hs.take x.1).all fun y=>decide (w.getD y.toNat 0 = 0)) (fun x=>hs.length - x.1) (0,true) [] rfl rfl rfl ⟨Nat.zero_le _,rfl⟩ (by repeat (first | exact Fr.sub_nil _ | refine Fr.sub_cons rfl ?_)) rfl rfl ?_
   rintro ⟨j,z⟩ ⟨hj,hz⟩ ih
   simp only [List.cons_append,List.nil_append] at hj hz ih ⊢
   by_cases h9 : j < hs.length
   ·obtain ⟨x,at_x⟩ : ∃ x,hs[j]? = some x:=⟨_,List.getElem?_eq_getElem h9⟩
    obtain ⟨x0,x1⟩:=hhs.1 x (List.mem_of_getElem? at_x)
    have hzs : ((hs.take (j + 1)).all fun y=>decide (w.getD y.toNat 0 = 0)) = (z && decide (w.getD x.toNat 0 = 0)):=by
     rw [List.take_add_one,at_x,List.all_append,← hz];simp
    obtain ⟨x,rfl⟩:=Int.eq_ofNat_of_zero_le x0
    rw [Int.toNat_natCast] at hzs
    have at_y : w[x]? = some (w.getD x 0):=by rw [List.getD_eq_getElem?_getD,List.getElem?_eq_getElem (by omega)];rfl
    cases z with
    | true =>
     rw [Bool.true_and] at hzs
     refine j_nf [_,_,_,_,_,_] rfl (j_run it 1 rfl (by simp) ?_)
     refine j_step rfl (x_field rfl fd35_3 ?_)
     refine j_step rfl (x_bld 0 rfl rfl ld22 rfl ?_)
     refine j_step rfl (x_len sl22 rfl ?_)
     refine j_run it 1 rfl (by simp) ?_
     refine j_nf [_,_,_,_,_] rfl (j_if rfl rfl (fun h4=>?_) (fun h4=>by exfalso;omega))
     refine j_nf [_,_,_,_,_,_] rfl (j_run it 3 rfl (by simp) ?_)
     refine j_gstep rfl rfl (x_field rfl fd35_3 ?_)
     refine j_gstep rfl rfl (x_bld 0 rfl rfl ld22 rfl ?_)
     refine j_run it 1 rfl (by simp) ?_
     refine j_gstep rfl rfl (x_idx 5 (j) rfl rfl rfl sl22 rfl (by omega) fun z1 hz1 b2 o1=>?_)
     obtain rfl : _ = z1:=Option.some.inj (at_x.symm.trans hz1)
     refine j_gstep rfl rfl (x_ld_int 0 rfl rfl ld3 fun ⟨r1,r2⟩=>?_)
     refine j_gstep rfl rfl (x_idx 1 (x) rfl rfl rfl sl22 rfl (by omega) fun z1 hz2 b3 o2=>?_)
     obtain rfl : _ = z1:=Option.some.inj (at_y.symm.trans hz2)
     refine j_gstep rfl rfl (x_ld_int 0 rfl rfl ld3 fun ⟨r3,r4⟩=>?_)
     refine j_run it 3 rfl (by simp) ?_
     refine j_nf [_,_,_,_] rfl (j_run it 3 rfl ⟨trivial,⟨by omega,by omega⟩,trivial,trivial⟩ ?_)
     refine j_nfn 1 [.lp (pL 8180),.blk 0,.c (pL 1023)] rfl ?_
     refine j_to [2,3,4,5,6,7,8] (by exact fra rfl) rfl rfl (ih (j + 1,decide (w.getD x 0 = 0)) (by dsimp only;omega) ⟨by dsimp only;omega,hzs.symm⟩)
    | false =>
     rw [Bool.false_and] at hzs
     refine j_nf [_,_,_,_,_,_] rfl (j_run it 1 rfl (by simp) ?_)
     refine j_step rfl (x_field rfl fd35_3 ?_)
     refine j_step rfl (x_bld 0 rfl rfl ld22 rfl ?_)
     refine j_step rfl (x_len sl22 rfl ?_)
     refine j_run it 1 rfl (by simp) ?_
     refine j_nf [_,_,_,_,_] rfl (j_if rfl rfl (fun h4=>?_) (fun h4=>by exfalso;omega))
     refine j_nf [_,_,_,_,_,_] rfl (j_run it 13 rfl (by simp) ?_)
     refine j_nf [_,_,_,_] rfl (j_run it 3 rfl ⟨trivial,⟨by omega,by omega⟩,trivial,trivial⟩ ?_)
     refine j_nfn 1 [.lp (pL 8180),.blk 0,.c (pL 1023)] rfl ?_
     refine j_to [0,1,2,3,4,5,6] (by exact fra rfl) rfl rfl (ih (j + 1,false) (by dsimp only;omega) ⟨by dsimp only;omega,hzs.symm⟩)
   ·rw [List.take_of_length_le (by omega)] at hz
    clear ih
    have hza : z = true → ∀ x ∈ hs,w.getD x.toNat 0 = 0:=fun h x hx=>by
     rw [h] at hz
     have:=List.all_eq_true.1 hz.symm x hx
     simpa using this
    refine j_nf [_,_,_,_,_,_] rfl (j_run it 1 rfl (by simp) ?_)
    refine j_step rfl (x_field rfl fd35_3 ?_)
    refine j_step rfl (x_bld 0 rfl rfl ld22 rfl ?_)
    refine j_step rfl (x_len sl22 rfl ?_)
    refine j_run it 1 rfl (by simp) ?_
    refine j_nf [_,_,_,_,_] rfl (j_if rfl rfl (fun h4=>by exfalso;omega) (fun h4=>?_))
    refine j_nf [_,_,_] rfl (j_run it 1 rfl (by simp) ?_)
    refine j_nf [_,_,_] rfl ?_
    refine j_loopG (X:=Nat) [1,3,5,7] [0,1,2,3,4,5,6] (fun j=>[(9,.int .i64 (j : Int))]) (fun _=>_) (fun _=>[]) (fun j=>j ≤ lost.length) (fun j=>lost.length - j) 0 [] rfl rfl rfl (Nat.zero_le _) (by repeat (first | exact Fr.sub_nil _ | refine Fr.sub_cons rfl ?_)) rfl rfl ?_
    rintro j hj ih
    simp only [List.cons_append,List.nil_append] at hj ih ⊢
    by_cases h8 : j < lost.length
    ·obtain ⟨x,at_x⟩ : ∃ x,lost[j]? = some x:=⟨_,List.getElem?_eq_getElem h8⟩
     have hxm:=List.mem_of_getElem? at_x
     obtain ⟨x0,x1⟩:=hlo.1 x hxm
     cases hW : W with
     | some w2 =>
      subst hW
      refine j_nf [_,_,_,_,_,_] rfl (j_run it 1 rfl (by simp) ?_)
      refine j_step rfl (x_field rfl fd35_1 ?_)
      refine j_step rfl (x_bld 0 rfl rfl ld22 rfl ?_)
      refine j_step rfl (x_len sl22 rfl ?_)
      refine j_run it 1 rfl (by simp) ?_
      refine j_nf [_,_,_,_,_] rfl (j_if rfl rfl (fun h5=>?_) (fun h5=>by exfalso;omega))
      refine j_nf [_,_,_,_,_,_,_] rfl (j_run it 15 rfl (by simp) ?_)
      refine j_nf [_,_,_,_,_,_] rfl ?_
      refine j_false rfl rfl ?_
      refine j_nf [_,_,_,_] rfl (j_run it 3 rfl ⟨trivial,⟨by omega,by omega⟩,trivial,trivial⟩ ?_)
      refine j_nfn 1 [.lp (pL 16372),.blk 2,.c (pL 2047)] rfl ?_
      refine j_to [0,1,2,3,4,5,6] (by exact fra rfl) rfl rfl (ih (j + 1) (by omega) (by omega))
     | none =>
      subst hW
      cases z with
      | false =>
       refine j_nf [_,_,_,_,_,_] rfl (j_run it 1 rfl (by simp) ?_)
       refine j_step rfl (x_field rfl fd35_1 ?_)
       refine j_step rfl (x_bld 0 rfl rfl ld22 rfl ?_)
       refine j_step rfl (x_len sl22 rfl ?_)
       refine j_run it 1 rfl (by simp) ?_
       refine j_nf [_,_,_,_,_] rfl (j_if rfl rfl (fun h5=>?_) (fun h5=>by exfalso;omega))
       refine j_nf [_,_,_,_,_,_,_] rfl (j_run it 15 rfl (by simp) ?_)
       refine j_nf [_,_,_,_,_,_] rfl ?_
       refine j_false rfl rfl ?_
       refine j_nf [_,_,_,_] rfl (j_run it 3 rfl ⟨trivial,⟨by omega,by omega⟩,trivial,trivial⟩ ?_)
       refine j_nfn 1 [.lp (pL 16372),.blk 2,.c (pL 2047)] rfl ?_
       refine j_to [0,1,2,3,4,5,6] (by exact fra rfl) rfl rfl (ih (j + 1) (by omega) (by omega))
      | true =>
       have h7:=hsw rfl (hza rfl) x hxm
       obtain ⟨x,rfl⟩:=Int.eq_ofNat_of_zero_le x0
       rw [Int.toNat_natCast] at h7
       have at_y : w[x]? = some 0:=by rw [← h7,List.getD_eq_getElem?_getD,List.getElem?_eq_getElem (by omega)];rfl
       refine j_nf [_,_,_,_,_,_] rfl (j_run it 1 rfl (by simp) ?_)
       refine j_step rfl (x_field rfl fd35_1 ?_)
       refine j_step rfl (x_bld 0 rfl rfl ld22 rfl ?_)
       refine j_step rfl (x_len sl22 rfl ?_)
       refine j_run it 1 rfl (by simp) ?_
       refine j_nf [_,_,_,_,_] rfl (j_if rfl rfl (fun h5=>?_) (fun h5=>by exfalso;omega))
       refine j_nf [_,_,_,_,_,_,_] rfl (j_run it 6 rfl (by simp) ?_)
       refine j_gstep rfl rfl (x_field rfl fd35_1 ?_)
       refine j_gstep rfl rfl (x_bld 0 rfl rfl ld22 rfl ?_)
       refine j_run it 1 rfl (by simp) ?_
       refine j_gstep rfl rfl (x_idx 3 (j) rfl rfl rfl sl22 rfl (by omega) fun z1 hz1 b2 o1=>?_)
       obtain rfl : _ = z1:=Option.some.inj (at_x.symm.trans hz1)
       refine j_gstep rfl rfl (x_ld_int 0 rfl rfl ld3 fun ⟨r1,r2⟩=>?_)
       refine j_gstep rfl rfl (x_idx 1 (x) rfl rfl rfl sl22 rfl (by omega) fun z1 hz2 b3 o2=>?_)
       obtain rfl : _ = z1:=Option.some.inj (at_y.symm.trans hz2)
       refine j_gstep rfl rfl (x_ld_int 0 rfl rfl ld3 fun ⟨r3,r4⟩=>?_)
       refine j_run it 2 rfl (by simp) ?_
       refine j_nf [_,_,_,_,_,_] rfl (j_ifn rfl rfl (fun h6=>by exfalso;omega) (fun h6=>?_))
       refine j_nf [_,_,_,_] rfl (j_run it 3 rfl ⟨trivial,⟨by omega,by omega⟩,trivial,trivial⟩ ?_)
       refine j_nfn 1 [.lp (pL 16372),.blk 2,.c (pL 2047)] rfl ?_
       refine j_to [2,3,4,5,6,7,8] (by exact fra rfl) rfl rfl (ih (j + 1) (by omega) (by omega))
    ·clear ih
     refine j_nf [_,_,_,_,_,_] rfl (j_run it 1 rfl (by simp) ?_)
     refine j_step rfl (x_field rfl fd35_1 ?_)
     refine j_step rfl (x_bld 0 rfl rfl ld22 rfl ?_)
     refine j_step rfl (x_len sl22 rfl ?_)
     refine j_run it 1 rfl (by simp) ?_
     refine j_nf [_,_,_,_,_] rfl (j_if rfl rfl (fun h5=>by exfalso;omega) (fun h5=>?_))
     refine j_nf [_,_] rfl (j_run it 1 rfl (by simp) ?_)
     refine j_step rfl (x_field rfl fd35_0 ?_)
     refine j_step rfl (x_bld_agg 0 rfl rfl ld27 rfl rfl ?_)
     refine j_step rfl (x_field rfl fd35_1 ?_)
     refine j_step rfl (x_bld 0 rfl rfl ld22 rfl ?_)
     refine j_step rfl (x_field rfl fd35_3 ?_)
     refine j_step rfl (x_bld 0 rfl rfl ld22 rfl ?_)
     refine j_step rfl (x_call [1,2,3,5] rfl (c_codewrightref53_Witness) rfl ?_)
     rintro _ _ _ ⟨pa1,ca1,rfl,rfl,rfl⟩
     simp only [List.cons_append,List.nil_append]
     refine j_step rfl (x_len sl22 rfl ?_)
     refine j_run it 1 rfl (by simp) ?_
     refine j_step rfl (x_eqb ub rfl rfl ?_)
     refine j_run it 1 rfl (by simp) ?_
     refine j_nf [_] rfl ?_
     rw [hlen]
     cases W with
     | none=>refine j_giv [] rfl rfl rfl ⟨rfl,rfl,rfl⟩
     | some w2=>refine j_giv [] rfl rfl rfl ⟨rfl,rfl,rfl⟩
  ·have c_codewrightref12_Encode:=fun {n c nm cm nx cx : Nat} {pm ps px : Option Addr}=>S_codewrightref12_Encode_bad (n:=n) (c:=c) (nm:=nm) (cm:=cm) (nx:=nx) (cx:=cx) (pm:=pm) (ps:=ps) (px:=px) CC rfl hx
   refine j_nf [_,_] rfl (j_step rfl (x_box_agg rfl fun b1=>?_))
   refine j_run it 1 rfl (by simp) ?_
   refine j_nf [_,_,_] rfl (j_step rfl (x_call [] rfl (S_codewrightlaw53_alive) rfl ?_))
   rintro _ _ _ ⟨rfl,rfl,rfl⟩
   simp only [List.cons_append,List.nil_append]
   refine j_run it 1 rfl (by simp) ?_
   refine j_nf [_,_] rfl ?_
   refine j_false rfl rfl ?_
   refine j_nf [_,_] rfl (j_step rfl (x_field rfl fd35_0 ?_))
   refine j_step rfl (x_bld_agg 0 rfl rfl ld27 rfl rfl ?_)
   refine j_step rfl (x_field rfl fd35_1 ?_)
   refine j_step rfl (x_bld 0 rfl rfl ld22 rfl ?_)
   refine j_step rfl (x_field rfl fd35_3 ?_)
   refine j_step rfl (x_bld 0 rfl rfl ld22 rfl ?_)
   refine j_step rfl (x_call [0,1,2,4] rfl (c_repair_Suffices) rfl ?_)
   rintro _ _ _ ⟨rfl,rfl,rfl⟩
   simp only [List.cons_append,List.nil_append]
   refine j_run it 5 rfl (by simp) ?_
   refine j_nf [_,_,_] rfl (j_step rfl (x_field rfl fd35_0 ?_))
   refine j_step rfl (x_bld_agg 0 rfl rfl ld27 rfl rfl ?_)
   refine j_step rfl (x_field rfl fd35_1 ?_)
   refine j_step rfl (x_bld 0 rfl rfl ld22 rfl ?_)
   refine j_step rfl (x_field rfl fd35_3 ?_)
   refine j_step rfl (x_bld 0 rfl rfl ld22 rfl ?_)
   refine j_step rfl (x_call [0,1,2,4] rfl (c_codewrightref53_Pair) rfl ?_)
   rintro _ _ _ ⟨rfl,rfl,rfl⟩
   simp only [List.cons_append,List.nil_append]
   refine j_run it 1 rfl (by simp) ?_
   refine j_nf [_,_] rfl (j_ifn rfl rfl (fun h1=>by exfalso;omega) (fun h1=>?_))
   refine j_nf [_,_,_] rfl (j_run it 2 rfl (by simp) ?_)
   refine j_nf [_,_] rfl (j_ifn rfl rfl (fun h2=>by exfalso;omega) (fun h2=>?_))
   refine j_nf [_,_] rfl (j_step rfl (x_field rfl fd35_0 ?_))
   refine j_step rfl (x_bld_agg 0 rfl rfl ld27 rfl rfl ?_)
   refine j_step rfl (x_field rfl fd35_4 ?_)
   refine j_step rfl (x_bld 0 rfl rfl ld22 rfl ?_)
   refine j_step rfl (x_call [0,1,5] rfl (c_codewrightref12_Encode) rfl ?_)
   rintro _ _ _ ⟨rfl,rfl,rfl⟩
   simp only [List.cons_append,List.nil_append]
   simp only [decide_true]
   refine j_run it 5 rfl (by simp) ?_
   refine j_nf [_,_,_] rfl (j_run it 2 rfl (by simp) ?_)
   refine j_nf [_,_] rfl (j_ifn rfl rfl (fun h3=>?_) (fun h3=>by exfalso;omega))
   refine j_nf [_,_,_] rfl (j_run it 1 rfl (by simp) ?_)
   refine j_nf [_,_] rfl ?_
   refine j_giv [] rfl rfl rfl ⟨rfl,rfl,rfl⟩
 ·have hsu : sufB P M md N rows lost hs = false:=by rw [sufB,decide_eq_false h0,Bool.false_and]
  rw [hsu] at c_repair_Suffices
  refine j_nf [_,_] rfl (j_step rfl (x_box_agg rfl fun b1=>?_))
  refine j_run it 1 rfl (by simp) ?_
  refine j_nf [_,_,_] rfl (j_step rfl (x_call [] rfl (S_codewrightlaw53_alive) rfl ?_))
  rintro _ _ _ ⟨rfl,rfl,rfl⟩
  simp only [List.cons_append,List.nil_append]
  refine j_run it 1 rfl (by simp) ?_
  refine j_nf [_,_] rfl ?_
  refine j_false rfl rfl ?_
  refine j_nf [_,_] rfl (j_step rfl (x_field rfl fd35_0 ?_))
  refine j_step rfl (x_bld_agg 0 rfl rfl ld27 rfl rfl ?_)
  refine j_step rfl (x_field rfl fd35_1 ?_)
  refine j_step rfl (x_bld 0 rfl rfl ld22 rfl ?_)
  refine j_step rfl (x_field rfl fd35_3 ?_)
  refine j_step rfl (x_bld 0 rfl rfl ld22 rfl ?_)
  refine j_step rfl (x_call [0,1,2,4] rfl (c_repair_Suffices) rfl ?_)
  rintro _ _ _ ⟨rfl,rfl,rfl⟩
  simp only [List.cons_append,List.nil_append]
  refine j_run it 5 rfl (by simp) ?_
  refine j_nf [_,_,_] rfl (j_step rfl (x_field rfl fd35_0 ?_))
  refine j_step rfl (x_bld_agg 0 rfl rfl ld27 rfl rfl ?_)
  refine j_step rfl (x_field rfl fd35_1 ?_)
  refine j_step rfl (x_bld 0 rfl rfl ld22 rfl ?_)
  refine j_step rfl (x_field rfl fd35_3 ?_)
  refine j_step rfl (x_bld 0 rfl rfl ld22 rfl ?_)
  refine j_step rfl (x_call [0,1,2,4] rfl (c_codewrightref53_Pair) rfl ?_)
  rintro _ _ _ ⟨rfl,rfl,rfl⟩
  simp only [List.cons_append,List.nil_append]
  refine j_run it 1 rfl (by simp) ?_
  refine j_nf [_,_] rfl (j_ifn rfl rfl (fun h1=>?_) (fun h1=>by exfalso;omega))
  refine j_nf [_,_,_] rfl (j_run it 3 rfl (by simp) ?_)
  refine j_nf [_,_] rfl ?_
  simp only [decide_eq_false h0,Bool.not_false]
  refine j_giv [] rfl rfl rfl ⟨rfl,rfl,rfl⟩
end Go.Proofs.Ytlecjbjgbcdilaa
