/-
The supports of the words of the least weight are a design. The document's supports. The walk of MacwilliamsAssmus.
-/
import Derived.Test.YtmhcfhddmkhaiaaHC6
set_option linter.unusedVariables false
set_option linter.unusedSimpArgs false
namespace Go.Proofs.Ytmhcfhddmkhaiaa
open Go Go.Fw
set_option maxRecDepth 100000
set_option linter.unusedVariables false
set_option linter.unusedSimpArgs false
set_option maxHeartbeats 4000000
theorem blk_take {n : Nat} : ∀ {l : List Int} {last : Int} {t : Nat},blkS n last l = true → blkS n last (l.take t) = true
 | [],last,t,h=>by rw [List.take_nil];exact h
 | p::l,last,0,h=>rfl
 | p::l,last,t + 1,h=>by
  rw [blkS] at h
  rw [List.take_succ_cons,blkS]
  by_cases hc : p ≤ last ∨ (n : Int) ≤ p
  ·rw [if_pos hc] at h;cases h
  ·rw [if_neg hc] at h ⊢
   exact blk_take h
theorem blk_room {n : Nat} : ∀ {l : List Int} {last : Int},last < n → blkS n last l = true → last + l.length < n
 | [],last,h0,_=>by simpa using h0
 | p::l,last,h0,h=>by
  rw [blkS] at h
  by_cases hc : p ≤ last ∨ (n : Int) ≤ p
  ·rw [if_pos hc] at h;cases h
  ·rw [if_neg hc] at h
   have:=blk_room (l:=l) (last:=p) (by omega) h
   rw [List.length_cons];omega
theorem blk_sets {n : Nat} : ∀ {l : List Int} {first : Nat} {last : Int},(first : Int) = last + 1 → blkS n last l = true → l ∈ setsL n l.length first
 | [],first,last,_,_=>.head _
 | p::l,first,last,h0,h=>by
  rw [blkS] at h
  by_cases hc : p ≤ last ∨ (n : Int) ≤ p
  ·rw [if_pos hc] at h;cases h
  ·rw [if_neg hc] at h
   obtain ⟨p,rfl⟩ : ∃ k : Nat,p = k:=⟨p.toNat,by omega⟩
   have:=blk_room (l:=l) (last:=p) (by omega) h
   exact setsL_cons (by omega) (by omega) (blk_sets (by omega) h)
theorem blk_lt {n : Nat} : ∀ {l : List Int} {last : Int},blkS n last l = true → ∀ i : Nat,(i : Int) ∈ l → i < n
 | [],_,_,i,hi=>by cases hi
 | p::l,last,h,i,hi=>by
  rw [blkS] at h
  by_cases hc : p ≤ last ∨ (n : Int) ≤ p
  ·rw [if_pos hc] at h;cases h
  ·rw [if_neg hc] at h
   rcases List.mem_cons.1 hi with e | hi
   ·omega
   ·exact blk_lt h i hi
def maskM (n : Nat) (T : List Int) : List Bool:=(List.range n).map fun i : Nat=>decide ((i : Int) ∈ T)
theorem nF_cnt : ∀ m : List Bool,nF m + m.countP (fun b=>b) = m.length
 | []=>rfl
 | b::m=>by
  have:=nF_cnt m
  rw [nF,List.countP_cons,List.length_cons]
  cases b <;> simp <;> omega
theorem nF_mask {n : Nat} {T : List Int} (h : blkS n (-1) T = true) : nF (maskM n T) + T.length = n:=by
 have h1:=nF_cnt (maskM n T)
 have h2 : (maskM n T).countP (fun b=>b) = T.length:=by
  rw [← cnt_blk (by decide) h,maskM,List.countP_map];rfl
 rw [h2] at h1
 rw [h1,maskM,List.length_map,List.length_range]
theorem onM_iff : ∀ {m : List Bool} {c : List Int},m.length = c.length → (onM m c = true ↔ ∀ i : Nat,m[i]? = some true → c.getD i 0 ≠ 0)
 | [],[],_=>by simp [onM]
 | [],_::_,h=>by simp at h
 | _::_,[],h=>by simp at h
 | b::m,x::c,h=>by
  rw [onM,Bool.and_eq_true,onM_iff (m:=m) (c:=c) (by simpa using h)]
  constructor
  ·rintro ⟨h1,h2⟩ i hi
   cases i with
   | zero =>
    have e : b = true:=by simpa using hi
    subst e
    simpa using h1
   | succ i=>exact h2 i (by simpa using hi)
  ·intro hh
   refine ⟨?_,fun i hi=>hh (i + 1) (by simpa using hi)⟩
   cases b with
   | false=>rfl
   | true =>
    have:=hh 0 rfl
    simpa using this
theorem on_mask {n : Nat} {T : List Int} (h : blkS n (-1) T = true) {c : List Int} (hc : c.length = n) : onM (maskM n T) c = true ↔ insB T (suppW c) = true:=by
 rw [onM_iff (by rw [maskM,List.length_map,List.length_range,hc]),insB_iff]
 constructor
 ·intro hh x hx
  have hg:=blkS_gt h x hx
  obtain ⟨i,rfl⟩ : ∃ i : Nat,x = i:=⟨x.toNat,by omega⟩
  have hin : i < n:=Nat.lt_of_not_le fun hl=>by
   have:=blk_lt h i hx
   omega
  refine supp_mem.2 ⟨i,rfl,hh i ?_⟩
  rw [maskM,List.getElem?_map,List.getElem?_range hin,Option.map_some,decide_eq_true hx]
 ·intro hh i hi
  rw [maskM,List.getElem?_map] at hi
  by_cases hin : i < n
  ·rw [List.getElem?_range hin,Option.map_some,Option.some.injEq,decide_eq_true_eq] at hi
   obtain ⟨j,ej,hj⟩:=supp_mem.1 (hh _ hi)
   obtain rfl : i = j:=by omega
   exact hj
  ·rw [List.getElem?_eq_none (by simpa using hin)] at hi
   cases hi
theorem binom_13 : ∀ v : Nat,v < 13 → ∀ s : Nat,s < 13 → binom v s ≤ 65536:=by decide +kernel
section
variable {q : Nat} {A M : Int → Int → Int} (F : FI q A M)
include F
theorem cnt_supp {n d : Nat} {L S : List (List Int)} (h : LinI q n A M L) (hmin : ∀ u ∈ L,wt u = 0 ∨ d ≤ wt u) (hd : 0 < d) (hS : SuI n d S L) {T : List Int} (hT : blkS n (-1) T = true) : cntM L (maskM n T) d = ((q : Int) - 1) * (kS S T : Int):=by
 rw [kS_sum,← lsum_mul,cntM]
 have e1 : lsum L (fun c=>if wt c = d ∧ onM (maskM n T) c = true then (1 : Int) else 0) = lsum L (fun c=>lsum S (fun s=>if suppW c = s then (fun s=>if insB T s = true then (1 : Int) else 0) s else 0)):=lsum_congr fun c hc=>by
  rw [lsum_pick hS.nd]
  have hon:=on_mask hT (h.wd c hc).1
  by_cases hw : wt c = d
  ·rw [if_pos (hS.all c hc hw)]
   by_cases hi : insB T (suppW c) = true
   ·rw [if_pos ⟨hw,hon.2 hi⟩,if_pos hi]
   ·rw [if_neg (fun h=>hi (hon.1 h.2)),if_neg hi]
  ·rw [if_neg (fun h=>hw h.1),if_neg]
   intro hm
   obtain ⟨e,_,_,e2,e3⟩:=hS.of _ hm
   have h1:=congrArg List.length e3
   rw [supp_len,supp_len] at h1
   omega
 rw [e1,lsum_swap]
 refine lsum_congr fun s hs=>?_
 obtain ⟨c0,hc0,_,hw,rfl⟩:=hS.of s hs
 rw [← mu_supp F h hmin hd hc0 hw,Int.mul_comm,← lsum_mul]
 refine lsum_congr fun c _=>?_
 by_cases e : suppW c = suppW c0
 ·rw [if_pos e,if_pos e,Int.mul_one]
 ·rw [if_neg e,if_neg e,Int.mul_zero]
omit F in
theorem leP_zero (L : List (List Nat)) : ∀ k,∀ j,1 ≤ j → j ≤ k → (leP L k = 0 ∨ j < leP L k) → val (L.getD j default) = 0
 | 0,j,h1,h2,_=>by omega
 | k + 1,j,h1,h2,h=>by
  rw [leP] at h
  by_cases h3 : leP L k ≠ 0
  ·rw [if_pos h3] at h
   have:=leP_le L k
   exact leP_zero L k j h1 (by omega) (.inr (by omega))
  ·rw [if_neg h3] at h
   have h4 : leP L k = 0:=Classical.not_not.1 h3
   rcases Nat.lt_or_eq_of_le h2 with h5 | rfl
   ·exact leP_zero L k j h1 (by omega) (.inl h4)
   ·by_cases h6 : val (L.getD (k + 1) default) = 0
    ·exact h6
    ·rw [if_neg h6] at h;omega
omit F in
theorem leP_at (L : List (List Nat)) : ∀ k,leP L k ≠ 0 → val (L.getD (leP L k) default) ≠ 0
 | 0,h=>absurd rfl h
 | k + 1,h=>by
  rw [leP] at h ⊢
  by_cases h3 : leP L k ≠ 0
  ·rw [if_pos h3];exact leP_at L k h3
  ·rw [if_neg h3] at h ⊢
   by_cases h6 : val (L.getD (k + 1) default) = 0
   ·rw [if_pos h6] at h;exact absurd rfl h
   ·rw [if_neg h6];exact h6
omit F in
theorem stP_ok (B : List (List Nat)) (n d : Nat) : ∀ k,stP B n d k ≠ 0 → cntP B (n - stP B n d k) ≤ d - stP B n d k
 | 0,h=>absurd rfl h
 | k + 1,h=>by
  rw [stP] at h ⊢
  by_cases h1 : cntP B (n - (k + 1)) ≤ d - (k + 1)
  ·rw [if_pos h1];exact h1
  ·rw [if_neg h1] at h ⊢
   exact stP_ok B n d k h
theorem assmus_des {n : Nat} (hn : n ≤ 12) {rows L K : List (List Int)} (h : SpI q n A M rows L) (hl : LinI q n A M L) (hr : ∀ r ∈ rows,Wd q n r) (hK : AlI q n n K) {d t : Nat} (hd : leP (cwL n L) n = d) (hd0 : d ≠ 0)
  (ht : stP (cwL n (K.filter (orthB A M rows))) n d (d - 1) = t) : ∃ c : Nat,0 < c ∧ desS n (suppsL d [] L) t = ((c : Int),0):=by
 have hq:=F.q2
 have hdn : d ≤ n:=hd ▸ leP_le (cwL n L) n
 have htd : t ≤ d - 1:=ht ▸ stP_le _ n d (d - 1)
 have hlen : ∀ c ∈ L,c.length = n:=fun c hc=>(h.wd c hc).1
 have hS:=sui (d:=d) hlen
 generalize suppsL d [] L = S at *
 have hB : ∀ B ∈ S,blkS n (-1) B = true:=fun B hb=>by
  obtain ⟨c,_,e,_,rfl⟩:=hS.of B hb
  rw [← e];exact supp_blk
 have hbin:=binom_13 n (by omega) t (by omega)
 have e0 : desS n S t = cntS S (setsL n t 0) (-1):=by
  rw [desS,if_neg (by omega),Int.toNat_natCast,Int.toNat_natCast,if_neg (by rw [List.all_eq_true.2 hB];decide),if_neg (by omega),if_neg (by omega)]
 have hv : ∀ j,j ≤ n → val ((cwL n L).getD j default) = cwN L j:=fun j hj=>by rw [cwL_at hj,val_limbs]
 have hmin0 : ∀ j,1 ≤ j → j < d → cwN L j = 0:=fun j h1 h2=>by
  rw [← hv j (by omega)]
  exact leP_zero (cwL n L) n j h1 (by omega) (.inr (by omega))
 have hmin : ∀ u ∈ L,wt u = 0 ∨ d ≤ wt u:=fun u hu=>by
  rcases Nat.eq_zero_or_pos (wt u) with h0 | h0
  ·exact .inl h0
  ·refine .inr (Nat.le_of_not_lt fun hlt=>?_)
   have h1:=hmin0 _ h0 hlt
   rw [cwN,List.length_eq_zero_iff,List.filter_eq_nil_iff] at h1
   exact h1 u hu (by simp)
 obtain ⟨c0,hc0,hw0⟩ : ∃ c ∈ L,wt c = d:=by
  have h1:=leP_at (cwL n L) n (by omega)
  rw [hd,hv d hdn,cwN] at h1
  obtain ⟨c,hc⟩:=List.exists_mem_of_ne_nil _ (fun e=>h1 (List.length_eq_zero_iff.2 e))
  have:=List.mem_filter.1 hc
  exact ⟨c,this.1,by simpa using this.2⟩
 have hb0 : blkS n (-1) (suppW c0) = true:=by rw [← hlen c0 hc0];exact supp_blk
 have hT0 : (suppW c0).take t ∈ setsL n t 0:=by
  have:=blk_sets (first:=0) (last:=-1) rfl (blk_take (t:=t) hb0)
  rwa [List.length_take,supp_len,hw0,Nat.min_eq_left (by omega)] at this
 refine ⟨kS S ((suppW c0).take t),List.length_pos_of_mem (List.mem_filter.2 ⟨hS.all c0 hc0 hw0,insB_iff.2 fun x hx=>List.mem_of_mem_take hx⟩),?_⟩
 rw [e0]
 refine cntS_const (List.ne_nil_of_mem hT0) fun T hT=>?_
 by_cases h0 : t = 0
 ·subst h0
  rw [setsL,List.mem_singleton] at hT
  rw [hT,List.take_zero]
 ·have hcp:=stP_ok (cwL n (K.filter (orthB A M rows))) n d (d - 1) (by omega)
  rw [ht] at hcp
  have hbT:=setsL_blk (last:=-1) hT (by decide)
  have hbT0:=setsL_blk (last:=-1) hT0 (by decide)
  have n1:=nF_mask hbT
  have n2:=nF_mask hbT0
  rw [setsL_mem hT] at n1
  rw [setsL_mem hT0] at n2
  have hx:=extS_len (n:=n) (D:=K.filter (orthB A M rows)) (n - t) (by omega)
  have key:=assmus F h hr hK (d:=d) (t:=t) (by omega) hdn (fun j h1 h2=>by rw [cntW_cw,hmin0 j h1 h2];rfl)
   (S:=extS (K.filter (orthB A M rows)) (n - t)++List.replicate (d - t - (extS (K.filter (orthB A M rows)) (n - t)).length) 0)
   (fun j h1 h2 h3=>List.mem_append_left _ (extS_mem (n - t) j h1 h2 (fun e=>h3 (by rw [cntW_cw,e];rfl))))
   (by rw [List.length_append,List.length_replicate];omega)
   (m:=maskM n T) (m':=maskM n ((suppW c0).take t)) (by simp [maskM]) (by simp [maskM]) (by omega) (by omega)
  rw [cnt_supp F hl hmin (by omega) hS hbT,cnt_supp F hl hmin (by omega) hS hbT0] at key
  have:=(Int.mul_eq_mul_left_iff (show (q : Int) - 1 ≠ 0 by omega)).1 key
  omega
end
open Go Go.Fw
set_option maxRecDepth 100000
set_option linter.unusedVariables false
set_option linter.unusedSimpArgs false
set_option maxHeartbeats 8000000
theorem range_filter_succ (p : Nat → Bool) (j : Nat) : ((List.range (j + 1)).filter p).map (fun i : Nat=>(i : Int)) = ((List.range j).filter p).map (fun i : Nat=>(i : Int))++if p j = true then [(j : Int)] else []:=by
 rw [List.range_succ,List.filter_append,List.map_append,List.filter_cons,List.filter_nil]
 congr 1
 split <;> rfl
theorem S_codewrightref24_Supports {n d nl cl : Nat} {pl : Option Addr} {L : List (List Int)} (hn : n ≤ 64) (hd : d ≤ 64) (hL : ∀ u ∈ L,u.length = n) :
  Ctr Try.prog 18 [.slice pl nl cl,.int .i64 d] [] [slF (encSl I64) pl nl cl L] (SvL (suppsL d [] L)):=by
 refine Ctr_of_j' (F:=F_codewrightref24_Supports) rfl fun C=>?_
 refine j_len 0 rfl fun e1 hb1 _=>?_
 have hb1' : L.length * 24 ≤ 140737488355328:=hb1
 subst e1
 have hRl:=suppsL_len d L []
 generalize hR : suppsL d [] L = R at *
 rw [List.length_nil,Nat.zero_add] at hRl
 refine j_nf [_,_] rfl (j_run it 1 rfl (by simp) ?_)
 refine j_nf [_,_] rfl (j_run it 1 rfl (by simp) ?_)
 refine j_nf [_,_,_] rfl (j_run it 1 rfl (by simp) ?_)
 refine j_nf [_,_,_] rfl ?_
 refine j_row0 (encSl I64) 29 ?_
 refine j_loopG (X:=Nat × Row × List (List Int)) [0,1,4] [0,1] (fun x=>[(6,.int .i64 (x.1 : Int)),(5,.slice (ad x.2.1.bo) x.2.2.length x.2.1.cap)]) (fun x=>[(x.2.1.bo,29,x.2.1.cs)]) (fun x=>[rowF (encSl I64) x.2.1 x.2.2.length x.2.2])
  (fun x=>x.1 ≤ L.length ∧ x.2.2.length ≤ x.1 ∧ suppsL d x.2.2 (L.drop x.1) = R) (fun x=>L.length - x.1) (0,⟨none,0,[]⟩,[]) [0] rfl rfl rfl ⟨Nat.zero_le _,Nat.le_refl _,hR⟩ (by repeat (first | exact Fr.sub_nil _ | refine Fr.sub_cons rfl ?_)) rfl rfl ?_
 rintro ⟨i,r,out⟩ ⟨hi,ho,he⟩ ih
 simp only [List.cons_append,List.nil_append] at hi ho he ih ⊢
 by_cases hil : i < L.length
 ·obtain ⟨c,at_c,ed⟩ : ∃ c,L[i]? = some c ∧ L.drop i = c::L.drop (i + 1):=⟨L[i],List.getElem?_eq_getElem hil,List.drop_eq_getElem_cons hil⟩
  have hcl : c.length = n:=hL c (List.mem_of_getElem? at_c)
  rw [ed,suppsL] at he
  refine j_nf [_,_,_,_,_,_] rfl (j_run it 2 rfl (by simp) ?_)
  refine j_step rfl (x_len sl22 rfl ?_)
  refine j_run it 1 rfl (by simp) ?_
  refine j_nf [_,_,_,_,_] rfl (j_if rfl rfl (fun h1=>?_) (fun h1=>by exfalso;omega))
  refine j_nf [_,_,_,_,_,_,_] rfl (j_run it 1 rfl (by simp) ?_)
  refine j_nf [_,_,_,_,_,_,_,_] rfl (j_run it 1 rfl (by simp) ?_)
  refine j_nf [_,_,_,_,_,_,_,_] rfl ?_
  refine j_row0 I64 3 ?_
  refine j_loopG (X:=Nat × Row × List Int) [0,1,4,5,6,11,12,13,14] [0,1,2,3] (fun x=>[(8,.int .i64 (x.1 : Int)),(7,.slice (ad x.2.1.bo) x.2.2.length x.2.1.cap)]) (fun x=>[(x.2.1.bo,3,x.2.1.cs),(r.bo,29,r.cs)]) (fun x=>[rowF I64 x.2.1 x.2.2.length x.2.2])
   (fun x=>x.1 ≤ n ∧ x.2.2 = ((List.range x.1).filter (nzB c)).map fun i : Nat=>(i : Int)) (fun x=>n - x.1) (0,⟨none,0,[]⟩,[]) [0] rfl rfl rfl ⟨Nat.zero_le _,rfl⟩ (by repeat (first | exact Fr.sub_nil _ | refine Fr.sub_cons rfl ?_)) rfl rfl ?_
  rintro ⟨j,r2,s⟩ ⟨hj,hs⟩ ih2
  simp only [List.cons_append,List.nil_append] at hj hs ih2 ⊢
  have hsl : s.length ≤ j:=by
   rw [hs,List.length_map]
   exact Nat.le_trans (List.length_filter_le _ _) (by rw [List.length_range];omega)
  by_cases hjl : j < n
  ·obtain ⟨x,at_x⟩ : ∃ x,c[j]? = some x:=⟨c[j],List.getElem?_eq_getElem (by omega)⟩
   have hnz : nzB c j = decide (x ≠ 0):=by rw [nzB,List.getD_eq_getElem?_getD,at_x];rfl
   by_cases hx : x = 0
   ·have ih2':=ih2 (j + 1,r2,s) (by dsimp only;omega) ⟨by dsimp only;omega,by
     dsimp only
     rw [range_filter_succ,← hs,hnz,decide_eq_false (not_not_intro hx),if_neg (by decide),List.append_nil]⟩
    refine j_nf [_,_,_,_,_,_,_,_,_,_,_] rfl (j_run it 3 rfl (by simp) ?_)
    refine j_step rfl (x_idx 4 (i) rfl rfl rfl sl22 rfl (by omega) fun z1 hz1 b1 o1=>?_)
    obtain rfl : _ = z1:=Option.some.inj (at_c.symm.trans hz1)
    refine j_step rfl (x_ld_sl 0 rfl rfl ld29 fun pa1 ca1=>?_)
    refine j_step rfl (x_len sl29 rfl ?_)
    refine j_run it 1 rfl (by simp) ?_
    refine j_nf [_,_,_,_,_,_,_,_,_,_] rfl (j_if rfl rfl (fun h2=>?_) (fun h2=>by exfalso;omega))
    refine j_nf [_,_,_,_,_,_,_,_,_,_,_,_] rfl (j_run it 2 rfl (by simp) ?_)
    refine j_step rfl (x_idx 6 (i) rfl rfl rfl sl22 rfl (by omega) fun z1 hz2 b2 o2=>?_)
    obtain rfl : _ = z1:=Option.some.inj (at_c.symm.trans hz2)
    refine j_step rfl (x_ld_sl 0 rfl rfl ld29 fun pa2 ca2=>?_)
    refine j_run it 1 rfl (by simp) ?_
    refine j_step rfl (x_idx 0 (j) rfl rfl rfl sl29 rfl (by omega) fun z1 hz3 b3 o3=>?_)
    obtain rfl : _ = z1:=Option.some.inj (at_x.symm.trans hz3)
    refine j_step rfl (x_ld_int 0 rfl rfl ld3 fun ⟨r1,r3⟩=>?_)
    refine j_run it 1 rfl (by simp) ?_
    refine j_nf [_,_,_,_,_,_,_,_,_,_,_] rfl (j_ifn rfl rfl (fun h3=>by exfalso;omega) (fun h3=>?_))
    refine j_nf [_,_,_,_,_,_,_,_,_] rfl (j_run it 3 rfl ⟨trivial,⟨by omega,by omega⟩,trivial,trivial⟩ ?_)
    refine j_nfn 1 [.lp (pL 29844),.blk 2,.c (pL 3731),.blk 1,.c (pL 467),.lp (pL 116),.blk 0,.c [1,1,1]] rfl ?_
    refine j_to [5,6,7,8,9] (by exact fra rfl) rfl rfl (ih2')
   ·have ih2':=fun r3=>ih2 (j + 1,r3,s++[(j : Int)]) (by dsimp only;omega) ⟨by dsimp only;omega,by
     dsimp only
     rw [range_filter_succ,← hs,hnz,decide_eq_true hx,if_pos rfl]⟩
    simp only [List.length_append,List.length_singleton] at ih2'
    refine j_nf [_,_,_,_,_,_,_,_,_,_,_] rfl (j_run it 3 rfl (by simp) ?_)
    refine j_step rfl (x_idx 4 (i) rfl rfl rfl sl22 rfl (by omega) fun z1 hz1 b1 o1=>?_)
    obtain rfl : _ = z1:=Option.some.inj (at_c.symm.trans hz1)
    refine j_step rfl (x_ld_sl 0 rfl rfl ld29 fun pa1 ca1=>?_)
    refine j_step rfl (x_len sl29 rfl ?_)
    refine j_run it 1 rfl (by simp) ?_
    refine j_nf [_,_,_,_,_,_,_,_,_,_] rfl (j_if rfl rfl (fun h2=>?_) (fun h2=>by exfalso;omega))
    refine j_nf [_,_,_,_,_,_,_,_,_,_,_,_] rfl (j_run it 2 rfl (by simp) ?_)
    refine j_step rfl (x_idx 6 (i) rfl rfl rfl sl22 rfl (by omega) fun z1 hz2 b2 o2=>?_)
    obtain rfl : _ = z1:=Option.some.inj (at_c.symm.trans hz2)
    refine j_step rfl (x_ld_sl 0 rfl rfl ld29 fun pa2 ca2=>?_)
    refine j_run it 1 rfl (by simp) ?_
    refine j_step rfl (x_idx 0 (j) rfl rfl rfl sl29 rfl (by omega) fun z1 hz3 b3 o3=>?_)
    obtain rfl : _ = z1:=Option.some.inj (at_x.symm.trans hz3)
    refine j_step rfl (x_ld_int 0 rfl rfl ld3 fun ⟨r1,r3⟩=>?_)
    refine j_run it 1 rfl (by simp) ?_
    refine j_nf [_,_,_,_,_,_,_,_,_,_,_] rfl (j_ifn rfl rfl (fun h3=>?_) (fun h3=>by exfalso;omega))
    refine j_nf [_,_,_,_,_,_,_,_,_,_,_] rfl (j_run it 2 rfl (by simp) ?_)
    refine j_step rfl (x_lit sl29 zo29e rfl rfl rfl rfl (by decide) (by decide) rfl fun b4=>?_)
    refine j_step rfl (x_appR (z:=(↑j : Int)) 1 0 5 rfl rfl rfl rfl rfl sl29 zo29e rfl (fun w A hG=>(rd_int (by first | (simp only [InR];omega) | (simp [InR];done)))) (by omega) _ by29e (by omega) fun r4=>?_)
    refine j_run it 1 rfl (by simp) ?_
    refine j_nf [_,_,_,_,_,_,_,_,_] rfl (j_run it 3 rfl ⟨trivial,⟨by omega,by omega⟩,trivial,trivial⟩ ?_)
    refine j_nfn 1 [.lp (pL 29844),.blk 2,.c (pL 3731),.blk 1,.c (pL 467),.lp (pL 116),.blk 0,.c [1,1,1]] rfl ?_
    refine j_toM [true,false,true] [0,7,8,9,10] (by exact fra rfl) rfl rfl (ih2' r4)
  ·obtain rfl : j = n:=by omega
   have hs : s = suppW c:=by rw [hs,suppW,hcl]
   rw [← hs] at he
   refine j_nf [_,_,_,_,_,_,_,_,_,_,_] rfl (j_run it 3 rfl (by simp) ?_)
   refine j_step rfl (x_idx 4 (i) rfl rfl rfl sl22 rfl (by omega) fun z1 hz1 b1 o1=>?_)
   obtain rfl : _ = z1:=Option.some.inj (at_c.symm.trans hz1)
   refine j_step rfl (x_ld_sl 0 rfl rfl ld29 fun pa1 ca1=>?_)
   refine j_step rfl (x_len sl29 rfl ?_)
   refine j_run it 1 rfl (by simp) ?_
   refine j_nf [_,_,_,_,_,_,_,_,_,_] rfl (j_if rfl rfl (fun h2=>by exfalso;omega) (fun h2=>?_))
   refine j_nf [_,_,_,_,_,_,_] rfl (j_run it 1 rfl (by simp) ?_)
   refine j_nf [_,_,_,_,_,_,_,_] rfl (j_run it 1 rfl (by simp) ?_)
   refine j_nf [_,_,_,_,_,_,_,_] rfl ?_
   refine j_pubR 0 2 rfl rfl (by show _ * 8 ≤ 140737488355328;omega) ?_
   generalize hO : oldB out s = O at *
   refine j_loopG (X:=Nat × Bool) [0,1,4,5,6,7,8,11,12,13,14,17,18,19,20,21,22,23] [0,1,2,3,4,5,6,7] (fun x=>[(10,.int .i64 (x.1 : Int)),(9,.bool x.2)]) (fun _=>[(r.bo,29,r.cs)]) (fun _=>[])
    (fun x=>x.1 ≤ out.length ∧ (x.2 || oldB (out.drop x.1) s) = O) (fun x=>out.length - x.1) (0,false) [] rfl rfl rfl ⟨Nat.zero_le _,by rw [Bool.false_or];exact hO⟩ (by repeat (first | exact Fr.sub_nil _ | refine Fr.sub_cons rfl ?_)) rfl rfl ?_
   rintro ⟨k,b⟩ ⟨hk,hb⟩ ih3
   simp only [List.cons_append,List.nil_append] at hk hb ih3 ⊢
   by_cases hkl : k < out.length
   ·obtain ⟨y,at_y,ey⟩ : ∃ y,out[k]? = some y ∧ out.drop k = y::out.drop (k + 1):=⟨out[k],List.getElem?_eq_getElem hkl,List.drop_eq_getElem_cons hkl⟩
    rw [ey,oldB,List.any_cons,← oldB] at hb
    cases b with
    | true =>
     rw [Bool.true_or] at hb
     refine j_nf [_,_,_,_,_,_,_,_,_,_,_] rfl (j_run it 2 rfl (by simp) ?_)
     refine j_step rfl (x_len sl22 rfl ?_)
     refine j_run it 1 rfl (by simp) ?_
     refine j_nf [_,_,_,_,_,_,_,_,_,_] rfl (j_if rfl rfl (fun h3=>?_) (fun h3=>by exfalso;omega))
     refine j_nf [_,_,_,_,_,_,_,_,_,_,_] rfl (j_run it 11 rfl (by simp) ?_)
     refine j_gskipU rfl rfl ?_
     refine j_gskipU rfl rfl ?_
     refine j_gskipU rfl rfl ?_
     refine j_gskipU rfl rfl ?_
     refine j_gskipU rfl rfl ?_
     refine j_gskipU rfl rfl ?_
     refine j_run it 3 rfl (by simp) ?_
     refine j_nf [_,_,_,_,_,_,_,_,_] rfl (j_run it 3 rfl ⟨trivial,⟨by omega,by omega⟩,trivial,trivial⟩ ?_)
     refine j_nfn 1 [.lp (pL 119412),.blk 4,.c (pL 14927),.blk 1,.c (pL 467),.lp (pL 116),.blk 0,.c [1,1,1]] rfl ?_
     refine j_to [0,1,2,3,4,5,6,7] (by exact fra rfl) rfl rfl (ih3 (k + 1,true) (by dsimp only;omega) ⟨by dsimp only;omega,by rw [Bool.true_or];exact hb⟩)
    | false =>
     rw [Bool.false_or] at hb
     have c_codewrightref24_Inside:=fun {pa pb : Option Addr} {n m ca cb : Nat}=>S_codewrightref24_Inside (pa:=pa) (pb:=pb) (n:=n) (m:=m) (ca:=ca) (cb:=cb) (s:=s) (t:=y)
     by_cases hly : y.length = s.length
     ·rw [decide_eq_true hly,Bool.true_and] at hb
      cases hI : insB s y with
      | true =>
       rw [hI] at hb
       simp only [hI] at c_codewrightref24_Inside
       refine j_nf [_,_,_,_,_,_,_,_,_,_,_] rfl (j_run it 2 rfl (by simp) ?_)
       refine j_step rfl (x_len sl22 rfl ?_)
       refine j_run it 1 rfl (by simp) ?_
       refine j_nf [_,_,_,_,_,_,_,_,_,_] rfl (j_if rfl rfl (fun h3=>?_) (fun h3=>by exfalso;omega))
       refine j_nf [_,_,_,_,_,_,_,_,_,_,_] rfl (j_run it 4 rfl (by simp) ?_)
       refine j_rowB 5 rfl (by omega) fun b2 cap1 cs1 hr1=>?_
       subst hr1
       dsimp only
       refine j_gstep rfl rfl (x_idx_own (k) (k) rfl rfl sl22 rfl (by omega) (Nat.mul_one _) ?_)
       refine j_gstep rfl rfl (x_ldR_sl 0 5 (k) rfl rfl rfl ld29 rfl (by omega) fun z1 hz2 pa2 ca2=>?_)
       obtain rfl : _ = z1:=Option.some.inj (at_y.symm.trans hz2)
       refine j_gstep rfl rfl (x_len sl29 rfl ?_)
       refine j_run it 1 rfl (by simp) ?_
       refine j_gstep rfl rfl (x_len sl29 rfl ?_)
       refine j_run it 2 rfl (by simp) ?_
       refine j_split_dec (t:=54) rfl (fun h4=>?_) (fun h4=>by exfalso;omega)
       refine j_run it 3 rfl (by simp) ?_
       refine j_gstep rfl rfl (x_idx_own (k) (k) rfl rfl sl22 rfl (by omega) (Nat.mul_one _) ?_)
       refine j_gstep rfl rfl (x_ldR_sl 0 6 (k) rfl rfl rfl ld29 rfl (by omega) fun z1 hz3 pa3 ca3=>?_)
       obtain rfl : _ = z1:=Option.some.inj (at_y.symm.trans hz3)
       refine j_gstep rfl rfl (x_call [2,0] rfl (c_codewrightref24_Inside) rfl ?_)
       rintro _ _ _ ⟨rfl,rfl,rfl⟩
       simp only [List.cons_append,List.nil_append]
       refine j_run it 3 rfl (by simp) ?_
       refine j_nf [_,_,_,_,_,_,_,_,_] rfl (j_run it 3 rfl ⟨trivial,⟨by omega,by omega⟩,trivial,trivial⟩ ?_)
       refine j_nfn 1 [.lp (pL 119412),.blk 4,.c (pL 14927),.blk 1,.c (pL 467),.lp (pL 116),.blk 0,.c [1,1,1]] rfl ?_
       dsimp only at ih3
       refine j_to [2,3,4,5,6,7,8,9] (by exact fra rfl) rfl rfl (ih3 (k + 1,true) (by dsimp only;omega) ⟨by dsimp only;omega,hb⟩)
      | false =>
       rw [hI,Bool.false_or] at hb
       simp only [hI] at c_codewrightref24_Inside
       refine j_nf [_,_,_,_,_,_,_,_,_,_,_] rfl (j_run it 2 rfl (by simp) ?_)
       refine j_step rfl (x_len sl22 rfl ?_)
       refine j_run it 1 rfl (by simp) ?_
       refine j_nf [_,_,_,_,_,_,_,_,_,_] rfl (j_if rfl rfl (fun h3=>?_) (fun h3=>by exfalso;omega))
       refine j_nf [_,_,_,_,_,_,_,_,_,_,_] rfl (j_run it 4 rfl (by simp) ?_)
       refine j_rowB 5 rfl (by omega) fun b2 cap1 cs1 hr1=>?_
       subst hr1
       dsimp only
       refine j_gstep rfl rfl (x_idx_own (k) (k) rfl rfl sl22 rfl (by omega) (Nat.mul_one _) ?_)
       refine j_gstep rfl rfl (x_ldR_sl 0 5 (k) rfl rfl rfl ld29 rfl (by omega) fun z1 hz2 pa2 ca2=>?_)
       obtain rfl : _ = z1:=Option.some.inj (at_y.symm.trans hz2)
       refine j_gstep rfl rfl (x_len sl29 rfl ?_)
       refine j_run it 1 rfl (by simp) ?_
       refine j_gstep rfl rfl (x_len sl29 rfl ?_)
       refine j_run it 2 rfl (by simp) ?_
       refine j_split_dec (t:=54) rfl (fun h4=>?_) (fun h4=>by exfalso;omega)
       refine j_run it 3 rfl (by simp) ?_
       refine j_gstep rfl rfl (x_idx_own (k) (k) rfl rfl sl22 rfl (by omega) (Nat.mul_one _) ?_)
       refine j_gstep rfl rfl (x_ldR_sl 0 6 (k) rfl rfl rfl ld29 rfl (by omega) fun z1 hz3 pa3 ca3=>?_)
       obtain rfl : _ = z1:=Option.some.inj (at_y.symm.trans hz3)
       refine j_gstep rfl rfl (x_call [2,0] rfl (c_codewrightref24_Inside) rfl ?_)
       rintro _ _ _ ⟨rfl,rfl,rfl⟩
       simp only [List.cons_append,List.nil_append]
       refine j_run it 3 rfl (by simp) ?_
       refine j_nf [_,_,_,_,_,_,_,_,_] rfl (j_run it 3 rfl ⟨trivial,⟨by omega,by omega⟩,trivial,trivial⟩ ?_)
       refine j_nfn 1 [.lp (pL 119412),.blk 4,.c (pL 14927),.blk 1,.c (pL 467),.lp (pL 116),.blk 0,.c [1,1,1]] rfl ?_
       dsimp only at ih3
       refine j_to [2,3,4,5,6,7,8,9] (by exact fra rfl) rfl rfl (ih3 (k + 1,false) (by dsimp only;omega) ⟨by dsimp only;omega,by rw [Bool.false_or];exact hb⟩)
     ·rw [decide_eq_false hly,Bool.false_and,Bool.false_or] at hb
      refine j_nf [_,_,_,_,_,_,_,_,_,_,_] rfl (j_run it 2 rfl (by simp) ?_)
      refine j_step rfl (x_len sl22 rfl ?_)
      refine j_run it 1 rfl (by simp) ?_
      refine j_nf [_,_,_,_,_,_,_,_,_,_] rfl (j_if rfl rfl (fun h3=>?_) (fun h3=>by exfalso;omega))
      refine j_nf [_,_,_,_,_,_,_,_,_,_,_] rfl (j_run it 4 rfl (by simp) ?_)
      refine j_rowB 5 rfl (by omega) fun b2 cap1 cs1 hr1=>?_
      subst hr1
      dsimp only
      refine j_gstep rfl rfl (x_idx_own (k) (k) rfl rfl sl22 rfl (by omega) (Nat.mul_one _) ?_)
      refine j_gstep rfl rfl (x_ldR_sl 0 5 (k) rfl rfl rfl ld29 rfl (by omega) fun z1 hz2 pa2 ca2=>?_)
      obtain rfl : _ = z1:=Option.some.inj (at_y.symm.trans hz2)
      refine j_gstep rfl rfl (x_len sl29 rfl ?_)
      refine j_run it 1 rfl (by simp) ?_
      refine j_gstep rfl rfl (x_len sl29 rfl ?_)
      refine j_run it 2 rfl (by simp) ?_
      refine j_split_dec (t:=54) rfl (fun h4=>by exfalso;omega) (fun h4=>?_)
      refine j_run it 9 rfl (by simp) ?_
      refine j_nf [_,_,_,_,_,_,_,_,_] rfl (j_run it 3 rfl ⟨trivial,⟨by omega,by omega⟩,trivial,trivial⟩ ?_)
      refine j_nfn 1 [.lp (pL 119412),.blk 4,.c (pL 14927),.blk 1,.c (pL 467),.lp (pL 116),.blk 0,.c [1,1,1]] rfl ?_
      dsimp only at ih3
      refine j_to [1,2,3,4,5,6,7,8] (by exact fra rfl) rfl rfl (ih3 (k + 1,false) (by dsimp only;omega) ⟨by dsimp only;omega,by rw [Bool.false_or];exact hb⟩)
   ·obtain rfl : k = out.length:=by omega
    rw [List.drop_length,oldB,List.any_nil,Bool.or_false] at hb
    subst hb
    by_cases hsd : s.length = d
    ·cases b with
     | true =>
      rw [if_neg (fun h=>by have:=h.2;cases this)] at he
      refine j_nf [_,_,_,_,_,_,_,_,_,_,_] rfl (j_run it 2 rfl (by simp) ?_)
      refine j_step rfl (x_len sl22 rfl ?_)
      refine j_run it 1 rfl (by simp) ?_
      refine j_nf [_,_,_,_,_,_,_,_,_,_] rfl (j_if rfl rfl (fun h3=>by exfalso;omega) (fun h3=>?_))
      refine j_nf [_,_,_,_,_,_,_] rfl (j_run it 1 rfl (by simp) ?_)
      refine j_step rfl (x_len sl29 rfl ?_)
      refine j_run it 3 rfl (by simp) ?_
      refine j_split_dec (t:=67) rfl (fun h4=>?_) (fun h4=>by exfalso;omega)
      refine j_run it 3 rfl (by simp) ?_
      refine j_nf [_,_,_,_,_,_] rfl ?_
      refine j_false rfl rfl ?_
      refine j_nf [_,_,_,_] rfl (j_run it 3 rfl ⟨trivial,⟨by omega,by omega⟩,trivial,trivial⟩ ?_)
      refine j_nfn 1 [.lp (pL 116),.blk 0,.c [1,1,1]] rfl ?_
      refine j_to [5,6,7] (by exact fra rfl) rfl rfl (ih (i + 1,r,out) (by dsimp only;omega) ⟨by dsimp only;omega,by dsimp only;omega,he⟩)
     | false =>
      rw [if_pos ⟨hsd,rfl⟩] at he
      have ih':=fun r1=>ih (i + 1,r1,out++[s]) (by dsimp only;omega) ⟨by dsimp only;omega,by dsimp only;rw [List.length_append,List.length_singleton];omega,he⟩
      simp only [List.length_append,List.length_singleton] at ih'
      refine j_nf [_,_,_,_,_,_,_,_,_,_,_] rfl (j_run it 2 rfl (by simp) ?_)
      refine j_step rfl (x_len sl22 rfl ?_)
      refine j_run it 1 rfl (by simp) ?_
      refine j_nf [_,_,_,_,_,_,_,_,_,_] rfl (j_if rfl rfl (fun h3=>by exfalso;omega) (fun h3=>?_))
      refine j_nf [_,_,_,_,_,_,_] rfl (j_run it 1 rfl (by simp) ?_)
      refine j_step rfl (x_len sl29 rfl ?_)
      refine j_run it 3 rfl (by simp) ?_
      refine j_split_dec (t:=67) rfl (fun h4=>?_) (fun h4=>by exfalso;omega)
      refine j_run it 3 rfl (by simp) ?_
      refine j_nf [_,_,_,_,_,_] rfl ?_
      refine j_true rfl rfl ?_
      refine j_nf [_,_,_,_,_,_] rfl (j_run it 2 rfl (by simp) ?_)
      refine j_step rfl (x_lit sl22 zo22e rfl rfl rfl rfl (by decide) (by decide) rfl fun b2=>?_)
      refine j_step rfl (x_appR (z:=s) 1 0 5 rfl rfl rfl rfl rfl sl22 zo22e rfl (fun w A hG=>(rd_of_slF (hG _ (fact_mem (n:=0) rfl)))) (by omega) _ by22e (by omega) fun r1=>?_)
      refine j_run it 1 rfl (by simp) ?_
      refine j_nf [_,_,_,_] rfl (j_run it 3 rfl ⟨trivial,⟨by omega,by omega⟩,trivial,trivial⟩ ?_)
      refine j_nfn 1 [.lp (pL 116),.blk 0,.c [1,1,1]] rfl ?_
      refine j_toM [true,false] [0,7,8] (by exact fra rfl) rfl rfl (ih' r1)
    ·rw [if_neg (fun h=>hsd h.1)] at he
     refine j_nf [_,_,_,_,_,_,_,_,_,_,_] rfl (j_run it 2 rfl (by simp) ?_)
     refine j_step rfl (x_len sl22 rfl ?_)
     refine j_run it 1 rfl (by simp) ?_
     refine j_nf [_,_,_,_,_,_,_,_,_,_] rfl (j_if rfl rfl (fun h3=>by exfalso;omega) (fun h3=>?_))
     refine j_nf [_,_,_,_,_,_,_] rfl (j_run it 1 rfl (by simp) ?_)
     refine j_step rfl (x_len sl29 rfl ?_)
     refine j_run it 3 rfl (by simp) ?_
     refine j_split_dec (t:=67) rfl (fun h4=>by exfalso;omega) (fun h4=>?_)
     refine j_run it 3 rfl (by simp) ?_
     refine j_nf [_,_,_,_,_,_] rfl ?_
     refine j_false rfl rfl ?_
     refine j_nf [_,_,_,_] rfl (j_run it 3 rfl ⟨trivial,⟨by omega,by omega⟩,trivial,trivial⟩ ?_)
     refine j_nfn 1 [.lp (pL 116),.blk 0,.c [1,1,1]] rfl ?_
     refine j_to [5,6,7] (by exact fra rfl) rfl rfl (ih (i + 1,r,out) (by dsimp only;omega) ⟨by dsimp only;omega,by dsimp only;omega,he⟩)
 ·obtain rfl : i = L.length:=by omega
  rw [List.drop_length,suppsL] at he
  subst he
  refine j_nf [_,_,_,_,_,_] rfl (j_run it 2 rfl (by simp) ?_)
  refine j_step rfl (x_len sl22 rfl ?_)
  refine j_run it 1 rfl (by simp) ?_
  refine j_nf [_,_,_,_,_] rfl (j_if rfl rfl (fun h1=>by exfalso;omega) (fun h1=>?_))
  refine j_nf [_,_] rfl (j_run it 2 rfl (by simp) ?_)
  refine j_nf [_] rfl ?_
  refine j_pubR 0 0 rfl rfl (by show _ * 24 ≤ _;omega) ?_
  refine j_giv [0] rfl rfl rfl ⟨_,_,rfl,rfl,rfl⟩
theorem S_MacwilliamsAssmus {P M : Int} {x nm cm nr cr : Nat} {md : List Int} {pm pr : Option Addr} {rows : List (List Int)} (hx : x < 256) :
  Ctr Try.prog 5 [.agg #[.int .i64 P,.int .i64 M,.slice pm nm cm],.int .u8 x,.slice pr nr cr] [] [slF I64 pm nm cm md,slF (encSl I64) pr nr cr rows]
   (Rv (.bool true) []):=by
 refine Ctr_of_j' (F:=F_codewrightlaw24_MacwilliamsAssmus) rfl fun C=>?_
 have c_codewrightlaw24_codes:=S_codewrightlaw24_codes (P:=P) (M:=M) (nm:=nm) (cm:=cm) (nr:=nr) (cr:=cr) (md:=md) (pm:=pm) (pr:=pr) (rows:=rows) hx
 have hn12 : x % 12 + 1 ≤ 12:=by omega
 have hn1 : 1 ≤ x % 12 + 1:=by omega
 refine j_nf [_,_] rfl (j_step rfl (x_box_agg rfl fun b1=>?_))
 refine j_run it 1 rfl (by simp) ?_
 refine j_nf [_,_] rfl (j_step rfl (x_bld_all 0 rfl rfl ld33 rfl ?_))
 refine j_run it 2 rfl (by simp) ?_
 generalize x % 12 + 1 = n at *
 refine j_step rfl (x_call [0,1] rfl c_codewrightlaw24_codes rfl ?_)
 rintro _ _ _ (⟨rfl,rfl,rfl⟩ | ⟨p,m,L,T,pa,pb,pc,ca,cb,cc,rfl,rfl,K,h12,hA,hB,rfl,rfl,rfl⟩)
 ·simp only [List.cons_append,List.nil_append]
  refine j_run it 11 rfl (by simp) ?_
  refine j_nf [_,_,_] rfl (j_run it 2 rfl (by simp) ?_)
  refine j_nf [_,_] rfl ?_
  refine j_true rfl rfl ?_
  refine j_nf [_,_,_] rfl (j_run it 1 rfl (by simp) ?_)
  refine j_nf [_,_] rfl ?_
  refine j_giv [] rfl rfl rfl ⟨rfl,rfl,rfl⟩
 have F:=K.fi
 have hq2:=F.q2
 have hq:=K.q
 have hord:=K.ord
 have wR : ∀ r ∈ rows.map (rowW ((p ^ m : Nat) : Int) n),Wd (p ^ m) n r:=fun r hr=>by
  obtain ⟨l,_,rfl⟩:=List.mem_map.1 hr
  exact rowW_wd (by omega) l
 rw [units_eq] at hB
 have hL:=spI_span F (spI_start F n) wR hA
 have hLin:=linI_span F (linI_start F n) wR hA
 have hT:=alI_span F n 0 (by omega) (alI_start n) hB
 rw [List.nil_append] at hL
 have wL : ∀ u ∈ L,u.length = n:=fun u hu=>(hL.wd u hu).1
 have wT:=(al_wd hT).1
 obtain ⟨e1,e2⟩:=dual_cw F hq (show n ≤ 64 by omega) hL hT
 have des:=fun (h : leP (cwL n L) n ≠ 0)=>assmus_des F hn12 hL hLin wR hT rfl h rfl
 generalize hD : T.filter (orthB (aF p m) (mF p m md) (rows.map (rowW ((p ^ m : Nat) : Int) n))) = D at *
 have wD : ∀ u ∈ D,u.length = n:=fun u hu=>by rw [← hD] at hu;exact (wT u (List.mem_filter.1 hu).1).1
 have lL : L.length ≤ 4096:=spanS_le (by simp) hA
 have sL:=cwL_small (n:=n) (L:=L) (by omega)
 have oL : ∀ l ∈ cwL n L,okN 20 l:=fun l hl=>⟨cwL_lt l hl,sL l hl⟩
 have l1:=cwL_len n L
 have l2:=cwL_len n D
 have c_codewrightref04_Order:=S_codewrightref04_Order (P:=(p : Int)) (M:=(m : Int)) (pm:=pm) (n:=nm) (c:=cm) hord
 generalize hQ : p ^ m = q at *
 have c_macwilliams_Strength:=fun {pa : Option Addr} {ca : Nat}=>S_macwilliams_Strength (q:=(q : Int)) (n:=n + 1) (K:=20) (pa:=pa) (ca:=ca) (by decide) oL
 have c_codewrightref24_Least:=fun {pa : Option Addr} {ca : Nat}=>S_codewrightref24_Least (n:=n + 1) (pa:=pa) (ca:=ca) (L:=cwL n L) cwL_lt
 rw [stV,stE,e1,e2,if_neg (show ¬ (0 : Int) ≠ 0 by decide),if_neg (show ¬ (0 : Int) ≠ 0 by decide),Nat.add_sub_cancel] at c_macwilliams_Strength
 rw [Nat.add_sub_cancel] at c_codewrightref24_Least
 have hqI : (2 : Int) ≤ (q : Int) ∧ (q : Int) ≤ 256:=by omega
 have hdn:=leP_le (cwL n L) n
 by_cases h0 : leP (cwL n L) n = 0
 ·rw [if_pos h0,if_pos h0] at c_macwilliams_Strength
  rw [h0] at c_codewrightref24_Least
  simp only [List.cons_append,List.nil_append]
  refine j_run it 11 rfl (by simp) ?_
  refine j_nf [_,_,_] rfl (j_run it 2 rfl (by simp) ?_)
  refine j_nf [_,_] rfl ?_
  refine j_false rfl rfl ?_
  refine j_nf [_,_] rfl (j_run it 2 rfl (by simp) ?_)
  refine j_step rfl (x_call [0] rfl (S_codewrightref24_Weights (by omega) (by omega)) rfl ?_)
  rintro _ _ _ ⟨pa1,ca1,rfl,rfl,rfl⟩
  simp only [List.cons_append,List.nil_append]
  refine j_run it 1 rfl (by simp) ?_
  refine j_nf [_,_] rfl (j_step rfl (x_bld_all 0 rfl rfl ld33 rfl ?_))
  refine j_step rfl (x_call [] rfl (c_codewrightref04_Order) rfl ?_)
  rintro _ _ _ ⟨rfl,rfl,rfl⟩
  simp only [List.cons_append,List.nil_append]
  refine j_run it 1 rfl (by simp) ?_
  refine j_step rfl (x_call [0] rfl (c_macwilliams_Strength) rfl ?_)
  rintro _ _ _ ⟨rfl,rfl,rfl⟩
  simp only [List.cons_append,List.nil_append]
  refine j_run it 5 rfl (by simp) ?_
  refine j_nf [_,_] rfl (j_run it 1 rfl (by simp) ?_)
  refine j_step rfl (x_call [0] rfl (c_codewrightref24_Least) rfl ?_)
  rintro _ _ _ ⟨rfl,rfl,rfl⟩
  simp only [List.cons_append,List.nil_append]
  refine j_run it 1 rfl (by simp) ?_
  refine j_nf [_,_,_] rfl (j_run it 2 rfl (by simp) ?_)
  refine j_nf [_,_] rfl (j_if rfl rfl (fun h1=>?_) (fun h1=>by exfalso;omega))
  refine j_nf [_,_,_] rfl (j_run it 7 rfl (by simp) ?_)
  refine j_nf [_,_] rfl ?_
  rw [decide_eq_true (show ((0 : Nat) : Int) = 0 from rfl)]
  refine j_giv [] rfl rfl rfl ⟨rfl,rfl,rfl⟩
 ·rw [if_neg h0,if_neg h0] at c_macwilliams_Strength
  obtain ⟨k,hk,hdes⟩:=des h0
  have hst:=stP_le (cwL n D) n (leP (cwL n L) n) (leP (cwL n L) n - 1)
  have c_codewrightref24_Dual:=fun {pa : Option Addr} {ca : Nat}=>S_codewrightref24_Dual (q:=(q : Int)) (n:=n + 1) (K:=20) (pa:=pa) (ca:=ca) (by decide) oL
  rw [e1,e2,l2] at c_codewrightref24_Dual
  generalize leP (cwL n L) n = d at *
  have c_codewrightref24_Strength:=fun {pa : Option Addr} {ca : Nat}=>S_codewrightref24_Strength (d:=d) (n:=n + 1) (pa:=pa) (ca:=ca) (L:=cwL n D) (by omega) (by omega) cwL_lt
  rw [Nat.add_sub_cancel] at c_codewrightref24_Strength
  generalize stP (cwL n D) n d (d - 1) = t at *
  have c_codewrightref24_Supports:=fun {nl cl : Nat} {pl : Option Addr}=>S_codewrightref24_Supports (n:=n) (d:=d) (nl:=nl) (cl:=cl) (pl:=pl) (by omega) (by omega) wL
  have hSl:=suppsL_len d L []
  generalize suppsL d [] L = S at *
  rw [List.length_nil,Nat.zero_add] at hSl
  have c_macwilliams_Design:=fun {pa : Option Addr} {nb ca : Nat}=>S_macwilliams_Design (pa:=pa) (nb:=nb) (ca:=ca) (n:=(n : Int)) (t:=(t : Int)) (L:=S) (by omega)
  rw [des_eq,hdes] at c_macwilliams_Design
  simp only [List.cons_append,List.nil_append]
  refine j_run it 11 rfl (by simp) ?_
  refine j_nf [_,_,_] rfl (j_run it 2 rfl (by simp) ?_)
  refine j_nf [_,_] rfl ?_
  refine j_false rfl rfl ?_
  refine j_nf [_,_] rfl (j_run it 2 rfl (by simp) ?_)
  refine j_step rfl (x_call [0] rfl (S_codewrightref24_Weights (by omega) (by omega)) rfl ?_)
  rintro _ _ _ ⟨pa1,ca1,rfl,rfl,rfl⟩
  simp only [List.cons_append,List.nil_append]
  refine j_run it 1 rfl (by simp) ?_
  refine j_nf [_,_] rfl (j_step rfl (x_bld_all 0 rfl rfl ld33 rfl ?_))
  refine j_step rfl (x_call [] rfl (c_codewrightref04_Order) rfl ?_)
  rintro _ _ _ ⟨rfl,rfl,rfl⟩
  simp only [List.cons_append,List.nil_append]
  refine j_run it 1 rfl (by simp) ?_
  refine j_step rfl (x_call [0] rfl (c_macwilliams_Strength) rfl ?_)
  rintro _ _ _ ⟨rfl,rfl,rfl⟩
  simp only [List.cons_append,List.nil_append]
  refine j_run it 5 rfl (by simp) ?_
  refine j_nf [_,_] rfl (j_run it 1 rfl (by simp) ?_)
  refine j_step rfl (x_call [0] rfl (c_codewrightref24_Least) rfl ?_)
  rintro _ _ _ ⟨rfl,rfl,rfl⟩
  simp only [List.cons_append,List.nil_append]
  refine j_run it 1 rfl (by simp) ?_
  refine j_nf [_,_,_] rfl (j_run it 2 rfl (by simp) ?_)
  refine j_nf [_,_] rfl (j_if rfl rfl (fun h1=>by exfalso;omega) (fun h1=>?_))
  refine j_nf [_,_] rfl (j_step rfl (x_bld_all 0 rfl rfl ld33 rfl ?_))
  refine j_step rfl (x_call [] rfl (c_codewrightref04_Order) rfl ?_)
  rintro _ _ _ ⟨rfl,rfl,rfl⟩
  simp only [List.cons_append,List.nil_append]
  refine j_run it 1 rfl (by simp) ?_
  refine j_step rfl (x_call [0] rfl (c_codewrightref24_Dual) rfl ?_)
  rintro _ _ _ ⟨pa2,ca2,rfl,rfl,rfl⟩
  simp only [List.cons_append,List.nil_append]
  refine j_run it 5 rfl (by simp) ?_
  refine j_nf [_,_,_] rfl (j_run it 10 rfl (by simp) ?_)
  refine j_split_ndec (t:=65) rfl (fun h2=>by exfalso;omega) (fun h2=>?_)
  refine j_gstep rfl rfl (x_call [0] rfl (c_codewrightref24_Strength) rfl ?_)
  rintro _ _ _ ⟨rfl,rfl,rfl⟩
  simp only [List.cons_append,List.nil_append]
  simp only [decide_true]
  refine j_run it 2 rfl (by simp) ?_
  refine j_nf [_,_] rfl (j_ifn rfl rfl (fun h3=>by exfalso;omega) (fun h3=>?_))
  refine j_nf [_,_] rfl (j_run it 3 rfl (by simp) ?_)
  refine j_step rfl (x_call [2] rfl (c_codewrightref24_Supports) rfl ?_)
  rintro _ _ _ ⟨pa3,ca3,rfl,rfl,rfl⟩
  simp only [List.cons_append,List.nil_append]
  simp only [decide_true]
  refine j_run it 1 rfl (by simp) ?_
  refine j_step rfl (x_call [0] rfl (c_macwilliams_Design) rfl ?_)
  rintro _ _ _ ⟨rfl,rfl,rfl⟩
  simp only [List.cons_append,List.nil_append]
  refine j_run it 5 rfl (by simp) ?_
  refine j_nf [_,_] rfl (j_run it 7 rfl (by simp) ?_)
  refine j_nf [_] rfl ?_
  rw [decide_eq_true (show (0 : Int) < (k : Int) by omega)]
  refine j_giv [] rfl rfl rfl ⟨rfl,rfl,rfl⟩
end Go.Proofs.Ytmhcfhddmkhaiaa
