/-
Contracts of nat.Cmp and nat.Sub. The program's Design. Contracts of the document's numbers: Trim, Of, limb, Same, Zero. The document's product. The document's sum. The document's binomial coefficient. The document's binomial coefficient; the program's for all places. The document's Cmp and Sub. The document's tests of blocks: Block, Inside, Many. The document's sets of points. The document's Design, and that it is the program's. What the laws of designs look at, and the walk of MacwilliamsDesigns. The counting identity of designs. The walk of MacwilliamsDerived.
-/
import Derived.Test.YtmhcfhddmkhaiaaHB2
set_option linter.unusedVariables false
set_option linter.unusedSimpArgs false
namespace Go.Proofs.Ytmhcfhddmkhaiaa
open Go Go.Fw
set_option maxRecDepth 100000
set_option linter.unusedVariables false
set_option linter.unusedSimpArgs false
set_option maxHeartbeats 1000000
theorem S_nat_Cmp {pa pb : Option Addr} {n m ca cb : Nat} {a b : List Nat} :
  Ctr Try.prog 23 [.slice pa n ca,.slice pb m cb] [] [slF U32 pa n ca a,slF U32 pb m cb b] (Rv (.int .i64 (cmpN (val a) (val b))) []):=by
 refine Ctr_of_j' (F:=F_nat_Cmp) rfl fun C=>?_
 refine j_len 0 rfl fun hn hba _=>?_
 refine j_len 1 rfl fun hm hbb _=>?_
 subst hn;subst hm
 have hba' : a.length * 4 ≤ 140737488355328:=hba
 have hbb' : b.length * 4 ≤ 140737488355328:=hbb
 refine j_range 0 rfl fun hra=>?_
 refine j_range 1 rfl fun hrb=>?_
 have hra' : ∀ x ∈ a,x < 4294967296:=fun x hx=>by have:=hra x hx;simp only [InR] at this;omega
 have hrb' : ∀ x ∈ b,x < 4294967296:=fun x hx=>by have:=hrb x hx;simp only [InR] at this;omega
 have ea:=trim_eq hra'
 have eb:=trim_eq hrb'
 have la:=trim_length_le a
 have lb:=trim_length_le b
 by_cases hA : (trim a).length < (trim b).length
 ·have : val a < val b:=lt_of_len (by rw [← ea,← eb];exact hA)
  rw [cmpN_lt this]
  refine j_nf [_,_] rfl ?_
  refine j_run it 1 rfl (by simp) ?_
  refine j_nf [_,_] rfl ?_
  refine j_run it 1 rfl (by simp) ?_
  refine j_step rfl (x_call [0] rfl (S_nat_short) rfl ?_)
  rintro _ _ _ ⟨rfl,rfl,rfl⟩
  simp only [List.cons_append,List.nil_append]
  refine j_run it 1 rfl (by simp) ?_
  refine j_step rfl (x_call [2] rfl (S_nat_short) rfl ?_)
  rintro _ _ _ ⟨rfl,rfl,rfl⟩
  simp only [List.cons_append,List.nil_append]
  refine j_run it 2 rfl (by simp) ?_
  refine j_nf [_,_,_] rfl ?_
  refine j_run it 1 rfl (by simp) ?_
  refine j_step rfl (x_len sl48 rfl ?_)
  refine j_run it 1 rfl (by simp) ?_
  refine j_step rfl (x_len sl48 rfl ?_)
  refine j_run it 1 rfl (by simp) ?_
  refine j_nf [_,_] rfl ?_
  refine j_ifn rfl rfl (fun h1=>?_) (fun h1=>by exfalso;omega)
  refine j_nf [_,_,_,_] rfl ?_
  refine j_run it 1 rfl (by simp) ?_
  refine j_step rfl (x_len sl48 rfl ?_)
  refine j_run it 1 rfl (by simp) ?_
  refine j_step rfl (x_len sl48 rfl ?_)
  refine j_run it 1 rfl (by simp) ?_
  refine j_nf [_,_,_] rfl ?_
  refine j_if rfl rfl (fun h2=>?_) (fun h2=>by exfalso;omega)
  refine j_nf [_,_,_,_] rfl ?_
  refine j_run it 1 rfl (by simp) ?_
  refine j_nf [_,_,_] rfl ?_
  refine j_giv [] rfl rfl rfl ⟨rfl,rfl,rfl⟩
 by_cases hB : (trim b).length < (trim a).length
 ·have : val b < val a:=lt_of_len (by rw [← ea,← eb];exact hB)
  rw [cmpN_gt this]
  refine j_nf [_,_] rfl ?_
  refine j_run it 1 rfl (by simp) ?_
  refine j_nf [_,_] rfl ?_
  refine j_run it 1 rfl (by simp) ?_
  refine j_step rfl (x_call [0] rfl (S_nat_short) rfl ?_)
  rintro _ _ _ ⟨rfl,rfl,rfl⟩
  simp only [List.cons_append,List.nil_append]
  refine j_run it 1 rfl (by simp) ?_
  refine j_step rfl (x_call [2] rfl (S_nat_short) rfl ?_)
  rintro _ _ _ ⟨rfl,rfl,rfl⟩
  simp only [List.cons_append,List.nil_append]
  refine j_run it 2 rfl (by simp) ?_
  refine j_nf [_,_,_] rfl ?_
  refine j_run it 1 rfl (by simp) ?_
  refine j_step rfl (x_len sl48 rfl ?_)
  refine j_run it 1 rfl (by simp) ?_
  refine j_step rfl (x_len sl48 rfl ?_)
  refine j_run it 1 rfl (by simp) ?_
  refine j_nf [_,_] rfl ?_
  refine j_ifn rfl rfl (fun h1=>?_) (fun h1=>by exfalso;omega)
  refine j_nf [_,_,_,_] rfl ?_
  refine j_run it 1 rfl (by simp) ?_
  refine j_step rfl (x_len sl48 rfl ?_)
  refine j_run it 1 rfl (by simp) ?_
  refine j_step rfl (x_len sl48 rfl ?_)
  refine j_run it 1 rfl (by simp) ?_
  refine j_nf [_,_,_] rfl ?_
  refine j_if rfl rfl (fun h2=>by exfalso;omega) (fun h2=>?_)
  refine j_nf [_,_,_] rfl ?_
  refine j_run it 1 rfl (by simp) ?_
  refine j_nf [_,_] rfl ?_
  refine j_giv [] rfl rfl rfl ⟨rfl,rfl,rfl⟩
 have hta : ∀ x ∈ trim a,x < 4294967296:=fun x hx=>hra' x (mem_trim hx)
 have htb : ∀ x ∈ trim b,x < 4294967296:=fun x hx=>hrb' x (mem_trim hx)
 have va : val (trim a) = val a:=val_trim a
 have vb : val (trim b) = val b:=val_trim b
 refine j_nf [_,_] rfl ?_
 refine j_run it 1 rfl (by simp) ?_
 refine j_nf [_,_] rfl ?_
 refine j_run it 1 rfl (by simp) ?_
 refine j_step rfl (x_call [0] rfl (S_nat_short) rfl ?_)
 rintro _ _ _ ⟨rfl,rfl,rfl⟩
 simp only [List.cons_append,List.nil_append]
 refine j_run it 1 rfl (by simp) ?_
 refine j_step rfl (x_call [2] rfl (S_nat_short) rfl ?_)
 rintro _ _ _ ⟨rfl,rfl,rfl⟩
 simp only [List.cons_append,List.nil_append]
 refine j_run it 2 rfl (by simp) ?_
 refine j_nf [_,_,_] rfl ?_
 refine j_run it 1 rfl (by simp) ?_
 refine j_step rfl (x_len sl48 rfl ?_)
 refine j_run it 1 rfl (by simp) ?_
 refine j_step rfl (x_len sl48 rfl ?_)
 refine j_run it 1 rfl (by simp) ?_
 refine j_nf [_,_] rfl ?_
 refine j_ifn rfl rfl (fun h1=>by exfalso;omega) (fun h1=>?_)
 refine j_nf [_,_,_] rfl ?_
 refine j_run it 1 rfl (by simp) ?_
 refine j_step rfl (x_len sl48 rfl ?_)
 refine j_run it 2 rfl ⟨trivial,⟨by omega,by omega⟩,trivial⟩ ?_
 refine j_nf [_,_,_] rfl ?_
 refine j_loopG (X:=Nat) [0,1] [0,1,2,3] (fun k=>[(5,.int .i64 ((k : Int) - 1))]) (fun _=>[]) (fun _=>[]) (fun k=>k ≤ (trim a).length ∧ (trim a).drop k = (trim b).drop k) (fun k=>k) (trim a).length [] rfl rfl rfl ⟨Nat.le_refl _,by rw [List.drop_length,List.drop_of_length_le (by omega)]⟩ (by repeat (first | exact Fr.sub_nil _ | refine Fr.sub_cons rfl ?_)) rfl rfl ?_
 intro k ⟨hk,hd⟩ ih
 simp only [List.cons_append,List.nil_append] at ih ⊢
 by_cases hkl : 0 < k
 ·obtain ⟨j,rfl⟩ : ∃ j,k = j + 1:=⟨k - 1,by omega⟩
  have hx:=get_some (l:=trim a) (i:=j) (dflt:=default) (by omega)
  have hy:=get_some (l:=trim b) (i:=j) (dflt:=default) (by omega)
  generalize hgx : (trim a).getD j default = x at hx
  generalize hgy : (trim b).getD j default = y at hy
  rw [show (((j + 1 : Nat) : Int) - 1) = (j : Int) by omega]
  refine j_nf [_,_,_,_,_,_] rfl ?_
  refine j_run it 2 rfl (by simp) ?_
  refine j_nf [_,_,_,_,_] rfl ?_
  refine j_if rfl rfl (fun h2=>?_) (fun h2=>by exfalso;omega)
  refine j_nf [_,_,_,_,_,_,_,_] rfl ?_
  (apply j_drawK it mx 9;(· rfl);(· rfl))
  (apply lxk_run 2;(· rfl);(· simp))
  (apply lxk_pt;(· rfl);(· exact d_x fun _=>x_idx 1 (j) rfl rfl rfl sl48 rfl (by omega) fun z1 hz1 b1 o1=>(dk_ptD default hz1 0 rfl));intro b1 o1)
  (apply lxk_eq;(· rfl);(· exact d_x fun _=>x_ld_nat 0 rfl rfl ld78 fun ⟨r1,r2⟩=>dk_eq))
  (apply lxk_run 2;(· rfl);(· simp))
  (apply lxk_pt;(· rfl);(· exact d_x fun _=>x_idx 0 (j) rfl rfl rfl sl48 rfl (by omega) fun z1 hz1 b2 o2=>(dk_ptD default hz1 0 rfl));intro b2 o2)
  (apply lxk_eq;(· rfl);(· exact d_x fun _=>x_ld_nat 0 rfl rfl ld78 fun ⟨r1,r2⟩=>dk_eq))
  (apply lxk_run 1;(· rfl);(· simp))
  refine lxk_end rfl ?_
  simp only [List.map_cons,List.map_nil,List.cons_append,List.nil_append]
  refine j_nf [_,_,_,_,_,_,_] rfl ?_
  refine j_if rfl rfl (fun h3=>?_) (fun h3=>?_)
  ·rw [hgx,hgy] at h3
   have : val a < val b:=by rw [← va,← vb];exact lt_of_top hta (by rw [hd]) hx hy (by omega)
   rw [cmpN_lt this]
   refine j_nf [_,_,_,_,_,_,_,_] rfl ?_
   refine j_run it 1 rfl (by simp) ?_
   refine j_nf [_,_,_,_,_,_,_] rfl ?_
   refine j_giv [] rfl rfl rfl ⟨rfl,rfl,rfl⟩
  ·refine j_nf [_,_,_,_,_,_,_] rfl ?_
   (apply j_drawK it mx 9;(· rfl);(· rfl))
   (apply lxk_run 2;(· rfl);(· simp))
   (apply lxk_pt;(· rfl);(· exact d_x fun _=>x_idx 3 (j) rfl rfl rfl sl48 rfl (by omega) fun z1 hz1 b3 o3=>(dk_ptD default hz1 0 rfl));intro b3 o3)
   (apply lxk_eq;(· rfl);(· exact d_x fun _=>x_ld_nat 0 rfl rfl ld78 fun ⟨r1,r2⟩=>dk_eq))
   (apply lxk_run 2;(· rfl);(· simp))
   (apply lxk_pt;(· rfl);(· exact d_x fun _=>x_idx 2 (j) rfl rfl rfl sl48 rfl (by omega) fun z1 hz1 b4 o4=>(dk_ptD default hz1 0 rfl));intro b4 o4)
   (apply lxk_eq;(· rfl);(· exact d_x fun _=>x_ld_nat 0 rfl rfl ld78 fun ⟨r1,r2⟩=>dk_eq))
   (apply lxk_run 1;(· rfl);(· simp))
   refine lxk_end rfl ?_
   simp only [List.map_cons,List.map_nil,List.cons_append,List.nil_append]
   refine j_nf [_,_,_,_,_,_] rfl ?_
   refine j_if rfl rfl (fun h4=>?_) (fun h4=>?_)
   ·rw [hgx,hgy] at h4
    have : val b < val a:=by rw [← va,← vb];exact lt_of_top htb (by rw [hd]) hy hx (by omega)
    rw [cmpN_gt this]
    refine j_nf [_,_,_,_,_,_,_] rfl ?_
    refine j_run it 1 rfl (by simp) ?_
    refine j_nf [_,_,_,_,_,_] rfl ?_
    refine j_giv [] rfl rfl rfl ⟨rfl,rfl,rfl⟩
   ·rw [hgx,hgy] at h3 h4
    have hxy : x = y:=by omega
    subst hxy
    refine j_nf [_,_,_,_] rfl ?_
    refine j_run it 3 rfl ⟨trivial,⟨by omega,by omega⟩,trivial,trivial⟩ ?_
    refine j_nfn 1 [.lp (pL 244),.blk 0,.c [1,1,1,1]] rfl ?_
    refine j_to [4,5,6,7] (by exact fra rfl) rfl rfl (ih j (by omega) ⟨by omega,drop_step hd hx hy⟩)
 ·have e0 : k = 0:=by omega
  subst e0
  have e : trim a = trim b:=by simpa using hd
  rw [cmpN_eq (by rw [← va,← vb,e])]
  refine j_nf [_,_,_,_,_,_] rfl ?_
  refine j_run it 2 rfl (by simp) ?_
  refine j_nf [_,_,_,_,_] rfl ?_
  refine j_if rfl rfl (fun h2=>by exfalso;omega) (fun h2=>?_)
  refine j_nf [_,_] rfl ?_
  refine j_run it 1 rfl (by simp) ?_
  refine j_nf [_] rfl ?_
  refine j_giv [] rfl rfl rfl ⟨rfl,rfl,rfl⟩
set_option maxHeartbeats 8000000
def desR (n : Int) (L : List (List Int)) (t : Int) : Int × Int :=
 if n < 0 ∨ 64 < n then (0,6) else
 match blksN n.toNat L with
 | none=>(0,5)
 | some ms=>if t < 0 ∨ n < t then (0,6) else if 65536 < binom n.toNat t.toNat then (0,8) else
  let r:=visL ms (subsL n.toNat t.toNat 0 0) (-1) true
  if r.2.1 = true then (r.1,0) else (0,11)
theorem S_macwilliams_Design {pa : Option Addr} {nb ca : Nat} {n t : Int} {L : List (List Int)} (hL : L.length ≤ 1000000) :
  Ctr Try.prog 8 [.int .i64 n,.slice pa nb ca,.int .i64 t] [] [slF (encSl I64) pa nb ca L] (Rv (.tuple #[.int .i64 (desR n L t).1,.int .i64 (desR n L t).2]) []):=by
 refine Ctr_of_j' (F:=F_macwilliams_Design) rfl fun C=>?_
 refine j_len 0 rfl fun e1 hb1 _=>?_
 subst e1
 by_cases h1 : n < 0 ∨ 64 < n
 ·have e0 : desR n L t = (0,6):=by rw [desR,if_pos h1]
  rw [e0]
  by_cases h2 : n < 0
  ·refine j_nf [_,_] rfl (j_run it 2 rfl (by simp) ?_)
   refine j_nf [_,_,_] rfl (j_run it 3 rfl (by simp) ?_)
   refine j_split_dec (t:=21) rfl (fun h3=>?_) (fun h3=>by exfalso;omega)
   refine j_run it 3 rfl (by simp) ?_
   refine j_nf [_,_] rfl ?_
   refine j_true rfl rfl ?_
   refine j_nf [_,_,_] rfl (j_run it 2 rfl (by simp) ?_)
   refine j_nf [_,_] rfl ?_
   refine j_giv [] rfl rfl rfl ⟨rfl,rfl,rfl⟩
  ·have h3 : 64 < n:=by omega
   refine j_nf [_,_] rfl (j_run it 2 rfl (by simp) ?_)
   refine j_nf [_,_,_] rfl (j_run it 3 rfl (by simp) ?_)
   refine j_split_dec (t:=21) rfl (fun h4=>by exfalso;omega) (fun h4=>?_)
   refine j_run it 3 rfl (by simp) ?_
   refine j_nf [_,_] rfl (j_if rfl rfl (fun h5=>?_) (fun h5=>by exfalso;omega))
   refine j_nf [_,_,_] rfl (j_run it 2 rfl (by simp) ?_)
   refine j_nf [_,_] rfl ?_
   refine j_giv [] rfl rfl rfl ⟨rfl,rfl,rfl⟩
 obtain ⟨n,rfl⟩ : ∃ k : Nat,n = k:=⟨n.toNat,by omega⟩
 have hn : n ≤ 64:=by omega
 refine j_nf [_,_] rfl (j_run it 2 rfl (by simp) ?_)
 refine j_nf [_,_,_] rfl (j_run it 6 rfl (by simp) ?_)
 refine j_nf [_,_] rfl (j_if rfl rfl (fun h2=>by exfalso;omega) (fun h2=>?_))
 refine j_nf [_,_] rfl (j_step rfl (x_alloc zo52 fun b1=>?_))
 refine j_nf [_,_,_] rfl (j_run it 1 rfl (by simp) ?_)
 refine j_step rfl (x_len sl22 rfl ?_)
 refine j_run it 1 rfl (by simp) ?_
 refine j_nf [_,_,_] rfl ?_
 refine j_row0 (encNat .u64 8) 51 ?_
 refine j_loopG (X:=Nat × Row × List Nat) [0,2,8,25,26] [0,1] (fun x=>[(27,.int .i64 (x.1 : Int))]) (fun x=>[(x.2.1.bo,51,x.2.1.cs),(some b1,52,[.slice (ad x.2.1.bo) x.1 x.2.1.cap])]) (fun x=>[rowF (encNat .u64 8) x.2.1 x.1 x.2.2])
  (fun x=>x.1 ≤ L.length ∧ blksN n (L.take x.1) = some x.2.2) (fun x=>L.length - x.1) (0,⟨none,0,[]⟩,[]) [0] rfl rfl rfl ⟨Nat.zero_le _,rfl⟩ (by repeat (first | exact Fr.sub_nil _ | refine Fr.sub_cons rfl ?_)) rfl rfl ?_
 rintro ⟨i,r,ms⟩ ⟨hi,hb⟩ ih
 simp only [List.cons_append,List.nil_append] at hi hb ih ⊢
 by_cases hil : i < L.length
 ·have hz : L[i]? = some (L.getD i default):=by rw [List.getD_eq_getElem?_getD,List.getElem?_eq_getElem hil];rfl
  refine j_nf [_,_,_,_,_] rfl (j_run it 1 rfl (by simp) ?_)
  refine j_nf [_,_,_,_,_] rfl (j_if rfl rfl (fun h3=>?_) (fun h3=>by exfalso;omega))
  refine j_nf [_,_,_,_,_,_,_] rfl (j_step rfl (x_idx 2 (i) rfl rfl rfl sl22 rfl (by omega) fun z1 hz1 b2 o1=>?_))
  refine j_step rfl (x_ld_sl 0 rfl rfl ld29 fun pa1 ca1=>?_)
  refine j_run it 1 rfl (by simp) ?_
  refine j_nf [_,_,_,_,_,_,_] rfl (j_run it 2 rfl (by simp) ?_)
  refine j_nf [_,_,_,_,_,_,_,_] rfl (j_run it 1 rfl (by simp) ?_)
  refine j_step rfl (x_len sl29 rfl ?_)
  refine j_run it 1 rfl (by simp) ?_
  refine j_nf [_,_,_,_,_,_,_,_] rfl ?_
  obtain rfl : z1 = L.getD i default:=Option.some.inj (hz1.symm.trans hz)
  generalize hl : L.getD i default = l at *
  generalize hq : blkN n (-1) 0 l = q
  refine j_len 0 rfl fun _ hbl _=>?_
  have hbl' : l.length * 8 ≤ 140737488355328:=hbl
  refine j_loopG (X:=Nat × Int × Nat) [0,2,8,10,25,26,27,28,29,30,31,32] [0,1,2,3,4] (fun x=>[(33,.int .i64 (x.1 : Int)),(12,.int .i64 x.2.1),(11,.int .u64 (x.2.2 : Int))]) (fun _=>[(r.bo,51,r.cs),(some b1,52,[.slice (ad r.bo) i r.cap])]) (fun _=>[])
   (fun x=>x.1 ≤ l.length ∧ -1 ≤ x.2.1 ∧ x.2.1 < 64 ∧ x.2.2 < 18446744073709551616 ∧ blkN n x.2.1 x.2.2 (l.drop x.1) = q) (fun x=>l.length - x.1) (0,-1,0) [] rfl rfl rfl ⟨Nat.zero_le _,by decide,by decide,by decide,hq⟩ (by repeat (first | exact Fr.sub_nil _ | refine Fr.sub_cons rfl ?_)) rfl rfl ?_
  rintro ⟨j,last,m⟩ ⟨hj,hl1,hl2,hm,he⟩ ih2
  simp only [List.cons_append,List.nil_append] at hj hl1 hl2 hm he ih2 ⊢
  by_cases hjl : j < l.length
  ·obtain ⟨p,at_p,ed⟩ : ∃ p,l[j]? = some p ∧ l.drop j = p::l.drop (j + 1):=⟨l[j],List.getElem?_eq_getElem hjl,List.drop_eq_getElem_cons hjl⟩
   rw [ed,blkN] at he
   by_cases hc : p ≤ last ∨ (n : Int) ≤ p
   ·rw [if_pos hc] at he
    have e0 : desR n L t = (0,5):=by
     have : blksN n L = none:=blksN_none (hq.trans he.symm) (List.mem_of_getElem? hz)
     rw [desR,if_neg h1,Int.toNat_natCast,this]
    rw [e0]
    by_cases hc1 : p ≤ last
    ·refine j_nf [_,_,_,_,_,_,_,_,_,_] rfl (j_run it 1 rfl (by simp) ?_)
     refine j_nf [_,_,_,_,_,_,_,_,_,_] rfl (j_if rfl rfl (fun h4=>?_) (fun h4=>by exfalso;omega))
     refine j_nf [_,_,_,_,_,_,_,_,_,_,_,_] rfl (j_step rfl (x_idx 0 (j) rfl rfl rfl sl29 rfl (by omega) fun z1 hz2 b3 o2=>?_))
     obtain rfl : _ = z1:=Option.some.inj (at_p.symm.trans hz2)
     refine j_step rfl (x_ld_int 0 rfl rfl ld3 fun ⟨r1,r2⟩=>?_)
     refine j_run it 1 rfl (by simp) ?_
     refine j_nf [_,_,_,_,_,_,_,_,_,_,_,_,_] rfl (j_run it 4 rfl (by simp) ?_)
     refine j_split_dec (t:=40) rfl (fun h5=>?_) (fun h5=>by exfalso;omega)
     refine j_run it 4 rfl (by simp) ?_
     refine j_nf [_,_,_,_,_,_,_,_,_,_,_,_] rfl ?_
     refine j_true rfl rfl ?_
     refine j_nf [_,_,_,_,_,_,_,_,_,_,_,_,_] rfl (j_run it 2 rfl (by simp) ?_)
     refine j_nf [_,_,_,_,_,_,_,_,_,_,_,_] rfl ?_
     refine j_giv [] rfl rfl rfl ⟨rfl,rfl,rfl⟩
    ·refine j_nf [_,_,_,_,_,_,_,_,_,_] rfl (j_run it 1 rfl (by simp) ?_)
     refine j_nf [_,_,_,_,_,_,_,_,_,_] rfl (j_if rfl rfl (fun h4=>?_) (fun h4=>by exfalso;omega))
     refine j_nf [_,_,_,_,_,_,_,_,_,_,_,_] rfl (j_step rfl (x_idx 0 (j) rfl rfl rfl sl29 rfl (by omega) fun z1 hz2 b3 o2=>?_))
     obtain rfl : _ = z1:=Option.some.inj (at_p.symm.trans hz2)
     refine j_step rfl (x_ld_int 0 rfl rfl ld3 fun ⟨r1,r2⟩=>?_)
     refine j_run it 1 rfl (by simp) ?_
     refine j_nf [_,_,_,_,_,_,_,_,_,_,_,_,_] rfl (j_run it 4 rfl (by simp) ?_)
     refine j_split_dec (t:=40) rfl (fun h5=>by exfalso;omega) (fun h5=>?_)
     refine j_run it 4 rfl (by simp) ?_
     refine j_nf [_,_,_,_,_,_,_,_,_,_,_,_] rfl (j_if rfl rfl (fun h6=>?_) (fun h6=>by exfalso;omega))
     refine j_nf [_,_,_,_,_,_,_,_,_,_,_,_,_] rfl (j_run it 2 rfl (by simp) ?_)
     refine j_nf [_,_,_,_,_,_,_,_,_,_,_,_] rfl ?_
     refine j_giv [] rfl rfl rfl ⟨rfl,rfl,rfl⟩
   ·rw [if_neg hc] at he
    obtain ⟨k,rfl⟩ : ∃ k : Nat,p = k:=⟨p.toNat,by omega⟩
    rw [Int.toNat_natCast] at he
    have h2p : 2 ^ k < 18446744073709551616:=Nat.pow_lt_pow_right (n:=64) (by decide) (by omega)
    have hbm : m ||| 1 * 2 ^ k < 18446744073709551616:=Nat.or_lt_two_pow (n:=64) hm (by rw [Nat.one_mul];exact h2p)
    have hir : InR .u64 ((1 * 2 ^ k : Nat) : Int):=by
     rw [Nat.one_mul]
     generalize 2 ^ k = z at *
     simp only [InR];omega
    refine j_nf [_,_,_,_,_,_,_,_,_,_] rfl (j_run it 1 rfl (by simp) ?_)
    refine j_nf [_,_,_,_,_,_,_,_,_,_] rfl (j_if rfl rfl (fun h4=>?_) (fun h4=>by exfalso;omega))
    refine j_nf [_,_,_,_,_,_,_,_,_,_,_,_] rfl (j_step rfl (x_idx 0 (j) rfl rfl rfl sl29 rfl (by omega) fun z1 hz2 b3 o2=>?_))
    obtain rfl : _ = z1:=Option.some.inj (at_p.symm.trans hz2)
    refine j_step rfl (x_ld_int 0 rfl rfl ld3 fun ⟨r1,r2⟩=>?_)
    refine j_run it 1 rfl (by simp) ?_
    refine j_nf [_,_,_,_,_,_,_,_,_,_,_,_,_] rfl (j_run it 4 rfl (by simp) ?_)
    refine j_split_dec (t:=40) rfl (fun h5=>by exfalso;omega) (fun h5=>?_)
    refine j_run it 4 rfl (by simp) ?_
    refine j_nf [_,_,_,_,_,_,_,_,_,_,_,_] rfl (j_if rfl rfl (fun h6=>by exfalso;omega) (fun h6=>?_))
    refine j_nf [_,_,_,_,_,_,_,_,_,_,_,_] rfl (j_run it 2 rfl (by simp) ?_)
    refine j_nf [_,_,_,_,_,_,_,_,_,_,_] rfl (j_run it 2 rfl (by simp) ?_)
    refine j_step rfl (x_shl_nat 1 (k) rfl rfl (by first | rfl | omega) (by first | rfl | omega) (by first | decide | (simp only [IntKind.bits];omega)) (by first | assumption | (simp only [InR];omega)) ?_)
    refine j_step rfl (x_or_nat (m) (1 * 2 ^ k) rfl rfl (by first | rfl | omega) (by first | rfl | omega) (by omega) (by omega) ?_)
    refine j_run it 1 rfl (by simp) ?_
    refine j_nf [_,_,_,_,_,_,_,_,_] rfl (j_run it 2 rfl ⟨trivial,⟨by omega,by omega⟩,trivial⟩ ?_)
    refine j_nfn 1 [.lp (pL 250676),.blk 2,.c (pL 31335),.blk 1,.c (pL 1959),.lp (pL 244),.blk 0,.c [1,1,1,1]] rfl ?_
    refine j_to [1,2,3,4,5] (by exact fra rfl) rfl rfl (ih2 (j + 1,(k : Int),m ||| 1 * 2 ^ k) (by dsimp only;omega) ⟨by dsimp only;omega,by dsimp only;omega,by dsimp only;omega,hbm,he⟩)
  ·obtain rfl : j = l.length:=by omega
   rw [List.drop_length,blkN] at he
   refine j_nf [_,_,_,_,_,_,_,_,_,_] rfl (j_run it 1 rfl (by simp) ?_)
   refine j_nf [_,_,_,_,_,_,_,_,_,_] rfl (j_if rfl rfl (fun h4=>by exfalso;omega) (fun h4=>?_))
   refine j_nf [_,_,_,_,_,_] rfl (j_step rfl (x_bld 1 rfl rfl ld52 rfl ?_))
   refine j_run it 1 rfl (by simp) ?_
   refine j_step rfl (x_lit sl52 zo52e rfl rfl rfl rfl (by decide) (by decide) rfl fun b3=>?_)
   refine j_step rfl (x_appR (z:=(m)) 1 0 2 rfl rfl rfl rfl rfl sl52 zo52e rfl (fun w A hG=>(rd_nat (by first | rfl | omega) (by first | (simp only [InR];omega) | (simp [InR];done)))) (by omega) _ by52e (by omega) fun r1=>?_)
   refine j_step rfl (x_bst1 2 rfl rfl rfl rfl ld52 rfl (Nat.le_of_ble_eq_true rfl) ?_)
   refine j_nf [_,_,_,_] rfl (j_run it 2 rfl ⟨trivial,⟨by omega,by omega⟩,trivial⟩ ?_)
   refine j_nfn 1 [.lp (pL 244),.blk 0,.c [1,1,1,1]] rfl ?_
   refine j_toM [true,false,true] [0,4,5] (by exact fra rfl) rfl rfl (ih (i + 1,r1,ms++[m]) (by dsimp only;omega) ⟨by dsimp only;omega,by
    dsimp only
    rw [List.take_succ_eq_append_getElem hil,show L[i] = l from Option.some.inj ((List.getElem?_eq_getElem hil).symm.trans hz)]
    exact blksN_snoc (hq.trans he.symm) hb⟩)
 ·obtain rfl : i = L.length:=by omega
  rw [List.take_length] at hb
  have hml:=blksN_len hb
  have e0 : desR n L t = if t < 0 ∨ n < t then (0,6) else if 65536 < binom n t.toNat then (0,8) else
    if (visL ms (subsL n t.toNat 0 0) (-1) true).2.1 = true then ((visL ms (subsL n t.toNat 0 0) (-1) true).1,0) else (0,11):=by
   rw [desR,if_neg h1,Int.toNat_natCast,hb]
  rw [e0]
  clear e0
  by_cases ht : t < 0 ∨ n < t
  ·rw [if_pos ht]
   by_cases ht1 : t < 0
   ·refine j_nf [_,_,_,_,_] rfl (j_run it 1 rfl (by simp) ?_)
    refine j_nf [_,_,_,_,_] rfl (j_if rfl rfl (fun h3=>by exfalso;omega) (fun h3=>?_))
    refine j_nf [_,_,_] rfl (j_run it 3 rfl (by simp) ?_)
    refine j_split_dec (t:=58) rfl (fun h4=>?_) (fun h4=>by exfalso;omega)
    refine j_run it 4 rfl (by simp) ?_
    refine j_nf [_,_] rfl ?_
    refine j_true rfl rfl ?_
    refine j_nf [_,_,_] rfl (j_run it 2 rfl (by simp) ?_)
    refine j_nf [_,_] rfl ?_
    refine j_giv [] rfl rfl rfl ⟨rfl,rfl,rfl⟩
   ·refine j_nf [_,_,_,_,_] rfl (j_run it 1 rfl (by simp) ?_)
    refine j_nf [_,_,_,_,_] rfl (j_if rfl rfl (fun h3=>by exfalso;omega) (fun h3=>?_))
    refine j_nf [_,_,_] rfl (j_run it 3 rfl (by simp) ?_)
    refine j_split_dec (t:=58) rfl (fun h4=>by exfalso;omega) (fun h4=>?_)
    refine j_run it 4 rfl (by simp) ?_
    refine j_nf [_,_] rfl (j_if rfl rfl (fun h5=>?_) (fun h5=>by exfalso;omega))
    refine j_nf [_,_,_] rfl (j_run it 2 rfl (by simp) ?_)
    refine j_nf [_,_] rfl ?_
    refine j_giv [] rfl rfl rfl ⟨rfl,rfl,rfl⟩
  rw [if_neg ht]
  obtain ⟨t,rfl⟩ : ∃ k : Nat,t = k:=⟨t.toNat,by omega⟩
  rw [Int.toNat_natCast]
  by_cases hB : 65536 < binom n t
  ·rw [if_pos hB]
   have hcm : cmpN (val (limbs (binom n t))) (val (limbs 65536)) = 1:=by rw [val_limbs,val_limbs];exact cmpN_gt hB
   refine j_nf [_,_,_,_,_] rfl (j_run it 1 rfl (by simp) ?_)
   refine j_nf [_,_,_,_,_] rfl (j_if rfl rfl (fun h3=>by exfalso;omega) (fun h3=>?_))
   refine j_nf [_,_,_] rfl (j_run it 7 rfl (by simp) ?_)
   refine j_nf [_,_] rfl (j_if rfl rfl (fun h4=>by exfalso;omega) (fun h4=>?_))
   refine j_nf [_,_,_] rfl (j_run it 2 rfl (by simp) ?_)
   refine j_step rfl (x_call [] rfl (S_nat_Binomial (by omega)) rfl ?_)
   rintro _ _ _ ⟨pa1,ca1,rfl,rfl,rfl⟩
   simp only [List.cons_append,List.nil_append]
   refine j_run it 5 rfl (by simp) ?_
   refine j_nf [_,_,_] rfl (j_run it 1 rfl (by simp) ?_)
   refine j_step rfl (x_call [] rfl (S_nat_Of (by simp)) rfl ?_)
   rintro _ _ _ ⟨pa2,ca2,rfl,rfl,rfl⟩
   simp only [List.cons_append,List.nil_append]
   refine j_step rfl (x_call [1,0] rfl (S_nat_Cmp) rfl ?_)
   rintro _ _ _ ⟨rfl,rfl,rfl⟩
   simp only [List.cons_append,List.nil_append]
   refine j_run it 1 rfl (by simp) ?_
   refine j_nf [_,_] rfl (j_if rfl rfl (fun h5=>?_) (fun h5=>by exfalso;omega))
   refine j_nf [_,_,_] rfl (j_run it 2 rfl (by simp) ?_)
   refine j_nf [_,_] rfl ?_
   refine j_giv [] rfl rfl rfl ⟨rfl,rfl,rfl⟩
  ·rw [if_neg hB]
   have hcm : ¬ 0 < cmpN (val (limbs (binom n t))) (val (limbs 65536)):=by
    rw [val_limbs,val_limbs,cmpN,if_neg hB];split <;> omega
   refine j_pubR 0 0 rfl rfl (by show L.length * 8 ≤ 140737488355328;omega) ?_
   have hg:=visL_rng ms (subsL n t 0 0) (-1) true (by decide) (by decide) (by omega)
   refine j_nf [_,_,_,_,_] rfl (j_run it 1 rfl (by simp) ?_)
   refine j_nf [_,_,_,_,_] rfl (j_if rfl rfl (fun h3=>by exfalso;omega) (fun h3=>?_))
   refine j_nf [_,_,_] rfl (j_run it 7 rfl (by simp) ?_)
   refine j_nf [_,_] rfl (j_if rfl rfl (fun h4=>by exfalso;omega) (fun h4=>?_))
   refine j_nf [_,_,_] rfl (j_run it 2 rfl (by simp) ?_)
   refine j_step rfl (x_call [] rfl (S_nat_Binomial (by omega)) rfl ?_)
   rintro _ _ _ ⟨pa1,ca1,rfl,rfl,rfl⟩
   simp only [List.cons_append,List.nil_append]
   refine j_run it 5 rfl (by simp) ?_
   refine j_nf [_,_,_] rfl (j_run it 1 rfl (by simp) ?_)
   refine j_step rfl (x_call [] rfl (S_nat_Of (by simp)) rfl ?_)
   rintro _ _ _ ⟨pa2,ca2,rfl,rfl,rfl⟩
   simp only [List.cons_append,List.nil_append]
   refine j_step rfl (x_call [1,0] rfl (S_nat_Cmp) rfl ?_)
   rintro _ _ _ ⟨rfl,rfl,rfl⟩
   simp only [List.cons_append,List.nil_append]
   refine j_run it 1 rfl (by simp) ?_
   refine j_nf [_,_] rfl (j_if rfl rfl (fun h5=>by exfalso;omega) (fun h5=>?_))
   refine j_nf [_,_] rfl (j_step rfl (x_alloc zo3 fun b2=>?_))
   refine j_step rfl (x_bst1 0 rfl rfl rfl rfl ld3 rfl (Nat.le_of_ble_eq_true rfl) ?_)
   refine j_nf [_,_] rfl (j_step rfl (x_alloc zo4 fun b3=>?_))
   refine j_step rfl (x_bst1 0 rfl rfl rfl rfl ld4 rfl (Nat.le_of_ble_eq_true rfl) ?_)
   refine j_nf [_,_] rfl (j_run it 3 rfl (by simp) ?_)
   refine j_selB [2,1,0] rfl rfl ?_
   refine j_step rfl (x_callN 3 [2] rfl rfl (S_macwilliams_subsets (by omega) (by omega) (by omega) (by simp) (by simp) (by omega) (by omega)) rfl ?_)
   rintro _ _ _ ⟨rfl,rfl,rfl⟩
   simp only [List.cons_append,List.nil_append]
   refine j_nf [_,_,_] rfl (j_step rfl (x_bld 2 rfl rfl ld4 rfl ?_))
   refine j_run it 1 rfl (by simp) ?_
   refine j_nf [_,_] rfl ?_
   refine j_cond rfl rfl (fun h6=>?_) (fun h6=>?_)
   ·rw [if_neg (by simpa using h6)]
    refine j_nf [_,_,_] rfl (j_run it 2 rfl (by simp) ?_)
    refine j_nf [_,_] rfl ?_
    refine j_giv [] rfl rfl rfl ⟨rfl,rfl,rfl⟩
   ·rw [if_pos (by simpa using h6)]
    refine j_nf [_,_] rfl (j_step rfl (x_bld 1 rfl rfl ld3 rfl ?_))
    refine j_run it 2 rfl (by simp) ?_
    refine j_nf [_] rfl ?_
    refine j_giv [] rfl rfl rfl ⟨rfl,rfl,rfl⟩
set_option maxHeartbeats 1000000
set_option maxHeartbeats 400000
set_option maxHeartbeats 2000000
set_option maxHeartbeats 8000000
def blkS (n : Nat) : Int → List Int → Bool
 | _,[]=>true
 | last,p::l=>if p ≤ last ∨ (n : Int) ≤ p then false else blkS n p l
theorem blkS_eq (n : Nat) : ∀ (l : List Int) (last : Int) (m : Nat),(blkN n last m l).isSome = blkS n last l
 | [],_,_=>rfl
 | p::l,last,m=>by
  rw [blkN,blkS]
  by_cases h : p ≤ last ∨ (n : Int) ≤ p
  ·rw [if_pos h,if_pos h];rfl
  ·rw [if_neg h,if_neg h];exact blkS_eq n l _ _
theorem S_codewrightref24_Block {pa : Option Addr} {k n ca : Nat} {l : List Int} :
  Ctr Try.prog 10 [.int .i64 n,.slice pa k ca] [] [slF I64 pa k ca l] (Rv (.bool (blkS n (-1) l)) []):=by
 refine Ctr_of_j' (F:=F_codewrightref24_Block) rfl fun C=>?_
 refine j_len 0 rfl fun e1 hb1 _=>?_
 have hb1' : l.length * 8 ≤ 140737488355328:=hb1
 subst e1
 generalize hR : blkS n (-1) l = R
 refine j_nf [_,_] rfl ?_
 refine j_run it 1 rfl (by simp) ?_
 refine j_nf [_,_,_] rfl ?_
 refine j_run it 1 rfl (by simp) ?_
 refine j_nf [_,_,_] rfl ?_
 refine j_loopG (X:=Nat × Int) [0,1] [0] (fun x=>[(5,.int .i64 (x.1 : Int))]) (fun _=>[]) (fun _=>[]) (fun x=>x.1 ≤ l.length ∧ (x.1 = 0 ∧ x.2 = -1 ∨ 0 < x.1 ∧ x.2 = l.getD (x.1 - 1) default ∧ 0 ≤ x.2) ∧ blkS n x.2 (l.drop x.1) = R) (fun x=>l.length - x.1) (0,-1) [] rfl rfl rfl ⟨Nat.zero_le _,.inl ⟨rfl,rfl⟩,hR⟩ (by repeat (first | exact Fr.sub_nil _ | refine Fr.sub_cons rfl ?_)) rfl rfl ?_
 rintro ⟨i,last⟩ ⟨hi,hl,he⟩ ih
 simp only [List.cons_append,List.nil_append] at hi hl he ih ⊢
 by_cases hil : i < l.length
 ·obtain ⟨z,hz,ed⟩ : ∃ z,l[i]? = some z ∧ l.drop i = z::l.drop (i + 1):=⟨l[i],List.getElem?_eq_getElem hil,List.drop_eq_getElem_cons hil⟩
  have hzd : l.getD i default = z:=by rw [List.getD_eq_getElem?_getD,hz];rfl
  rw [ed,blkS] at he
  by_cases h1 : z < 0
  ·rw [if_pos (by omega)] at he
   subst he
   refine j_nf [_,_,_,_,_,_] rfl ?_
   refine j_run it 2 rfl (by simp) ?_
   refine j_step rfl (x_len sl29 rfl ?_)
   refine j_run it 1 rfl (by simp) ?_
   refine j_nf [_,_,_,_,_] rfl ?_
   refine j_if rfl rfl (fun h2=>?_) (fun h2=>by exfalso;omega)
   refine j_nf [_,_,_,_,_,_,_] rfl ?_
   (apply j_drawK it mx 29;(· rfl);(· rfl))
   (apply lxk_run 2;(· rfl);(· simp))
   (apply lxk_pt;(· rfl);(· exact d_x fun _=>x_idx 0 (i) rfl rfl rfl sl29 rfl (by omega) fun z1 hz1 b1 o1=>(dk_ptD default hz1 0 rfl));intro b1 o1)
   (apply lxk_eq;(· rfl);(· exact d_x fun _=>x_ld_int 0 rfl rfl ld3 fun ⟨r1,r2⟩=>dk_eq))
   (apply lxk_eq;(· rfl);(· exact d_x fun _=>x_true it rfl (by trivial) (by omega) dk_eq))
   (apply lxk_run 6;(· rfl);(· simp))
   (apply lxk_run 4;(· rfl);(· simp))
   (apply lxk_run 11;(· rfl);(· simp))
   (apply lxk_run 3;(· rfl);(· simp))
   refine lxk_end rfl ?_
   simp only [List.map_cons,List.map_nil,List.cons_append,List.nil_append]
   refine j_nf [_,_,_,_,_,_] rfl ?_
   refine j_true rfl rfl ?_
   refine j_nf [_,_,_,_,_,_,_] rfl ?_
   refine j_run it 1 rfl (by simp) ?_
   refine j_nf [_,_,_,_,_,_] rfl ?_
   refine j_giv [] rfl rfl rfl ⟨rfl,rfl,rfl⟩
  by_cases h2 : (n : Int) ≤ z
  ·rw [if_pos (by omega)] at he
   subst he
   refine j_nf [_,_,_,_,_,_] rfl ?_
   refine j_run it 2 rfl (by simp) ?_
   refine j_step rfl (x_len sl29 rfl ?_)
   refine j_run it 1 rfl (by simp) ?_
   refine j_nf [_,_,_,_,_] rfl ?_
   refine j_if rfl rfl (fun h3=>?_) (fun h3=>by exfalso;omega)
   refine j_nf [_,_,_,_,_,_,_] rfl ?_
   (apply j_drawK it mx 29;(· rfl);(· rfl))
   (apply lxk_run 2;(· rfl);(· simp))
   (apply lxk_pt;(· rfl);(· exact d_x fun _=>x_idx 0 (i) rfl rfl rfl sl29 rfl (by omega) fun z1 hz1 b1 o1=>(dk_ptD default hz1 0 rfl));intro b1 o1)
   (apply lxk_eq;(· rfl);(· exact d_x fun _=>x_ld_int 0 rfl rfl ld3 fun ⟨r1,r2⟩=>dk_eq))
   (apply lxk_eq;(· rfl);(· exact d_x fun _=>x_false it rfl (by trivial) (by omega) dk_eq))
   (apply lxk_run 3;(· rfl);(· simp))
   (apply lxk_pt;(· rfl);(· exact d_x fun _=>x_idx 1 (i) rfl rfl rfl sl29 rfl (by omega) fun z1 hz1 b2 o2=>(dk_ptD default hz1 0 rfl));intro b2 o2)
   (apply lxk_eq;(· rfl);(· exact d_x fun _=>x_ld_int 0 rfl rfl ld3 fun ⟨r1,r2⟩=>dk_eq))
   (apply lxk_run 1;(· rfl);(· simp))
   (apply lxk_eq;(· rfl);(· exact d_x fun _=>x_true it rfl (by trivial) (by omega) dk_eq))
   (apply lxk_run 3;(· rfl);(· simp))
   (apply lxk_run 11;(· rfl);(· simp))
   (apply lxk_run 3;(· rfl);(· simp))
   refine lxk_end rfl ?_
   simp only [List.map_cons,List.map_nil,List.cons_append,List.nil_append]
   refine j_nf [_,_,_,_,_,_] rfl ?_
   refine j_true rfl rfl ?_
   refine j_nf [_,_,_,_,_,_,_] rfl ?_
   refine j_run it 1 rfl (by simp) ?_
   refine j_nf [_,_,_,_,_,_] rfl ?_
   refine j_giv [] rfl rfl rfl ⟨rfl,rfl,rfl⟩
  rcases hl with ⟨rfl,rfl⟩ | ⟨h3,rfl,h4⟩
  ·rw [if_neg (by omega)] at he
   refine j_nf [_,_,_,_,_,_] rfl ?_
   refine j_run it 2 rfl (by simp) ?_
   refine j_step rfl (x_len sl29 rfl ?_)
   refine j_run it 1 rfl (by simp) ?_
   refine j_nf [_,_,_,_,_] rfl ?_
   refine j_if rfl rfl (fun h3=>?_) (fun h3=>by exfalso;omega)
   refine j_nf [_,_,_,_,_,_,_] rfl ?_
   (apply j_drawK it mx 29;(· rfl);(· rfl))
   (apply lxk_run 2;(· rfl);(· simp))
   (apply lxk_pt;(· rfl);(· exact d_x fun _=>x_idx 0 (0) rfl rfl rfl sl29 rfl (by omega) fun z1 hz1 b1 o1=>(dk_ptD default hz1 0 rfl));intro b1 o1)
   (apply lxk_eq;(· rfl);(· exact d_x fun _=>x_ld_int 0 rfl rfl ld3 fun ⟨r1,r2⟩=>dk_eq))
   (apply lxk_eq;(· rfl);(· exact d_x fun _=>x_false it rfl (by trivial) (by omega) dk_eq))
   (apply lxk_run 3;(· rfl);(· simp))
   (apply lxk_pt;(· rfl);(· exact d_x fun _=>x_idx 1 (0) rfl rfl rfl sl29 rfl (by omega) fun z1 hz1 b2 o2=>(dk_ptD default hz1 0 rfl));intro b2 o2)
   (apply lxk_eq;(· rfl);(· exact d_x fun _=>x_ld_int 0 rfl rfl ld3 fun ⟨r1,r2⟩=>dk_eq))
   (apply lxk_run 1;(· rfl);(· simp))
   (apply lxk_eq;(· rfl);(· exact d_x fun _=>x_false it rfl (by trivial) (by omega) dk_eq))
   (apply lxk_run 3;(· rfl);(· simp))
   (apply lxk_eq;(· rfl);(· exact d_x fun _=>x_false it rfl (by trivial) (by omega) dk_eq))
   (apply lxk_run 10;(· rfl);(· simp))
   (apply lxk_run 3;(· rfl);(· simp))
   refine lxk_end rfl ?_
   simp only [List.map_cons,List.map_nil,List.cons_append,List.nil_append]
   refine j_nf [_,_,_,_,_,_] rfl ?_
   refine j_false rfl rfl ?_
   refine j_nf [_,_,_,_] rfl ?_
   refine j_run it 3 rfl ⟨trivial,⟨by omega,by omega⟩,trivial,trivial⟩ ?_
   refine j_nfn 1 [.lp [1,0,1,0,0],.blk 0,.c [1,1]] rfl ?_
   refine j_to [2] (by exact fra rfl) rfl rfl (ih (1,z) (by show l.length - 1 < l.length - 0;omega) ⟨by show 1 ≤ l.length;omega,.inr ⟨Nat.zero_lt_one,hzd.symm,by show 0 ≤ z;omega⟩,he⟩)
  ·have hz2 : l[i - 1]? = some (l.getD (i - 1) default):=by rw [List.getD_eq_getElem?_getD,List.getElem?_eq_getElem (by omega)];rfl
   by_cases h5 : z ≤ l.getD (i - 1) default
   ·rw [if_pos (by omega)] at he
    subst he
    refine j_nf [_,_,_,_,_,_] rfl ?_
    refine j_run it 2 rfl (by simp) ?_
    refine j_step rfl (x_len sl29 rfl ?_)
    refine j_run it 1 rfl (by simp) ?_
    refine j_nf [_,_,_,_,_] rfl ?_
    refine j_if rfl rfl (fun h6=>?_) (fun h6=>by exfalso;omega)
    refine j_nf [_,_,_,_,_,_,_] rfl ?_
    (apply j_drawK it mx 29;(· rfl);(· rfl))
    (apply lxk_run 2;(· rfl);(· simp))
    (apply lxk_pt;(· rfl);(· exact d_x fun _=>x_idx 0 (i) rfl rfl rfl sl29 rfl (by omega) fun z1 hz1 b1 o1=>(dk_ptD default hz1 0 rfl));intro b1 o1)
    (apply lxk_eq;(· rfl);(· exact d_x fun _=>x_ld_int 0 rfl rfl ld3 fun ⟨r1,r2⟩=>dk_eq))
    (apply lxk_eq;(· rfl);(· exact d_x fun _=>x_false it rfl (by trivial) (by omega) dk_eq))
    (apply lxk_run 3;(· rfl);(· simp))
    (apply lxk_pt;(· rfl);(· exact d_x fun _=>x_idx 1 (i) rfl rfl rfl sl29 rfl (by omega) fun z1 hz1 b2 o2=>(dk_ptD default hz1 0 rfl));intro b2 o2)
    (apply lxk_eq;(· rfl);(· exact d_x fun _=>x_ld_int 0 rfl rfl ld3 fun ⟨r1,r2⟩=>dk_eq))
    (apply lxk_run 1;(· rfl);(· simp))
    (apply lxk_eq;(· rfl);(· exact d_x fun _=>x_false it rfl (by trivial) (by omega) dk_eq))
    (apply lxk_run 3;(· rfl);(· simp))
    (apply lxk_eq;(· rfl);(· exact d_x fun _=>x_true it rfl (by trivial) (by omega) dk_eq))
    (apply lxk_run 3;(· rfl);(· simp))
    (apply lxk_pt;(· rfl);(· exact d_x fun _=>x_idx 2 (i) rfl rfl rfl sl29 rfl (by omega) fun z1 hz1 b3 o3=>(dk_ptD default hz1 0 rfl));intro b3 o3)
    (apply lxk_eq;(· rfl);(· exact d_x fun _=>x_ld_int 0 rfl rfl ld3 fun ⟨r1,r2⟩=>dk_eq))
    (apply lxk_run 3;(· rfl);(· exact ⟨⟨by omega,by omega⟩,trivial,trivial,trivial⟩))
    (apply lxk_pt;(· rfl);(· exact d_x fun _=>x_idx 2 ((i) - 1) rfl rfl rfl sl29 (by omega) (by omega) fun z1 hz1 b4 o4=>(dk_ptD default hz1 0 rfl));intro b4 o4)
    (apply lxk_eq;(· rfl);(· exact d_x fun _=>x_ld_int 0 rfl rfl ld3 fun ⟨r1,r2⟩=>dk_eq))
    (apply lxk_eq;(· rfl);(· exact d_x fun _=>x_true it rfl (by trivial) (by omega) dk_eq))
    (apply lxk_run 2;(· rfl);(· simp))
    refine lxk_end rfl ?_
    simp only [List.map_cons,List.map_nil,List.cons_append,List.nil_append]
    refine j_nf [_,_,_,_,_,_] rfl ?_
    refine j_true rfl rfl ?_
    refine j_nf [_,_,_,_,_,_,_] rfl ?_
    refine j_run it 1 rfl (by simp) ?_
    refine j_nf [_,_,_,_,_,_] rfl ?_
    refine j_giv [] rfl rfl rfl ⟨rfl,rfl,rfl⟩
   ·rw [if_neg (by omega)] at he
    refine j_nf [_,_,_,_,_,_] rfl ?_
    refine j_run it 2 rfl (by simp) ?_
    refine j_step rfl (x_len sl29 rfl ?_)
    refine j_run it 1 rfl (by simp) ?_
    refine j_nf [_,_,_,_,_] rfl ?_
    refine j_if rfl rfl (fun h6=>?_) (fun h6=>by exfalso;omega)
    refine j_nf [_,_,_,_,_,_,_] rfl ?_
    (apply j_drawK it mx 29;(· rfl);(· rfl))
    (apply lxk_run 2;(· rfl);(· simp))
    (apply lxk_pt;(· rfl);(· exact d_x fun _=>x_idx 0 (i) rfl rfl rfl sl29 rfl (by omega) fun z1 hz1 b1 o1=>(dk_ptD default hz1 0 rfl));intro b1 o1)
    (apply lxk_eq;(· rfl);(· exact d_x fun _=>x_ld_int 0 rfl rfl ld3 fun ⟨r1,r2⟩=>dk_eq))
    (apply lxk_eq;(· rfl);(· exact d_x fun _=>x_false it rfl (by trivial) (by omega) dk_eq))
    (apply lxk_run 3;(· rfl);(· simp))
    (apply lxk_pt;(· rfl);(· exact d_x fun _=>x_idx 1 (i) rfl rfl rfl sl29 rfl (by omega) fun z1 hz1 b2 o2=>(dk_ptD default hz1 0 rfl));intro b2 o2)
    (apply lxk_eq;(· rfl);(· exact d_x fun _=>x_ld_int 0 rfl rfl ld3 fun ⟨r1,r2⟩=>dk_eq))
    (apply lxk_run 1;(· rfl);(· simp))
    (apply lxk_eq;(· rfl);(· exact d_x fun _=>x_false it rfl (by trivial) (by omega) dk_eq))
    (apply lxk_run 3;(· rfl);(· simp))
    (apply lxk_eq;(· rfl);(· exact d_x fun _=>x_true it rfl (by trivial) (by omega) dk_eq))
    (apply lxk_run 3;(· rfl);(· simp))
    (apply lxk_pt;(· rfl);(· exact d_x fun _=>x_idx 2 (i) rfl rfl rfl sl29 rfl (by omega) fun z1 hz1 b3 o3=>(dk_ptD default hz1 0 rfl));intro b3 o3)
    (apply lxk_eq;(· rfl);(· exact d_x fun _=>x_ld_int 0 rfl rfl ld3 fun ⟨r1,r2⟩=>dk_eq))
    (apply lxk_run 3;(· rfl);(· exact ⟨⟨by omega,by omega⟩,trivial,trivial,trivial⟩))
    (apply lxk_pt;(· rfl);(· exact d_x fun _=>x_idx 2 ((i) - 1) rfl rfl rfl sl29 (by omega) (by omega) fun z1 hz1 b4 o4=>(dk_ptD default hz1 0 rfl));intro b4 o4)
    (apply lxk_eq;(· rfl);(· exact d_x fun _=>x_ld_int 0 rfl rfl ld3 fun ⟨r1,r2⟩=>dk_eq))
    (apply lxk_eq;(· rfl);(· exact d_x fun _=>x_false it rfl (by trivial) (by omega) dk_eq))
    (apply lxk_run 2;(· rfl);(· simp))
    refine lxk_end rfl ?_
    simp only [List.map_cons,List.map_nil,List.cons_append,List.nil_append]
    refine j_nf [_,_,_,_,_,_] rfl ?_
    refine j_false rfl rfl ?_
    refine j_nf [_,_,_,_] rfl ?_
    refine j_run it 3 rfl ⟨trivial,⟨by omega,by omega⟩,trivial,trivial⟩ ?_
    refine j_nfn 1 [.lp [1,0,1,0,0],.blk 0,.c [1,1]] rfl ?_
    refine j_to [4] (by exact fra rfl) rfl rfl (ih (i + 1,z) (by dsimp only;omega) ⟨by dsimp only;omega,.inr ⟨by dsimp only;omega,hzd.symm,by dsimp only;omega⟩,he⟩)
 ·obtain rfl : i = l.length:=by omega
  rw [List.drop_length,blkS] at he
  subst he
  refine j_nf [_,_,_,_,_,_] rfl ?_
  refine j_run it 2 rfl (by simp) ?_
  refine j_step rfl (x_len sl29 rfl ?_)
  refine j_run it 1 rfl (by simp) ?_
  refine j_nf [_,_,_,_,_] rfl ?_
  refine j_if rfl rfl (fun h1=>by exfalso;omega) (fun h1=>?_)
  refine j_nf [_,_] rfl ?_
  refine j_run it 1 rfl (by simp) ?_
  refine j_nf [_] rfl ?_
  refine j_giv [] rfl rfl rfl ⟨rfl,rfl,rfl⟩
def insB (s t : List Int) : Bool:=s.all fun x=>t.any fun y=>y == x
theorem setsL_mem {n : Nat} : ∀ {t first : Nat} {z : List Int},z ∈ setsL n t first → z.length = t
 | 0,first,z,h=>by
  rw [setsL,List.mem_singleton] at h
  rw [h];rfl
 | t + 1,first,z,h=>by
  rw [setsL,List.mem_flatMap] at h
  obtain ⟨i,_,h⟩:=h
  obtain ⟨r,hr,rfl⟩:=List.mem_map.1 h
  rw [List.length_cons,setsL_mem hr]
def kS (L : List (List Int)) (s : List Int) : Nat:=(L.filter fun b=>insB s b).length
theorem kS_cons (y : List Int) (L : List (List Int)) (s : List Int) : kS (y::L) s = (if insB s y = true then 1 else 0) + kS L s:=by
 rw [kS,kS,List.filter_cons]
 split
 ·rw [List.length_cons,Nat.add_comm]
 ·rw [Nat.zero_add]
def cntS (L : List (List Int)) : List (List Int) → Int → Int × Int
 | [],out=>(out,0)
 | s::l,out=>if 0 ≤ out ∧ out ≠ kS L s then (0,11) else cntS L l (kS L s)
def desS (n : Int) (L : List (List Int)) (t : Int) : Int × Int :=
 if n < 0 ∨ 64 < n then (0,6) else
 if L.all (blkS n.toNat (-1)) = false then (0,5) else
 if t < 0 ∨ n < t then (0,6) else if 65536 < binom n.toNat t.toNat then (0,8) else cntS L (setsL n.toNat t.toNat 0) (-1)
theorem blksN_isSome (n : Nat) : ∀ L : List (List Int),(blksN n L).isSome = L.all (blkS n (-1))
 | []=>rfl
 | l::L=>by
  rw [blksN,List.all_cons,← blkS_eq n l (-1) 0,← blksN_isSome n L]
  cases blkN n (-1) 0 l <;> cases blksN n L <;> rfl
theorem kM_kS {n : Nat} : ∀ {L : List (List Int)} {ms : List Nat} {s : List Int},blksN n L = some ms → (∀ p ∈ s,0 ≤ p) → kM ms (mskF 0 s) = kS L s
 | [],ms,s,h,_=>by
  rw [blksN,Option.some.injEq] at h;subst h;rfl
 | l::L,ms,s,h,hs=>by
  rw [blksN] at h
  cases h1 : blkN n (-1) 0 l with
  | none=>rw [h1] at h;cases h
  | some a =>
   cases h2 : blksN n L with
   | none=>rw [h1,h2] at h;cases h
   | some bs =>
    rw [h1,h2] at h
    have e : a::bs = ms:=by simpa using h
    subst e
    have ih:=kM_kS h2 hs
    have key : (a &&& mskF 0 s = mskF 0 s) ↔ insB s l = true:=by
     rw [sub_bit,insB,List.all_eq_true]
     constructor
     ·intro hb x hx
      have h0:=hs x hx
      have:=hb x.toNat (by rw [mskF_bit hs,Nat.zero_testBit,Bool.false_or,decide_eq_true_eq,Int.toNat_of_nonneg h0];exact hx)
      rw [blkN_bit (by decide) h1,Nat.zero_testBit,Bool.false_or,decide_eq_true_eq,Int.toNat_of_nonneg h0] at this
      exact List.any_eq_true.2 ⟨x,this,by simp⟩
     ·intro hb i hi
      rw [mskF_bit hs,Nat.zero_testBit,Bool.false_or,decide_eq_true_eq] at hi
      obtain ⟨y,hy,e⟩:=List.any_eq_true.1 (hb _ hi)
      have e : y = (i : Int):=by simpa using e
      rw [blkN_bit (by decide) h1,Nat.zero_testBit,Bool.false_or,decide_eq_true_eq]
      rw [← e];exact hy
    rw [kM,kS,List.filter_cons,List.filter_cons]
    rw [kM,kS] at ih
    by_cases hk : a &&& mskF 0 s = mskF 0 s
    ·rw [if_pos (decide_eq_true hk),if_pos (key.1 hk),List.length_cons,List.length_cons,ih]
    ·rw [if_neg (by simp [hk]),if_neg (by rw [← key];exact hk),ih]
theorem setsL_nn {n : Nat} : ∀ {t first : Nat} {z : List Int},z ∈ setsL n t first → ∀ p ∈ z,0 ≤ p
 | 0,first,z,h,p,hp=>by
  rw [setsL,List.mem_singleton] at h
  rw [h] at hp;cases hp
 | t + 1,first,z,h,p,hp=>by
  rw [setsL,List.mem_flatMap] at h
  obtain ⟨i,_,h⟩:=h
  obtain ⟨r,hr,rfl⟩:=List.mem_map.1 h
  rcases List.mem_cons.1 hp with rfl | hp
  ·omega
  ·exact setsL_nn hr p hp
theorem vis_cnt {n : Nat} {L : List (List Int)} {ms : List Nat} (hb : blksN n L = some ms) : ∀ {S : List (List Int)} {c : Int},(∀ z ∈ S,∀ p ∈ z,0 ≤ p) →
  (if (visL ms (S.map (mskF 0)) c true).2.1 = true then ((visL ms (S.map (mskF 0)) c true).1,(0 : Int)) else (0,11)) = cntS L S c
 | [],c,_=>rfl
 | s::S,c,hS=>by
  rw [List.map_cons,visL,kM_kS hb (hS s (.head _)),cntS]
  by_cases h : c < 0 ∨ (kS L s : Int) = c
  ·rw [if_pos h,if_neg (show ¬ (0 ≤ c ∧ c ≠ kS L s) by omega)]
   exact vis_cnt hb (fun z hz=>hS z (.tail _ hz))
  ·rw [if_neg h,if_pos (show 0 ≤ c ∧ c ≠ kS L s by omega)];rfl
theorem des_eq (n : Int) (L : List (List Int)) (t : Int) : desR n L t = desS n L t:=by
 rw [desR,desS]
 by_cases h1 : n < 0 ∨ 64 < n
 ·rw [if_pos h1,if_pos h1]
 rw [if_neg h1,if_neg h1,← blksN_isSome]
 cases hb : blksN n.toNat L with
 | none=>rfl
 | some ms =>
  rw [if_neg (by simp)]
  dsimp only
  by_cases h2 : t < 0 ∨ n < t
  ·rw [if_pos h2,if_pos h2]
  rw [if_neg h2,if_neg h2]
  by_cases h3 : 65536 < binom n.toNat t.toNat
  ·rw [if_pos h3,if_pos h3]
  rw [if_neg h3,if_neg h3,subs_sets]
  exact vis_cnt hb fun z hz=>setsL_nn hz
def crB (L : List (List Int)) : Bool:=L.any (fun b=>decide (100 < b.length)) || decide (300 < L.length)
theorem S_codewrightlaw24_crowded {pa : Option Addr} {n ca : Nat} {L : List (List Int)} : Ctr Try.prog 6 [.slice pa n ca] [] [slF (encSl I64) pa n ca L] (Rv (.bool (crB L)) []):=by
 refine Ctr_of_j' (F:=F_codewrightlaw24_crowded) rfl fun C=>?_
 refine j_len 0 rfl fun e1 hb1 _=>?_
 have hb1' : L.length * 24 ≤ 140737488355328:=hb1
 subst e1
 rw [crB]
 generalize hA : L.any (fun b=>decide (100 < b.length)) = A
 refine j_nf [_,_] rfl (j_run it 1 rfl (by simp) ?_)
 refine j_nf [_,_,_] rfl (j_run it 1 rfl (by simp) ?_)
 refine j_nf [_,_,_] rfl ?_
 refine j_loopG (X:=Nat) [0] [0] (fun i=>[(3,.int .i64 (i : Int))]) (fun _=>[]) (fun _=>[]) (fun i=>i ≤ L.length ∧ (L.drop i).any (fun b=>decide (100 < b.length)) = A) (fun i=>L.length - i) 0 [] rfl rfl rfl ⟨Nat.zero_le _,hA⟩ (by repeat (first | exact Fr.sub_nil _ | refine Fr.sub_cons rfl ?_)) rfl rfl ?_
 rintro i ⟨hi,he⟩ ih
 simp only [List.cons_append,List.nil_append] at hi he ih ⊢
 by_cases hil : i < L.length
 ·obtain ⟨z,at_z,ed⟩ : ∃ z,L[i]? = some z ∧ L.drop i = z::L.drop (i + 1):=⟨L[i],List.getElem?_eq_getElem hil,List.drop_eq_getElem_cons hil⟩
  rw [ed,List.any_cons] at he
  by_cases h : 100 < z.length
  ·rw [decide_eq_true h,Bool.true_or] at he
   subst he
   rw [Bool.true_or]
   refine j_nf [_,_,_,_,_,_] rfl (j_run it 2 rfl (by simp) ?_)
   refine j_step rfl (x_len sl22 rfl ?_)
   refine j_run it 1 rfl (by simp) ?_
   refine j_nf [_,_,_,_,_] rfl (j_if rfl rfl (fun h1=>?_) (fun h1=>by exfalso;omega))
   refine j_nf [_,_,_,_,_,_,_] rfl (j_run it 2 rfl (by simp) ?_)
   refine j_step rfl (x_idx 0 (i) rfl rfl rfl sl22 rfl (by omega) fun z1 hz1 b1 o1=>?_)
   obtain rfl : _ = z1:=Option.some.inj (at_z.symm.trans hz1)
   refine j_step rfl (x_ld_sl 0 rfl rfl ld29 fun pa1 ca1=>?_)
   refine j_step rfl (x_len sl29 rfl ?_)
   refine j_run it 1 rfl (by simp) ?_
   refine j_nf [_,_,_,_,_,_] rfl (j_if rfl rfl (fun h2=>?_) (fun h2=>by exfalso;omega))
   refine j_nf [_,_,_,_,_,_,_] rfl (j_run it 1 rfl (by simp) ?_)
   refine j_nf [_,_,_,_,_,_] rfl ?_
   refine j_giv [] rfl rfl rfl ⟨rfl,rfl,rfl⟩
  ·rw [decide_eq_false h,Bool.false_or] at he
   refine j_nf [_,_,_,_,_,_] rfl (j_run it 2 rfl (by simp) ?_)
   refine j_step rfl (x_len sl22 rfl ?_)
   refine j_run it 1 rfl (by simp) ?_
   refine j_nf [_,_,_,_,_] rfl (j_if rfl rfl (fun h1=>?_) (fun h1=>by exfalso;omega))
   refine j_nf [_,_,_,_,_,_,_] rfl (j_run it 2 rfl (by simp) ?_)
   refine j_step rfl (x_idx 0 (i) rfl rfl rfl sl22 rfl (by omega) fun z1 hz1 b1 o1=>?_)
   obtain rfl : _ = z1:=Option.some.inj (at_z.symm.trans hz1)
   refine j_step rfl (x_ld_sl 0 rfl rfl ld29 fun pa1 ca1=>?_)
   refine j_step rfl (x_len sl29 rfl ?_)
   refine j_run it 1 rfl (by simp) ?_
   refine j_nf [_,_,_,_,_,_] rfl (j_if rfl rfl (fun h2=>by exfalso;omega) (fun h2=>?_))
   refine j_nf [_,_,_,_] rfl (j_run it 3 rfl ⟨trivial,⟨by omega,by omega⟩,trivial,trivial⟩ ?_)
   refine j_nfn 1 [.lp [1,0,1,0,0],.blk 0,.c [1,1]] rfl ?_
   refine j_to [2] (by exact fra rfl) rfl rfl (ih (i + 1) (by omega) ⟨by omega,he⟩)
 ·obtain rfl : i = L.length:=by omega
  rw [List.drop_length,List.any_nil] at he
  subst he
  rw [Bool.false_or]
  by_cases h : 300 < L.length
  ·rw [decide_eq_true h]
   refine j_nf [_,_,_,_,_,_] rfl (j_run it 2 rfl (by simp) ?_)
   refine j_step rfl (x_len sl22 rfl ?_)
   refine j_run it 1 rfl (by simp) ?_
   refine j_nf [_,_,_,_,_] rfl (j_if rfl rfl (fun h1=>by exfalso;omega) (fun h1=>?_))
   refine j_nf [_,_] rfl (j_run it 1 rfl (by simp) ?_)
   refine j_step rfl (x_len sl22 rfl ?_)
   refine j_run it 2 rfl (by simp) ?_
   refine j_nf [_] rfl ?_
   rw [decide_eq_true (show (300 : Int) < (L.length : Int) by omega)]
   refine j_giv [] rfl rfl rfl ⟨rfl,rfl,rfl⟩
  ·rw [decide_eq_false h]
   refine j_nf [_,_,_,_,_,_] rfl (j_run it 2 rfl (by simp) ?_)
   refine j_step rfl (x_len sl22 rfl ?_)
   refine j_run it 1 rfl (by simp) ?_
   refine j_nf [_,_,_,_,_] rfl (j_if rfl rfl (fun h1=>by exfalso;omega) (fun h1=>?_))
   refine j_nf [_,_] rfl (j_run it 1 rfl (by simp) ?_)
   refine j_step rfl (x_len sl22 rfl ?_)
   refine j_run it 2 rfl (by simp) ?_
   refine j_nf [_] rfl ?_
   rw [decide_eq_false (show ¬ (300 : Int) < (L.length : Int) by omega)]
   refine j_giv [] rfl rfl rfl ⟨rfl,rfl,rfl⟩
theorem crB_len {L : List (List Int)} (h : crB L = false) : L.length ≤ 300:=by
 rw [crB,Bool.or_eq_false_iff,decide_eq_false_iff_not] at h
 omega
theorem cntS_err (L : List (List Int)) : ∀ (S : List (List Int)) (c : Int),(cntS L S c).2 = 0 ∨ cntS L S c = (0,11)
 | [],c=>.inl rfl
 | s::S,c=>by
  rw [cntS]
  split
  ·exact .inr rfl
  ·exact cntS_err L S _
theorem cntS_ge {L : List (List Int)} : ∀ {S : List (List Int)} {c : Int},0 ≤ c → (cntS L S c).2 = 0 → (cntS L S c).1 = c ∧ ∀ s ∈ S,(kS L s : Int) = c
 | [],c,_,_=>⟨rfl,fun s h=>by cases h⟩
 | s::S,c,h0,h=>by
  rw [cntS] at h ⊢
  by_cases h1 : 0 ≤ c ∧ c ≠ kS L s
  ·rw [if_pos h1] at h;cases h
  ·rw [if_neg h1] at h ⊢
   obtain ⟨h2,h3⟩:=cntS_ge (by omega) h
   have e : c = kS L s:=Classical.byContradiction fun hc=>h1 ⟨h0,hc⟩
   refine ⟨by rw [h2,e],fun x hx=>?_⟩
   rcases List.mem_cons.1 hx with rfl | hx
   ·exact e.symm
   ·rw [h3 x hx,e]
theorem cntS_ok {L S : List (List Int)} (hS : S ≠ []) (h : (cntS L S (-1)).2 = 0) : ∀ s ∈ S,(kS L s : Int) = (cntS L S (-1)).1:=by
 match S,hS with
 | s::S,_ =>
  rw [cntS,if_neg (by omega)] at h ⊢
  obtain ⟨h2,h3⟩:=cntS_ge (by omega) h
  intro x hx
  rcases List.mem_cons.1 hx with rfl | hx
  ·exact h2.symm
  ·rw [h3 x hx,h2]
theorem cntS_all {L : List (List Int)} : ∀ {S : List (List Int)} {c : Int},(∀ s ∈ S,(kS L s : Int) = c) → cntS L S c = (c,0)
 | [],c,_=>rfl
 | s::S,c,h=>by
  rw [cntS,if_neg (fun hc=>hc.2 (h s (.head _)).symm),h s (.head _)]
  exact cntS_all fun x hx=>h x (.tail _ hx)
theorem cntS_const {L S : List (List Int)} {c : Nat} (hS : S ≠ []) (h : ∀ s ∈ S,kS L s = c) : cntS L S (-1) = ((c : Int),0):=by
 match S,hS with
 | s::S,_ =>
  rw [cntS,if_neg (by omega),h s (.head _)]
  exact cntS_all fun x hx=>by rw [h x (.tail _ hx)]
theorem setsL_ne {n : Nat} : ∀ {t first : Nat},first + t ≤ n → setsL n t first ≠ []
 | 0,first,_=>by rw [setsL];simp
 | t + 1,first,h=>by
  have hm:=setsL_ne (n:=n) (t:=t) (first:=first + 1) (by omega)
  obtain ⟨r,hr⟩:=List.exists_mem_of_ne_nil _ hm
  refine List.ne_nil_of_mem (a:=(first : Int)::r) ?_
  rw [setsL,List.mem_flatMap]
  exact ⟨first,List.mem_range'_1.2 ⟨Nat.le_refl _,by omega⟩,List.mem_map.2 ⟨r,hr,rfl⟩⟩
theorem setsL_cons {n t first i : Nat} {r : List Int} (h1 : first ≤ i) (h2 : i + t < n) (hr : r ∈ setsL n t (i + 1)) : (i : Int)::r ∈ setsL n (t + 1) first:=by
 rw [setsL,List.mem_flatMap]
 exact ⟨i,List.mem_range'_1.2 ⟨h1,by omega⟩,List.mem_map.2 ⟨r,hr,rfl⟩⟩
theorem setsL_inv {n t first : Nat} {z : List Int} (h : z ∈ setsL n (t + 1) first) : ∃ (i : Nat) (r : List Int),z = (i : Int)::r ∧ first ≤ i ∧ i + t < n ∧ r ∈ setsL n t (i + 1):=by
 rw [setsL,List.mem_flatMap] at h
 obtain ⟨i,hi,h⟩:=h
 obtain ⟨r,hr,rfl⟩:=List.mem_map.1 h
 obtain ⟨h1,h2⟩:=List.mem_range'_1.1 hi
 exact ⟨i,r,rfl,h1,by omega,hr⟩
theorem setsL_ins {n : Nat} : ∀ {t first p : Nat} {T : List Int},T ∈ setsL n t first → first ≤ p → p < n → (p : Int) ∉ T → ∃ S ∈ setsL n (t + 1) first,∀ x,x ∈ S ↔ x = (p : Int) ∨ x ∈ T
 | 0,first,p,T,hT,h1,h2,_=>by
  rw [setsL,List.mem_singleton] at hT
  subst hT
  exact ⟨[(p : Int)],setsL_cons h1 (by omega) (by rw [setsL];exact .head _),fun x=>by simp⟩
 | t + 1,first,p,T,hT,h1,h2,hp=>by
  obtain ⟨i,r,rfl,h3,h4,hr⟩:=setsL_inv hT
  rcases Nat.lt_trichotomy p i with h | h | h
  ·refine ⟨(p : Int)::(i : Int)::r,setsL_cons h1 (by omega) (setsL_cons h h4 hr),fun x=>by simp⟩
  ·subst h
   exact absurd (.head _) hp
  ·obtain ⟨S,hS,hm⟩:=setsL_ins hr (p:=p) h h2 (fun hc=>hp (.tail _ hc))
   have h5 : i + (t + 1) < n:=by
    obtain ⟨j,_,_,h6,h7,_⟩:=setsL_inv hS
    omega
   refine ⟨(i : Int)::S,setsL_cons h3 h5 hS,fun x=>?_⟩
   rw [List.mem_cons,hm,List.mem_cons]
   constructor
   ·rintro (h | h | h)
    ·exact .inr (.inl h)
    ·exact .inl h
    ·exact .inr (.inr h)
   ·rintro (h | h | h)
    ·exact .inr (.inl h)
    ·exact .inl h
    ·exact .inr (.inr h)
theorem setsL_blk {n : Nat} : ∀ {t first : Nat} {z : List Int} {last : Int},z ∈ setsL n t first → last < first → blkS n last z = true
 | 0,first,z,last,h,_=>by
  rw [setsL,List.mem_singleton] at h
  subst h;rfl
 | t + 1,first,z,last,h,hl=>by
  obtain ⟨i,r,rfl,h3,h4,hr⟩:=setsL_inv h
  rw [blkS,if_neg (by omega)]
  exact setsL_blk hr (by omega)
theorem insB_iff {s t : List Int} : insB s t = true ↔ ∀ x ∈ s,x ∈ t:=by
 rw [insB,List.all_eq_true]
 constructor
 ·intro h x hx
  obtain ⟨y,hy,e⟩:=List.any_eq_true.1 (h x hx)
  have e : y = x:=by simpa using e
  rw [← e];exact hy
 ·intro h x hx
  exact List.any_eq_true.2 ⟨x,h x hx,by simp⟩
theorem kS_same {L : List (List Int)} {s t : List Int} (h : ∀ x,x ∈ s ↔ x ∈ t) : kS L s = kS L t:=by
 rw [kS,kS]
 congr 2
 funext b
 rw [Bool.eq_iff_iff,insB_iff,insB_iff]
 exact ⟨fun hh x hx=>hh x ((h x).2 hx),fun hh x hx=>hh x ((h x).1 hx)⟩
theorem countP_add {α : Type} {f g k : α → Bool} : ∀ {l : List α},(∀ x ∈ l,(if k x = true then 1 else 0) = (if f x = true then 1 else 0) + if g x = true then 1 else 0) → l.countP k = l.countP f + l.countP g
 | [],_=>rfl
 | x::l,h=>by
  rw [List.countP_cons,List.countP_cons,List.countP_cons,countP_add (l:=l) fun y hy=>h y (.tail _ hy)]
  have:=h x (.head _)
  omega
theorem cnt_one {n p : Nat} (h : p < n) : (List.range n).countP (fun i : Nat=>decide ((i : Int) = p)) = 1:=by
 have h1 : (List.range n).count p = 1:=by rw [List.nodup_range.count,if_pos (List.mem_range.2 h)]
 rw [← h1,List.count]
 refine List.countP_congr fun x _=>?_
 simp only [decide_eq_true_eq,beq_iff_eq]
 omega
theorem blkS_gt {n : Nat} : ∀ {l : List Int} {last : Int},blkS n last l = true → ∀ x ∈ l,last < x
 | [],last,_,x,hx=>by cases hx
 | p::l,last,h,x,hx=>by
  rw [blkS] at h
  by_cases hc : p ≤ last ∨ (n : Int) ≤ p
  ·rw [if_pos hc] at h;cases h
  ·rw [if_neg hc] at h
   rcases List.mem_cons.1 hx with rfl | hx
   ·omega
   ·have:=blkS_gt h x hx
    omega
theorem cnt_blk {n : Nat} : ∀ {l : List Int} {last : Int},-1 ≤ last → blkS n last l = true → (List.range n).countP (fun i : Nat=>decide ((i : Int) ∈ l)) = l.length
 | [],last,_,_=>by
  rw [List.countP_eq_zero.2 fun x _=>by simp];rfl
 | p::l,last,h0,h=>by
  rw [blkS] at h
  by_cases hc : p ≤ last ∨ (n : Int) ≤ p
  ·rw [if_pos hc] at h;cases h
  ·rw [if_neg hc] at h
   obtain ⟨p,rfl⟩ : ∃ k : Nat,p = k:=⟨p.toNat,by omega⟩
   have hg:=blkS_gt h
   rw [countP_add (f:=fun i : Nat=>decide ((i : Int) = p)) (g:=fun i : Nat=>decide ((i : Int) ∈ l)),cnt_one (by omega),cnt_blk (by omega) h,List.length_cons,Nat.add_comm]
   intro x _
   by_cases h1 : (x : Int) = p
   ·have h2 : ¬ (x : Int) ∈ l:=fun hm=>by have:=hg _ hm;omega
    have h3 : (p : Int) ∉ l:=h1 ▸ h2
    simp [h1,h3]
   ·simp [h1]
theorem sum_add {α : Type} (f g : α → Nat) : ∀ l : List α,(l.map fun x=>f x + g x).sum = (l.map f).sum + (l.map g).sum
 | []=>rfl
 | x::l=>by
  rw [List.map_cons,List.map_cons,List.map_cons,List.sum_cons,List.sum_cons,List.sum_cons,sum_add f g l];omega
theorem sum_ite {α : Type} (f : α → Bool) : ∀ l : List α,(l.map fun x=>if f x = true then 1 else 0).sum = l.countP f
 | []=>rfl
 | x::l=>by
  rw [List.map_cons,List.sum_cons,List.countP_cons,sum_ite f l];omega
theorem sum_const {α : Type} {f : α → Nat} {c : Nat} : ∀ {l : List α},(∀ x ∈ l,f x = c) → (l.map f).sum = c * l.length
 | [],_=>rfl
 | x::l,h=>by
  rw [List.map_cons,List.sum_cons,List.length_cons,h x (.head _),sum_const (l:=l) fun y hy=>h y (.tail _ hy),Nat.mul_succ];omega
def rest (n : Nat) (T : List Int) : List Nat:=(List.range n).filter fun i : Nat=>!decide ((i : Int) ∈ T)
theorem rest_len {n : Nat} {T : List Int} (h : blkS n (-1) T = true) : (rest n T).length + T.length = n:=by
 rw [rest,← List.countP_eq_length_filter,← cnt_blk (by decide) h,← countP_add (k:=fun _=>true),List.countP_true,List.length_range]
 intro x _
 by_cases h1 : (x : Int) ∈ T <;> simp [h1]
theorem block_sum {n : Nat} {T B : List Int} (hT : blkS n (-1) T = true) (hB : blkS n (-1) B = true) (hl : T.length ≤ B.length) :
  ((rest n T).map fun p : Nat=>if insB ((p : Int)::T) B = true then 1 else 0).sum = (if insB T B = true then 1 else 0) * (B.length - T.length):=by
 rw [sum_ite]
 by_cases hi : insB T B = true
 ·rw [if_pos hi,Nat.one_mul,rest,List.countP_filter]
  have e:=countP_add (l:=List.range n) (k:=fun i : Nat=>decide ((i : Int) ∈ B)) (f:=fun i : Nat=>decide ((i : Int) ∈ T)) (g:=fun i : Nat=>insB ((i : Int)::T) B && !decide ((i : Int) ∈ T)) (by
   intro x _
   have hsub:=insB_iff.1 hi
   by_cases h1 : (x : Int) ∈ T
   ·simp [h1,hsub _ h1]
   ·by_cases h2 : (x : Int) ∈ B
    ·have h3 : insB ((x : Int)::T) B = true:=insB_iff.2 fun y hy=>by
      rcases List.mem_cons.1 hy with rfl | hy
      ·exact h2
      ·exact hsub y hy
     simp [h1,h2,h3]
    ·have h3 : insB ((x : Int)::T) B = false:=by
      rw [Bool.eq_false_iff]
      exact fun hc=>h2 (insB_iff.1 hc _ (.head _))
     simp [h1,h2,h3])
  rw [cnt_blk (by decide) hT,cnt_blk (by decide) hB] at e
  omega
 ·rw [if_neg hi,Nat.zero_mul,List.countP_eq_zero.2]
  intro x _ hc
  exact hi (insB_iff.2 fun y hy=>insB_iff.1 hc y (.tail _ hy))
theorem double {n k : Nat} {T : List Int} (hT : blkS n (-1) T = true) (hk : T.length ≤ k) : ∀ {L : List (List Int)},(∀ B ∈ L,blkS n (-1) B = true ∧ B.length = k) →
  ((rest n T).map fun p : Nat=>kS L ((p : Int)::T)).sum = kS L T * (k - T.length)
 | [],_=>by
  rw [sum_const (f:=fun p : Nat=>kS [] ((p : Int)::T)) (c:=0) fun _ _=>rfl,Nat.zero_mul,kS,List.filter_nil,List.length_nil,Nat.zero_mul]
 | B::L,h=>by
  obtain ⟨hB,hl⟩:=h B (.head _)
  have e : (fun p : Nat=>kS (B::L) ((p : Int)::T)) = fun p : Nat=>(if insB ((p : Int)::T) B = true then 1 else 0) + kS L ((p : Int)::T):=funext fun p=>kS_cons _ _ _
  rw [e,sum_add,double hT hk fun y hy=>h y (.tail _ hy),block_sum hT hB (by omega),kS_cons,Nat.add_mul,hl]
theorem derived {n k s a : Nat} {L : List (List Int)} (hL : ∀ B ∈ L,blkS n (-1) B = true ∧ B.length = k) (hs : s ≤ k) (ha : ∀ S ∈ setsL n (s + 1) 0,kS L S = a) {T : List Int} (hT : T ∈ setsL n s 0) : kS L T * (k - s) = a * (n - s):=by
 have hb:=setsL_blk (last:=-1) hT (by omega)
 have hl:=setsL_mem hT
 have h1:=double hb (by omega) hL
 rw [hl] at h1
 have h4:=rest_len hb
 rw [← h1,sum_const (c:=a),show (rest n T).length = n - s by omega]
 ·intro p hp
  rw [rest,List.mem_filter,List.mem_range] at hp
  obtain ⟨h2,h3⟩:=hp
  obtain ⟨S,hS,hm⟩:=setsL_ins hT (Nat.zero_le p) h2 (by simpa using h3)
  rw [← ha S hS]
  exact kS_same fun x=>by rw [hm,List.mem_cons]
theorem binom_small : ∀ v : Nat,v < 10 → ∀ s : Nat,s < 10 → binom v s ≤ 65536:=by decide
theorem desS_of {v s : Nat} {L : List (List Int)} (hv : v ≤ 9) (hs : s ≤ v) (hL : ∀ B ∈ L,blkS v (-1) B = true) : desS v L s = cntS L (setsL v s 0) (-1):=by
 have h1:=binom_small v (by omega) s (by omega)
 rw [desS,if_neg (by omega),Int.toNat_natCast,Int.toNat_natCast,if_neg (by rw [List.all_eq_true.2 hL];decide),if_neg (by omega),if_neg (by omega)]
theorem des_two : desS 2 [[0],[1]] 1 = (1,0):=by decide
theorem derived_all {v k s : Nat} {L : List (List Int)} (hv : v ≤ 9) (hk : k ≤ v) (h0 : 0 < s) (hs : s ≤ k) (hL : ∀ B ∈ L,blkS v (-1) B = true ∧ B.length = k) :
  desS v L (0 : Nat) = ((L.length : Int),0) ∧ (desS v L s = (0,11) ∨ ∃ a b : Nat,desS v L s = ((a : Int),0) ∧ desS v L ((s - 1 : Nat) : Int) = ((b : Int),0) ∧ b * (k - (s - 1)) = a * (v - (s - 1)) ∧ a ≤ L.length ∧ b ≤ L.length):=by
 have hB : ∀ B ∈ L,blkS v (-1) B = true:=fun B hb=>(hL B hb).1
 constructor
 ·rw [desS_of hv (Nat.zero_le _) hB,setsL,cntS_const (c:=L.length) (by simp)]
  intro z hz
  rw [List.mem_singleton] at hz
  subst hz
  rw [kS,List.filter_eq_self.2]
  intro B _
  rfl
 ·rw [desS_of hv (by omega) hB,desS_of hv (by omega) hB]
  rcases cntS_err L (setsL v s 0) (-1) with h | h
  ·right
   have hne : setsL v s 0 ≠ []:=setsL_ne (by omega)
   have hne1 : setsL v (s - 1) 0 ≠ []:=setsL_ne (by omega)
   have hall:=cntS_ok hne h
   obtain ⟨S0,hS0⟩:=List.exists_mem_of_ne_nil _ hne
   obtain ⟨T0,hT0⟩:=List.exists_mem_of_ne_nil _ hne1
   have ea:=hall S0 hS0
   have hd : ∀ T ∈ setsL v (s - 1) 0,kS L T * (k - (s - 1)) = kS L S0 * (v - (s - 1)):=fun T hT =>
    derived hL (by omega) (by rw [show s - 1 + 1 = s by omega];intro S hS;have:=hall S hS;omega) hT
   refine ⟨kS L S0,kS L T0,Prod.ext ea.symm h,cntS_const hne1 fun T hT=>?_,hd T0 hT0,List.length_filter_le _ _,List.length_filter_le _ _⟩
   exact Nat.eq_of_mul_eq_mul_right (by omega) ((hd T hT).trans (hd T0 hT0).symm)
  ·exact .inl h
theorem des_ctr {pa : Option Addr} {nb ca : Nat} {n t : Int} {L : List (List Int)} {d1 d2 : Int} (hL : L.length ≤ 1000000) (h : desS n L t = (d1,d2)) :
  Ctr Try.prog 8 [.int .i64 n,.slice pa nb ca,.int .i64 t] [] [slF (encSl I64) pa nb ca L] (Rv (.tuple #[.int .i64 d1,.int .i64 d2]) []):=by
 have:=S_macwilliams_Design (pa:=pa) (nb:=nb) (ca:=ca) (n:=n) (t:=t) hL
 rw [des_eq,h] at this
 exact this
theorem S_MacwilliamsDerived {pa : Option Addr} {nb ca : Nat} {n size t : Nat} {L : List (List Int)} (hn : n < 256) (hz : size < 256) (ht : t < 256) :
  Ctr Try.prog 4 [.slice pa nb ca,.int .u8 n,.int .u8 size,.int .u8 t] [] [slF (encSl I64) pa nb ca L] (Rv (.bool true) []):=by
 refine Ctr_of_j' (F:=F_codewrightlaw24_MacwilliamsDerived) rfl fun C=>?_
 refine j_len 0 rfl fun e1 hb1 _=>?_
 have hb1' : L.length * 24 ≤ 140737488355328:=hb1
 subst e1
 have c_codewrightlaw24_crowded:=fun {pa : Option Addr} {n ca : Nat}=>S_codewrightlaw24_crowded (pa:=pa) (n:=n) (ca:=ca) (L:=L)
 cases hc : crB L with
 | true =>
  simp only [hc] at c_codewrightlaw24_crowded
  refine j_nf [_,_] rfl (j_run it 1 rfl (by simp) ?_)
  refine j_nf [_,_,_] rfl (j_run it 1 rfl (by simp) ?_)
  refine j_step rfl (x_call [0] rfl (c_codewrightlaw24_crowded) rfl ?_)
  rintro _ _ _ ⟨rfl,rfl,rfl⟩
  simp only [List.cons_append,List.nil_append]
  refine j_nf [_,_] rfl ?_
  refine j_true rfl rfl ?_
  refine j_nf [_,_,_] rfl (j_run it 1 rfl (by simp) ?_)
  refine j_nf [_,_] rfl ?_
  refine j_giv [] rfl rfl rfl ⟨rfl,rfl,rfl⟩
 | false =>
  simp only [hc] at c_codewrightlaw24_crowded
  have hL:=crB_len hc
  obtain ⟨v,hv⟩ : ∃ v,v = n % 9 + 1:=⟨_,rfl⟩
  obtain ⟨k,hk⟩ : ∃ k,k = size % v + 1:=⟨_,rfl⟩
  obtain ⟨s,hs⟩ : ∃ s,s = t % k + 1:=⟨_,rfl⟩
  have hv9 : v ≤ 9:=by omega
  have hkv : k ≤ v:=by have:=Nat.mod_lt size (show 0 < v by omega);omega
  have hsk : s ≤ k:=by have:=Nat.mod_lt t (show 0 < k by omega);omega
  have hv1 : 1 ≤ v:=by omega
  have hk1 : 1 ≤ k:=by omega
  have hs1 : 1 ≤ s:=by omega
  have e1 : (n : Int) % 9 + 1 = (v : Int):=by omega
  have e2 : (size : Int) % (v : Int) + 1 = (k : Int):=by rw [hk];simp
  have e3 : (t : Int) % (k : Int) + 1 = (s : Int):=by rw [hs];simp
  have m2 : (size : Int) % (v : Int) < 9:=by omega
  have m3 : (t : Int) % (k : Int) < 9:=by omega
  have m4 : 0 ≤ (size : Int) % (v : Int):=by omega
  have m5 : 0 ≤ (t : Int) % (k : Int):=by omega
  refine j_nf [_,_] rfl (j_run it 1 rfl (by simp) ?_)
  refine j_nf [_,_,_] rfl (j_run it 1 rfl (by simp) ?_)
  refine j_step rfl (x_call [0] rfl (c_codewrightlaw24_crowded) rfl ?_)
  rintro _ _ _ ⟨rfl,rfl,rfl⟩
  simp only [List.cons_append,List.nil_append]
  refine j_nf [_,_] rfl ?_
  refine j_false rfl rfl ?_
  refine j_nf [_,_] rfl (j_run it 5 rfl ⟨trivial,⟨by omega,by omega⟩,⟨by omega,by omega⟩,⟨by omega,by omega⟩,trivial,trivial⟩ ?_)
  rw [e1]
  refine j_nf [_,_] rfl (j_run it 6 rfl ⟨trivial,⟨by omega,by omega⟩,⟨by omega,by omega⟩,trivial,⟨by omega,by omega⟩,trivial,trivial⟩ ?_)
  rw [e2]
  refine j_nf [_,_] rfl (j_run it 6 rfl ⟨trivial,⟨by omega,by omega⟩,⟨by omega,by omega⟩,trivial,⟨by omega,by omega⟩,trivial,trivial⟩ ?_)
  rw [e3]
  clear e1 e2 e3 m2 m3 m4 m5 hv hk hs
  refine j_nf [_,_] rfl (j_run it 1 rfl (by simp) ?_)
  refine j_nf [_,_,_] rfl (j_run it 1 rfl (by simp) ?_)
  refine j_nf [_,_,_] rfl ?_
  obtain ⟨f,hf⟩ : ∃ f : List Int → Bool,f = fun B=>decide (B.length = k) && blkS v (-1) B:=⟨_,rfl⟩
  refine j_row0 (encSl I64) 29 ?_
  refine j_loopG (X:=Nat × Row × List (List Int)) [0,8,9,10,11] [0,1] (fun x=>[(13,.int .i64 (x.1 : Int)),(12,.slice (ad x.2.1.bo) x.2.2.length x.2.1.cap)]) (fun x=>[(x.2.1.bo,29,x.2.1.cs)]) (fun x=>[rowF (encSl I64) x.2.1 x.2.2.length x.2.2])
   (fun x=>x.1 ≤ L.length ∧ x.2.2 = (L.take x.1).filter f) (fun x=>L.length - x.1) (0,⟨none,0,[]⟩,[]) [0] rfl rfl rfl ⟨Nat.zero_le _,rfl⟩ (by repeat (first | exact Fr.sub_nil _ | refine Fr.sub_cons rfl ?_)) rfl rfl ?_
  rintro ⟨i,r,l⟩ ⟨hi,hl⟩ ih
  simp only [List.cons_append,List.nil_append] at hi hl ih ⊢
  have hll : l.length ≤ i:=by
   rw [hl]
   exact Nat.le_trans (List.length_filter_le _ _) (by rw [List.length_take];omega)
  by_cases hil : i < L.length
  ·obtain ⟨z,at_z,ez⟩ : ∃ z,L[i]? = some z ∧ L.take (i + 1) = L.take i++[z]:=⟨L[i],List.getElem?_eq_getElem hil,List.take_succ_eq_append_getElem hil⟩
   have c_codewrightref24_Block:=fun {pa : Option Addr} {k ca : Nat}=>S_codewrightref24_Block (pa:=pa) (k:=k) (n:=v) (ca:=ca) (l:=z)
   by_cases h1 : z.length = k
   ·cases hb : blkS v (-1) z with
    | true =>
     simp only [hb] at c_codewrightref24_Block
     have ih':=fun r1=>ih (i + 1,r1,l++[z]) (by dsimp only;omega) ⟨by dsimp only;omega,by dsimp only;rw [ez,List.filter_append,← hl,List.filter_cons,if_pos (by rw [hf];simp [h1,hb]),List.filter_nil]⟩
     simp only [List.length_append,List.length_singleton] at ih'
     refine j_nf [_,_,_,_,_,_] rfl (j_run it 2 rfl (by simp) ?_)
     refine j_step rfl (x_len sl22 rfl ?_)
     refine j_run it 1 rfl (by simp) ?_
     refine j_nf [_,_,_,_,_] rfl (j_if rfl rfl (fun h2=>?_) (fun h2=>by exfalso;omega))
     refine j_nf [_,_,_,_,_,_,_] rfl (j_run it 2 rfl (by simp) ?_)
     refine j_step rfl (x_idx 2 (i) rfl rfl rfl sl22 rfl (by omega) fun z1 hz1 b1 o1=>?_)
     obtain rfl : _ = z1:=Option.some.inj (at_z.symm.trans hz1)
     refine j_step rfl (x_ld_sl 0 rfl rfl ld29 fun pa1 ca1=>?_)
     refine j_step rfl (x_len sl29 rfl ?_)
     refine j_run it 3 rfl (by simp) ?_
     refine j_split_dec (t:=51) rfl (fun h3=>?_) (fun h3=>by exfalso;omega)
     refine j_run it 3 rfl (by simp) ?_
     refine j_gstep rfl rfl (x_idx 4 (i) rfl rfl rfl sl22 rfl (by omega) fun z1 hz2 b2 o2=>?_)
     obtain rfl : _ = z1:=Option.some.inj (at_z.symm.trans hz2)
     refine j_gstep rfl rfl (x_ld_sl 0 rfl rfl ld29 fun pa2 ca2=>?_)
     refine j_gstep rfl rfl (x_call [0] rfl (c_codewrightref24_Block) rfl ?_)
     rintro _ _ _ ⟨rfl,rfl,rfl⟩
     simp only [List.cons_append,List.nil_append]
     refine j_run it 1 rfl (by simp) ?_
     refine j_nf [_,_,_,_,_,_] rfl ?_
     refine j_true rfl rfl ?_
     refine j_nf [_,_,_,_,_,_] rfl (j_run it 3 rfl (by simp) ?_)
     refine j_step rfl (x_idx 6 (i) rfl rfl rfl sl22 rfl (by omega) fun z1 hz3 b3 o3=>?_)
     obtain rfl : _ = z1:=Option.some.inj (at_z.symm.trans hz3)
     refine j_step rfl (x_ld_sl 0 rfl rfl ld29 fun pa3 ca3=>?_)
     refine j_step rfl (x_lit sl22 zo22e rfl rfl rfl rfl (by decide) (by decide) rfl fun b4=>?_)
     refine j_step rfl (x_appR (z:=z) 1 0 6 rfl rfl rfl rfl rfl sl22 zo22e rfl (fun w A hG=>(rd_of_slF (hG _ (fact_mem (n:=0) rfl)))) (by omega) _ by22e (by omega) fun r1=>?_)
     refine j_run it 1 rfl (by simp) ?_
     refine j_nf [_,_,_,_] rfl (j_run it 3 rfl ⟨trivial,⟨by omega,by omega⟩,trivial,trivial⟩ ?_)
     refine j_nfn 1 [.lp (pL 2036),.blk 0,.c (pL 255)] rfl ?_
     refine j_toM [true,false] [0,8,9] (by exact fra rfl) rfl rfl (ih' r1)
    | false =>
     simp only [hb] at c_codewrightref24_Block
     refine j_nf [_,_,_,_,_,_] rfl (j_run it 2 rfl (by simp) ?_)
     refine j_step rfl (x_len sl22 rfl ?_)
     refine j_run it 1 rfl (by simp) ?_
     refine j_nf [_,_,_,_,_] rfl (j_if rfl rfl (fun h2=>?_) (fun h2=>by exfalso;omega))
     refine j_nf [_,_,_,_,_,_,_] rfl (j_run it 2 rfl (by simp) ?_)
     refine j_step rfl (x_idx 2 (i) rfl rfl rfl sl22 rfl (by omega) fun z1 hz1 b1 o1=>?_)
     obtain rfl : _ = z1:=Option.some.inj (at_z.symm.trans hz1)
     refine j_step rfl (x_ld_sl 0 rfl rfl ld29 fun pa1 ca1=>?_)
     refine j_step rfl (x_len sl29 rfl ?_)
     refine j_run it 3 rfl (by simp) ?_
     refine j_split_dec (t:=51) rfl (fun h3=>?_) (fun h3=>by exfalso;omega)
     refine j_run it 3 rfl (by simp) ?_
     refine j_gstep rfl rfl (x_idx 4 (i) rfl rfl rfl sl22 rfl (by omega) fun z1 hz2 b2 o2=>?_)
     obtain rfl : _ = z1:=Option.some.inj (at_z.symm.trans hz2)
     refine j_gstep rfl rfl (x_ld_sl 0 rfl rfl ld29 fun pa2 ca2=>?_)
     refine j_gstep rfl rfl (x_call [0] rfl (c_codewrightref24_Block) rfl ?_)
     rintro _ _ _ ⟨rfl,rfl,rfl⟩
     simp only [List.cons_append,List.nil_append]
     refine j_run it 1 rfl (by simp) ?_
     refine j_nf [_,_,_,_,_,_] rfl ?_
     refine j_false rfl rfl ?_
     refine j_nf [_,_,_,_] rfl (j_run it 3 rfl ⟨trivial,⟨by omega,by omega⟩,trivial,trivial⟩ ?_)
     refine j_nfn 1 [.lp (pL 2036),.blk 0,.c (pL 255)] rfl ?_
     refine j_to [4,5,6] (by exact fra rfl) rfl rfl (ih (i + 1,r,l) (by dsimp only;omega) ⟨by dsimp only;omega,by dsimp only;rw [ez,List.filter_append,← hl,List.filter_cons,if_neg (by rw [hf];simp [hb]),List.filter_nil,List.append_nil]⟩)
   ·refine j_nf [_,_,_,_,_,_] rfl (j_run it 2 rfl (by simp) ?_)
    refine j_step rfl (x_len sl22 rfl ?_)
    refine j_run it 1 rfl (by simp) ?_
    refine j_nf [_,_,_,_,_] rfl (j_if rfl rfl (fun h2=>?_) (fun h2=>by exfalso;omega))
    refine j_nf [_,_,_,_,_,_,_] rfl (j_run it 2 rfl (by simp) ?_)
    refine j_step rfl (x_idx 2 (i) rfl rfl rfl sl22 rfl (by omega) fun z1 hz1 b1 o1=>?_)
    obtain rfl : _ = z1:=Option.some.inj (at_z.symm.trans hz1)
    refine j_step rfl (x_ld_sl 0 rfl rfl ld29 fun pa1 ca1=>?_)
    refine j_step rfl (x_len sl29 rfl ?_)
    refine j_run it 3 rfl (by simp) ?_
    refine j_split_dec (t:=51) rfl (fun h3=>by exfalso;omega) (fun h3=>?_)
    refine j_run it 7 rfl (by simp) ?_
    refine j_nf [_,_,_,_,_,_] rfl ?_
    refine j_false rfl rfl ?_
    refine j_nf [_,_,_,_] rfl (j_run it 3 rfl ⟨trivial,⟨by omega,by omega⟩,trivial,trivial⟩ ?_)
    refine j_nfn 1 [.lp (pL 2036),.blk 0,.c (pL 255)] rfl ?_
    refine j_to [2,3,4] (by exact fra rfl) rfl rfl (ih (i + 1,r,l) (by dsimp only;omega) ⟨by dsimp only;omega,by dsimp only;rw [ez,List.filter_append,← hl,List.filter_cons,if_neg (by rw [hf];simp [h1]),List.filter_nil,List.append_nil]⟩)
  ·obtain rfl : i = L.length:=by omega
   rw [List.take_length] at hl
   have hall : ∀ B ∈ l,blkS v (-1) B = true ∧ B.length = k:=by
    intro B hB
    rw [hl,List.mem_filter,hf] at hB
    simp at hB
    exact ⟨hB.2.2,hB.2.1⟩
   obtain ⟨d0,hd⟩:=derived_all hv9 hkv hs1 hsk hall
   clear ih
   have c_macwilliams_Design:=fun {pa : Option Addr} {nb ca : Nat} {n t : Int} {L : List (List Int)} {d1 d2 : Int} (hL : L.length ≤ 1000000) (h : desS n L t = (d1,d2))=>des_ctr (pa:=pa) (nb:=nb) (ca:=ca) hL h
   refine j_pubR 0 0 rfl rfl (by show l.length * 24 ≤ 140737488355328;omega) ?_
   have hd2 : desS 2 [[0],[1]] 1 = (1,0):=des_two
   rcases hd with hd | ⟨a,b,ha,hb,hi,hal,hbl⟩
   ·obtain ⟨x,y,hd1⟩ : ∃ x y,desS v l ((s : Int) - 1) = (x,y):=⟨_,_,rfl⟩
    refine j_nf [_,_,_,_,_,_] rfl (j_run it 2 rfl (by simp) ?_)
    refine j_step rfl (x_len sl22 rfl ?_)
    refine j_run it 1 rfl (by simp) ?_
    refine j_nf [_,_,_,_,_] rfl (j_if rfl rfl (fun h1=>by exfalso;omega) (fun h1=>?_))
    refine j_nf [_,_] rfl (j_run it 3 rfl (by simp) ?_)
    refine j_step rfl (x_call [0] rfl (c_macwilliams_Design (by omega) (by omega)) rfl ?_)
    rintro _ _ _ ⟨rfl,rfl,rfl⟩
    simp only [List.cons_append,List.nil_append]
    refine j_run it 5 rfl (by simp) ?_
    refine j_nf [_,_] rfl (j_run it 4 rfl ⟨⟨by omega,by omega⟩,trivial,trivial,trivial,trivial⟩ ?_)
    refine j_step rfl (x_call [0] rfl (c_macwilliams_Design (by omega) (by omega)) rfl ?_)
    rintro _ _ _ ⟨rfl,rfl,rfl⟩
    simp only [List.cons_append,List.nil_append]
    refine j_run it 5 rfl (by simp) ?_
    refine j_nf [_,_] rfl (j_run it 2 rfl (by simp) ?_)
    refine j_step rfl (x_call [0] rfl (c_macwilliams_Design (by omega) (by omega)) rfl ?_)
    rintro _ _ _ ⟨rfl,rfl,rfl⟩
    simp only [List.cons_append,List.nil_append]
    refine j_run it 5 rfl (by simp) ?_
    refine j_nf [_,_,_] rfl (j_run it 5 rfl (by simp) ?_)
    refine j_split_ndec (t:=89) rfl (fun h2=>by exfalso;omega) (fun h2=>?_)
    refine j_gstep rfl rfl (x_len sl22 rfl ?_)
    refine j_run it 2 rfl (by simp) ?_
    refine j_nf [_,_] rfl (j_ifn rfl rfl (fun h3=>by exfalso;omega) (fun h3=>?_))
    refine j_nf [_,_] rfl (j_step rfl (x_lit sl29 zo29e rfl rfl rfl rfl (by decide) (by decide) rfl fun b1=>?_))
    refine j_step rfl (x_lit sl29 zo29e rfl rfl rfl rfl (by decide) (by decide) rfl fun b2=>?_)
    refine j_step rfl (x_lit sl22 zo22e rfl rfl rfl rfl (by decide) (by decide) rfl fun b3=>?_) --ok
    refine j_pub_madei (kd:=.i64) (n:=1) 8 [1] 1 rfl rfl (by simp [InR]) (by decide) (by decide) ?_
    refine j_pub_madei (kd:=.i64) (n:=1) 8 [0] 1 rfl rfl (by simp [InR]) (by decide) (by decide) ?_
    refine j_rowlit (E:=encSl I64) (n:=2) [[.slice (some ⟨b1,0,none⟩) 1 1],[.slice (some ⟨b2,0,none⟩) 1 1]] [[0],[1]] 0 (fun w A hG=>allrd_cons (rd_of_slF (hG _ (fact_mem (n:=0) rfl))) (allrd_cons (rd_of_slF (hG _ (fact_mem (n:=1) rfl))) allrd_nil)) rfl rfl rfl rfl (by decide) ?_
    refine j_pubR 0 0 rfl rfl (by show 2 * 24 ≤ 140737488355328;decide) ?_
    dsimp only [ad]
    refine j_step rfl (x_call [0] rfl (c_macwilliams_Design (by simp) (by omega)) rfl ?_)
    rintro _ _ _ ⟨rfl,rfl,rfl⟩
    simp only [List.cons_append,List.nil_append]
    simp only [decide_true]
    refine j_run it 5 rfl (by simp) ?_
    refine j_nf [_,_,_] rfl (j_run it 6 rfl (by simp) ?_)
    refine j_nf [_,_] rfl (j_ifn rfl rfl (fun h4=>by exfalso;omega) (fun h4=>?_))
    refine j_nf [_,_,_] rfl (j_run it 2 rfl (by simp) ?_)
    refine j_nf [_,_] rfl (j_ifn rfl rfl (fun h5=>?_) (fun h5=>by exfalso;omega))
    refine j_nf [_,_,_] rfl (j_run it 7 rfl (by simp) ?_)
    refine j_nf [_,_] rfl ?_
    rw [decide_eq_true (show (0 : Int) = 0 from rfl)]
    refine j_giv [] rfl rfl rfl ⟨rfl,rfl,rfl⟩
   ·rw [show ((s - 1 : Nat) : Int) = (s : Int) - 1 by omega] at hb
    have q1 : (b : Int) * ((k : Int) - s + 1) = (a : Int) * ((v : Int) - s + 1):=by
     have:=congrArg (fun x : Nat=>(x : Int)) hi
     rw [Int.natCast_mul,Int.natCast_mul,show ((k - (s - 1) : Nat) : Int) = (k : Int) - s + 1 by omega,show ((v - (s - 1) : Nat) : Int) = (v : Int) - s + 1 by omega] at this
     exact this
    have q2 : 0 ≤ (b : Int) * ((k : Int) - s + 1):=Int.mul_nonneg (by omega) (by omega)
    have q3 : (b : Int) * ((k : Int) - s + 1) ≤ 1000000 * 9:=Int.mul_le_mul (by omega) (by omega) (by omega) (by omega)
    have q4 : 0 ≤ (a : Int) * ((v : Int) - s + 1):=by omega
    have q5 : (a : Int) * ((v : Int) - s + 1) ≤ 1000000 * 9:=by omega
    refine j_nf [_,_,_,_,_,_] rfl (j_run it 2 rfl (by simp) ?_)
    refine j_step rfl (x_len sl22 rfl ?_)
    refine j_run it 1 rfl (by simp) ?_
    refine j_nf [_,_,_,_,_] rfl (j_if rfl rfl (fun h1=>by exfalso;omega) (fun h1=>?_))
    refine j_nf [_,_] rfl (j_run it 3 rfl (by simp) ?_)
    refine j_step rfl (x_call [0] rfl (c_macwilliams_Design (by omega) (by omega)) rfl ?_)
    rintro _ _ _ ⟨rfl,rfl,rfl⟩
    simp only [List.cons_append,List.nil_append]
    refine j_run it 5 rfl (by simp) ?_
    refine j_nf [_,_] rfl (j_run it 4 rfl ⟨⟨by omega,by omega⟩,trivial,trivial,trivial,trivial⟩ ?_)
    refine j_step rfl (x_call [0] rfl (c_macwilliams_Design (by omega) (by omega)) rfl ?_)
    rintro _ _ _ ⟨rfl,rfl,rfl⟩
    simp only [List.cons_append,List.nil_append]
    refine j_run it 5 rfl (by simp) ?_
    refine j_nf [_,_] rfl (j_run it 2 rfl (by simp) ?_)
    refine j_step rfl (x_call [0] rfl (c_macwilliams_Design (by omega) (by omega)) rfl ?_)
    rintro _ _ _ ⟨rfl,rfl,rfl⟩
    simp only [List.cons_append,List.nil_append]
    refine j_run it 5 rfl (by simp) ?_
    refine j_nf [_,_,_] rfl (j_run it 5 rfl (by simp) ?_)
    refine j_split_ndec (t:=89) rfl (fun h2=>by exfalso;omega) (fun h2=>?_)
    refine j_gstep rfl rfl (x_len sl22 rfl ?_)
    refine j_run it 2 rfl (by simp) ?_
    refine j_nf [_,_] rfl (j_ifn rfl rfl (fun h3=>by exfalso;omega) (fun h3=>?_))
    refine j_nf [_,_] rfl (j_step rfl (x_lit sl29 zo29e rfl rfl rfl rfl (by decide) (by decide) rfl fun b1=>?_))
    refine j_step rfl (x_lit sl29 zo29e rfl rfl rfl rfl (by decide) (by decide) rfl fun b2=>?_)
    refine j_step rfl (x_lit sl22 zo22e rfl rfl rfl rfl (by decide) (by decide) rfl fun b3=>?_) --ok
    refine j_pub_madei (kd:=.i64) (n:=1) 8 [1] 1 rfl rfl (by simp [InR]) (by decide) (by decide) ?_
    refine j_pub_madei (kd:=.i64) (n:=1) 8 [0] 1 rfl rfl (by simp [InR]) (by decide) (by decide) ?_
    refine j_rowlit (E:=encSl I64) (n:=2) [[.slice (some ⟨b1,0,none⟩) 1 1],[.slice (some ⟨b2,0,none⟩) 1 1]] [[0],[1]] 0 (fun w A hG=>allrd_cons (rd_of_slF (hG _ (fact_mem (n:=0) rfl))) (allrd_cons (rd_of_slF (hG _ (fact_mem (n:=1) rfl))) allrd_nil)) rfl rfl rfl rfl (by decide) ?_
    refine j_pubR 0 0 rfl rfl (by show 2 * 24 ≤ 140737488355328;decide) ?_
    dsimp only [ad]
    refine j_step rfl (x_call [0] rfl (c_macwilliams_Design (by simp) (by omega)) rfl ?_)
    rintro _ _ _ ⟨rfl,rfl,rfl⟩
    simp only [List.cons_append,List.nil_append]
    simp only [decide_true]
    refine j_run it 5 rfl (by simp) ?_
    refine j_nf [_,_,_] rfl (j_run it 6 rfl (by simp) ?_)
    refine j_nf [_,_] rfl (j_ifn rfl rfl (fun h4=>by exfalso;omega) (fun h4=>?_))
    refine j_nf [_,_,_] rfl (j_run it 2 rfl (by simp) ?_)
    refine j_nf [_,_] rfl (j_ifn rfl rfl (fun h5=>by exfalso;omega) (fun h5=>?_))
    refine j_nf [_,_] rfl (j_run it 18 rfl ⟨trivial,trivial,trivial,⟨by omega,by omega⟩,⟨by omega,by omega⟩,⟨by omega,by omega⟩,trivial,trivial,trivial,⟨by omega,by omega⟩,⟨by omega,by omega⟩,⟨by omega,by omega⟩,trivial,trivial,trivial,trivial,trivial,trivial,trivial⟩ ?_)
    refine j_nf [_] rfl ?_
    rw [decide_eq_true q1]
    refine j_giv [] rfl rfl rfl ⟨rfl,rfl,rfl⟩
end Go.Proofs.Ytmhcfhddmkhaiaa
