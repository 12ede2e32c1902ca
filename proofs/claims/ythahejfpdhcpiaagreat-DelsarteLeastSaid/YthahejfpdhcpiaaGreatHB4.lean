/-
Contracts of nat.Cmp and nat.Sub. The contract of nat.step, first part: what is done when the guess was too great by one. The contract of nat.shift. The contract of nat.step, second part: multiplied and taken away. The contract of nat.step. The contract of nat.long, and of bits.LeadingZeros32. The contracts of nat.DivMod and nat.Gcd. The contracts of rational.one, canonical, Trim, Neg, Sign. The contract of nat.Trim, where the caller goes on writing in what it gets. The contract of nat.Sub. The contracts of rational.plus, Add, Sub, Cmp, Mul. The contracts of rational.Sub, Cmp, Mul. Contracts of the document's numbers: Trim, Of, limb, Same, Zero. The document's product. The document's sum. Contracts of nat.Pow, for small bases and exponents. The document's power. The document's Cmp and Sub. The document's shift. The document's DivMod and Gcd. The document's fractions: Make, Trim, Sign, Neg, Mul.
-/
import Derived.Test.YthahejfpdhcpiaaGreatHB3
set_option linter.unusedVariables false
set_option linter.unusedSimpArgs false
namespace Go.Proofs.YthahejfpdhcpiaaGreat
open Go Go.Fw
set_option maxRecDepth 100000
set_option linter.unusedVariables false
set_option linter.unusedSimpArgs false
set_option maxHeartbeats 1000000
theorem S_nat_Cmp {pa pb : Option Addr} {n m ca cb : Nat} {a b : List Nat} :
  Ctr Tryz.prog 57 [.slice pa n ca,.slice pb m cb] [] [slF U32 pa n ca a,slF U32 pb m cb b] (Rv (.int .i64 (cmpN (val a) (val b))) []):=by
 refine Ctr_of_j' (F:=F_nat_Cmp) rfl fun C=>?_
 refine j_len 0 rfl fun hn hba _=>?_
 refine j_len 1 rfl fun hm hbb _=>?_
 subst hn;subst hm
 have hba' : a.length * 4 ≤ 140737488355328:=hba
 have hbb' : b.length * 4 ≤ 140737488355328:=hbb
 refine j_range 0 rfl fun hra=>?_
 refine j_range 1 rfl fun hrb=>?_
 have hra' : ∀ x ∈ a,x < 4294967296:=fun x hx=>by have:=hra x hx;simp only [InR] at this;omega
 have hrb' : ∀ x ∈ b,x < 4294967296:=fun x hx=>by have:=hrb x hx;simp only [InR] at this;omega
 have ea:=trim_eq hra'
 have eb:=trim_eq hrb'
 have la:=trim_length_le a
 have lb:=trim_length_le b
 by_cases hA : (trim a).length < (trim b).length
 ·have : val a < val b:=lt_of_len (by rw [← ea,← eb];exact hA)
  rw [cmpN_lt this]
  refine j_nf [_,_] rfl ?_
  refine j_run it 1 rfl (by simp) ?_
  refine j_nf [_,_] rfl ?_
  refine j_run it 1 rfl (by simp) ?_
  refine j_step rfl (x_call [0] rfl (S_nat_short) rfl ?_)
  rintro _ _ _ ⟨rfl,rfl,rfl⟩
  simp only [List.cons_append,List.nil_append]
  refine j_run it 1 rfl (by simp) ?_
  refine j_step rfl (x_call [2] rfl (S_nat_short) rfl ?_)
  rintro _ _ _ ⟨rfl,rfl,rfl⟩
  simp only [List.cons_append,List.nil_append]
  refine j_run it 2 rfl (by simp) ?_
  refine j_nf [_,_,_] rfl ?_
  refine j_run it 1 rfl (by simp) ?_
  refine j_step rfl (x_len sl24 rfl ?_)
  refine j_run it 1 rfl (by simp) ?_
  refine j_step rfl (x_len sl24 rfl ?_)
  refine j_run it 1 rfl (by simp) ?_
  refine j_nf [_,_] rfl ?_
  refine j_ifn rfl rfl (fun h1=>?_) (fun h1=>by exfalso;omega)
  refine j_nf [_,_,_,_] rfl ?_
  refine j_run it 1 rfl (by simp) ?_
  refine j_step rfl (x_len sl24 rfl ?_)
  refine j_run it 1 rfl (by simp) ?_
  refine j_step rfl (x_len sl24 rfl ?_)
  refine j_run it 1 rfl (by simp) ?_
  refine j_nf [_,_,_] rfl ?_
  refine j_if rfl rfl (fun h2=>?_) (fun h2=>by exfalso;omega)
  refine j_nf [_,_,_,_] rfl ?_
  refine j_run it 1 rfl (by simp) ?_
  refine j_nf [_,_,_] rfl ?_
  refine j_giv [] rfl rfl rfl ⟨rfl,rfl,rfl⟩
 by_cases hB : (trim b).length < (trim a).length
 ·have : val b < val a:=lt_of_len (by rw [← ea,← eb];exact hB)
  rw [cmpN_gt this]
  refine j_nf [_,_] rfl ?_
  refine j_run it 1 rfl (by simp) ?_
  refine j_nf [_,_] rfl ?_
  refine j_run it 1 rfl (by simp) ?_
  refine j_step rfl (x_call [0] rfl (S_nat_short) rfl ?_)
  rintro _ _ _ ⟨rfl,rfl,rfl⟩
  simp only [List.cons_append,List.nil_append]
  refine j_run it 1 rfl (by simp) ?_
  refine j_step rfl (x_call [2] rfl (S_nat_short) rfl ?_)
  rintro _ _ _ ⟨rfl,rfl,rfl⟩
  simp only [List.cons_append,List.nil_append]
  refine j_run it 2 rfl (by simp) ?_
  refine j_nf [_,_,_] rfl ?_
  refine j_run it 1 rfl (by simp) ?_
  refine j_step rfl (x_len sl24 rfl ?_)
  refine j_run it 1 rfl (by simp) ?_
  refine j_step rfl (x_len sl24 rfl ?_)
  refine j_run it 1 rfl (by simp) ?_
  refine j_nf [_,_] rfl ?_
  refine j_ifn rfl rfl (fun h1=>?_) (fun h1=>by exfalso;omega)
  refine j_nf [_,_,_,_] rfl ?_
  refine j_run it 1 rfl (by simp) ?_
  refine j_step rfl (x_len sl24 rfl ?_)
  refine j_run it 1 rfl (by simp) ?_
  refine j_step rfl (x_len sl24 rfl ?_)
  refine j_run it 1 rfl (by simp) ?_
  refine j_nf [_,_,_] rfl ?_
  refine j_if rfl rfl (fun h2=>by exfalso;omega) (fun h2=>?_)
  refine j_nf [_,_,_] rfl ?_
  refine j_run it 1 rfl (by simp) ?_
  refine j_nf [_,_] rfl ?_
  refine j_giv [] rfl rfl rfl ⟨rfl,rfl,rfl⟩
 have hta : ∀ x ∈ trim a,x < 4294967296:=fun x hx=>hra' x (mem_trim hx)
 have htb : ∀ x ∈ trim b,x < 4294967296:=fun x hx=>hrb' x (mem_trim hx)
 have va : val (trim a) = val a:=val_trim a
 have vb : val (trim b) = val b:=val_trim b
 refine j_nf [_,_] rfl ?_
 refine j_run it 1 rfl (by simp) ?_
 refine j_nf [_,_] rfl ?_
 refine j_run it 1 rfl (by simp) ?_
 refine j_step rfl (x_call [0] rfl (S_nat_short) rfl ?_)
 rintro _ _ _ ⟨rfl,rfl,rfl⟩
 simp only [List.cons_append,List.nil_append]
 refine j_run it 1 rfl (by simp) ?_
 refine j_step rfl (x_call [2] rfl (S_nat_short) rfl ?_)
 rintro _ _ _ ⟨rfl,rfl,rfl⟩
 simp only [List.cons_append,List.nil_append]
 refine j_run it 2 rfl (by simp) ?_
 refine j_nf [_,_,_] rfl ?_
 refine j_run it 1 rfl (by simp) ?_
 refine j_step rfl (x_len sl24 rfl ?_)
 refine j_run it 1 rfl (by simp) ?_
 refine j_step rfl (x_len sl24 rfl ?_)
 refine j_run it 1 rfl (by simp) ?_
 refine j_nf [_,_] rfl ?_
 refine j_ifn rfl rfl (fun h1=>by exfalso;omega) (fun h1=>?_)
 refine j_nf [_,_,_] rfl ?_
 refine j_run it 1 rfl (by simp) ?_
 refine j_step rfl (x_len sl24 rfl ?_)
 refine j_run it 2 rfl ⟨trivial,⟨by omega,by omega⟩,trivial⟩ ?_
 refine j_nf [_,_,_] rfl ?_
 refine j_loopG (X:=Nat) [0,1] [0,1,2,3] (fun k=>[(5,.int .i64 ((k : Int) - 1))]) (fun _=>[]) (fun _=>[]) (fun k=>k ≤ (trim a).length ∧ (trim a).drop k = (trim b).drop k) (fun k=>k) (trim a).length [] rfl rfl rfl ⟨Nat.le_refl _,by rw [List.drop_length,List.drop_of_length_le (by omega)]⟩ (by repeat (first | exact Fr.sub_nil _ | refine Fr.sub_cons rfl ?_)) rfl rfl ?_
 intro k ⟨hk,hd⟩ ih
 simp only [List.cons_append,List.nil_append] at ih ⊢
 by_cases hkl : 0 < k
 ·obtain ⟨j,rfl⟩ : ∃ j,k = j + 1:=⟨k - 1,by omega⟩
  have hx:=get_some (l:=trim a) (i:=j) (dflt:=default) (by omega)
  have hy:=get_some (l:=trim b) (i:=j) (dflt:=default) (by omega)
  generalize hgx : (trim a).getD j default = x at hx
  generalize hgy : (trim b).getD j default = y at hy
  rw [show (((j + 1 : Nat) : Int) - 1) = (j : Int) by omega]
  refine j_nf [_,_,_,_,_,_] rfl ?_
  refine j_run it 2 rfl (by simp) ?_
  refine j_nf [_,_,_,_,_] rfl ?_
  refine j_if rfl rfl (fun h2=>?_) (fun h2=>by exfalso;omega)
  refine j_nf [_,_,_,_,_,_,_,_] rfl ?_
  (apply j_drawK it mx 9;(· rfl);(· rfl))
  (apply lxk_run 2;(· rfl);(· simp))
  (apply lxk_pt;(· rfl);(· exact d_x fun _=>x_idx 1 (j) rfl rfl rfl sl24 rfl (by omega) fun z1 hz1 b1 o1=>(dk_ptD default hz1 0 rfl));intro b1 o1)
  (apply lxk_eq;(· rfl);(· exact d_x fun _=>x_ld_nat 0 rfl rfl ld73 fun ⟨r1,r2⟩=>dk_eq))
  (apply lxk_run 2;(· rfl);(· simp))
  (apply lxk_pt;(· rfl);(· exact d_x fun _=>x_idx 0 (j) rfl rfl rfl sl24 rfl (by omega) fun z1 hz1 b2 o2=>(dk_ptD default hz1 0 rfl));intro b2 o2)
  (apply lxk_eq;(· rfl);(· exact d_x fun _=>x_ld_nat 0 rfl rfl ld73 fun ⟨r1,r2⟩=>dk_eq))
  (apply lxk_run 1;(· rfl);(· simp))
  refine lxk_end rfl ?_
  simp only [List.map_cons,List.map_nil,List.cons_append,List.nil_append]
  refine j_nf [_,_,_,_,_,_,_] rfl ?_
  refine j_if rfl rfl (fun h3=>?_) (fun h3=>?_)
  ·rw [hgx,hgy] at h3
   have : val a < val b:=by rw [← va,← vb];exact lt_of_top hta (by rw [hd]) hx hy (by omega)
   rw [cmpN_lt this]
   refine j_nf [_,_,_,_,_,_,_,_] rfl ?_
   refine j_run it 1 rfl (by simp) ?_
   refine j_nf [_,_,_,_,_,_,_] rfl ?_
   refine j_giv [] rfl rfl rfl ⟨rfl,rfl,rfl⟩
  ·refine j_nf [_,_,_,_,_,_,_] rfl ?_
   (apply j_drawK it mx 9;(· rfl);(· rfl))
   (apply lxk_run 2;(· rfl);(· simp))
   (apply lxk_pt;(· rfl);(· exact d_x fun _=>x_idx 3 (j) rfl rfl rfl sl24 rfl (by omega) fun z1 hz1 b3 o3=>(dk_ptD default hz1 0 rfl));intro b3 o3)
   (apply lxk_eq;(· rfl);(· exact d_x fun _=>x_ld_nat 0 rfl rfl ld73 fun ⟨r1,r2⟩=>dk_eq))
   (apply lxk_run 2;(· rfl);(· simp))
   (apply lxk_pt;(· rfl);(· exact d_x fun _=>x_idx 2 (j) rfl rfl rfl sl24 rfl (by omega) fun z1 hz1 b4 o4=>(dk_ptD default hz1 0 rfl));intro b4 o4)
   (apply lxk_eq;(· rfl);(· exact d_x fun _=>x_ld_nat 0 rfl rfl ld73 fun ⟨r1,r2⟩=>dk_eq))
   (apply lxk_run 1;(· rfl);(· simp))
   refine lxk_end rfl ?_
   simp only [List.map_cons,List.map_nil,List.cons_append,List.nil_append]
   refine j_nf [_,_,_,_,_,_] rfl ?_
   refine j_if rfl rfl (fun h4=>?_) (fun h4=>?_)
   ·rw [hgx,hgy] at h4
    have : val b < val a:=by rw [← va,← vb];exact lt_of_top htb (by rw [hd]) hy hx (by omega)
    rw [cmpN_gt this]
    refine j_nf [_,_,_,_,_,_,_] rfl ?_
    refine j_run it 1 rfl (by simp) ?_
    refine j_nf [_,_,_,_,_,_] rfl ?_
    refine j_giv [] rfl rfl rfl ⟨rfl,rfl,rfl⟩
   ·rw [hgx,hgy] at h3 h4
    have hxy : x = y:=by omega
    subst hxy
    refine j_nf [_,_,_,_] rfl ?_
    refine j_run it 3 rfl ⟨trivial,⟨by omega,by omega⟩,trivial,trivial⟩ ?_
    refine j_nfn 1 [.lp (pL 244),.blk 0,.c [1,1,1,1]] rfl ?_
    refine j_to [4,5,6,7] (by exact fra rfl) rfl rfl (ih j (by omega) ⟨by omega,drop_step hd hx hy⟩)
 ·have e0 : k = 0:=by omega
  subst e0
  have e : trim a = trim b:=by simpa using hd
  rw [cmpN_eq (by rw [← va,← vb,e])]
  refine j_nf [_,_,_,_,_,_] rfl ?_
  refine j_run it 2 rfl (by simp) ?_
  refine j_nf [_,_,_,_,_] rfl ?_
  refine j_if rfl rfl (fun h2=>by exfalso;omega) (fun h2=>?_)
  refine j_nf [_,_] rfl ?_
  refine j_run it 1 rfl (by simp) ?_
  refine j_nf [_] rfl ?_
  refine j_giv [] rfl rfl rfl ⟨rfl,rfl,rfl⟩
set_option maxHeartbeats 2000000
abbrev StepQ (b k U V : Nat) (pre post : List Nat) : Value → List Fact → List Blk → Prop:=fun w Φ β=>w = .int .u32 (U / V : Nat) ∧ Φ = [] ∧ ∃ u',u'.length = k + 3 ∧ (∀ x ∈ u',x < 4294967296) ∧ val u' = U % V ∧ β = [(some b,73,natCells .u32 (pre++u'++post))]
theorem step_back {C : Cx} {b o cap cb k q U V P R uk cc : Nat} {pb : Option Addr} {pre w0 post v : List Nat} (hpre : pre.length = o) (hl0 : w0.length = k + 3) (hvl : v.length = k + 2) (hcap : k + 3 ≤ cap) (hsz : v.length ≤ 1099511627776)
  (hs0 : ∀ x ∈ w0,x < 4294967296) (hv : ∀ x ∈ v,x < 4294967296) (hP : 4294967296 ^ v.length = P) (hV : val v = V) (hV0 : 0 < V) (hVP : V ≤ P) (hR : val (w0.take v.length) = R) (hmod : R + V + P * uk = U % V + P * cc) (huk : uk < cc) (hcc : cc ≤ 4294967296)
  (hg0 : w0[v.length]? = some (uk + 4294967296 - cc)) (hq : q = U / V + 1) (hqB : q < 4294967296) :
  J F_nat_step C [.c (pL 4095)] [(0,.slice (some ⟨b,o,none⟩) (k + 3) cap),(1,.slice pb v.length cb),(4,.int .u32 0),(5,.int .i64 v.length),(7,.int .u64 q)]
   [(some b,73,natCells .u32 (pre++w0++post))] [slF U32 pb v.length cb v] (Gives C (StepQ b k U V pre post)):=by
 refine j_nf [_,_] rfl ?_
 refine j_run it 1 rfl (by simp) ?_
 refine j_nf [_,_,_] rfl ?_
 refine j_run it 1 rfl (by simp) ?_
 refine j_step rfl (x_len sl24 rfl ?_)
 refine j_run it 1 rfl (by simp) ?_
 refine j_nf [_,_,_] rfl ?_
 refine j_loopG (X:=Nat × Nat × List Nat) [0,1,4,5,7,139] [0] (fun x=>[(10,.int .u64 x.2.1),(140,.int .i64 x.1)]) (fun x=>[(some b,73,natCells .u32 (pre++x.2.2++post))]) (fun _=>[])
  (fun x=>x.1 ≤ v.length ∧ x.2.2.length = k + 3 ∧ x.2.1 ≤ 1 ∧ (∀ z ∈ x.2.2,z < 4294967296) ∧ val (x.2.2.take x.1) + 4294967296 ^ x.1 * x.2.1 = val (w0.take x.1) + val (v.take x.1) ∧ x.2.2.drop x.1 = w0.drop x.1)
  (fun x=>v.length - x.1) (0,0,w0) [] rfl rfl rfl ⟨Nat.zero_le _,hl0,Nat.zero_le _,hs0,by simp [val],rfl⟩ (by repeat (first | exact Fr.sub_nil _ | refine Fr.sub_cons rfl ?_)) rfl rfl ?_
 rintro ⟨i,cy,w⟩ ⟨hi2,hl2,hc2,hw2,he2,hd2⟩ ih2
 simp only [List.cons_append,List.nil_append] at hi2 hl2 hc2 hw2 he2 hd2 ih2 ⊢
 have hdi2 : ∀ j,i ≤ j → w[j]? = w0[j]?:=fun j hj=>by
  have h:=congrArg (fun l : List Nat=>l[j - i]?) hd2
  simp only [List.getElem?_drop] at h
  rwa [show i + (j - i) = j by omega] at h
 by_cases hil2 : i < v.length
 ·obtain ⟨y,hy⟩ : ∃ y,w[i]? = some y:=⟨w[i],by simp⟩
  have hyl:=hw2 _ (List.mem_of_getElem? hy)
  have hx:=get_some (l:=v) (i:=i) (dflt:=default) hil2
  have hxl:=hv _ (List.mem_of_getElem? hx)
  refine j_nf [_,_,_,_,_] rfl ?_
  refine j_run it 1 rfl (by simp) ?_
  refine j_nf [_,_,_,_,_] rfl ?_
  refine j_if rfl rfl (fun h1=>?_) (fun h1=>by exfalso;omega)
  refine j_nf [_,_,_,_,_,_,_] rfl ?_
  refine j_run it 2 rfl (by simp) ?_
  refine j_nf [_,_,_,_,_,_,_] rfl ?_
  (apply j_drawK it mx 13;(· rfl);(· rfl))
  (apply lxk_run 2;(· rfl);(· simp))
  (apply lxk_eq;(· rfl);(· exact d_x fun _=>x_idx_ownO (i) _ rfl rfl sl24 rfl (by omega) rfl dk_eq))
  (apply lxk_eq;(· rfl);(· exact d_bld_mid 0 (i) rfl rfl ld73 (by omega) (by assumption)))
  (apply lxk_run 3;(· rfl);(· exact ⟨trivial,trivial,⟨by omega,by omega⟩,trivial⟩))
  (apply lxk_pt;(· rfl);(· exact d_x fun _=>x_idx 0 (i) rfl rfl rfl sl24 rfl (by omega) fun z1 hz1 b1 o1=>(dk_ptD default hz1 0 rfl));intro b1 o1)
  (apply lxk_eq;(· rfl);(· exact d_x fun _=>x_ld_nat 0 rfl rfl ld73 fun ⟨r1,r2⟩=>dk_eq))
  (apply lxk_run 4;(· rfl);(· exact ⟨⟨by omega,by omega⟩,trivial,⟨by omega,by omega⟩,⟨by omega,by omega⟩,trivial⟩))
  refine lxk_end rfl ?_
  simp only [List.map_cons,List.map_nil,List.cons_append,List.nil_append]
  refine j_run it 1 rfl (by simp) ?_
  refine j_nf [_,_,_,_,_,_,_] rfl ?_
  refine j_run it 3 rfl (by simp) ?_
  refine j_step rfl (x_conv_u32 it rfl rfl rfl ?_)
  refine j_step rfl (x_idx_ownO (i) _ rfl rfl sl24 rfl (by omega) rfl ?_)
  refine j_step rfl (x_bst_mid 0 (i) ((((y) + (v.getD i default)) + (cy)) % 4294967296) rfl rfl rfl ld73 (by first | rfl | omega) (by omega) (by first | omega | (simp;omega)) ?_)
  refine j_nf [_,_,_,_,_,_] rfl ?_
  refine j_run it 3 rfl (by simp) ?_
  refine j_nf [_,_,_,_] rfl ?_
  refine j_run it 2 rfl ⟨trivial,⟨by omega,by omega⟩,trivial⟩ ?_
  refine j_nfn 1 [.lp (pL 131060),.blk 4,.c (pL 16383)] rfl ?_
  have hy0 : w0[i]? = some y:=by rw [← hdi2 i (Nat.le_refl _)];exact hy
  generalize v.getD i default = x at hx hxl ⊢
  refine j_to [1] (by exact fra rfl) rfl rfl (ih2 (i + 1,(y + x + cy) / 4294967296,w.set i ((y + x + cy) % 4294967296)) (by simp only;omega) ⟨by simp only;omega,by simpa using hl2,by simp only;omega,set_lt hw2 (by omega),by
   simp only
   rw [val_set_take (by omega),Nat.pow_succ,val_take_succ hy0,val_take_succ hx];exact carry_step he2 (by omega),by simp only;rw [List.drop_set_of_lt (by omega),← List.drop_drop,hd2,List.drop_drop]⟩)
 ·have ei : i = v.length:=by omega
  subst ei
  rw [List.take_length,hR,hV,hP] at he2
  have hwP:=take_lt (k:=v.length) hw2 (by omega)
  rw [hP] at hwP
  obtain ⟨hb1',hb2'⟩:=kn_back (c:=cc) (b:=0) he2 hmod hwP hVP hV0
  have hwn : w[v.length]? = some (uk + 4294967296 - cc):=by rw [hdi2 _ (Nat.le_refl _)];exact hg0
  have hcy : cy = 1:=by omega
  subst hcy
  have e3 : uk + 4294967296 - cc = 4294967295:=by omega
  rw [e3] at hwn
  refine j_nf [_,_,_,_,_] rfl ?_
  refine j_run it 1 rfl (by simp) ?_
  refine j_nf [_,_,_,_,_] rfl ?_
  refine j_if rfl rfl (fun h1=>by exfalso;omega) (fun h1=>?_)
  refine j_nf [_,_] rfl ?_
  refine j_run it 2 rfl (by simp) ?_
  refine j_step rfl (x_idx_ownO (v.length) _ rfl rfl sl24 rfl (by omega) rfl ?_)
  refine j_step rfl (x_bld_mid 0 (v.length) rfl rfl ld73 (by omega) (by assumption) (by first | omega | (simp;omega)) fun z1 hz1 hlt1=>?_)
  refine j_run it 2 rfl ⟨⟨by omega,by omega⟩,trivial,trivial⟩ ?_
  refine j_step rfl (x_add_u32 rfl rfl ?_)
  refine j_step rfl (x_idx_ownO (v.length) _ rfl rfl sl24 rfl (by omega) rfl ?_)
  refine j_step rfl (x_bst_mid 0 (v.length) (((z1) + (1)) % 4294967296) rfl rfl rfl ld73 (by first | rfl | omega) (by omega) (by first | omega | (simp;omega)) ?_)
  refine j_nf [_,_] rfl ?_
  refine j_run it 1 rfl (by simp) ?_
  refine j_step rfl (x_sub_u64 rfl rfl ?_)
  refine j_step rfl (x_conv_u32 it rfl rfl rfl ?_)
  refine j_run it 1 rfl (by simp) ?_
  refine j_nf [_] rfl ?_
  obtain rfl : z1 = 4294967295:=Option.some.inj (hz1.symm.trans hwn)
  refine j_gives [] rfl rfl rfl ⟨?_,rfl,w.set v.length 0,by simpa using hl2,set_lt hw2 (by decide),?_,rfl⟩
  ·have e : ((q : Int) - 1) % 18446744073709551616 % 4294967296 = ((U / V : Nat) : Int):=by
    generalize U / V = Q at hq ⊢
    omega
   show Value.int .u32 _ = _
   rw [e]
  ·have h:=val_set_take (l:=w) (k:=v.length) (z:=0) (by omega)
   rw [List.take_of_length_le (by simp;omega),Nat.mul_zero,Nat.add_zero] at h
   rw [h,hb1']
set_option maxHeartbeats 1000000
theorem or_low {x n c : Nat} (h : c < 2 ^ n) : x * 2 ^ n ||| c = x * 2 ^ n + c:=by
 rw [Nat.mul_comm,← Nat.two_pow_add_eq_or_of_lt h]
theorem shl_lt {x n : Nat} (hx : x < 4294967296) (hn : n < 32) : x * 2 ^ n + 2 ^ n ≤ 9223372036854775808 ∧ 1 ≤ 2 ^ n ∧ 2 ^ n ≤ 2147483648:=by
 have h1 : 2 ^ n ≤ 2 ^ 31:=Nat.pow_le_pow_right (by decide) (by omega)
 have h2 : (x + 1) * 2 ^ n ≤ 4294967296 * 2 ^ 31:=Nat.mul_le_mul (by omega) h1
 rw [Nat.succ_mul] at h2
 refine ⟨by omega,Nat.pow_pos (by decide),by omega⟩
abbrev Mv (e : TypeId) (l : List Nat) : Value → List Fact → List Blk → Prop:=fun v Φ β=>∃ b,v = .slice (some ⟨b,0,none⟩) l.length l.length ∧ Φ = [] ∧ β = [(some b,e,natCells .u32 l)]
theorem O_nat_shift {pa : Option Addr} {m ca n : Nat} {a : List Nat} (ha : a.length ≤ 1099511627776) (hn : n < 32) :
  Ctr Tryz.prog 103 [.slice pa m ca,.int .i64 n] [] [slF U32 pa m ca a] (fun v Φ β=>∃ l,l.length = a.length + 1 ∧ (∀ x ∈ l,x < 4294967296) ∧ val l = val a * 2 ^ n ∧ Mv 73 l v Φ β):=by
 refine Ctr_of_j' (F:=F_nat_shift) rfl fun C=>?_
 refine j_len 0 rfl fun hm hba _=>?_
 subst hm
 refine j_range 0 rfl fun hra=>?_
 have hra' : ∀ x ∈ a,x < 4294967296:=fun x hx=>by have:=hra x hx;simp only [InR] at this;omega
 refine j_nf [_,_] rfl ?_
 refine j_run it 1 rfl (by simp) ?_
 refine j_nf [_,_] rfl ?_
 refine j_run it 1 rfl (by simp) ?_
 refine j_step rfl (x_len sl24 rfl ?_)
 refine j_run it 1 rfl ⟨⟨by omega,by omega⟩,trivial⟩ ?_
 refine j_step rfl (x_make_nat ((a.length) + 1) _ rfl rfl sl24 zo24e by24e (by omega) (by omega) (by omega) fun b1=>?_)
 refine j_run it 1 rfl (by simp) ?_
 refine j_nf [_,_] rfl ?_
 refine j_run it 1 rfl (by simp) ?_
 refine j_nf [_,_,_] rfl ?_
 refine j_run it 1 rfl (by simp) ?_
 refine j_step rfl (x_len sl24 rfl ?_)
 refine j_run it 1 rfl (by simp) ?_
 refine j_nf [_,_,_] rfl ?_
 refine j_loopG (X:=Nat × Nat × List Nat) [0,1,4,5,14,15] [0] (fun x=>[(6,.int .u64 x.2.1),(16,.int .i64 x.1)]) (fun x=>[(some b1,73,natCells .u32 x.2.2)]) (fun _=>[])
  (fun x=>x.1 ≤ a.length ∧ x.2.2.length = a.length + 1 ∧ x.2.1 < 2 ^ n ∧ (∀ z ∈ x.2.2,z < 4294967296) ∧ val (x.2.2.take x.1) + 4294967296 ^ x.1 * x.2.1 = val (a.take x.1) * 2 ^ n)
  (fun x=>a.length - x.1) (0,0,List.replicate (a.length + 1) 0) [] rfl rfl rfl ⟨Nat.zero_le _,by simp,Nat.pow_pos (by decide),rep_lt (by decide),by simp [val]⟩ (by repeat (first | exact Fr.sub_nil _ | refine Fr.sub_cons rfl ?_)) rfl rfl ?_
 rintro ⟨k,c,out⟩ ⟨hk,hlo,hc,ho,he⟩ ih
 simp only [List.cons_append,List.nil_append] at hk hlo hc ho he ih ⊢
 by_cases hkl : k < a.length
 ·refine j_nf [_,_,_,_,_] rfl ?_
  refine j_run it 1 rfl (by simp) ?_
  refine j_nf [_,_,_,_,_] rfl ?_
  refine j_if rfl rfl (fun h1=>?_) (fun h1=>by exfalso;omega)
  refine j_nf [_,_,_,_,_,_,_] rfl ?_
  refine j_run it 1 rfl (by simp) ?_
  refine j_step rfl (x_idx 0 (k) rfl rfl rfl sl24 rfl (by omega) fun z1 hz1 b2 o1=>?_)
  refine j_step rfl (x_ld_nat 0 rfl rfl ld73 fun ⟨r1,r2⟩=>?_)
  refine j_run it 2 rfl (by simp) ?_
  refine j_nf [_,_,_,_,_,_,_] rfl ?_
  refine j_run it 3 rfl ⟨trivial,⟨by omega,by omega⟩,trivial,trivial⟩ ?_ --ok
  have hxl:=hra' _ (List.mem_of_getElem? hz1)
  obtain ⟨hs1,hs2,hs3⟩:=shl_lt hxl hn
  refine j_step rfl (x_shl_nat (z1) (n) rfl rfl (by first | rfl | omega) (by first | rfl | omega) (by first | decide | (simp only [IntKind.bits];omega)) (by first | assumption | (simp only [InR];omega)) ?_)
  refine j_run it 1 rfl (by simp) ?_
  refine j_step rfl (x_or_nat (z1 * 2 ^ n) (c) rfl rfl (by first | rfl | omega) (by first | rfl | omega) (by omega) (by omega) ?_)
  refine j_run it 1 rfl (by simp) ?_
  refine j_nf [_,_,_,_,_,_,_] rfl ?_
  refine j_run it 3 rfl (by simp) ?_
  refine j_step rfl (x_conv_u32 it rfl rfl rfl ?_)
  refine j_step rfl (x_idx_own (k) (k) rfl rfl sl24 rfl (by omega) (Nat.mul_one _) ?_)
  refine j_step rfl (x_bst_nat 0 ((z1 * 2 ^ n ||| c) % 4294967296) rfl rfl rfl ld73 (by first | rfl | omega) (by first | omega | (simp;omega)) ?_)
  refine j_nf [_,_,_,_,_,_] rfl ?_
  refine j_run it 3 rfl (by simp) ?_
  refine j_nf [_,_,_,_] rfl ?_
  refine j_run it 2 rfl ⟨trivial,⟨by omega,by omega⟩,trivial⟩ ?_
  refine j_nfn 1 [.lp (pL 244),.blk 0,.c [1,1,1,1]] rfl ?_
  rw [or_low hc]
  have hlt : z1 * 2 ^ n + c < 18446744073709551616:=by omega
  have hdiv : (z1 * 2 ^ n + c) / 4294967296 < 2 ^ n:=by
   rw [Nat.div_lt_iff_lt_mul (by decide)]
   have:=Nat.mul_le_mul_right (2 ^ n) hxl
   rw [Nat.succ_mul] at this
   omega
  refine j_to [1] (by exact fra rfl) rfl rfl (ih (k + 1,(z1 * 2 ^ n + c) / 4294967296,out.set k ((z1 * 2 ^ n + c) % 4294967296)) (by simp only;omega) ⟨by simp only;omega,by simpa using hlo,hdiv,set_lt ho (by omega),by
   simp only
   rw [val_set_take (by omega),Nat.pow_succ,val_take_succ hz1,Nat.add_mul]
   generalize hS : z1 * 2 ^ n + c = s
   have e : s % 4294967296 + 4294967296 * (s / 4294967296) = s:=by omega
   have e2 : 4294967296 ^ k * (s % 4294967296) + 4294967296 ^ k * 4294967296 * (s / 4294967296) = 4294967296 ^ k * (z1 * 2 ^ n) + 4294967296 ^ k * c:=by
    rw [Nat.mul_assoc,← Nat.mul_add,← Nat.mul_add,e,hS]
   rw [Nat.mul_assoc (4294967296 ^ k) z1]
   omega⟩)
 ·have e0 : k = a.length:=by omega
  subst e0
  have hs3 : 2 ^ n ≤ 2147483648:=(shl_lt (x:=0) (by decide) hn).2.2
  refine j_nf [_,_,_,_,_] rfl ?_
  refine j_run it 1 rfl (by simp) ?_
  refine j_nf [_,_,_,_,_] rfl ?_
  refine j_if rfl rfl (fun h1=>by exfalso;omega) (fun h1=>?_)
  refine j_nf [_,_] rfl ?_
  refine j_run it 2 rfl (by simp) ?_
  refine j_step rfl (x_len sl24 rfl ?_)
  refine j_run it 2 rfl ⟨⟨by omega,by omega⟩,trivial,trivial⟩ ?_
  refine j_step rfl (x_idx_own (a.length) (a.length) rfl rfl sl24 rfl (by omega) (Nat.mul_one _) ?_)
  refine j_step rfl (x_bst_nat 0 (c) rfl rfl rfl ld73 (by first | rfl | omega) (by first | omega | (simp;omega)) ?_)
  refine j_nf [_,_] rfl ?_
  refine j_run it 2 rfl (by simp) ?_
  refine j_nf [_] rfl ?_
  refine j_gives [] rfl rfl rfl ⟨out.set a.length c,by simpa using hlo,set_lt ho (by omega),?_,b1,by simp [resVal,hlo],rfl,rfl⟩
  rw [List.take_length] at he
  have h:=val_set_take (l:=out) (k:=a.length) (z:=c) (by omega)
  rw [List.take_of_length_le (by simp;omega)] at h
  rw [h,he]
set_option maxHeartbeats 2000000
theorem step_sub {C : Cx} {b o cap cb k q U0 : Nat} {pb : Option Addr} {pre u post v : List Nat} (hpre : pre.length = o) (hul : u.length = k + 3) (hvl : v.length = k + 2) (hcap : k + 3 ≤ cap) (hsz : u.length ≤ 1099511627776)
  (hu : ∀ x ∈ u,x < 4294967296) (hv : ∀ x ∈ v,x < 4294967296) (hU0 : u[v.length]? = some U0) (hv0 : 0 < val v) (hq : q < 4294967296) (hQ1 : val u / val v ≤ q) (hQ2 : q ≤ val u / val v + 1) :
  J F_nat_step C [.c (pL 127)] [(0,.slice (some ⟨b,o,none⟩) (k + 3) cap),(1,.slice pb v.length cb),(4,.int .u32 0),(5,.int .i64 v.length),(7,.int .u64 q)]
   [(some b,73,natCells .u32 (pre++u++post))] [slF U32 pb v.length cb v] (Gives C (StepQ b k (val u) (val v) pre post)):=by
 have lU0:=hu _ (List.mem_of_getElem? hU0)
 refine j_nf [_,_] rfl (j_run it 2 rfl (by simp) ?_)
 refine j_nf [_,_,_] rfl (j_run it 1 rfl (by simp) ?_)
 refine j_step rfl (x_len sl24 rfl ?_)
 refine j_run it 1 rfl (by simp) ?_
 refine j_nf [_,_,_] rfl ?_
 refine j_loopG (X:=Nat × Nat × Nat × List Nat) [0,1,4,5,7,85] [0] (fun x=>[(9,.int .u64 x.2.1),(10,.int .u64 x.2.2.1),(86,.int .i64 x.1)]) (fun x=>[(some b,73,natCells .u32 (pre++x.2.2.2++post))]) (fun _=>[])
  (fun x=>x.1 ≤ v.length ∧ x.2.2.2.length = k + 3 ∧ x.2.1 ≤ 1 ∧ x.2.2.1 < 4294967296 ∧ (∀ z ∈ x.2.2.2,z < 4294967296) ∧ val (x.2.2.2.take x.1) + q * val (v.take x.1) = val (u.take x.1) + 4294967296 ^ x.1 * (x.2.2.1 + x.2.1) ∧ x.2.2.2.drop x.1 = u.drop x.1)
  (fun x=>v.length - x.1) (0,0,0,u) [] rfl rfl rfl ⟨Nat.zero_le _,hul,Nat.zero_le _,Nat.zero_lt_succ _,hu,by simp [val],rfl⟩ (by repeat (first | exact Fr.sub_nil _ | refine Fr.sub_cons rfl ?_)) rfl rfl ?_
 rintro ⟨i,bw,c,u'⟩ ⟨hi,hl',hb1,hc,hu',he,hd⟩ ih
 simp only [List.cons_append,List.nil_append] at hi hl' hb1 hc hu' he hd ih ⊢
 have hdi : ∀ j,i ≤ j → u'[j]? = u[j]?:=fun j hj=>by
  have h:=congrArg (fun l : List Nat=>l[j - i]?) hd
  simp only [List.getElem?_drop] at h
  rwa [show i + (j - i) = j by omega] at h
 by_cases hil : i < v.length
 ·refine j_nf [_,_,_,_,_] rfl (j_run it 1 rfl (by simp) ?_)
  refine j_nf [_,_,_,_,_] rfl (j_if rfl rfl (fun h1=>?_) (fun h1=>by exfalso;omega))
  refine j_nf [_,_,_,_,_,_,_] rfl (j_run it 2 rfl (by simp) ?_)
  refine j_nf [_,_,_,_,_,_,_] rfl (j_run it 3 rfl (by simp) ?_)
  refine j_step rfl (x_idx 0 (i) rfl rfl rfl sl24 rfl (by omega) fun z1 hz1 b1 o1=>?_)
  refine j_step rfl (x_ld_nat 0 rfl rfl ld73 fun ⟨r1,r2⟩=>?_)
  refine j_run it 5 rfl ⟨trivial,⟨mul64_nn (by omega) (by omega) (by omega),mul64_2 (by omega) (by omega) (by omega) (by omega) (by omega)⟩,trivial,⟨Int.mul_nonneg (by omega) (by omega),mul64_1 (by omega) (by omega) (by omega) (by omega)⟩,⟨by omega,by omega⟩,trivial⟩ ?_
  refine j_nf [_,_,_,_,_,_,_] rfl (j_run it 3 rfl (by simp) ?_)
  refine j_nf [_,_,_,_,_,_,_] rfl (j_run it 2 rfl (by simp) ?_)
  refine j_step rfl (x_idx_ownO (i) _ rfl rfl sl24 rfl (by omega) rfl ?_)
  refine j_step rfl (x_bld_mid 0 (i) rfl rfl ld73 (by omega) (by assumption) (by first | omega | (simp;omega)) fun z2 hz2 hlt1=>?_)
  refine j_run it 2 rfl ⟨trivial,⟨by omega,by omega⟩,trivial⟩ ?_
  refine j_step rfl (x_conv_u32 it rfl rfl rfl ?_)
  refine j_run it 1 rfl ⟨⟨by omega,by omega⟩,trivial⟩ ?_
  refine j_step rfl (x_sub_u64 rfl rfl ?_)
  refine j_run it 1 rfl (by simp) ?_
  refine j_step rfl (x_sub_u64 rfl rfl ?_)
  refine j_run it 1 rfl (by simp) ?_
  refine j_nf [_,_,_,_,_,_,_] rfl (j_run it 3 rfl (by simp) ?_)
  refine j_step rfl (x_conv_u32 it rfl rfl rfl ?_)
  refine j_step rfl (x_idx_ownO (i) _ rfl rfl sl24 rfl (by omega) rfl ?_)
  refine j_step rfl (x_bst_mid 0 (i) ((((((z2) + 18446744073709551616 - ((((q) * (z1)) + (c)) % 4294967296)) % 18446744073709551616) + 18446744073709551616 - (bw)) % 18446744073709551616) % 4294967296) rfl rfl rfl ld73 (by first | rfl | omega) (by omega) (by first | omega | (simp;omega)) ?_)
  refine j_nf [_,_,_,_,_,_] rfl (j_run it 3 rfl (by simp) ?_)
  refine j_nf [_,_,_,_] rfl (j_run it 2 rfl ⟨trivial,⟨by omega,by omega⟩,trivial⟩ ?_)
  refine j_nfn 1 [.lp (pL 4084),.blk 2,.c (pL 511)] rfl ?_
  have hz2u : u[i]? = some z2:=by rw [← hdi i (Nat.le_refl _)];exact hz2
  have hz1v:=hv _ (List.mem_of_getElem? hz1)
  have hst:=mulsub_step (q:=q) (y:=z1) he hb1 hlt1 rfl rfl
  have hpf:=prod_fits hq hz1v hc
  generalize hD : ((z2 + 18446744073709551616 - (q * z1 + c) % 4294967296) % 18446744073709551616 + 18446744073709551616 - bw) % 18446744073709551616 = D at hst ⊢
  refine j_to [1] (by exact fii rfl (by dsimp only;omega) (fcc rfl (fcc rfl (fcc rfl (fcc rfl (fcc rfl (fcc rfl (fcc rfl (fcc rfl (fzz _)))))))))) rfl rfl (ih (i + 1,D / 9223372036854775808,(q * z1 + c) / 4294967296,u'.set i (D % 4294967296)) (by simp only;omega) ⟨by simp only;omega,by simpa using hl',hst.2,hpf.1,set_lt hu' (by omega),by
   simp only
   rw [val_set_take (by omega),Nat.pow_succ,val_take_succ hz1,val_take_succ hz2u];exact hst.1,by simp only;rw [List.drop_set_of_lt (by omega),← List.drop_drop,hd,List.drop_drop]⟩)
 ·have ei : i = v.length:=by omega
  subst ei
  rw [List.take_length] at he
  have hU0' : u'[v.length]? = some U0:=by rw [hdi _ (Nat.le_refl _)];exact hU0
  have eU : val u = val (u.take v.length) + 4294967296 ^ v.length * U0:=by
   have h:=val_take_succ hU0
   rwa [List.take_of_length_le (by omega)] at h
  have hR:=take_lt (k:=v.length) hu' (by omega)
  have hVP:=val_lt hv
  generalize hP : 4294967296 ^ v.length = P at *
  by_cases hok : c + bw ≤ U0
  ·obtain ⟨hqe,hmod⟩:=kn_right eU he hok rfl hQ1 hv0
   refine j_nf [_,_,_,_,_] rfl (j_run it 1 rfl (by simp) ?_)
   refine j_nf [_,_,_,_,_] rfl (j_if rfl rfl (fun h1=>by exfalso;omega) (fun h1=>?_))
   refine j_nf [_,_] rfl (j_run it 2 rfl (by simp) ?_)
   refine j_step rfl (x_idx_ownO (v.length) _ rfl rfl sl24 rfl (by omega) rfl ?_)
   refine j_step rfl (x_bld_mid 0 (v.length) rfl rfl ld73 (by omega) (by assumption) (by first | omega | (simp;omega)) fun z1 hz1 hlt1=>?_)
   refine j_run it 2 rfl ⟨trivial,⟨by omega,by omega⟩,trivial⟩ ?_
   refine j_step rfl (x_sub_u64 rfl rfl ?_)
   refine j_run it 1 rfl (by simp) ?_
   refine j_step rfl (x_sub_u64 rfl rfl ?_)
   refine j_run it 1 rfl (by simp) ?_
   refine j_nf [_,_] rfl (j_run it 3 rfl (by simp) ?_)
   refine j_step rfl (x_conv_u32 it rfl rfl rfl ?_)
   refine j_step rfl (x_idx_ownO (v.length) _ rfl rfl sl24 rfl (by omega) rfl ?_)
   refine j_step rfl (x_bst_mid 0 (v.length) ((((((z1) + 18446744073709551616 - (c)) % 18446744073709551616) + 18446744073709551616 - (bw)) % 18446744073709551616) % 4294967296) rfl rfl rfl ld73 (by first | rfl | omega) (by omega) (by first | omega | (simp;omega)) ?_)
   refine j_nf [_,_,_] rfl (j_run it 3 rfl (by simp) ?_)
   refine j_nf [_,_] rfl (j_if rfl rfl (fun h2=>?_) (fun h2=>?_))
   ·obtain rfl : z1 = U0:=Option.some.inj (hz1.symm.trans hU0')
    refine j_nf [_,_,_] rfl (j_run it 3 rfl ⟨trivial,⟨by omega,by omega⟩,trivial,trivial⟩ ?_)
    refine j_nf [_,_] rfl ?_
    have e1 : ((z1 + 18446744073709551616 - c) % 18446744073709551616 + 18446744073709551616 - bw) % 18446744073709551616 % 4294967296 = z1 - (c + bw):=by omega
    have e2 : ((q : Int)) = ((val u / val v : Nat) : Int):=by rw [hqe]
    refine j_gives [] rfl rfl rfl ⟨by rw [← e2];rfl,rfl,u'.set v.length (z1 - (c + bw)),by simpa using hl',set_lt hu' (by omega),?_,by rw [← e1];rfl⟩
    have h:=val_set_take (l:=u') (k:=v.length) (z:=z1 - (c + bw)) (by omega)
    rw [List.take_of_length_le (by simp;omega),hP] at h
    rw [h,hmod]
   ·exfalso
    obtain rfl : z1 = U0:=Option.some.inj (hz1.symm.trans hU0')
    omega
  ·obtain ⟨hqe,hmod⟩:=kn_wrong eU he (by omega) hR rfl hQ2 hv0
   refine j_nf [_,_,_,_,_] rfl (j_run it 1 rfl (by simp) ?_)
   refine j_nf [_,_,_,_,_] rfl (j_if rfl rfl (fun h1=>by exfalso;omega) (fun h1=>?_))
   refine j_nf [_,_] rfl (j_run it 2 rfl (by simp) ?_)
   refine j_step rfl (x_idx_ownO (v.length) _ rfl rfl sl24 rfl (by omega) rfl ?_)
   refine j_step rfl (x_bld_mid 0 (v.length) rfl rfl ld73 (by omega) (by assumption) (by first | omega | (simp;omega)) fun z1 hz1 hlt1=>?_)
   refine j_run it 2 rfl ⟨trivial,⟨by omega,by omega⟩,trivial⟩ ?_
   refine j_step rfl (x_sub_u64 rfl rfl ?_)
   refine j_run it 1 rfl (by simp) ?_
   refine j_step rfl (x_sub_u64 rfl rfl ?_)
   refine j_run it 1 rfl (by simp) ?_
   refine j_nf [_,_] rfl (j_run it 3 rfl (by simp) ?_)
   refine j_step rfl (x_conv_u32 it rfl rfl rfl ?_)
   refine j_step rfl (x_idx_ownO (v.length) _ rfl rfl sl24 rfl (by omega) rfl ?_)
   refine j_step rfl (x_bst_mid 0 (v.length) ((((((z1) + 18446744073709551616 - (c)) % 18446744073709551616) + 18446744073709551616 - (bw)) % 18446744073709551616) % 4294967296) rfl rfl rfl ld73 (by first | rfl | omega) (by omega) (by first | omega | (simp;omega)) ?_)
   refine j_nf [_,_,_] rfl (j_run it 3 rfl (by simp) ?_)
   refine j_nf [_,_] rfl (j_if rfl rfl (fun h2=>?_) (fun h2=>?_))
   ·exfalso
    obtain rfl : z1 = U0:=Option.some.inj (hz1.symm.trans hU0')
    omega
   ·obtain rfl : z1 = U0:=Option.some.inj (hz1.symm.trans hU0')
    have e1 : ((z1 + 18446744073709551616 - c) % 18446744073709551616 + 18446744073709551616 - bw) % 18446744073709551616 % 4294967296 = z1 + 4294967296 - (c + bw):=by omega
    rw [e1]
    refine j_nfn 1 [.c (pL 4095)] rfl ?_
    refine j_to [0] (by repeat (first | exact Fr.sub_nil _ | refine Fr.sub_cons rfl ?_)) rfl rfl (step_back (w0:=u'.set v.length (z1 + 4294967296 - (c + bw))) (cc:=c + bw) (uk:=z1) (R:=val (u'.take v.length)) (q:=q) hpre (by simpa using hl') hvl hcap (by omega) (set_lt hu' (by omega)) hv hP rfl hv0 (Nat.le_of_lt hVP) (by rw [List.take_set_of_le (Nat.le_refl _)]) hmod (by omega) (by omega) (by rw [List.getElem?_set_self (by omega)]) hqe hq)
theorem S_nat_step {b o cap : Nat} {pb : Option Addr} {m cb k : Nat} {pre u post v : List Nat} (hpre : pre.length = o) (hul : u.length = k + 3) (hvl : v.length = k + 2) (hcap : k + 3 ≤ cap) (hsz : u.length ≤ 1099511627776)
  (hu : ∀ x ∈ u,x < 4294967296) {V1 : Nat} (hV1 : v[k + 1]? = some V1) (hV1n : 2147483648 ≤ V1) (hUV : val u < 4294967296 * val v) :
  Ctr Tryz.prog 104 [.slice (some ⟨b,o,none⟩) (k + 3) cap,.slice pb m cb] [(some b,73,natCells .u32 (pre++u++post))] [slF U32 pb m cb v]
   (StepQ b k (val u) (val v) pre post):=by
 refine Ctr_of_j' (F:=F_nat_step) rfl fun C=>?_
 refine j_len 0 rfl fun hm hbb _=>?_
 subst hm
 refine j_range 0 rfl fun hrv=>?_
 have hv : ∀ x ∈ v,x < 4294967296:=fun x hx=>by have:=hrv x hx;simp only [InR] at this;omega
 obtain ⟨U0,hU0⟩ : ∃ x,u[v.length]? = some x:=⟨u[v.length],by simp⟩
 obtain ⟨U1,hU1⟩ : ∃ x,u[v.length - 1]? = some x:=⟨u[v.length - 1],by simp⟩
 obtain ⟨U2,hU2⟩ : ∃ x,u[v.length - 2]? = some x:=⟨u[v.length - 2],by simp⟩
 have hV2:=get_some (l:=v) (i:=v.length - 2) (dflt:=default) (by omega)
 have hV1' : v[v.length - 1]? = some V1:=by rw [hvl];exact hV1
 have lU0:=hu _ (List.mem_of_getElem? hU0)
 have lU1:=hu _ (List.mem_of_getElem? hU1)
 have lU2:=hu _ (List.mem_of_getElem? hU2)
 have lV1:=hv _ (List.mem_of_getElem? hV1)
 have lV2:=hv _ (List.mem_of_getElem? hV2)
 have hv0 : 0 < val v:=by
  rcases Nat.eq_zero_or_pos (val v) with h | h
  ·rw [h] at hUV;omega
  ·exact h
 have exit : ∀ q : Nat,q < 4294967296 → val u / val v ≤ q → q ≤ val u / val v + 1 → J F_nat_step C [.c (pL 127)] [(0,.slice (some ⟨b,o,none⟩) (k + 3) cap),(1,.slice pb v.length cb),(4,.int .u32 0),(5,.int .i64 v.length),(7,.int .u64 q)]
   [(some b,73,natCells .u32 (pre++u++post))] [slF U32 pb v.length cb v] (Gives C (StepQ b k (val u) (val v) pre post)) :=
  fun q h1 h2 h3=>step_sub hpre hul hvl hcap hsz hu hv hU0 hv0 h1 h2 h3
 refine j_nf [_,_] rfl ?_
 refine j_run it 1 rfl (by simp) ?_
 refine j_nf [_,_] rfl ?_
 refine j_run it 1 rfl (by simp) ?_
 refine j_step rfl (x_len sl24 rfl ?_)
 refine j_run it 1 rfl (by simp) ?_
 refine j_nf [_,_] rfl ?_
 (apply j_drawK it mx 13;(· rfl);(· rfl))
 (apply lxk_run 2;(· rfl);(· simp))
 (apply lxk_eq;(· rfl);(· exact d_x fun _=>x_idx_ownO (v.length) _ rfl rfl sl24 rfl (by omega) rfl dk_eq))
 (apply lxk_eq;(· rfl);(· exact d_bld_mid 0 (v.length) rfl rfl ld73 (by omega) (by assumption)))
 (apply lxk_run 4;(· rfl);(· exact ⟨trivial,trivial,⟨by omega,by omega⟩,⟨by omega,by omega⟩,trivial⟩))
 (apply lxk_eq (v:=Value.int IntKind.i64 ((((v.length) - 1 : Nat)) : Int));(· rfl);(· exact d_x fun _=>x_asN it _ rfl ⟨by omega,by omega⟩ (by omega) dk_eq))
 simp only [Nat.add_sub_cancel]
 (apply lxk_eq;(· rfl);(· exact d_x fun _=>x_idx_ownO (v.length - 1) _ rfl rfl sl24 rfl (by omega) rfl dk_eq))
 (apply lxk_eq;(· rfl);(· exact d_bld_mid 0 (v.length - 1) rfl rfl ld73 (by omega) (by assumption)))
 (apply lxk_run 1;(· rfl);(· exact ⟨⟨by omega,by omega⟩,trivial⟩))
 (apply lxk_eq;(· rfl);(· exact d_x fun _=>x_or_shl (U0) (U1) rfl rfl (by first | rfl | omega) (by first | rfl | omega) (by omega) (by omega) dk_eq))
 refine lxk_end rfl ?_
 simp only [List.map_cons,List.map_nil,List.cons_append,List.nil_append]
 refine j_run it 1 rfl (by simp) ?_
 refine j_nf [_,_] rfl ?_
 refine j_run it 4 rfl ⟨⟨by omega,by omega⟩,trivial,trivial,trivial,trivial⟩ ?_
 refine j_step rfl (x_idx 0 ((v.length) - 1) rfl rfl rfl sl24 (by omega) (by omega) fun z1 hz1 b1 o1=>?_)
 refine j_step rfl (x_ld_nat 0 rfl rfl ld73 fun ⟨r1,r2⟩=>?_)
 refine j_run it 1 rfl ⟨⟨by omega,by omega⟩,trivial⟩ ?_ --ok
 obtain rfl : z1 = V1:=Option.some.inj (hz1.symm.trans hV1')
 refine j_run it 2 rfl ⟨trivial,⟨by omega,by omega,by omega,by omega⟩,trivial⟩ ?_
 refine j_nf [_,_] rfl ?_
 refine j_run it 4 rfl ⟨⟨by omega,by omega⟩,trivial,trivial,trivial,trivial⟩ ?_
 refine j_step rfl (x_idx 1 ((v.length) - 1) rfl rfl rfl sl24 (by omega) (by omega) fun z2 hz2 b2 o2=>?_)
 refine j_step rfl (x_ld_nat 0 rfl rfl ld73 fun ⟨r3,r4⟩=>?_)
 refine j_run it 1 rfl ⟨⟨by omega,by omega⟩,trivial⟩ ?_ --ok
 obtain rfl : z2 = z1:=Option.some.inj (hz2.symm.trans hV1')
 have eU:=val_top3 (l:=u) (k:=v.length - 2) (by omega) hU2 (by rw [show v.length - 2 + 1 = v.length - 1 by omega];exact hU1) (by rw [show v.length - 2 + 2 = v.length by omega];exact hU0)
 have eV:=val_top2 (l:=v) (k:=v.length - 2) (by omega) hV2 (by rw [show v.length - 2 + 1 = v.length - 1 by omega];exact hV1')
 have hul':=take_lt (k:=v.length - 2) hu (by omega)
 have hvl':=take_lt (k:=v.length - 2) hv (by omega)
 generalize 4294967296 ^ (v.length - 2) = P at eU eV hul' hvl'
 have hU0V:=kn_top eU eV hvl' lV2 hUV
 have hz0 : 0 < z2:=by omega
 have hQB : val u / val v < 4294967296:=by rw [Nat.div_lt_iff_lt_mul hv0];exact hUV
 have hQV : val u / val v * val v ≤ val u:=Nat.div_mul_le_self _ _
 have hfirst : val u / val v ≤ (U1 + 4294967296 * U0) / z2:=kn_first eU hul' eV hz0 lU2 hQV
 have etop : U1 + 4294967296 * U0 = U0 * 4294967296 + U1:=by omega
 rw [etop] at hfirst
 have hdm : (U0 * 4294967296 + U1) / z2 * z2 + (U0 * 4294967296 + U1) % z2 = U0 * 4294967296 + U1:=by rw [Nat.mul_comm];exact Nat.div_add_mod _ _
 have hqb : (U0 * 4294967296 + U1) / z2 ≤ 8589934592:=by
  rw [Nat.div_le_iff_le_mul hz0]
  have : 8589934592 * 2147483648 ≤ 8589934592 * z2:=Nat.mul_le_mul_left _ hV1n
  omega
 have hrb : (U0 * 4294967296 + U1) % z2 < z2:=Nat.mod_lt _ hz0
 have less : ∀ q r,q * z2 + r = U0 * 4294967296 + U1 → val u / val v ≤ q → (4294967296 ≤ q ∨ r * 4294967296 + U2 < q * v.getD (v.length - 2) default) → val u / val v + 1 ≤ q:=by
  intro q r h1 h2 h3
  rcases Nat.lt_or_ge (val u / val v) q with h | h
  ·exact h
  ·exfalso
   have e : q = val u / val v:=by omega
   rcases h3 with h3 | h3
   ·omega
   ·have:=kn_less (q:=q) (r:=r) eU hul' eV (by rw [h1,etop]) (by rw [e];exact hQV)
    omega
 have last : ∀ q r,q * z2 + r = U0 * 4294967296 + U1 → val u / val v ≤ q → (4294967296 ≤ r ∨ (q < 4294967296 ∧ ¬ r * 4294967296 + U2 < q * v.getD (v.length - 2) default)) → q < 4294967296 ∧ q ≤ val u / val v + 1:=by
  intro q r h1 h2 h3
  have hqB : q < 4294967296:=by
   rcases h3 with h3 | h3
   ·have h4 : U0 * 4294967296 ≤ z2 * 4294967296:=Nat.mul_le_mul_right _ hU0V
    have h5 : q * z2 < 4294967296 * z2:=by omega
    exact Nat.lt_of_mul_lt_mul_right h5
   ·exact h3.1
  refine ⟨hqB,?_⟩
  rcases Nat.eq_zero_or_pos q with h | h
  ·rw [h];exact Nat.zero_le _
  ·obtain ⟨q',rfl⟩ : ∃ q',q = q' + 1:=⟨q - 1,by omega⟩
   have ht : (q' + 1) * v.getD (v.length - 2) default ≤ r * 4294967296 + U2:=by
    rcases h3 with h3 | h3
    ·have : (q' + 1) * v.getD (v.length - 2) default ≤ 4294967296 * 4294967296:=Nat.mul_le_mul (by omega) (by omega)
     have : 4294967296 * 4294967296 ≤ r * 4294967296:=Nat.mul_le_mul_right _ h3
     omega
    ·omega
   have:=kn_end (q:=q') eU eV hvl' (by rw [h1,etop]) hqB hz0 ht
   have:=(Nat.le_div_iff_mul_le hv0).2 this
   omega
 have next : ∀ q r z w : Nat,q * z + r = w → 1 ≤ q → (q - 1) * z + (r + z) = w:=by
  intro q r z w h1 h2
  obtain ⟨q',rfl⟩ : ∃ q',q = q' + 1:=⟨q - 1,by omega⟩
  rw [Nat.succ_mul] at h1
  rw [Nat.add_sub_cancel]
  omega
 refine j_run it 2 rfl ⟨trivial,⟨by omega,by omega⟩,trivial⟩ ?_
 refine j_nf [_,_,_] rfl ?_
 refine j_loopG (X:=Nat × Nat) [0,1,4,5] [0,1,2] (fun x=>[(7,.int .u64 x.1),(8,.int .u64 x.2)]) (fun x=>[(some b,73,natCells .u32 (pre++u++post))]) (fun _=>[])
  (fun x=>x.1 * z2 + x.2 = U0 * 4294967296 + U1 ∧ val u / val v ≤ x.1 ∧ x.1 ≤ 8589934592 ∧ x.2 < 8589934592)
  (fun x=>8589934592 - x.2) ((U0 * 4294967296 + U1) / z2,(U0 * 4294967296 + U1) % z2) [] rfl rfl rfl ⟨hdm,hfirst,hqb,by simp only;omega⟩ (by repeat (first | exact Fr.sub_nil _ | refine Fr.sub_cons rfl ?_ | refine Fr.sub_consI rfl (by simp) ?_)) rfl rfl ?_
 rintro ⟨q,r⟩ ⟨hqr,hQq,hq8,hr8⟩ ih
 simp only [List.cons_append,List.nil_append] at hqr hQq hq8 hr8 ih ⊢
 by_cases hr : r < 4294967296
 ·by_cases hqB : 4294967296 ≤ q
  ·have hl:=less q r hqr hQq (.inl hqB)
   refine j_nf [_,_,_,_,_,_] rfl ?_
   (apply j_drawK it mx 26;(· rfl);(· rfl))
   (apply lxk_run 1;(· rfl);(· simp))
   (apply lxk_eq;(· rfl);(· exact d_x fun _=>x_true it rfl (by trivial) (by omega) dk_eq))
   (apply lxk_run 2;(· rfl);(· simp))
   (apply lxk_eq;(· rfl);(· exact d_x fun _=>x_true it rfl (by trivial) (by omega) dk_eq))
   (apply lxk_run 18;(· rfl);(· simp))
   (apply lxk_run 3;(· rfl);(· simp))
   refine lxk_end rfl ?_
   simp only [List.map_cons,List.map_nil,List.cons_append,List.nil_append]
   refine j_nf [_,_,_,_,_] rfl ?_
   refine j_true rfl rfl ?_
   refine j_nf [_,_,_,_,_,_] rfl ?_
   refine j_run it 3 rfl ⟨trivial,⟨by omega,by omega⟩,trivial,trivial⟩ ?_
   refine j_nf [_,_,_,_,_] rfl ?_
   refine j_run it 4 rfl ⟨⟨by omega,by omega⟩,trivial,trivial,trivial,trivial⟩ ?_
   refine j_step rfl (x_idx 2 ((v.length) - 1) rfl rfl rfl sl24 (by omega) (by omega) fun z1 hz3 b3 o3=>?_)
   refine j_step rfl (x_ld_nat 0 rfl rfl ld73 fun ⟨r5,r6⟩=>?_)
   refine j_run it 3 rfl ⟨trivial,⟨by omega,by omega⟩,⟨by omega,by omega⟩,trivial⟩ ?_
   refine j_nfn 2 [.lp (pL 504),.blk 0,.c (pL 127)] rfl ?_
   obtain rfl : z1 = z2:=Option.some.inj (hz3.symm.trans hV1')
   refine j_to [1,2,3] (by exact fii rfl (by omega) (fcc rfl (fcc rfl (fcc rfl (fcc rfl (fcc rfl (fzz _))))))) rfl rfl (ih (q - 1,r + z1) (by simp only;omega) ⟨next q r z1 _ hqr (by omega),by simp only;omega,by simp only;omega,by simp only;omega⟩)
  ·by_cases ht : r * 4294967296 + U2 < q * v.getD (v.length - 2) default
   ·have hl:=less q r hqr hQq (.inr ht)
    refine j_nf [_,_,_,_,_,_] rfl ?_
    (apply j_drawK it mx 26;(· rfl);(· rfl))
    (apply lxk_run 1;(· rfl);(· simp))
    (apply lxk_eq;(· rfl);(· exact d_x fun _=>x_true it rfl (by trivial) (by omega) dk_eq))
    (apply lxk_run 2;(· rfl);(· simp))
    (apply lxk_eq;(· rfl);(· exact d_x fun _=>x_false it rfl (by trivial) (by omega) dk_eq))
    (apply lxk_run 5;(· rfl);(· exact ⟨⟨by omega,by omega⟩,trivial,trivial,trivial,trivial,trivial⟩))
    (apply lxk_pt;(· rfl);(· exact d_x fun _=>x_idx 2 ((v.length) - 2) rfl rfl rfl sl24 (by omega) (by omega) fun z1 hz3 b3 o3=>(dk_ptD default hz3 0 rfl));intro b3 o3)
    (apply lxk_eq;(· rfl);(· exact d_x fun _=>x_ld_nat 0 rfl rfl ld73 fun ⟨r5,r6⟩=>dk_eq))
    (apply lxk_run 7;(· rfl);(· exact ⟨⟨by omega,by omega⟩,trivial,trivial,⟨by omega,by omega⟩,trivial,⟨by omega,mul64_1 (by omega) (by omega) (by omega) (by omega)⟩,⟨by omega,by omega⟩,trivial⟩))
    (apply lxk_eq;(· rfl);(· exact d_x fun _=>x_idx_ownO ((v.length) - 2) _ rfl rfl sl24 (by omega) (by omega) rfl dk_eq))
    (apply lxk_eq;(· rfl);(· exact d_bld_mid 0 (v.length - 2) rfl rfl ld73 (by omega) (by assumption)))
    (apply lxk_run 1;(· rfl);(· exact ⟨⟨by omega,by omega⟩,trivial⟩))
    (apply lxk_eq;(· rfl);(· exact d_x fun _=>x_or_shl (r) (U2) rfl rfl (by first | rfl | omega) (by first | rfl | omega) (by omega) (by omega) dk_eq))
    (apply lxk_eq;(· rfl);(· exact d_x fun _=>x_true it rfl (by trivial) (by omega) dk_eq))
    (apply lxk_run 2;(· rfl);(· simp))
    refine lxk_end rfl ?_
    simp only [List.map_cons,List.map_nil,List.cons_append,List.nil_append]
    refine j_nf [_,_,_,_,_] rfl ?_
    refine j_true rfl rfl ?_
    refine j_nf [_,_,_,_,_,_] rfl ?_
    refine j_run it 1 rfl (by simp) ?_
    refine j_step rfl (x_sub_u64 rfl rfl ?_)
    refine j_run it 1 rfl (by simp) ?_
    refine j_nf [_,_,_,_,_] rfl ?_
    refine j_run it 4 rfl ⟨⟨by omega,by omega⟩,trivial,trivial,trivial,trivial⟩ ?_
    refine j_step rfl (x_idx 3 ((v.length) - 1) rfl rfl rfl sl24 (by omega) (by omega) fun z1 hz3 b4 o4=>?_)
    refine j_step rfl (x_ld_nat 0 rfl rfl ld73 fun ⟨r5,r6⟩=>?_)
    refine j_run it 3 rfl ⟨trivial,⟨by omega,by omega⟩,⟨by omega,by omega⟩,trivial⟩ ?_
    refine j_nfn 2 [.lp (pL 504),.blk 0,.c (pL 127)] rfl ?_
    obtain rfl : z1 = z2:=Option.some.inj (hz3.symm.trans hV1')
    have hq1 : 1 ≤ q:=Nat.le_trans (Nat.succ_le_succ (Nat.zero_le _)) hl
    refine j_to [2,3,4] (by exact fii rfl (by omega) (fcc rfl (fcc rfl (fcc rfl (fcc rfl (fcc rfl (fzz _))))))) rfl rfl (ih (q - 1,r + z1) (by simp only;omega) ⟨next q r z1 _ hqr hq1,Nat.le_sub_of_add_le hl,by simp only;omega,by simp only;omega⟩)
   ·obtain ⟨h1,h2⟩:=last q r hqr hQq (.inr ⟨by omega,ht⟩)
    refine j_nf [_,_,_,_,_,_] rfl ?_
    (apply j_drawK it mx 26;(· rfl);(· rfl))
    (apply lxk_run 1;(· rfl);(· simp))
    (apply lxk_eq;(· rfl);(· exact d_x fun _=>x_true it rfl (by trivial) (by omega) dk_eq))
    (apply lxk_run 2;(· rfl);(· simp))
    (apply lxk_eq;(· rfl);(· exact d_x fun _=>x_false it rfl (by trivial) (by omega) dk_eq))
    (apply lxk_run 5;(· rfl);(· exact ⟨⟨by omega,by omega⟩,trivial,trivial,trivial,trivial,trivial⟩))
    (apply lxk_pt;(· rfl);(· exact d_x fun _=>x_idx 2 ((v.length) - 2) rfl rfl rfl sl24 (by omega) (by omega) fun z1 hz3 b3 o3=>(dk_ptD default hz3 0 rfl));intro b3 o3)
    (apply lxk_eq;(· rfl);(· exact d_x fun _=>x_ld_nat 0 rfl rfl ld73 fun ⟨r5,r6⟩=>dk_eq))
    (apply lxk_run 7;(· rfl);(· exact ⟨⟨by omega,by omega⟩,trivial,trivial,⟨by omega,by omega⟩,trivial,⟨by omega,by omega⟩,⟨by omega,by omega⟩,trivial⟩))
    (apply lxk_eq;(· rfl);(· exact d_x fun _=>x_idx_ownO ((v.length) - 2) _ rfl rfl sl24 (by omega) (by omega) rfl dk_eq))
    (apply lxk_eq;(· rfl);(· exact d_bld_mid 0 (v.length - 2) rfl rfl ld73 (by omega) (by assumption)))
    (apply lxk_run 1;(· rfl);(· exact ⟨⟨by omega,by omega⟩,trivial⟩))
    (apply lxk_eq;(· rfl);(· exact d_x fun _=>x_or_shl (r) (U2) rfl rfl (by first | rfl | omega) (by first | rfl | omega) (by omega) (by omega) dk_eq))
    (apply lxk_eq;(· rfl);(· exact d_x fun _=>x_false it rfl (by trivial) (by omega) dk_eq))
    (apply lxk_run 2;(· rfl);(· simp))
    refine lxk_end rfl ?_
    simp only [List.map_cons,List.map_nil,List.cons_append,List.nil_append]
    refine j_nf [_,_,_,_,_] rfl ?_
    refine j_false rfl rfl ?_
    refine j_nfn 1 [.c (pL 127)] rfl ?_
    refine j_to [3] (by exact fra rfl) rfl rfl (exit q h1 hQq h2)
 ·obtain ⟨h1,h2⟩:=last q r hqr hQq (.inl (by omega))
  refine j_nf [_,_,_,_,_,_] rfl ?_
  (apply j_drawK it mx 26;(· rfl);(· rfl))
  (apply lxk_run 1;(· rfl);(· simp))
  (apply lxk_eq;(· rfl);(· exact d_x fun _=>x_false it rfl (by trivial) (by omega) dk_eq))
  (apply lxk_run 2;(· rfl);(· simp))
  (apply lxk_run 19;(· rfl);(· simp))
  (apply lxk_run 3;(· rfl);(· simp))
  refine lxk_end rfl ?_
  simp only [List.map_cons,List.map_nil,List.cons_append,List.nil_append]
  refine j_nf [_,_,_,_,_] rfl ?_
  refine j_false rfl rfl ?_
  refine j_nfn 1 [.c (pL 127)] rfl ?_
  refine j_to [2] (by exact fra rfl) rfl rfl (exit q h1 hQq h2)
set_option maxHeartbeats 4000000
theorem S_bits_LeadingZeros32 {x : Nat} (hx : x < 4294967296) : Ctr Tryz.prog 102 [.int .u32 x] [] [] (Rv (.int .i64 (32 - blen x : Int)) []):=by
 refine Ctr_of_j' (F:=F_bits_LeadingZeros32) rfl fun C=>?_
 have h : blen x ≤ 32:=blen_le (by simpa using hx)
 refine j_nf [_,_] rfl (j_run it 1 rfl (by simp) ?_)
 refine j_nf [_,_] rfl (j_run it 1 rfl (by simp) ?_)
 refine j_step rfl (x_call [] rfl (S_bits_Len32 (by omega)) rfl ?_)
 rintro _ _ _ ⟨rfl,rfl,rfl⟩
 simp only [List.cons_append,List.nil_append]
 refine j_run it 2 rfl ⟨trivial,⟨by omega,by omega⟩,trivial⟩ ?_
 refine j_nf [_] rfl ?_
 refine j_giv [] rfl rfl rfl ⟨rfl,rfl,rfl⟩
abbrev LongQ (A B : Nat) : Value → List Fact → List Blk → Prop:=fun v Φ β=>∃ lq lr p1 c1 p2 c2,v = .tuple #[.slice p1 lq.length c1,.slice p2 lr.length c2] ∧ Φ = [slF U32 p1 lq.length c1 lq,slF U32 p2 lr.length c2 lr] ∧ β = [] ∧ val lq = A / B ∧ val lr = A % B
theorem S_nat_long {pa pb : Option Addr} {n m ca cb k t : Nat} {a b : List Nat} (hal : a.length ≤ 1073741824) (hbl : b.length = k + 2) (hab : b.length ≤ a.length) (ht : b[k + 1]? = some t) (h0 : t ≠ 0) :
  Ctr Tryz.prog 97 [.slice pa n ca,.slice pb m cb] [] [slF U32 pa n ca a,slF U32 pb m cb b] (LongQ (val a) (val b)):=by
 refine Ctr_of_j' (F:=F_nat_long) rfl fun C=>?_
 refine j_len 0 rfl fun hn hba _=>?_
 refine j_len 1 rfl fun hm hbb _=>?_
 subst hn;subst hm
 refine j_range 0 rfl fun hra=>?_
 refine j_range 1 rfl fun hrb=>?_
 have ha : ∀ x ∈ a,x < 4294967296:=fun x hx=>by have:=hra x hx;simp only [InR] at this;omega
 have hb : ∀ x ∈ b,x < 4294967296:=fun x hx=>by have:=hrb x hx;simp only [InR] at this;omega
 have htB:=hb t (List.mem_of_getElem? ht)
 have h32 : blen t ≤ 32:=blen_le (by simpa using htB)
 have h1t : 1 ≤ blen t:=by have:=blen_pos h0;omega
 obtain ⟨hVl,w,hw,hwn⟩:=norm_div hb hbl ht h0
 have hn32 : 32 - blen t < 32:=by omega
 have e32 : (32 - (blen t : Int)) = ((32 - blen t : Nat) : Int):=by omega
 refine j_nf [_,_] rfl ?_
 refine j_run it 2 rfl (by simp) ?_
 refine j_nf [_,_] rfl ?_
 refine j_run it 2 rfl (by simp) ?_
 refine j_step rfl (x_len sl24 rfl ?_)
 refine j_run it 1 rfl ⟨⟨by omega,by omega⟩,trivial⟩ ?_
 refine j_step rfl (x_idx 1 ((b.length) - 1) rfl rfl rfl sl24 (by omega) (by omega) fun z1 hz1 b1 o1=>?_)
 refine j_step rfl (x_ld_nat 0 rfl rfl ld73 fun ⟨r1,r2⟩=>?_)
 obtain rfl : z1 = t:=Option.some.inj (hz1.symm.trans (by rw [hbl];exact ht))
 refine j_step rfl (x_call [] rfl (S_bits_LeadingZeros32 (by omega)) rfl ?_)
 rintro _ _ _ ⟨rfl,rfl,rfl⟩
 simp only [List.cons_append,List.nil_append]
 refine j_run it 1 rfl (by simp) ?_
 refine j_nf [_,_] rfl ?_
 rw [e32]
 generalize 32 - blen z1 = s at hVl hw hn32 ⊢
 refine j_run it 2 rfl (by simp) ?_
 refine j_step rfl (x_call [2] rfl (O_nat_shift (a:=b) (by omega) hn32) rfl ?_)
 rintro _ _ _ ⟨lv,hlv,hlvB,hlvV,b1,rfl,rfl,rfl⟩
 simp only [List.nil_append,List.cons_append]
 have evl : trim lv = limbs (val b * 2 ^ s):=by rw [trim_eq hlvB,hlvV]
 skip
 refine j_pub32 (n:=lv.length) 0 rfl rfl hlvB (by omega) ?_
 refine j_step rfl (x_call [0] rfl (S_nat_short) rfl ?_)
 rintro _ _ _ ⟨rfl,rfl,rfl⟩
 simp only [List.cons_append,List.nil_append]
 refine j_run it 1 rfl (by simp) ?_
 refine j_nf [_,_] rfl ?_
 refine j_run it 2 rfl (by simp) ?_
 rw [evl]
 generalize hvv : limbs (val b * 2 ^ s) = v at hVl hw ⊢
 have hvB : ∀ x ∈ v,x < 4294967296:=by rw [← hvv];exact limbs_lt _
 have hvV : val v = val b * 2 ^ s:=by rw [← hvv,val_limbs]
 refine j_step rfl (x_call [3] rfl (O_nat_shift (a:=a) (by omega) hn32) rfl ?_)
 rintro _ _ _ ⟨lu,hlu,hluB,hluV,b2,rfl,rfl,rfl⟩
 simp only [List.nil_append,List.cons_append]
 have hA:=val_lt ha
 have hs0 : 0 < 2 ^ s:=Nat.pow_pos (by decide)
 have hVlow : 4294967296 ^ (k + 1) * 2 ^ s ≤ val v:=by
  rw [hvV]
  refine Nat.mul_le_mul_right _ ?_
  have h:=top_split (k:=k + 1) hbl ht
  have : 4294967296 ^ (k + 1) * 1 ≤ 4294967296 ^ (k + 1) * z1:=Nat.mul_le_mul_left _ (by omega)
  omega
 have hV0 : 0 < val v:=Nat.lt_of_lt_of_le (Nat.mul_pos (Nat.pow_pos (by decide)) hs0) hVlow
 have hVB:=val_lt hvB
 have hst:=long_start (k:=k + 1) (m:=a.length - (k + 1)) hluB hlu hluV hA hVlow (by omega) (by omega)
 refine j_run it 1 rfl (by simp) ?_
 refine j_nf [_,_] rfl ?_
 refine j_run it 1 rfl (by simp) ?_
 refine j_step rfl (x_len sl24 rfl ?_)
 refine j_run it 1 rfl (by simp) ?_
 refine j_nf [_,_] rfl ?_
 refine j_run it 1 rfl (by simp) ?_
 refine j_step rfl (x_len sl24 rfl ?_)
 refine j_run it 2 rfl ⟨⟨by omega,by omega⟩,trivial,trivial⟩ ?_
 refine j_step rfl (x_make_nat ((lu.length) - (v.length)) _ rfl rfl sl24 zo24e by24e (by omega) (by omega) (by omega) fun b3=>?_)
 refine j_run it 1 rfl (by simp) ?_
 refine j_nf [_,_,_] rfl ?_
 refine j_run it 1 rfl (by simp) ?_
 refine j_step rfl (x_len sl24 rfl ?_)
 refine j_run it 4 rfl ⟨trivial,⟨by omega,by omega⟩,⟨by omega,by omega⟩,trivial,trivial⟩ ?_
 refine j_nf [_,_,_] rfl ?_
 refine j_loopG (X:=Nat × List Nat × List Nat) [4,5,6,7,8,9] [0,1,2,3,4] (fun x=>[(10,.int .i64 ((x.1 : Int) - 1))]) (fun x=>[(some b3,73,natCells .u32 x.2.1),(some b2,73,natCells .u32 x.2.2)]) (fun _=>[])
  (fun x=>x.1 ≤ a.length - (k + 1) ∧ x.2.1.length = a.length - (k + 1) ∧ (∀ z ∈ x.2.1,z < 4294967296) ∧ x.2.2.length = a.length + 1 ∧ (∀ z ∈ x.2.2,z < 4294967296) ∧ val (x.2.2.drop x.1) < val v ∧ val x.2.2 + 4294967296 ^ x.1 * val v * val (x.2.1.drop x.1) = val a * 2 ^ s)
  (fun x=>x.1) (a.length - (k + 1),List.replicate (lu.length - v.length) 0,lu) [] rfl rfl rfl ⟨Nat.le_refl _,by simp;omega,rep_lt (by decide),hlu,hluB,hst,by simp only;rw [List.drop_of_length_le (by simp;omega),hluV];simp [val]⟩ (by repeat (first | exact Fr.sub_nil _ | refine Fr.sub_cons rfl ?_ | refine Fr.sub_consI rfl (by dsimp only;omega) ?_)) rfl rfl ?_
 rintro ⟨i,quo,uu⟩ ⟨hi,hql,hqB,hul,huB,hud,he⟩ ih
 simp only [List.cons_append,List.nil_append] at hi hql hqB hul huB hud he ih ⊢
 by_cases hi0 : 0 < i
 ·obtain ⟨j,rfl⟩ : ∃ j,i = j + 1:=⟨i - 1,by omega⟩
  rw [show (((j + 1 : Nat) : Int) - 1) = (j : Int) by omega]
  refine j_nf [_,_,_,_,_,_] rfl ?_
  refine j_run it 2 rfl (by simp) ?_
  refine j_nf [_,_,_,_,_] rfl ?_
  refine j_if rfl rfl (fun h1=>?_) (fun h1=>by exfalso;omega)
  refine j_nf [_,_,_,_,_,_] rfl ?_
  refine j_run it 8 rfl ⟨⟨by omega,by omega⟩,⟨by omega,by omega⟩,trivial,trivial,trivial,trivial,trivial,trivial,trivial⟩ ?_
  refine j_step rfl (x_slice_own (j) (((j) + (v.length)) + 1) (j) rfl rfl rfl sl24 (by omega) (by omega) (by omega) (by omega) (by omega) (by omega) ?_)
  refine j_run it 1 rfl (by simp) ?_
  rw [show j + v.length + 1 - j = k + 3 by omega]
  obtain ⟨pre,mid,post,rfl,hpre,hmid⟩ : ∃ pre mid post,uu = pre++mid++post ∧ pre.length = j ∧ mid.length = k + 3 :=
   ⟨uu.take j,(uu.drop j).take (k + 3),(uu.drop j).drop (k + 3),by rw [List.append_assoc,List.take_append_drop,List.take_append_drop],by simp;omega,by simp;omega⟩
  have hmidB : ∀ x ∈ mid,x < 4294967296:=fun x hx=>huB x (by simp [hx])
  have hpost0 : val post = 0:=by
   have h1 : (pre++mid++post).drop (j + 1) = mid.drop 1++post:=by
    rw [List.append_assoc,← List.drop_drop,List.drop_append_of_le_length (by omega),List.drop_of_length_le (l:=pre) (by omega),List.nil_append,List.drop_append_of_le_length (by omega)]
   rw [h1] at hud
   have h2:=drop_zero (k:=k + 2) (Nat.lt_trans hud (by rw [hVl] at hVB;exact hVB))
   rw [List.drop_append_of_le_length (by simp;omega),List.drop_of_length_le (l:=mid.drop 1) (by simp;omega),List.nil_append] at h2
   exact h2
  have hval : ∀ mm : List Nat,mm.length = k + 3 → val (pre++mm++post) = val pre + 4294967296 ^ j * val mm:=fun mm hmm=>by
   rw [List.append_assoc,val_append,val_append,hpost0,Nat.mul_zero,Nat.add_zero,hpre]
  have hdropj : ∀ mm : List Nat,(pre++mm++post).drop j = mm++post:=fun mm=>by
   rw [List.append_assoc,List.drop_append_of_le_length (by omega),List.drop_of_length_le (l:=pre) (by omega),List.nil_append]
  have hUV : val mid < 4294967296 * val v:=by
   have h1 : val (mid++post) = val mid:=by rw [val_append,hpost0,Nat.mul_zero,Nat.add_zero]
   obtain ⟨x,hx⟩ : ∃ x,(pre++mid++post)[j]? = some x:=⟨(pre++mid++post)[j],by simp⟩
   have h2:=val_drop hx
   rw [hdropj,h1] at h2
   have:=huB x (List.mem_of_getElem? hx)
   omega
  refine j_step rfl (x_callB 1 [0] rfl rfl (S_nat_step (k:=k) (post:=post) hpre hmid hVl (by omega) (by omega) hmidB hw hwn hUV) rfl ?_)
  rintro _ _ _ ⟨rfl,rfl,mid',hm',hmB',hmV,rfl⟩
  simp only [List.nil_append,List.cons_append]
  refine j_step rfl (x_idx_own (j) (j) rfl rfl sl24 rfl (by omega) (Nat.mul_one _) ?_)
  refine j_step rfl (x_bst_nat 1 (val mid / val v) rfl rfl rfl ld73 (by first | rfl | omega) (by first | omega | (simp;omega)) ?_)
  refine j_nf [_,_,_,_] rfl ?_
  refine j_run it 3 rfl ⟨trivial,⟨by omega,by omega⟩,trivial,trivial⟩ ?_
  refine j_nfn 1 [.lp (pL 2036),.blk 0,.c (pL 255)] rfl ?_
  refine j_perm (List.Perm.swap _ _ _) ?_
  have hqd : val mid / val v < 4294967296:=by rw [Nat.div_lt_iff_lt_mul hV0];exact hUV
  refine j_to [0,1,2,3,4] (by exact fra rfl) rfl rfl (ih (j,quo.set j (val mid / val v),pre++mid'++post) (by simp only;omega) ⟨by simp only;omega,by simpa using hql,set_lt hqB hqd,by simp at hul ⊢;omega,fun x hx=>by
   simp only [List.mem_append] at hx
   rcases hx with (hx | hx) | hx
   ·exact huB x (by simp [hx])
   ·exact hmB' x hx
   ·exact huB x (by simp [hx]),by
   simp only
   rw [hdropj,val_append,hpost0,Nat.mul_zero,Nat.add_zero,hmV]
   exact Nat.mod_lt _ hV0,by
   simp only
   rw [hval mid' hm',val_set_drop (by omega)]
   rw [hval mid hmid,Nat.pow_succ] at he
   exact long_step he rfl hmV⟩)
 ·have hi00 : i = 0:=by omega
  subst hi00
  rw [List.drop_zero] at hud he
  rw [Nat.pow_zero,Nat.one_mul] at he
  obtain ⟨hQ,hR⟩:=long_end he hvV hud hs0
  refine j_nf [_,_,_,_,_,_] rfl ?_
  refine j_run it 2 rfl (by simp) ?_
  refine j_nf [_,_,_,_,_] rfl ?_
  refine j_if rfl rfl (fun h1=>by exfalso;omega) (fun h1=>?_)
  refine j_nf [_,_] rfl ?_
  refine j_run it 1 rfl (by simp) ?_
  refine j_step rfl (x_make_nat (v.length) _ rfl rfl sl24 zo24e by24e (by omega) (by omega) (by omega) fun b4=>?_)
  refine j_run it 1 rfl (by simp) ?_
  refine j_nf [_,_,_] rfl ?_
  refine j_run it 1 rfl (by simp) ?_
  refine j_step rfl (x_len sl24 rfl ?_)
  refine j_run it 1 rfl (by simp) ?_
  refine j_nf [_,_,_] rfl ?_
  refine j_loopG (X:=Nat × List Nat) [4,5,6,8,57] [0,1,2,3,4] (fun x=>[(58,.int .i64 x.1)]) (fun x=>[(some b4,73,natCells .u32 x.2),(some b3,73,natCells .u32 quo),(some b2,73,natCells .u32 uu)]) (fun _=>[])
   (fun x=>x.1 ≤ v.length ∧ x.2.length = v.length ∧ (∀ z ∈ x.2,z < 4294967296) ∧ val (x.2.take x.1) = val uu / 2 ^ s % 4294967296 ^ x.1)
   (fun x=>v.length - x.1) (0,List.replicate v.length 0) [] rfl rfl rfl ⟨Nat.zero_le _,by simp,rep_lt (by decide),by simp [val,Nat.mod_one]⟩ (by repeat (first | exact Fr.sub_nil _ | refine Fr.sub_cons rfl ?_)) rfl rfl ?_
  rintro ⟨i,rem⟩ ⟨hi2,hrl,hrB,hrv⟩ ih2
  simp only [List.cons_append,List.nil_append] at hi2 hrl hrB hrv ih2 ⊢
  by_cases hil : i < v.length
  ·obtain ⟨x,hx⟩ : ∃ x,uu[i]? = some x:=⟨uu[i],by simp⟩
   obtain ⟨y,hy⟩ : ∃ y,uu[i + 1]? = some y:=⟨uu[i + 1],by simp⟩
   have hxB:=huB x (List.mem_of_getElem? hx)
   have hyB:=huB y (List.mem_of_getElem? hy)
   refine j_nf [_,_,_,_,_] rfl ?_
   refine j_run it 1 rfl (by simp) ?_
   refine j_nf [_,_,_,_,_] rfl ?_
   refine j_if rfl rfl (fun h2=>?_) (fun h2=>by exfalso;omega)
   refine j_nf [_,_,_,_,_,_,_] rfl ?_
   refine j_run it 2 rfl (by simp) ?_
   refine j_nf [_,_,_,_,_,_] rfl ?_
   (apply j_drawK it mx 18;(· rfl);(· rfl))
   (apply lxk_run 4;(· rfl);(· simp))
   (apply lxk_eq;(· rfl);(· exact d_x fun _=>x_idx_own (i) (i) rfl rfl sl24 rfl (by omega) (Nat.mul_one _) dk_eq))
   (apply lxk_eq;(· rfl);(· exact d_bld_nat 2 rfl rfl ld73 (by assumption)))
   (apply lxk_run 4;(· rfl);(· exact ⟨⟨by omega,by omega⟩,trivial,trivial,⟨by omega,by omega⟩,trivial⟩))
   (apply lxk_eq;(· rfl);(· exact d_x fun _=>x_idx_own ((i) + 1) ((i) + 1) rfl rfl sl24 (by omega) (by omega) (Nat.mul_one _) dk_eq))
   (apply lxk_eq;(· rfl);(· exact d_bld_nat 2 rfl rfl ld73 (by assumption)))
   (apply lxk_run 2;(· rfl);(· exact ⟨⟨by omega,by omega⟩,⟨by omega,by omega⟩,trivial⟩))
   (apply lxk_eq;(· rfl);(· exact d_x fun _=>x_or_nat (x) ((y) * 4294967296) rfl rfl (by first | rfl | omega) (by first | rfl | omega) (by omega) (by omega) dk_eq))
   (apply lxk_run 1;(· rfl);(· simp))
   (apply lxk_eq;(· rfl);(· exact d_x fun _=>x_shr_nat (x ||| y * 4294967296) (s) rfl rfl (by first | rfl | omega) (by first | rfl | omega) (by first | decide | (simp only [IntKind.bits];omega)) dk_eq))
   (apply lxk_eq;(· rfl);(· exact d_x fun _=>x_conv_u32 it rfl rfl rfl dk_eq))
   refine lxk_end rfl ?_
   simp only [List.map_cons,List.map_nil,List.cons_append,List.nil_append]
   refine j_step rfl (x_idx_own (i) (i) rfl rfl sl24 rfl (by omega) (Nat.mul_one _) ?_)
   refine j_step rfl (x_bst_nat 0 (((x ||| y * 4294967296) / 2 ^ s) % 4294967296) rfl rfl rfl ld73 (by first | rfl | omega) (by first | omega | (simp;omega)) ?_)
   refine j_nf [_,_,_,_] rfl ?_
   refine j_run it 2 rfl ⟨trivial,⟨by omega,by omega⟩,trivial⟩ ?_
   refine j_nfn 1 [.lp (pL 8180),.blk 2,.c (pL 1023)] rfl ?_
   have eor : x ||| y * 4294967296 = x + 4294967296 * y:=by
    have h:=or_low (x:=y) (n:=32) (c:=x) hxB
    rw [show (2 : Nat) ^ 32 = 4294967296 from rfl] at h
    rw [Nat.or_comm,h];omega
   rw [eor]
   refine j_to [0,1,2,3,4] (by exact fra rfl) rfl rfl (ih2 (i + 1,rem.set i ((x + 4294967296 * y) / 2 ^ s % 4294967296)) (by simp only;omega) ⟨by simp only;omega,by simpa using hrl,set_lt hrB (Nat.mod_lt _ (by decide)),by
    simp only
    rw [val_set_take (by omega),hrv,rem_digit huB hx hy hn32]⟩)
  ·have ei : i = v.length:=by omega
   subst ei
   have hrv' : val rem = val a % val b:=by
    rw [← hrl,List.take_length,hrl,hR,Nat.mul_div_cancel _ hs0] at hrv
    rw [hrv]
    refine Nat.mod_eq_of_lt (Nat.lt_of_le_of_lt ?_ (Nat.lt_trans hud hVB))
    rw [hR]
    exact Nat.le_mul_of_pos_right _ hs0
   refine j_nf [_,_,_,_,_] rfl ?_
   refine j_run it 1 rfl (by simp) ?_
   refine j_nf [_,_,_,_,_] rfl ?_
   refine j_if rfl rfl (fun h2=>by exfalso;omega) (fun h2=>?_)
   refine j_nf [_,_] rfl ?_
   refine j_run it 4 rfl (by simp) ?_
   refine j_nf [_] rfl ?_
   refine j_pub32 (n:=v.length) 0 rfl hrl hrB (by omega) ?_
   refine j_pub32 (n:=lu.length - v.length) 0 rfl (by omega) hqB (by omega) ?_
   have e1 : lu.length - v.length = quo.length:=by omega
   rw [e1,← hrl]
   refine j_giv [0,1] rfl rfl rfl ⟨quo,rem,_,_,_,_,rfl,rfl,rfl,hQ,hrv'⟩
abbrev DivQ (A B : Nat) : Value → List Fact → List Blk → Prop:=fun v Φ β=>∃ p1 c1 p2 c2,v = .tuple #[.slice p1 (limbs (A / B)).length c1,.slice p2 (limbs (A % B)).length c2,.int .i64 0] ∧ Φ = [slF U32 p1 (limbs (A / B)).length c1 (limbs (A / B)),slF U32 p2 (limbs (A % B)).length c2 (limbs (A % B))] ∧ β = []
theorem S_nat_DivMod {pa pb : Option Addr} {n m ca cb : Nat} {a b : List Nat} (hal : a.length ≤ 1073741824) (hb0 : val b ≠ 0) :
  Ctr Tryz.prog 79 [.slice pa n ca,.slice pb m cb] [] [slF U32 pa n ca a,slF U32 pb m cb b] (DivQ (val a) (val b)):=by
 refine Ctr_of_j' (F:=F_nat_DivMod) rfl fun C=>?_
 refine j_len 0 rfl fun hn hba _=>?_
 refine j_len 1 rfl fun hm hbb _=>?_
 subst hn;subst hm
 have hba' : a.length * 4 ≤ 140737488355328:=hba
 have hbb' : b.length * 4 ≤ 140737488355328:=hbb
 refine j_range 0 rfl fun hra=>?_
 refine j_range 1 rfl fun hrb=>?_
 have ha : ∀ x ∈ a,x < 4294967296:=fun x hx=>by have:=hra x hx;simp only [InR] at this;omega
 have hb : ∀ x ∈ b,x < 4294967296:=fun x hx=>by have:=hrb x hx;simp only [InR] at this;omega
 have ea:=trim_eq ha
 have eb:=trim_eq hb
 have lla:=trim_length_le a
 have llb:=trim_length_le b
 have va : val (trim a) = val a:=val_trim a
 have vb : val (trim b) = val b:=val_trim b
 have hbne : 1 ≤ (trim b).length:=by
  rcases Nat.eq_zero_or_pos (trim b).length with h | h
  ·exfalso;have h2:=List.eq_nil_of_length_eq_zero h;rw [eb,limbs_nil] at h2;exact hb0 h2
  ·exact h
 by_cases hlt : val a < val b
 ·have hc : cmpN (val (trim a)) (val (trim b)) < 0:=by rw [va,vb,cmpN_lt hlt];decide
  have e1 : limbs (val a / val b) = []:=by rw [Nat.div_eq_of_lt hlt,limbs_zero]
  have e2 : limbs (val a % val b) = trim (trim a):=by rw [Nat.mod_eq_of_lt hlt,trim_trim,ea]
  refine j_nf [_,_] rfl (j_run it 3 rfl (by simp) ?_)
  refine j_nf [_,_] rfl (j_run it 1 rfl (by simp) ?_)
  refine j_step rfl (x_call [0] rfl (S_nat_short) rfl ?_)
  rintro _ _ _ ⟨rfl,rfl,rfl⟩
  simp only [List.cons_append,List.nil_append]
  refine j_run it 1 rfl (by simp) ?_
  refine j_step rfl (x_call [2] rfl (S_nat_short) rfl ?_)
  rintro _ _ _ ⟨rfl,rfl,rfl⟩
  simp only [List.cons_append,List.nil_append]
  refine j_run it 2 rfl (by simp) ?_
  refine j_nf [_,_,_,_] rfl (j_run it 1 rfl (by simp) ?_)
  refine j_step rfl (x_len sl24 rfl ?_)
  refine j_run it 2 rfl (by simp) ?_
  refine j_nf [_,_,_] rfl (j_if rfl rfl (fun h1=>by exfalso;omega) (fun h1=>?_))
  refine j_nf [_,_,_,_] rfl (j_run it 2 rfl (by simp) ?_)
  refine j_step rfl (x_call [1,0] rfl (S_nat_Cmp) rfl ?_)
  rintro _ _ _ ⟨rfl,rfl,rfl⟩
  simp only [List.cons_append,List.nil_append]
  refine j_run it 2 rfl (by simp) ?_
  refine j_nf [_,_,_] rfl (j_if rfl rfl (fun h2=>?_) (fun h2=>by exfalso;omega))
  refine j_nf [_,_,_,_] rfl (j_run it 1 rfl (by simp) ?_)
  refine j_step rfl (x_call [1] rfl (S_nat_Trim) rfl ?_)
  rintro _ _ _ ⟨pa1,ca1,rfl,rfl,rfl⟩
  simp only [List.cons_append,List.nil_append]
  refine j_run it 3 rfl (by simp) ?_
  refine j_nf [_,_,_] rfl ?_
  refine j_add (slF U32 none 0 0 []) (fun w A _=>slF_nil _ _ _ _ _) ?_
  refine j_giv [0,1] rfl rfl rfl ⟨none,0,pa1,ca1,by rw [e1,e2];rfl,by rw [e1,e2];rfl,rfl⟩
 ·have hc : ¬ cmpN (val (trim a)) (val (trim b)) < 0:=by rw [va,vb];unfold cmpN;split <;> (try split) <;> omega
  by_cases h1 : (trim b).length = 1
  ·obtain ⟨d,hd⟩ : ∃ d,trim b = [d]:=List.length_eq_one_iff.1 h1
   have hvd : val b = d:=by rw [← vb,hd];simp [val]
   have hd0 : 0 < d:=by omega
   have hdB : d < 4294967296:=hb d (mem_trim (by rw [hd];simp))
   have side : ∀ z,(trim b)[0]? = some z → z = d:=fun z hz=>by rw [hd] at hz;simpa using hz.symm
   refine j_nf [_,_] rfl (j_run it 3 rfl (by simp) ?_)
   refine j_nf [_,_] rfl (j_run it 1 rfl (by simp) ?_)
   refine j_step rfl (x_call [0] rfl (S_nat_short) rfl ?_)
   rintro _ _ _ ⟨rfl,rfl,rfl⟩
   simp only [List.cons_append,List.nil_append]
   refine j_run it 1 rfl (by simp) ?_
   refine j_step rfl (x_call [2] rfl (S_nat_short) rfl ?_)
   rintro _ _ _ ⟨rfl,rfl,rfl⟩
   simp only [List.cons_append,List.nil_append]
   refine j_run it 2 rfl (by simp) ?_
   refine j_nf [_,_,_,_] rfl (j_run it 1 rfl (by simp) ?_)
   refine j_step rfl (x_len sl24 rfl ?_)
   refine j_run it 2 rfl (by simp) ?_
   refine j_nf [_,_,_] rfl (j_if rfl rfl (fun h2=>by exfalso;omega) (fun h2=>?_))
   refine j_nf [_,_,_,_] rfl (j_run it 2 rfl (by simp) ?_)
   refine j_step rfl (x_call [1,0] rfl (S_nat_Cmp) rfl ?_)
   rintro _ _ _ ⟨rfl,rfl,rfl⟩
   simp only [List.cons_append,List.nil_append]
   refine j_run it 2 rfl (by simp) ?_
   refine j_nf [_,_,_] rfl (j_if rfl rfl (fun h3=>by exfalso;omega) (fun h3=>?_))
   refine j_nf [_,_,_,_] rfl (j_run it 1 rfl (by simp) ?_)
   refine j_step rfl (x_len sl24 rfl ?_)
   refine j_run it 2 rfl (by simp) ?_
   refine j_nf [_,_,_] rfl (j_if rfl rfl (fun h4=>?_) (fun h4=>by exfalso;omega))
   refine j_nf [_,_,_,_] rfl (j_run it 2 rfl (by simp) ?_)
   refine j_step rfl (x_idx 0 0 rfl rfl rfl sl24 (by omega) (by omega) fun z1 hz1 b1 o1=>?_)
   refine j_step rfl (x_ld_nat 0 rfl rfl ld73 fun ⟨r1,r2⟩=>?_)
   obtain rfl : z1 = d:=side z1 hz1
   have hm : val (trim a) % z1 < 4294967296:=Nat.lt_trans (Nat.mod_lt _ hd0) hdB
   have hm2 : val (trim a) % z1 < 18446744073709551616:=by omega
   refine j_step rfl (x_call [2] rfl (S_nat_digit (by omega) (by omega)) rfl ?_)
   rintro _ _ _ ⟨pa1,ca1,rfl,rfl,rfl⟩
   simp only [List.cons_append,List.nil_append]
   refine j_run it 5 rfl (by simp) ?_
   refine j_nf [_,_,_,_] rfl (j_run it 3 rfl ⟨⟨by omega,by omega⟩,trivial,trivial,trivial⟩ ?_)
   refine j_step rfl (x_call [] rfl (S_nat_Of (by omega)) rfl ?_)
   rintro _ _ _ ⟨pa2,ca2,rfl,rfl,rfl⟩
   simp only [List.cons_append,List.nil_append]
   refine j_run it 3 rfl (by simp) ?_
   refine j_nf [_,_,_] rfl ?_
   rw [va,← hvd]
   refine j_giv [1,0] rfl rfl rfl ⟨_,_,_,_,rfl,rfl,rfl⟩
  ·obtain ⟨k,hk⟩ : ∃ k,(trim b).length = k + 2:=⟨(trim b).length - 2,by omega⟩
   obtain ⟨t,ht,ht0⟩:=limbs_top (n:=val b) (k:=k + 1) (by rw [← eb];exact hk)
   rw [← eb] at ht
   have hab : (trim b).length ≤ (trim a).length:=by
    rw [eb,ea]
    exact limbs_mono (Nat.le_refl _) (by omega)
   refine j_nf [_,_] rfl (j_run it 3 rfl (by simp) ?_)
   refine j_nf [_,_] rfl (j_run it 1 rfl (by simp) ?_)
   refine j_step rfl (x_call [0] rfl (S_nat_short) rfl ?_)
   rintro _ _ _ ⟨rfl,rfl,rfl⟩
   simp only [List.cons_append,List.nil_append]
   refine j_run it 1 rfl (by simp) ?_
   refine j_step rfl (x_call [2] rfl (S_nat_short) rfl ?_)
   rintro _ _ _ ⟨rfl,rfl,rfl⟩
   simp only [List.cons_append,List.nil_append]
   refine j_run it 2 rfl (by simp) ?_
   refine j_nf [_,_,_,_] rfl (j_run it 1 rfl (by simp) ?_)
   refine j_step rfl (x_len sl24 rfl ?_)
   refine j_run it 2 rfl (by simp) ?_
   refine j_nf [_,_,_] rfl (j_if rfl rfl (fun h2=>by exfalso;omega) (fun h2=>?_))
   refine j_nf [_,_,_,_] rfl (j_run it 2 rfl (by simp) ?_)
   refine j_step rfl (x_call [1,0] rfl (S_nat_Cmp) rfl ?_)
   rintro _ _ _ ⟨rfl,rfl,rfl⟩
   simp only [List.cons_append,List.nil_append]
   refine j_run it 2 rfl (by simp) ?_
   refine j_nf [_,_,_] rfl (j_if rfl rfl (fun h3=>by exfalso;omega) (fun h3=>?_))
   refine j_nf [_,_,_,_] rfl (j_run it 1 rfl (by simp) ?_)
   refine j_step rfl (x_len sl24 rfl ?_)
   refine j_run it 2 rfl (by simp) ?_
   refine j_nf [_,_,_] rfl (j_if rfl rfl (fun h4=>by exfalso;omega) (fun h4=>?_))
   refine j_nf [_,_] rfl (j_run it 2 rfl (by simp) ?_)
   refine j_step rfl (x_call [1,0] rfl (S_nat_long (k:=k) (t:=t) (by omega) hk hab ht ht0) rfl ?_)
   rintro _ _ _ ⟨lq,lr,p1,c1,p2,c2,rfl,rfl,rfl,hq,hr⟩
   simp only [List.nil_append,List.cons_append]
   refine j_range 0 rfl fun hrq=>?_
   refine j_range 1 rfl fun hrr=>?_
   have eq:=trim_eq (l:=lq) (fun x hx=>by have:=hrq x hx;simp only [InR] at this;omega)
   have er:=trim_eq (l:=lr) (fun x hx=>by have:=hrr x hx;simp only [InR] at this;omega)
   rw [hq,va,vb] at eq
   rw [hr,va,vb] at er
   refine j_run it 5 rfl (by simp) ?_
   refine j_nf [_,_] rfl (j_run it 1 rfl (by simp) ?_)
   refine j_step rfl (x_call [0] rfl (S_nat_Trim) rfl ?_)
   rintro _ _ _ ⟨pa1,ca1,rfl,rfl,rfl⟩
   simp only [List.cons_append,List.nil_append]
   refine j_run it 1 rfl (by simp) ?_
   refine j_step rfl (x_call [2] rfl (S_nat_Trim) rfl ?_)
   rintro _ _ _ ⟨pa2,ca2,rfl,rfl,rfl⟩
   simp only [List.cons_append,List.nil_append]
   refine j_run it 3 rfl (by simp) ?_
   refine j_nf [_] rfl ?_
   rw [eq,er]
   refine j_giv [1,0] rfl rfl rfl ⟨_,_,_,_,rfl,rfl,rfl⟩
theorem S_nat_Gcd {pa pb : Option Addr} {n m ca cb : Nat} {a b : List Nat} (hal : a.length ≤ 1073741824) (hbl : b.length ≤ 1073741824) :
  Ctr Tryz.prog 80 [.slice pa n ca,.slice pb m cb] [] [slF U32 pa n ca a,slF U32 pb m cb b] (Sv U32 (limbs (Nat.gcd (val a) (val b)))):=by
 refine Ctr_of_j' (F:=F_nat_Gcd) rfl fun C=>?_
 refine j_len 0 rfl fun hn hba _=>?_
 refine j_len 1 rfl fun hm hbb _=>?_
 subst hn;subst hm
 refine j_range 0 rfl fun hra=>?_
 refine j_range 1 rfl fun hrb=>?_
 have ha : ∀ x ∈ a,x < 4294967296:=fun x hx=>by have:=hra x hx;simp only [InR] at this;omega
 have hb : ∀ x ∈ b,x < 4294967296:=fun x hx=>by have:=hrb x hx;simp only [InR] at this;omega
 have ea:=trim_eq ha
 have eb:=trim_eq hb
 have lla:=trim_length_le a
 have llb:=trim_length_le b
 refine j_nf [_,_] rfl (j_run it 1 rfl (by simp) ?_)
 refine j_nf [_,_] rfl (j_run it 1 rfl (by simp) ?_)
 refine j_step rfl (x_call [0] rfl (S_nat_short) rfl ?_)
 rintro _ _ _ ⟨rfl,rfl,rfl⟩
 simp only [List.cons_append,List.nil_append]
 refine j_run it 1 rfl (by simp) ?_
 refine j_step rfl (x_call [2] rfl (S_nat_short) rfl ?_)
 rintro _ _ _ ⟨rfl,rfl,rfl⟩
 simp only [List.cons_append,List.nil_append]
 refine j_run it 2 rfl (by simp) ?_
 refine j_nf [_,_,_] rfl ?_
 rw [ea,eb]
 rw [ea] at lla
 rw [eb] at llb
 refine j_loopG (X:=Nat × Nat × (Option Addr × Nat) × (Option Addr × Nat)) [4] [] (fun x=>[(0,.slice x.2.2.1.1 (limbs x.1).length x.2.2.1.2),(1,.slice x.2.2.2.1 (limbs x.2.1).length x.2.2.2.2)]) (fun _=>[]) (fun x=>[slF U32 x.2.2.1.1 (limbs x.1).length x.2.2.1.2 (limbs x.1),slF U32 x.2.2.2.1 (limbs x.2.1).length x.2.2.2.2 (limbs x.2.1)])
  (fun x=>(limbs x.1).length ≤ 1073741824 ∧ (limbs x.2.1).length ≤ 1073741824 ∧ Nat.gcd x.1 x.2.1 = Nat.gcd (val a) (val b)) (fun x=>x.2.1) (val a,val b,(pa,(limbs (val a)).length),(pb,(limbs (val b)).length)) [1,0] rfl rfl rfl ⟨Nat.le_trans lla hal,Nat.le_trans llb hbl,rfl⟩ (by repeat (first | exact Fr.sub_nil _ | refine Fr.sub_cons rfl ?_)) rfl rfl ?_
 rintro ⟨x,y,⟨px,cx⟩,⟨py,cy⟩⟩ ⟨hx,hy,hg⟩ ih
 simp only [List.cons_append,List.nil_append] at hx hy hg ih ⊢
 by_cases hy0 : y = 0
 ·have e0 : (limbs y).length = 0:=by rw [hy0,limbs_zero];rfl
  subst hy0
  refine j_nf [_,_,_,_,_,_] rfl (j_run it 1 rfl (by simp) ?_)
  refine j_step rfl (x_len sl24 rfl ?_)
  refine j_run it 1 rfl (by simp) ?_
  refine j_nf [_,_,_,_,_] rfl (j_if rfl rfl (fun h1=>by exfalso;omega) (fun h1=>?_))
  refine j_nf [_,_] rfl (j_run it 1 rfl (by simp) ?_)
  refine j_step rfl (x_call [0] rfl (S_nat_Trim) rfl ?_)
  rintro _ _ _ ⟨pa1,ca1,rfl,rfl,rfl⟩
  simp only [List.cons_append,List.nil_append]
  refine j_run it 1 rfl (by simp) ?_
  refine j_nf [_] rfl ?_
  rw [trim_limbs,show x = Nat.gcd (val a) (val b) by rw [← hg,Nat.gcd_zero_right]]
  refine j_giv [0] rfl rfl rfl ⟨_,_,rfl,rfl,rfl⟩
 ·have e0 : 0 < (limbs y).length:=List.length_pos_iff.2 (fun h=>hy0 (limbs_nil.1 h))
  have hv : val (limbs y) ≠ 0:=by rw [val_limbs];exact hy0
  refine j_nf [_,_,_,_,_,_] rfl (j_run it 1 rfl (by simp) ?_)
  refine j_step rfl (x_len sl24 rfl ?_)
  refine j_run it 1 rfl (by simp) ?_
  refine j_nf [_,_,_,_,_] rfl (j_if rfl rfl (fun h1=>?_) (fun h1=>by exfalso;omega))
  refine j_nf [_,_,_,_,_,_] rfl (j_run it 2 rfl (by simp) ?_)
  refine j_step rfl (x_call [0,1] rfl (S_nat_DivMod (by omega) (by omega)) rfl ?_)
  rintro _ _ _ ⟨p11,c11,p21,c21,rfl,rfl,rfl⟩
  simp only [List.cons_append,List.nil_append]
  refine j_run it 7 rfl (by simp) ?_
  refine j_nf [_,_,_,_,_] rfl (j_run it 4 rfl (by simp) ?_)
  refine j_nfn 2 [.lp [1,1,0,0,0],.blk 0,.c [1,1,1]] rfl ?_
  simp only [val_limbs]
  refine j_to [3,1] (by exact fra rfl) rfl rfl (ih (y,x % y,(py,cy),(p21,c21)) (by simp only;exact Nat.mod_lt _ (by omega)) ⟨hy,limbs_mono hy (Nat.le_of_lt (Nat.mod_lt _ (by omega))),by simp only;rw [← hg,Nat.gcd_comm x y,Nat.gcd_rec y x,Nat.gcd_comm]⟩)
set_option maxHeartbeats 2000000
theorem S_rational_one : Ctr Tryz.prog 67 [] [] [] (Sv U32 [1]):=by
 refine Ctr_of_j' (F:=F_rational_one) rfl fun C=>?_
 refine j_nf [_,_] rfl (j_run it 1 rfl (by simp) ?_)
 refine j_nf [_,_] rfl (j_step rfl (x_lit sl24 zo24e rfl rfl rfl rfl (by decide) (by decide) rfl fun b1=>?_))
 refine j_run it 1 rfl (by simp) ?_
 refine j_nf [_] rfl ?_
 refine j_pub_made (n:=1) (kd:=.u32) 4 [1] 0 rfl rfl (by simp [InR]) (by decide) (by decide) ?_
 refine j_giv [0] rfl rfl rfl ⟨_,_,rfl,rfl,rfl⟩
theorem bitsL_zero {l : List Nat} (h : ∀ x ∈ l,x < 4294967296) : bitsL l = 0 ↔ val l = 0:=by
 have ht:=trim_eq h
 constructor
 ·intro h0
  rcases Nat.eq_zero_or_pos (trim l).length with h1 | h1
  ·have:=List.eq_nil_of_length_eq_zero h1
   rw [ht,limbs_nil] at this;exact this
  ·obtain ⟨k,hk⟩ : ∃ k,(trim l).length = k + 1:=⟨(trim l).length - 1,by omega⟩
   obtain ⟨t,hz,hz0⟩:=limbs_top (n:=val l) (k:=k) (by rw [← ht];exact hk)
   rw [← ht] at hz
   have h3:=bitsL_top (z:=t) (by rw [hk];exact hz)
   have:=blen_pos hz0
   omega
 ·intro h0
  exact bitsL_nil (by rw [ht,h0,limbs_zero];rfl)
theorem lim {l : List Nat} (h : ∀ x ∈ l,InR .u32 x) : ∀ x ∈ l,x < 4294967296:=fun x hx=>by have:=h x hx;simp only [InR] at this;omega
theorem S_rational_canonical {neg : Bool} {pn pd : Option Addr} {n m cn cd : Nat} {N D : List Nat} (hN : N.length ≤ 1073741824) (hD : D.length ≤ 1073741824) :
  Ctr Tryz.prog 53 [.bool neg,.slice pn n cn,.slice pd m cd] [] [slF U32 pn n cn N,slF U32 pd m cd D] (RtV (rt (vq (neg,N,D)))):=by
 refine Ctr_of_j' (F:=F_rational_canonical) rfl fun C=>?_
 refine j_len 0 rfl fun hn hba _=>?_
 refine j_len 1 rfl fun hm hbb _=>?_
 subst hn;subst hm
 refine j_range 0 rfl fun hra=>?_
 refine j_range 1 rfl fun hrb=>?_
 have ha:=lim hra
 have hb:=lim hrb
 have za:=bitsL_zero ha
 have zb:=bitsL_zero hb
 have zero : val N = 0 ∨ val D = 0 → rt (vq (neg,N,D)) = (false,[],[1]):=fun h=>by rw [vq_eq,mk_zero h,rt_zero]
 by_cases h1 : bitsL N = 0
 ·have e:=zero (.inl (za.1 h1))
  refine j_nf [_,_] rfl (j_step rfl (x_alloc zo26 fun b1=>?_))
  refine j_nf [_,_,_] rfl (j_run it 1 rfl (by simp) ?_)
  refine j_step rfl (x_call [0] rfl (S_nat_Bits) rfl ?_)
  rintro _ _ _ ⟨rfl,rfl,rfl⟩
  simp only [List.cons_append,List.nil_append]
  refine j_run it 2 rfl (by simp) ?_
  refine j_split_dec (t:=11) rfl (fun h2=>?_) (fun h2=>by exfalso;omega)
  refine j_run it 4 rfl (by simp) ?_
  refine j_nf [_,_] rfl ?_
  refine j_true rfl rfl ?_
  refine j_nf [_,_,_] rfl (j_step rfl (x_call [] rfl (S_rational_one) rfl ?_))
  rintro _ _ _ ⟨pa1,ca1,rfl,rfl,rfl⟩
  simp only [List.cons_append,List.nil_append]
  refine j_step rfl (x_build (cs:=[Value.bool false,Value.slice none 0 0,Value.slice pa1 [1].length ca1]) st26 zo26 rfl rfl ?_)
  refine j_step rfl (x_bst_all 0 rfl rfl rfl ld26 rfl rfl (by simp [Value.oneCell']) ?_)
  refine j_nf [_,_] rfl ?_
  refine j_add (slF U32 none 0 0 []) (fun w A _=>slF_nil _ _ _ _ _) ?_
  refine j_givC [0,1] rfl (.agg 0 rfl rfl ld26 rfl .nil) rfl ⟨none,0,pa1,ca1,by rw [e];rfl,by rw [e];rfl,rfl⟩
 by_cases h2 : bitsL D = 0
 ·have e:=zero (.inr (zb.1 h2))
  refine j_nf [_,_] rfl (j_step rfl (x_alloc zo26 fun b1=>?_))
  refine j_nf [_,_,_] rfl (j_run it 1 rfl (by simp) ?_)
  refine j_step rfl (x_call [0] rfl (S_nat_Bits) rfl ?_)
  rintro _ _ _ ⟨rfl,rfl,rfl⟩
  simp only [List.cons_append,List.nil_append]
  refine j_run it 2 rfl (by simp) ?_
  refine j_split_dec (t:=11) rfl (fun h3=>by exfalso;omega) (fun h3=>?_)
  refine j_run it 1 rfl (by simp) ?_
  refine j_gstep rfl rfl (x_call [1] rfl (S_nat_Bits) rfl ?_)
  rintro _ _ _ ⟨rfl,rfl,rfl⟩
  simp only [List.cons_append,List.nil_append]
  refine j_run it 2 rfl (by simp) ?_
  refine j_nf [_,_] rfl (j_if rfl rfl (fun h4=>?_) (fun h4=>by exfalso;omega))
  refine j_nf [_,_,_] rfl (j_step rfl (x_call [] rfl (S_rational_one) rfl ?_))
  rintro _ _ _ ⟨pa1,ca1,rfl,rfl,rfl⟩
  simp only [List.cons_append,List.nil_append]
  refine j_step rfl (x_build (cs:=[Value.bool false,Value.slice none 0 0,Value.slice pa1 [1].length ca1]) st26 zo26 rfl rfl ?_)
  refine j_step rfl (x_bst_all 0 rfl rfl rfl ld26 rfl rfl (by simp [Value.oneCell']) ?_)
  refine j_nf [_,_] rfl ?_
  refine j_add (slF U32 none 0 0 []) (fun w A _=>slF_nil _ _ _ _ _) ?_
  refine j_givC [0,1] rfl (.agg 0 rfl rfl ld26 rfl .nil) rfl ⟨none,0,pa1,ca1,by rw [e];rfl,by rw [e];rfl,rfl⟩
 ·have v1 : val N ≠ 0:=fun h=>h1 (za.2 h)
  have v2 : val D ≠ 0:=fun h=>h2 (zb.2 h)
  have hg : val (limbs (Nat.gcd (val N) (val D))) ≠ 0:=by
   rw [val_limbs]
   have:=Nat.gcd_pos_of_pos_left (val D) (Nat.pos_of_ne_zero v1)
   omega
  have e : rt (vq (neg,N,D)) = (neg,limbs (val N / val (limbs (Nat.gcd (val N) (val D)))),limbs (val D / val (limbs (Nat.gcd (val N) (val D))))):=by
   rw [vq_eq,rt_mk v1 v2,val_limbs]
  refine j_nf [_,_] rfl (j_step rfl (x_alloc zo26 fun b1=>?_))
  refine j_nf [_,_,_] rfl (j_run it 1 rfl (by simp) ?_)
  refine j_step rfl (x_call [0] rfl (S_nat_Bits) rfl ?_)
  rintro _ _ _ ⟨rfl,rfl,rfl⟩
  simp only [List.cons_append,List.nil_append]
  refine j_run it 2 rfl (by simp) ?_
  refine j_split_dec (t:=11) rfl (fun h3=>by exfalso;omega) (fun h3=>?_)
  refine j_run it 1 rfl (by simp) ?_
  refine j_gstep rfl rfl (x_call [1] rfl (S_nat_Bits) rfl ?_)
  rintro _ _ _ ⟨rfl,rfl,rfl⟩
  simp only [List.cons_append,List.nil_append]
  refine j_run it 2 rfl (by simp) ?_
  refine j_nf [_,_] rfl (j_if rfl rfl (fun h4=>by exfalso;omega) (fun h4=>?_))
  refine j_nf [_,_] rfl (j_run it 2 rfl (by simp) ?_)
  refine j_step rfl (x_call [0,1] rfl (S_nat_Gcd (by omega) (by omega)) rfl ?_)
  rintro _ _ _ ⟨pa1,ca1,rfl,rfl,rfl⟩
  simp only [List.cons_append,List.nil_append]
  refine j_run it 1 rfl (by simp) ?_
  refine j_nf [_,_] rfl (j_run it 2 rfl (by simp) ?_)
  refine j_step rfl (x_call [1,0] rfl (S_nat_DivMod (by omega) (by omega)) rfl ?_)
  rintro _ _ _ ⟨p11,c11,p21,c21,rfl,rfl,rfl⟩
  simp only [List.cons_append,List.nil_append]
  refine j_run it 5 rfl (by simp) ?_
  refine j_nf [_,_] rfl (j_run it 2 rfl (by simp) ?_)
  refine j_step rfl (x_call [4,2] rfl (S_nat_DivMod (by omega) (by omega)) rfl ?_)
  rintro _ _ _ ⟨p12,c12,p22,c22,rfl,rfl,rfl⟩
  simp only [List.cons_append,List.nil_append]
  refine j_run it 5 rfl (by simp) ?_
  refine j_nf [_,_] rfl (j_run it 3 rfl (by simp) ?_)
  refine j_step rfl (x_build (cs:=[Value.bool neg,Value.slice p11 (limbs (val N / val (limbs ((val N).gcd (val D))))).length c11,Value.slice p12 (limbs (val D / val (limbs ((val N).gcd (val D))))).length c12]) st26 zo26 rfl rfl ?_)
  refine j_step rfl (x_bst_all 0 rfl rfl rfl ld26 rfl rfl (by simp [Value.oneCell']) ?_)
  refine j_nf [_] rfl ?_
  refine j_givC [2,0] rfl (.agg 0 rfl rfl ld26 rfl .nil) rfl ⟨p11,c11,p12,c12,by rw [e];rfl,by rw [e],rfl⟩
theorem S_rational_Trim {neg : Bool} {pn pd : Option Addr} {n m cn cd : Nat} {N D : List Nat} (hN : N.length ≤ 1073741824) (hD : D.length ≤ 1073741824) :
  Ctr Tryz.prog 55 [.agg #[.bool neg,.slice pn n cn,.slice pd m cd]] [] [slF U32 pn n cn N,slF U32 pd m cd D] (RtV (rt (vq (neg,N,D)))):=by
 refine Ctr_of_j' (F:=F_rational_Trim) rfl fun C=>?_
 refine j_len 0 rfl fun hn _ _=>?_
 refine j_len 1 rfl fun hm _ _=>?_
 subst hn;subst hm
 refine j_nf [_,_] rfl (j_step rfl (x_box_agg rfl fun b1=>?_))
 refine j_step rfl (x_alloc zo26 fun b2=>?_)
 refine j_nf [_,_] rfl (j_step rfl (x_field rfl fd26_0 ?_))
 refine j_step rfl (x_bld 1 rfl rfl ld4 rfl ?_)
 refine j_step rfl (x_field rfl fd26_1 ?_)
 refine j_step rfl (x_bld 1 rfl rfl ld24 rfl ?_)
 refine j_step rfl (x_field rfl fd26_2 ?_)
 refine j_step rfl (x_bld 1 rfl rfl ld24 rfl ?_)
 refine j_step rfl (x_call [0,1] rfl (S_rational_canonical (by omega) (by omega)) rfl ?_)
 rintro _ _ _ ⟨pn1,cn1,pd1,cd1,rfl,rfl,rfl⟩
 simp only [List.cons_append,List.nil_append]
 refine j_step rfl (x_bst_all 0 rfl rfl rfl ld26 rfl rfl (by simp [Value.oneCell']) ?_)
 refine j_nf [_] rfl ?_
 refine j_givC [0,1] rfl (.agg 0 rfl rfl ld26 rfl .nil) rfl ⟨_,_,_,_,rfl,rfl,rfl⟩
theorem S_rational_Neg {neg : Bool} {pn pd : Option Addr} {n m cn cd : Nat} {N D : List Nat} (hN : N.length ≤ 1073741824) (hD : D.length ≤ 1073741824) :
  Ctr Tryz.prog 29 [.agg #[.bool neg,.slice pn n cn,.slice pd m cd]] [] [slF U32 pn n cn N,slF U32 pd m cd D] (RtV (rt (-vq (neg,N,D)))):=by
 refine Ctr_of_j' (F:=F_rational_Neg) rfl fun C=>?_
 refine j_len 0 rfl fun hn _ _=>?_
 refine j_len 1 rfl fun hm _ _=>?_
 subst hn;subst hm
 refine j_nf [_,_] rfl (j_step rfl (x_box_agg rfl fun b1=>?_))
 refine j_step rfl (x_alloc zo26 fun b2=>?_)
 refine j_nf [_,_] rfl (j_step rfl (x_field rfl fd26_0 ?_))
 refine j_step rfl (x_bld 1 rfl rfl ld4 rfl ?_)
 refine j_run it 1 rfl (by simp) ?_
 refine j_step rfl (x_field rfl fd26_1 ?_)
 refine j_step rfl (x_bld 1 rfl rfl ld24 rfl ?_)
 refine j_step rfl (x_field rfl fd26_2 ?_)
 refine j_step rfl (x_bld 1 rfl rfl ld24 rfl ?_)
 refine j_step rfl (x_call [0,1] rfl (S_rational_canonical (by omega) (by omega)) rfl ?_)
 rintro _ _ _ ⟨pn1,cn1,pd1,cd1,rfl,rfl,rfl⟩
 simp only [List.cons_append,List.nil_append]
 refine j_step rfl (x_bst_all 0 rfl rfl rfl ld26 rfl rfl (by simp [Value.oneCell']) ?_)
 refine j_nf [_] rfl ?_
 have e : vq (!neg,N,D) = -vq (neg,N,D):=neg_mk _ _ _
 rw [e]
 refine j_givC [0,1] rfl (.agg 0 rfl rfl ld26 rfl .nil) rfl ⟨_,_,_,_,rfl,rfl,rfl⟩
theorem S_rational_Sign {neg : Bool} {pn pd : Option Addr} {n m cn cd : Nat} {N D : List Nat} :
  Ctr Tryz.prog 34 [.agg #[.bool neg,.slice pn n cn,.slice pd m cd]] [] [slF U32 pn n cn N,slF U32 pd m cd D] (Rv (.int .i64 (vq (neg,N,D)).num.sign) []):=by
 refine Ctr_of_j' (F:=F_rational_Sign) rfl fun C=>?_
 refine j_len 0 rfl fun hn _ _=>?_
 refine j_len 1 rfl fun hm _ _=>?_
 subst hn;subst hm
 refine j_range 0 rfl fun hra=>?_
 refine j_range 1 rfl fun hrb=>?_
 have ha:=lim hra
 have hb:=lim hrb
 have za:=bitsL_zero ha
 have zb:=bitsL_zero hb
 have zero : val N = 0 ∨ val D = 0 → (vq (neg,N,D)).num.sign = 0:=fun h=>by rw [vq_eq,mk_zero h];rfl
 by_cases h1 : bitsL N = 0
 ·rw [zero (.inl (za.1 h1))]
  refine j_nf [_,_] rfl (j_step rfl (x_box_agg rfl fun b1=>?_))
  refine j_run it 1 rfl (by simp) ?_
  refine j_nf [_,_,_,_] rfl (j_step rfl (x_field rfl fd26_1 ?_))
  refine j_step rfl (x_bld 0 rfl rfl ld24 rfl ?_)
  refine j_step rfl (x_call [0] rfl (S_nat_Bits) rfl ?_)
  rintro _ _ _ ⟨rfl,rfl,rfl⟩
  simp only [List.cons_append,List.nil_append]
  refine j_run it 2 rfl (by simp) ?_
  refine j_split_dec (t:=8) rfl (fun h2=>?_) (fun h2=>by exfalso;omega)
  refine j_run it 6 rfl (by simp) ?_
  refine j_nf [_,_,_] rfl ?_
  refine j_true rfl rfl ?_
  refine j_nf [_,_,_,_] rfl (j_run it 1 rfl (by simp) ?_)
  refine j_nf [_,_,_] rfl ?_
  refine j_giv [] rfl rfl rfl ⟨rfl,rfl,rfl⟩
 by_cases h2 : bitsL D = 0
 ·rw [zero (.inr (zb.1 h2))]
  refine j_nf [_,_] rfl (j_step rfl (x_box_agg rfl fun b1=>?_))
  refine j_run it 1 rfl (by simp) ?_
  refine j_nf [_,_,_,_] rfl (j_step rfl (x_field rfl fd26_1 ?_))
  refine j_step rfl (x_bld 0 rfl rfl ld24 rfl ?_)
  refine j_step rfl (x_call [0] rfl (S_nat_Bits) rfl ?_)
  rintro _ _ _ ⟨rfl,rfl,rfl⟩
  simp only [List.cons_append,List.nil_append]
  refine j_run it 2 rfl (by simp) ?_
  refine j_split_dec (t:=8) rfl (fun h3=>by exfalso;omega) (fun h3=>?_)
  refine j_gstep rfl rfl (x_field rfl fd26_2 ?_)
  refine j_gstep rfl rfl (x_bld 0 rfl rfl ld24 rfl ?_)
  refine j_gstep rfl rfl (x_call [1] rfl (S_nat_Bits) rfl ?_)
  rintro _ _ _ ⟨rfl,rfl,rfl⟩
  simp only [List.cons_append,List.nil_append]
  refine j_run it 3 rfl (by simp) ?_
  refine j_nf [_,_,_] rfl (j_if rfl rfl (fun h4=>?_) (fun h4=>by exfalso;omega))
  refine j_nf [_,_,_,_] rfl (j_run it 1 rfl (by simp) ?_)
  refine j_nf [_,_,_] rfl ?_
  refine j_giv [] rfl rfl rfl ⟨rfl,rfl,rfl⟩
 ·rw [vq_eq,mk_sign (fun h=>h1 (za.2 h)) (fun h=>h2 (zb.2 h))]
  cases neg with
  | true =>
   refine j_nf [_,_] rfl (j_step rfl (x_box_agg rfl fun b1=>?_))
   refine j_run it 1 rfl (by simp) ?_
   refine j_nf [_,_,_,_] rfl (j_step rfl (x_field rfl fd26_1 ?_))
   refine j_step rfl (x_bld 0 rfl rfl ld24 rfl ?_)
   refine j_step rfl (x_call [0] rfl (S_nat_Bits) rfl ?_)
   rintro _ _ _ ⟨rfl,rfl,rfl⟩
   simp only [List.cons_append,List.nil_append]
   refine j_run it 2 rfl (by simp) ?_
   refine j_split_dec (t:=8) rfl (fun h3=>by exfalso;omega) (fun h3=>?_)
   refine j_gstep rfl rfl (x_field rfl fd26_2 ?_)
   refine j_gstep rfl rfl (x_bld 0 rfl rfl ld24 rfl ?_)
   refine j_gstep rfl rfl (x_call [1] rfl (S_nat_Bits) rfl ?_)
   rintro _ _ _ ⟨rfl,rfl,rfl⟩
   simp only [List.cons_append,List.nil_append]
   refine j_run it 3 rfl (by simp) ?_
   refine j_nf [_,_,_] rfl (j_if rfl rfl (fun h4=>by exfalso;omega) (fun h4=>?_))
   refine j_nf [_,_,_,_] rfl (j_step rfl (x_field rfl fd26_0 ?_))
   refine j_step rfl (x_bld 0 rfl rfl ld4 rfl ?_)
   refine j_run it 1 rfl (by simp) ?_
   refine j_nf [_,_,_] rfl ?_
   refine j_true rfl rfl ?_
   refine j_nf [_,_,_,_] rfl (j_run it 1 rfl (by simp) ?_)
   refine j_nf [_,_,_] rfl ?_
   refine j_giv [] rfl rfl rfl ⟨rfl,rfl,rfl⟩
  | false =>
   refine j_nf [_,_] rfl (j_step rfl (x_box_agg rfl fun b1=>?_))
   refine j_run it 1 rfl (by simp) ?_
   refine j_nf [_,_,_,_] rfl (j_step rfl (x_field rfl fd26_1 ?_))
   refine j_step rfl (x_bld 0 rfl rfl ld24 rfl ?_)
   refine j_step rfl (x_call [0] rfl (S_nat_Bits) rfl ?_)
   rintro _ _ _ ⟨rfl,rfl,rfl⟩
   simp only [List.cons_append,List.nil_append]
   refine j_run it 2 rfl (by simp) ?_
   refine j_split_dec (t:=8) rfl (fun h3=>by exfalso;omega) (fun h3=>?_)
   refine j_gstep rfl rfl (x_field rfl fd26_2 ?_)
   refine j_gstep rfl rfl (x_bld 0 rfl rfl ld24 rfl ?_)
   refine j_gstep rfl rfl (x_call [1] rfl (S_nat_Bits) rfl ?_)
   rintro _ _ _ ⟨rfl,rfl,rfl⟩
   simp only [List.cons_append,List.nil_append]
   refine j_run it 3 rfl (by simp) ?_
   refine j_nf [_,_,_] rfl (j_if rfl rfl (fun h4=>by exfalso;omega) (fun h4=>?_))
   refine j_nf [_,_,_,_] rfl (j_step rfl (x_field rfl fd26_0 ?_))
   refine j_step rfl (x_bld 0 rfl rfl ld4 rfl ?_)
   refine j_run it 1 rfl (by simp) ?_
   refine j_nf [_,_,_] rfl ?_
   refine j_false rfl rfl ?_
   refine j_nf [_,_] rfl (j_run it 1 rfl (by simp) ?_)
   refine j_nf [_] rfl ?_
   refine j_giv [] rfl rfl rfl ⟨rfl,rfl,rfl⟩
theorem O_nat_Trim {pa : Option Addr} {n ca : Nat} {l : List Nat} : Ctr Tryz.prog 86 [.slice pa n ca] [] [slF U32 pa n ca l] (Ov 73 (trim l)):=by
 refine Ctr_of_j' (F:=F_nat_Trim) rfl fun C=>?_
 refine j_len 0 rfl fun hn hb _=>?_
 subst hn
 have hb' : l.length * 4 ≤ 140737488355328:=hb
 have hl:=trim_length_le l
 refine j_nf [_,_] rfl (j_run it 1 rfl (by simp) ?_)
 refine j_nf [_,_] rfl (j_run it 1 rfl (by simp) ?_)
 refine j_step rfl (x_call [0] rfl (S_nat_short) rfl ?_)
 rintro _ _ _ ⟨rfl,rfl,rfl⟩
 simp only [List.cons_append,List.nil_append]
 refine j_nil el24 ?_
 refine j_step rfl (x_app_sl 0 0 rfl rfl rfl rfl sl24 zo24e rfl (by first | exact GrOk.nil _ | assumption | exact .inr ⟨_,rfl,Nat.le_refl _,by omega,rfl⟩) (by omega) _ by24e (by omega) fun bo1 cap1 cs1 vss1 hg1 ht1=>?_)
 refine j_run it 1 rfl (by simp) ?_
 refine j_nf [_] rfl ?_
 refine j_flat 0 rfl fun hfl=>?_
 simp only [Nat.zero_add,Nat.zero_mul,List.take_zero,List.nil_append,hfl] at ht1
 have e : cs1 = natCells .u32 (trim l)++cs1.drop (trim l).length:=by
  have h:=List.take_append_drop (trim l).length cs1
  rw [show (trim l).length = (trim l).length * (encNat .u32 4).size from (Nat.mul_one _).symm] at h
  rw [ht1] at h
  exact h.symm.trans (by rw [show (trim l).length * (encNat .u32 4).size = (trim l).length from Nat.mul_one _])
 rw [Nat.zero_add] at hg1
 refine j_gives [] rfl rfl rfl ⟨bo1,cap1,cs1.drop (trim l).length,by simp [resVal],by rw [← e];exact hg1,rfl,by rw [← e];rfl⟩
set_option maxHeartbeats 1000000
theorem S_nat_Sub {pa pb : Option Addr} {n m ca cb : Nat} {a b : List Nat} (hab : val b ≤ val a) :
  Ctr Tryz.prog 93 [.slice pa n ca,.slice pb m cb] [] [slF U32 pa n ca a,slF U32 pb m cb b] (S2 U32 (limbs (val a - val b)) 0):=by
 refine Ctr_of_j' (F:=F_nat_Sub) rfl fun C=>?_
 refine j_len 0 rfl fun hn hba _=>?_
 refine j_len 1 rfl fun hm hbb _=>?_
 subst hn;subst hm
 have hba' : a.length * 4 ≤ 140737488355328:=hba
 have hbb' : b.length * 4 ≤ 140737488355328:=hbb
 refine j_range 0 rfl fun hra=>?_
 refine j_range 1 rfl fun hrb=>?_
 have hra' : ∀ x ∈ a,x < 4294967296:=fun x hx=>by have:=hra x hx;simp only [InR] at this;omega
 have hrb' : ∀ x ∈ b,x < 4294967296:=fun x hx=>by have:=hrb x hx;simp only [InR] at this;omega
 have ht : ∀ x ∈ trim a,x < 4294967296:=fun x hx=>hra' x (mem_trim hx)
 have hv : val (trim a) = val a:=val_trim a
 have hl:=trim_length_le a
 have hc : 0 ≤ cmpN (val a) (val b):=by unfold cmpN;split <;> (try split) <;> omega
 refine j_nf [_,_] rfl (j_run it 2 rfl (by simp) ?_)
 refine j_nf [_,_,_] rfl (j_run it 2 rfl (by simp) ?_)
 refine j_step rfl (x_call [0,1] rfl (S_nat_Cmp) rfl ?_)
 rintro _ _ _ ⟨rfl,rfl,rfl⟩
 simp only [List.cons_append,List.nil_append]
 refine j_run it 1 rfl (by simp) ?_
 refine j_nf [_,_] rfl (j_if rfl rfl (fun h1=>by exfalso;omega) (fun h1=>?_))
 refine j_nf [_,_] rfl (j_run it 1 rfl (by simp) ?_)
 refine j_step rfl (x_call [0] rfl O_nat_Trim rfl ?_)
 rintro _ _ _ ⟨bo,cap,rest,rfl,hg,rfl,rfl⟩
 simp only [List.nil_append,List.cons_append]
 generalize trim a = l at ht hv hl hg ⊢
 refine j_run it 1 rfl (by simp) ?_
 refine j_nf [_,_] rfl (j_run it 1 rfl (by simp) ?_)
 refine j_nf [_,_,_] rfl (j_run it 1 rfl (by simp) ?_)
 refine j_step rfl (x_len sl24 rfl ?_)
 refine j_run it 1 rfl (by simp) ?_
 refine j_nf [_,_,_] rfl ?_
 refine j_loopG (X:=Nat × Nat × List Nat) [1,4,5,6,17] [0,1] (fun x=>[(7,.int .u64 x.2.1),(18,.int .i64 x.1)]) (fun x=>[(bo,73,natCells .u32 x.2.2++rest)]) (fun _=>[])
  (fun x=>x.1 ≤ l.length ∧ x.2.2.length = l.length ∧ x.2.1 ≤ 1 ∧ (∀ z ∈ x.2.2,z < 4294967296) ∧ val (x.2.2.take x.1) + val (b.take x.1) = val (l.take x.1) + 4294967296 ^ x.1 * x.2.1 ∧ x.2.2.drop x.1 = l.drop x.1)
  (fun x=>l.length - x.1) (0,0,l) [] rfl rfl rfl ⟨Nat.zero_le _,rfl,Nat.zero_le _,ht,by simp [val],rfl⟩ (by repeat (first | exact Fr.sub_nil _ | refine Fr.sub_cons rfl ?_)) rfl rfl ?_
 rintro ⟨k,c,out⟩ ⟨hk,hlo,hc1,ho,he,hd⟩ ih
 simp only [List.cons_append,List.nil_append] at hk hlo hc1 ho he hd ih ⊢
 by_cases hkl : k < l.length
 ·obtain ⟨b',rfl⟩ : ∃ b',bo = some b':=by
   rcases hg with ⟨_,h0,_⟩ | ⟨b',h,_⟩
   ·omega
   ·exact ⟨b',h⟩
  have hdk : out[k]? = l[k]?:=by
   have h:=congrArg (fun l : List Nat=>l[0]?) hd
   simpa using h
  have hdk1 : out.drop (k + 1) = l.drop (k + 1):=by rw [← List.drop_drop,hd,List.drop_drop]
  by_cases hkb : k < b.length
  ·refine j_nf [_,_,_,_,_] rfl (j_run it 1 rfl (by simp) ?_)
   refine j_nf [_,_,_,_,_] rfl (j_if rfl rfl (fun h2=>?_) (fun h2=>by exfalso;omega))
   refine j_nf [_,_,_,_,_,_,_] rfl (j_run it 2 rfl (by simp) ?_)
   refine j_nf [_,_,_,_,_,_,_] rfl (j_run it 2 rfl (by simp) ?_)
   refine j_step rfl (x_idx_own (k) (k) rfl rfl sl24 rfl (by omega) (Nat.mul_one _) ?_)
   refine j_step rfl (x_bld_natA 0 rfl rfl ld73 (by assumption) (by first | omega | (simp;omega)) fun z1 hz1 hlt1=>?_)
   refine j_run it 2 rfl ⟨trivial,⟨by omega,by omega⟩,trivial⟩ ?_
   refine j_step rfl (x_sub_u64 rfl rfl ?_)
   refine j_run it 1 rfl (by simp) ?_
   refine j_nf [_,_,_,_,_,_,_,_] rfl (j_run it 2 rfl (by simp) ?_)
   refine j_step rfl (x_len sl24 rfl ?_)
   refine j_run it 1 rfl (by simp) ?_
   refine j_nf [_,_,_,_,_,_,_] rfl (j_if rfl rfl (fun h3=>?_) (fun h3=>by exfalso;omega))
   refine j_nf [_,_,_,_,_,_,_] rfl (j_run it 3 rfl (by simp) ?_)
   refine j_step rfl (x_idx 1 (k) rfl rfl rfl sl24 rfl (by omega) fun z2 hz2 b1 o1=>?_)
   refine j_step rfl (x_ld_nat 0 rfl rfl ld73 fun ⟨r1,r2⟩=>?_)
   refine j_run it 1 rfl ⟨⟨by omega,by omega⟩,trivial⟩ ?_
   refine j_step rfl (x_sub_u64 rfl rfl ?_)
   refine j_run it 1 rfl (by simp) ?_
   refine j_nf [_,_,_,_,_,_,_] rfl (j_run it 3 rfl (by simp) ?_)
   refine j_step rfl (x_conv_u32 it rfl rfl rfl ?_)
   refine j_step rfl (x_idx_own (k) (k) rfl rfl sl24 rfl (by omega) (Nat.mul_one _) ?_)
   refine j_step rfl (x_bst_natA 0 ((((((z1) + 18446744073709551616 - (c)) % 18446744073709551616) + 18446744073709551616 - (z2)) % 18446744073709551616) % 4294967296) rfl rfl rfl ld73 (by first | rfl | omega) (by first | omega | (simp;omega)) ?_)
   refine j_nf [_,_,_,_,_,_] rfl (j_run it 3 rfl (by simp) ?_)
   refine j_nf [_,_,_,_] rfl (j_run it 2 rfl ⟨trivial,⟨by omega,by omega⟩,trivial⟩ ?_)
   refine j_nfn 1 [.lp (pL 500),.blk 0,.c [1,1,1,1,1]] rfl ?_
   have hz1l : l[k]? = some z1:=by rw [← hdk];exact hz1
   have hz2':=hrb' z2 (List.mem_of_getElem? hz2)
   obtain ⟨-,hle⟩:=borrow_word hc1 hlt1 hz2' rfl
   have hst:=borrow_step he hc1 hlt1 hz2' rfl
   generalize hD : ((z1 + 18446744073709551616 - c) % 18446744073709551616 + 18446744073709551616 - z2) % 18446744073709551616 = D at hle hst ⊢
   refine j_to [1,2] (by exact fii rfl (by dsimp only;omega) (fcc rfl (fcc rfl (fcc rfl (fcc rfl (fcc rfl (fcc rfl (fzz _)))))))) rfl rfl (ih (k + 1,D / 9223372036854775808,out.set k (D % 4294967296)) (by simp only;omega) ⟨by simp only;omega,by simpa using hlo,hle,set_lt ho (by omega),by
    simp only
    rw [val_set_take (by omega),Nat.pow_succ,val_take_succ hz1l,val_take_succ hz2];exact hst,by simp only;rw [List.drop_set_of_lt (by omega)];exact hdk1⟩)
  ·refine j_nf [_,_,_,_,_] rfl (j_run it 1 rfl (by simp) ?_)
   refine j_nf [_,_,_,_,_] rfl (j_if rfl rfl (fun h2=>?_) (fun h2=>by exfalso;omega))
   refine j_nf [_,_,_,_,_,_,_] rfl (j_run it 2 rfl (by simp) ?_)
   refine j_nf [_,_,_,_,_,_,_] rfl (j_run it 2 rfl (by simp) ?_)
   refine j_step rfl (x_idx_own (k) (k) rfl rfl sl24 rfl (by omega) (Nat.mul_one _) ?_)
   refine j_step rfl (x_bld_natA 0 rfl rfl ld73 (by assumption) (by first | omega | (simp;omega)) fun z1 hz1 hlt1=>?_)
   refine j_run it 2 rfl ⟨trivial,⟨by omega,by omega⟩,trivial⟩ ?_
   refine j_step rfl (x_sub_u64 rfl rfl ?_)
   refine j_run it 1 rfl (by simp) ?_
   refine j_nf [_,_,_,_,_,_,_,_] rfl (j_run it 2 rfl (by simp) ?_)
   refine j_step rfl (x_len sl24 rfl ?_)
   refine j_run it 1 rfl (by simp) ?_
   refine j_nf [_,_,_,_,_,_,_] rfl (j_if rfl rfl (fun h3=>by exfalso;omega) (fun h3=>?_))
   refine j_nf [_,_,_,_,_,_,_] rfl (j_run it 3 rfl (by simp) ?_)
   refine j_step rfl (x_conv_u32 it rfl rfl rfl ?_)
   refine j_step rfl (x_idx_own (k) (k) rfl rfl sl24 rfl (by omega) (Nat.mul_one _) ?_)
   refine j_step rfl (x_bst_natA 0 ((((z1) + 18446744073709551616 - (c)) % 18446744073709551616) % 4294967296) rfl rfl rfl ld73 (by first | rfl | omega) (by first | omega | (simp;omega)) ?_)
   refine j_nf [_,_,_,_,_,_] rfl (j_run it 3 rfl (by simp) ?_)
   refine j_nf [_,_,_,_] rfl (j_run it 2 rfl ⟨trivial,⟨by omega,by omega⟩,trivial⟩ ?_)
   refine j_nfn 1 [.lp (pL 500),.blk 0,.c [1,1,1,1,1]] rfl ?_
   have hz1l : l[k]? = some z1:=by rw [← hdk];exact hz1
   obtain ⟨-,hle⟩:=borrow_word (y:=0) hc1 hlt1 (by decide) rfl
   have hst:=borrow_step (y:=0) he hc1 hlt1 (by decide) rfl
   have e0 : ((z1 + 18446744073709551616 - c) % 18446744073709551616 + 18446744073709551616 - 0) % 18446744073709551616 = (z1 + 18446744073709551616 - c) % 18446744073709551616:=by omega
   rw [e0] at hle hst
   generalize hD : (z1 + 18446744073709551616 - c) % 18446744073709551616 = D at hle hst ⊢
   refine j_to [0,1] (by exact fii rfl (by dsimp only;omega) (fcc rfl (fcc rfl (fcc rfl (fcc rfl (fcc rfl (fcc rfl (fzz _)))))))) rfl rfl (ih (k + 1,D / 9223372036854775808,out.set k (D % 4294967296)) (by simp only;omega) ⟨by simp only;omega,by simpa using hlo,hle,set_lt ho (by omega),by
    simp only
    rw [val_set_take (by omega),Nat.pow_succ,val_take_succ hz1l,take_ge (l:=b) (by omega)];exact hst,by simp only;rw [List.drop_set_of_lt (by omega)];exact hdk1⟩)
 ·have ek : k = l.length:=by omega
  subst ek
  have eo : out.take l.length = out:=by rw [← hlo,List.take_length]
  rw [eo,List.take_length,hv] at he
  have hc0 : c = 0 ∧ val (b.take l.length) = val b:=by
   have h1:=take_lt (k:=l.length) ho (by omega)
   rw [eo] at h1
   have hlen : b.length ≤ l.length ∨ l.length ≤ b.length:=Nat.le_total _ _
   have hA : val b = val (b.take l.length) + 4294967296 ^ l.length * val (b.drop l.length):=by
    rcases hlen with h | h
    ·rw [List.take_of_length_le h,List.drop_of_length_le h];simp [val]
    ·exact val_take_drop b _ h
   have hcA : 4294967296 ^ l.length * c ≤ val out + val (b.take l.length) - val a:=by omega
   generalize 4294967296 ^ l.length = P at *
   have hD : val (b.drop l.length) = 0:=by
    rcases Nat.eq_zero_or_pos (val (b.drop l.length)) with h | h
    ·exact h
    ·have : P * 1 ≤ P * val (b.drop l.length):=Nat.mul_le_mul_left _ h
     have : P * c ≤ P * 1:=Nat.mul_le_mul_left _ hc1
     omega
   rw [hD,Nat.mul_zero,Nat.add_zero] at hA
   refine ⟨?_,hA.symm⟩
   rcases Nat.eq_zero_or_pos c with h | h
   ·exact h
   ·have : P * 1 ≤ P * c:=Nat.mul_le_mul_left _ h
    omega
  obtain ⟨rfl,hvb⟩:=hc0
  have hres : val out = val a - val b:=by rw [hvb] at he;omega
  refine j_nf [_,_,_,_,_] rfl (j_run it 1 rfl (by simp) ?_)
  refine j_nf [_,_,_,_,_] rfl (j_if rfl rfl (fun h2=>by exfalso;omega) (fun h2=>?_))
  refine j_nf [_,_] rfl (j_run it 1 rfl (by simp) ?_)
  have hg2 : GrOk bo out.length cap 1 (natCells .u32 out++rest):=by
   rw [hlo]
   rcases hg with ⟨h1,h2,h3,h4⟩ | ⟨b',h1,h2,h3,h4⟩
   ·refine .inl ⟨h1,h2,h3,?_⟩
    have e1 : l = []:=List.eq_nil_of_length_eq_zero h2
    have e2 : out = []:=List.eq_nil_of_length_eq_zero (by omega)
    rw [e2];rw [e1] at h4;exact h4
   ·exact .inr ⟨b',h1,h2,h3,by simp at h4 ⊢;omega⟩
  rw [← hlo]
  refine j_pub_nat (n:=out.length) (cap:=cap) 4 out 0 rfl hg2 (by rw [List.take_append_of_le_length (by simp),natCells_take,List.take_length]) rfl (fun x hx=>by have:=ho x hx;simp only [InR];omega) (by omega) ?_
  refine j_step rfl (x_call [0] rfl (S_nat_short) rfl ?_)
  rintro _ _ _ ⟨rfl,rfl,rfl⟩
  simp only [List.cons_append,List.nil_append]
  refine j_run it 2 rfl (by simp) ?_
  refine j_nf [_] rfl ?_
  rw [trim_eq ho,hres]
  refine j_giv [0] rfl rfl rfl ⟨_,_,rfl,rfl,rfl⟩
set_option maxHeartbeats 2000000
theorem prod2 (a b : List Nat) : prodV [a,b] = val a * val b:=by simp [prodV]
theorem sum2 (a b : List Nat) : sumV [a,b] = val a + val b:=by simp [sumV]
theorem len2 {a b : List Nat} {k : Nat} (ha : a.length ≤ k) (hb : b.length ≤ k) : lenS [a,b] ≤ k + k:=by simp [lenS];omega
theorem prod_lim {a b j : Nat} (ha : (limbs a).length ≤ j) (hb : (limbs b).length ≤ j) : (limbs (a * b)).length ≤ j + j :=
 limbs_length_le (by rw [Nat.pow_add];exact Nat.mul_lt_mul'' (limbs_le_length ha) (limbs_le_length hb))
theorem sum_lim {a b j : Nat} (ha : (limbs a).length ≤ j) (hb : (limbs b).length ≤ j) : (limbs (a + b)).length ≤ j + 1 :=
 limbs_length_le (by have:=limbs_le_length ha;have:=limbs_le_length hb;rw [Nat.pow_succ];omega)
theorem all2 {a b : List Nat} {k : Nat} (ha : a.length ≤ k) (hb : b.length ≤ k) : ∀ l ∈ [a,b],l.length ≤ k:=fun l hl=>by
 rcases List.mem_cons.1 hl with rfl | hl
 ·exact ha
 ·rw [List.mem_singleton.1 hl];exact hb
theorem S_rational_plus {p q : Rat} {g1 g2 : Bool} {pn1 pd1 pn2 pd2 : Option Addr} {n1 m1 n2 m2 cn1 cd1 cn2 cd2 : Nat} {N1 D1 N2 D2 : List Nat} (h1 : rt p = (g1,N1,D1)) (h2 : rt q = (g2,N2,D2))
  (l1 : N1.length ≤ 134217728) (l2 : D1.length ≤ 134217728) (l3 : N2.length ≤ 134217728) (l4 : D2.length ≤ 134217728) :
  Ctr Tryz.prog 68 [.agg #[.bool g1,.slice pn1 n1 cn1,.slice pd1 m1 cd1],.agg #[.bool g2,.slice pn2 n2 cn2,.slice pd2 m2 cd2]] [] [slF U32 pn1 n1 cn1 N1,slF U32 pd1 m1 cd1 D1,slF U32 pn2 n2 cn2 N2,slF U32 pd2 m2 cd2 D2] (RtV (rt (p + q))):=by
 refine Ctr_of_j' (F:=F_rational_plus) rfl fun C=>?_
 refine j_len 0 rfl fun e1 _ _=>?_
 refine j_len 1 rfl fun e2 _ _=>?_
 refine j_len 2 rfl fun e3 _ _=>?_
 refine j_len 3 rfl fun e4 _ _=>?_
 subst e1;subst e2;subst e3;subst e4
 have vN1 : val N1 = p.num.natAbs:=by rw [← num_rt p,h1]
 have vD1 : val D1 = p.den:=by rw [← den_rt p,h1]
 have vN2 : val N2 = q.num.natAbs:=by rw [← num_rt q,h2]
 have vD2 : val D2 = q.den:=by rw [← den_rt q,h2]
 have hg1 : g1 = decide (p.num < 0):=by rw [← neg_rt p,h1]
 have hg2 : g2 = decide (q.num < 0):=by rw [← neg_rt q,h2]
 have L1 : lenS [N1,D2] ≤ 1073741824:=Nat.le_trans (len2 l1 l4) (by decide)
 have L2 : lenS [N2,D1] ≤ 1073741824:=Nat.le_trans (len2 l3 l2) (by decide)
 have L3 : lenS [D1,D2] ≤ 1073741824:=Nat.le_trans (len2 l2 l4) (by decide)
 have vn1 : (limbs p.num.natAbs).length ≤ 134217728:=by have h:=congrArg (fun x : Rt3=>x.2.1) h1;simp only [rt] at h;rw [h];exact l1
 have vd1 : (limbs p.den).length ≤ 134217728:=by have h:=congrArg (fun x : Rt3=>x.2.2) h1;simp only [rt] at h;rw [h];exact l2
 have vn2 : (limbs q.num.natAbs).length ≤ 134217728:=by have h:=congrArg (fun x : Rt3=>x.2.1) h2;simp only [rt] at h;rw [h];exact l3
 have vd2 : (limbs q.den).length ≤ 134217728:=by have h:=congrArg (fun x : Rt3=>x.2.2) h2;simp only [rt] at h;rw [h];exact l4
 have LX:=prod_lim vn1 vd2
 have LY:=prod_lim vn2 vd1
 have LD:=prod_lim vd1 vd2
 have LS : (limbs (sumV [limbs (p.num.natAbs * q.den),limbs (q.num.natAbs * p.den)])).length ≤ 1073741824:=by rw [sum2,val_limbs,val_limbs];exact Nat.le_trans (sum_lim LX LY) (by decide)
 have A1 : ∀ l ∈ [limbs (p.num.natAbs * q.den),limbs (q.num.natAbs * p.den)],l.length ≤ 1073741824:=all2 (Nat.le_trans LX (by decide)) (Nat.le_trans LY (by decide))
 refine j_nf [_,_] rfl ?_
 refine j_step rfl (x_box_agg rfl fun b1=>?_)
 refine j_step rfl (x_box_agg rfl fun b2=>?_)
 refine j_step rfl (x_alloc zo26 fun b3=>?_)
 refine j_nf [_,_] rfl ?_
 (apply j_drawK it mx 12;(· rfl);(· rfl))
 (apply lxk_eq;(· rfl);(· exact d_x fun _=>x_field rfl fd26_1 dk_eq))
 (apply lxk_eq;(· rfl);(· exact d_bld 2 rfl rfl ld24 rfl))
 (apply lxk_eq;(· rfl);(· exact d_x fun _=>x_field rfl fd26_2 dk_eq))
 (apply lxk_eq;(· rfl);(· exact d_bld 1 rfl rfl ld24 rfl))
 (apply lxk_sl;(· rfl);(· exact d_x fun _=>x_lit sl117 zo117e rfl rfl rfl rfl (by decide) (by decide) rfl fun b4=>dk_all (E:=(encSl U32)) [[Value.slice pn1 N1.length cn1],[Value.slice pd2 D2.length cd2]] [N1,D2] (fun w A hG=>(allrd_cons (rd_of_slF (hG _ (fact_mem (n:=0) rfl))) (allrd_cons (rd_of_slF (hG _ (fact_mem (n:=3) rfl))) allrd_nil))) rfl rfl rfl (by first | decide | exact Nat.le_of_ble_eq_true rfl));intro pa1 ca1)
 (apply lxk_sl;(· rfl);(· exact d_x fun _=>x_call [0] rfl (S_nat_Mul (by omega)) rfl (by rintro _ _ _ ⟨pa2,ca2,rfl,rfl,rfl⟩;exact (dk_sl 0 rfl)));intro pa2 ca2)
 (apply lxk_eq;(· rfl);(· exact d_x fun _=>x_field rfl fd26_1 dk_eq))
 (apply lxk_eq;(· rfl);(· exact d_bld 1 rfl rfl ld24 rfl))
 (apply lxk_eq;(· rfl);(· exact d_x fun _=>x_field rfl fd26_2 dk_eq))
 (apply lxk_eq;(· rfl);(· exact d_bld 2 rfl rfl ld24 rfl))
 (apply lxk_sl;(· rfl);(· exact d_x fun _=>x_lit sl117 zo117e rfl rfl rfl rfl (by decide) (by decide) rfl fun b4=>dk_all (E:=(encSl U32)) [[Value.slice pn2 N2.length cn2],[Value.slice pd1 D1.length cd1]] [N2,D1] (fun w A hG=>(allrd_cons (rd_of_slF (hG _ (fact_mem (n:=2) rfl))) (allrd_cons (rd_of_slF (hG _ (fact_mem (n:=1) rfl))) allrd_nil))) rfl rfl rfl (by first | decide | exact Nat.le_of_ble_eq_true rfl));intro pa3 ca3)
 (apply lxk_sl;(· rfl);(· exact d_x fun _=>x_call [0] rfl (S_nat_Mul (by omega)) rfl (by rintro _ _ _ ⟨pa4,ca4,rfl,rfl,rfl⟩;exact (dk_sl 0 rfl)));intro pa4 ca4)
 refine lxk_end rfl ?_
 simp only [List.map_cons,List.map_nil,List.cons_append,List.nil_append]
 refine j_run it 2 rfl (by simp) ?_
 refine j_nf [_,_] rfl ?_
 refine j_step rfl (x_field rfl fd26_2 ?_)
 refine j_step rfl (x_bld 2 rfl rfl ld24 rfl ?_)
 refine j_step rfl (x_field rfl fd26_2 ?_)
 refine j_step rfl (x_bld 1 rfl rfl ld24 rfl ?_)
 refine j_step rfl (x_lit sl117 zo117e rfl rfl rfl rfl (by decide) (by decide) rfl fun b4=>?_)
 refine j_pub_all (E:=(encSl U32)) (n:=2) [[Value.slice pd1 D1.length cd1],[Value.slice pd2 D2.length cd2]] [D1,D2] 0 (fun w A hG=>(allrd_cons (rd_of_slF (hG _ (fact_mem (n:=5) rfl))) (allrd_cons (rd_of_slF (hG _ (fact_mem (n:=7) rfl))) allrd_nil))) rfl rfl rfl rfl (by first | decide | exact Nat.le_of_ble_eq_true rfl) (by first | decide | exact Nat.le_of_ble_eq_true rfl) ?_
 refine j_step rfl (x_call [0] rfl (S_nat_Mul (by omega)) rfl ?_)
 rintro _ _ _ ⟨pa5,ca5,rfl,rfl,rfl⟩
 simp only [List.cons_append,List.nil_append]
 refine j_run it 1 rfl (by simp) ?_
 refine j_nf [_,_,_] rfl ?_
 refine j_step rfl (x_field rfl fd26_0 ?_)
 refine j_step rfl (x_bld 2 rfl rfl ld4 rfl ?_)
 refine j_step rfl (x_field rfl fd26_0 ?_)
 refine j_step rfl (x_bld 1 rfl rfl ld4 rfl ?_)
 refine j_step rfl (x_eqb ub rfl rfl ?_)
 refine j_nf [_,_] rfl ?_
 refine j_cond rfl rfl (fun h3=>?_) (fun h3=>?_)
 ·have hs : g1 = g2:=by simpa using h3
  simp only [prod2,vN1,vD1,vN2,vD2]
  have e : vq (g1,limbs (sumV [limbs (p.num.natAbs * q.den),limbs (q.num.natAbs * p.den)]),limbs (p.den * q.den)) = p + q:=by
   rw [vq_eq]
   simp only [sum2,val_limbs]
   rw [hg1]
   exact add_same (by rw [← hg1,← hg2,hs])
  refine j_nf [_,_,_] rfl ?_
  (apply j_drawK it mx 8;(· rfl);(· rfl))
  (apply lxk_eq;(· rfl);(· exact d_x fun _=>x_field rfl fd26_0 dk_eq))
  (apply lxk_eq;(· rfl);(· exact d_bld 2 rfl rfl ld4 rfl))
  (apply lxk_run 2;(· rfl);(· simp))
  (apply lxk_sl;(· rfl);(· exact d_x fun _=>x_lit sl117 zo117e rfl rfl rfl rfl (by decide) (by decide) rfl fun b5=>dk_all (E:=(encSl U32)) [[Value.slice pa2 (limbs (p.num.natAbs * q.den)).length ca2],[Value.slice pa4 (limbs (q.num.natAbs * p.den)).length ca4]] [limbs (p.num.natAbs * q.den),limbs (q.num.natAbs * p.den)] (fun w A hG=>(allrd_cons (rd_of_slF (hG _ (fact_mem (n:=4) rfl))) (allrd_cons (rd_of_slF (hG _ (fact_mem (n:=2) rfl))) allrd_nil))) rfl rfl rfl (by first | decide | exact Nat.le_of_ble_eq_true rfl));intro pa6 ca6)
  (apply lxk_sl;(· rfl);(· exact d_x fun _=>x_call [0] rfl (S_nat_Add (by simp) (by omega)) rfl (by rintro _ _ _ ⟨pa7,ca7,rfl,rfl,rfl⟩;exact (dk_sl 0 rfl)));intro pa7 ca7)
  (apply lxk_run 1;(· rfl);(· simp))
  (apply lxk_rq;(· rfl);(· exact d_x fun _=>x_call [0,2] rfl (S_rational_canonical (by omega) (by omega)) rfl (by rintro _ _ _ ⟨pn3,cn3,pd3,cd3,rfl,rfl,rfl⟩;exact (dk_rq 0 1 rfl rfl)));intro pn3 cn3 pd3 cd3)
  simp only [vq_rt']
  refine lxk_end rfl ?_
  simp only [List.map_cons,List.map_nil,List.cons_append,List.nil_append]
  refine j_step rfl (x_bst_all 0 rfl rfl rfl ld26 rfl rfl (by simp [Value.oneCell']) ?_)
  refine j_nf [_,_] rfl ?_
  rw [e]
  refine j_givC [0,1] rfl (.agg 0 rfl rfl ld26 rfl .nil) rfl ⟨_,_,_,_,rfl,rfl,rfl⟩
 ·have hs : g1 ≠ g2:=by simpa using h3
  simp only [prod2,vN1,vD1,vN2,vD2]
  have hd : decide (p.num < 0) ≠ decide (q.num < 0):=by rw [← hg1,← hg2];exact hs
  by_cases hc : p.num.natAbs * q.den < q.num.natAbs * p.den
  ·have hc2 : cmpN (val (limbs (p.num.natAbs * q.den))) (val (limbs (q.num.natAbs * p.den))) < 0:=by rw [val_limbs,val_limbs,cmpN_lt hc];decide
   have hle : val (limbs (p.num.natAbs * q.den)) ≤ val (limbs (q.num.natAbs * p.den)):=by rw [val_limbs,val_limbs];omega
   have LB : (limbs (val (limbs (q.num.natAbs * p.den)) - val (limbs (p.num.natAbs * q.den)))).length ≤ 1073741824:=limbs_mono (Nat.le_trans LY (by decide)) (by rw [val_limbs,val_limbs];omega)
   have e : vq (g2,limbs (val (limbs (q.num.natAbs * p.den)) - val (limbs (p.num.natAbs * q.den))),limbs (p.den * q.den)) = p + q:=by
    rw [vq_eq]
    simp only [val_limbs]
    rw [hg2,Rat.add_comm,Nat.mul_comm p.den q.den]
    exact add_diff (fun h=>hd h.symm) (by omega)
   refine j_nf [_,_,_] rfl ?_
   refine j_run it 2 rfl (by simp) ?_
   refine j_step rfl (x_call [4,2] rfl (S_nat_Cmp) rfl ?_)
   rintro _ _ _ ⟨rfl,rfl,rfl⟩
   simp only [List.cons_append,List.nil_append]
   refine j_run it 1 rfl (by simp) ?_
   refine j_nf [_,_] rfl ?_
   refine j_if rfl rfl (fun h4=>?_) (fun h4=>by exfalso;omega)
   (apply j_drawK it mx 5;(· rfl);(· rfl))
   (apply lxk_run 2;(· rfl);(· simp))
   (apply lxk_eq;(· rfl);(· exact d_bld_all 1 rfl rfl ld26 rfl))
   (apply lxk_run 2;(· rfl);(· simp))
   refine lxk_end rfl ?_
   simp only [List.map_cons,List.map_nil,List.cons_append,List.nil_append]
   refine j_step rfl (x_bst_all 2 rfl rfl rfl ld26 rfl rfl (by simp [Value.oneCell']) ?_)
   refine j_nf [_,_] rfl ?_
   refine j_run it 2 rfl (by simp) ?_
   refine j_step rfl (x_call [2,4] rfl (S_nat_Sub (by omega)) rfl ?_)
   rintro _ _ _ ⟨pa6,ca6,rfl,rfl,rfl⟩
   simp only [List.cons_append,List.nil_append]
   refine j_run it 5 rfl (by simp) ?_
   refine j_nf [_,_] rfl ?_
   refine j_step rfl (x_field rfl fd26_0 ?_)
   refine j_step rfl (x_bld 2 rfl rfl ld4 rfl ?_)
   refine j_run it 2 rfl (by simp) ?_
   refine j_step rfl (x_call [0,1] rfl (S_rational_canonical (by omega) (by omega)) rfl ?_)
   rintro _ _ _ ⟨pn3,cn3,pd3,cd3,rfl,rfl,rfl⟩
   simp only [List.cons_append,List.nil_append]
   refine j_step rfl (x_bst_all 0 rfl rfl rfl ld26 rfl rfl (by simp [Value.oneCell']) ?_)
   refine j_nf [_] rfl ?_
   rw [e]
   refine j_givC [0,1] rfl (.agg 0 rfl rfl ld26 rfl .nil) rfl ⟨_,_,_,_,rfl,rfl,rfl⟩
  ·have hc2 : ¬ cmpN (val (limbs (p.num.natAbs * q.den))) (val (limbs (q.num.natAbs * p.den))) < 0:=by rw [val_limbs,val_limbs];unfold cmpN;split <;> (try split) <;> omega
   have hle : val (limbs (q.num.natAbs * p.den)) ≤ val (limbs (p.num.natAbs * q.den)):=by rw [val_limbs,val_limbs];omega
   have LB : (limbs (val (limbs (p.num.natAbs * q.den)) - val (limbs (q.num.natAbs * p.den)))).length ≤ 1073741824:=limbs_mono (Nat.le_trans LX (by decide)) (by rw [val_limbs,val_limbs];omega)
   have e : vq (g1,limbs (val (limbs (p.num.natAbs * q.den)) - val (limbs (q.num.natAbs * p.den))),limbs (p.den * q.den)) = p + q:=by
    rw [vq_eq]
    simp only [val_limbs]
    rw [hg1]
    exact add_diff hd (by omega)
   refine j_nf [_,_,_] rfl ?_
   refine j_run it 2 rfl (by simp) ?_
   refine j_step rfl (x_call [4,2] rfl (S_nat_Cmp) rfl ?_)
   rintro _ _ _ ⟨rfl,rfl,rfl⟩
   simp only [List.cons_append,List.nil_append]
   refine j_run it 1 rfl (by simp) ?_
   refine j_nf [_,_] rfl ?_
   refine j_if rfl rfl (fun h4=>by exfalso;omega) (fun h4=>?_)
   refine j_nf [_,_] rfl ?_
   refine j_run it 2 rfl (by simp) ?_
   refine j_step rfl (x_call [4,2] rfl (S_nat_Sub (by omega)) rfl ?_)
   rintro _ _ _ ⟨pa6,ca6,rfl,rfl,rfl⟩
   simp only [List.cons_append,List.nil_append]
   refine j_run it 5 rfl (by simp) ?_
   refine j_nf [_,_] rfl ?_
   refine j_step rfl (x_field rfl fd26_0 ?_)
   refine j_step rfl (x_bld 2 rfl rfl ld4 rfl ?_)
   refine j_run it 2 rfl (by simp) ?_
   refine j_step rfl (x_call [0,1] rfl (S_rational_canonical (by omega) (by omega)) rfl ?_)
   rintro _ _ _ ⟨pn3,cn3,pd3,cd3,rfl,rfl,rfl⟩
   simp only [List.cons_append,List.nil_append]
   refine j_step rfl (x_bst_all 0 rfl rfl rfl ld26 rfl rfl (by simp [Value.oneCell']) ?_)
   refine j_nf [_] rfl ?_
   rw [e]
   refine j_givC [0,1] rfl (.agg 0 rfl rfl ld26 rfl .nil) rfl ⟨_,_,_,_,rfl,rfl,rfl⟩
theorem rt_len {g : Bool} {N D : List Nat} {k : Nat} (hN : ∀ x ∈ N,x < 4294967296) (hD : ∀ x ∈ D,x < 4294967296) (lN : N.length ≤ k) (lD : D.length ≤ k) (hk : 1 ≤ k) : (rt (vq (g,N,D))).2.1.length ≤ k ∧ (rt (vq (g,N,D))).2.2.length ≤ k :=
 bd_len (bd_vq hN hD lN lD hk)
theorem rt_len_neg {g : Bool} {N D : List Nat} {k : Nat} (hN : ∀ x ∈ N,x < 4294967296) (hD : ∀ x ∈ D,x < 4294967296) (lN : N.length ≤ k) (lD : D.length ≤ k) (hk : 1 ≤ k) : (rt (-vq (g,N,D))).2.1.length ≤ k ∧ (rt (-vq (g,N,D))).2.2.length ≤ k :=
 bd_len (bd_neg (bd_vq hN hD lN lD hk))
theorem S_rational_Sub {g1 g2 : Bool} {pn1 pd1 pn2 pd2 : Option Addr} {n1 m1 n2 m2 cn1 cd1 cn2 cd2 : Nat} {N1 D1 N2 D2 : List Nat}
  (l1 : N1.length ≤ 33554432) (l2 : D1.length ≤ 33554432) (l3 : N2.length ≤ 33554432) (l4 : D2.length ≤ 33554432) :
  Ctr Tryz.prog 64 [.agg #[.bool g1,.slice pn1 n1 cn1,.slice pd1 m1 cd1],.agg #[.bool g2,.slice pn2 n2 cn2,.slice pd2 m2 cd2]] [] [slF U32 pn1 n1 cn1 N1,slF U32 pd1 m1 cd1 D1,slF U32 pn2 n2 cn2 N2,slF U32 pd2 m2 cd2 D2] (RtV (rt (vq (g1,N1,D1) - vq (g2,N2,D2)))):=by
 refine Ctr_of_j' (F:=F_rational_Sub) rfl fun C=>?_
 refine j_range 0 rfl fun r1=>?_
 refine j_range 1 rfl fun r2=>?_
 refine j_range 2 rfl fun r3=>?_
 refine j_range 3 rfl fun r4=>?_
 obtain ⟨k1,k2⟩:=rt_len (g:=g1) (lim r1) (lim r2) l1 l2 (by decide)
 obtain ⟨k3,k4⟩:=rt_len_neg (g:=g2) (lim r3) (lim r4) l3 l4 (by decide)
 refine j_nf [_,_] rfl ?_
 refine j_step rfl (x_box_agg rfl fun b1=>?_)
 refine j_step rfl (x_box_agg rfl fun b2=>?_)
 refine j_step rfl (x_alloc zo26 fun b3=>?_)
 refine j_nf [_,_] rfl ?_
 (apply j_drawK it mx 5;(· rfl);(· rfl))
 (apply lxk_eq;(· rfl);(· exact d_bld_all 2 rfl rfl ld26 rfl))
 (apply lxk_rq;(· rfl);(· exact d_x fun _=>x_call [0,1] rfl (S_rational_Trim (by omega) (by omega)) rfl (by rintro _ _ _ ⟨pn3,cn3,pd3,cd3,rfl,rfl,rfl⟩;exact (dk_rq 0 1 rfl rfl)));intro pn3 cn3 pd3 cd3)
 simp only [vq_rt']
 (apply lxk_eq;(· rfl);(· exact d_bld_all 1 rfl rfl ld26 rfl))
 (apply lxk_rq;(· rfl);(· exact d_x fun _=>x_call [4,5] rfl (S_rational_Neg (by omega) (by omega)) rfl (by rintro _ _ _ ⟨pn4,cn4,pd4,cd4,rfl,rfl,rfl⟩;exact (dk_rq 0 1 rfl rfl)));intro pn4 cn4 pd4 cd4)
 simp only [vq_rt']
 (apply lxk_rq;(· rfl);(· exact d_x fun _=>x_call [2,3,0,1] rfl (S_rational_plus (by rfl) (by rfl) (by omega) (by omega) (by omega) (by omega)) rfl (by rintro _ _ _ ⟨pn5,cn5,pd5,cd5,rfl,rfl,rfl⟩;exact (dk_rq 0 1 rfl rfl)));intro pn5 cn5 pd5 cd5)
 simp only [vq_rt']
 refine lxk_end rfl ?_
 simp only [List.map_cons,List.map_nil,List.cons_append,List.nil_append]
 refine j_step rfl (x_bst_all 0 rfl rfl rfl ld26 rfl rfl (by simp [Value.oneCell']) ?_)
 refine j_nf [_] rfl ?_
 rw [← Rat.sub_eq_add_neg]
 refine j_givC [0,1] rfl (.agg 0 rfl rfl ld26 rfl .nil) rfl ⟨_,_,_,_,rfl,rfl,rfl⟩
theorem S_rational_Cmp {g1 g2 : Bool} {pn1 pd1 pn2 pd2 : Option Addr} {n1 m1 n2 m2 cn1 cd1 cn2 cd2 : Nat} {N1 D1 N2 D2 : List Nat}
  (l1 : N1.length ≤ 33554432) (l2 : D1.length ≤ 33554432) (l3 : N2.length ≤ 33554432) (l4 : D2.length ≤ 33554432) :
  Ctr Tryz.prog 41 [.agg #[.bool g1,.slice pn1 n1 cn1,.slice pd1 m1 cd1],.agg #[.bool g2,.slice pn2 n2 cn2,.slice pd2 m2 cd2]] [] [slF U32 pn1 n1 cn1 N1,slF U32 pd1 m1 cd1 D1,slF U32 pn2 n2 cn2 N2,slF U32 pd2 m2 cd2 D2] (Rv (.int .i64 (vq (g1,N1,D1) - vq (g2,N2,D2)).num.sign) []):=by
 refine Ctr_of_j' (F:=F_rational_Cmp) rfl fun C=>?_
 refine j_nf [_,_] rfl (j_step rfl (x_box_agg rfl fun b1=>?_))
 refine j_step rfl (x_box_agg rfl fun b2=>?_)
 refine j_run it 1 rfl (by simp) ?_
 refine j_nf [_,_] rfl (j_step rfl (x_bld_all 1 rfl rfl ld26 rfl ?_))
 refine j_step rfl (x_bld_all 0 rfl rfl ld26 rfl ?_)
 refine j_step rfl (x_call [0,1,2,3] rfl (S_rational_Sub (by omega) (by omega) (by omega) (by omega)) rfl ?_)
 rintro _ _ _ ⟨pn3,cn3,pd3,cd3,rfl,rfl,rfl⟩
 simp only [List.cons_append,List.nil_append]
 refine j_step rfl (x_call [0,1] rfl (S_rational_Sign) rfl ?_)
 rintro _ _ _ ⟨rfl,rfl,rfl⟩
 simp only [List.cons_append,List.nil_append]
 simp only [vq_rt']
 refine j_run it 1 rfl (by simp) ?_
 refine j_nf [_] rfl ?_
 refine j_giv [] rfl rfl rfl ⟨rfl,rfl,rfl⟩
theorem rts_range {P : Program} {F : Fun P} {C : Cx} {S : List It} {σ : Fr} {β : List Blk} {Γ : List Fact} {R : Value → World → Prop} {pa : Option Addr} {n ca : Nat} {ls : List Rt} (k : Nat) (hk : nth Γ k = some (slF RatE pa n ca ls))
  (h : (∀ r ∈ ls,(∀ x ∈ r.2.1,x < 4294967296) ∧ (∀ x ∈ r.2.2,x < 4294967296)) → J F C S σ β Γ R) : J F C S σ β Γ R :=
 j_know (fun w A hG r hr=>by
  obtain ⟨_,_,_,hs⟩:=hG _ (fact_mem hk)
  rcases hs with rfl | ⟨b,o,_,_,hel⟩
  ·cases hr
  ·obtain ⟨i,hi⟩:=List.getElem?_of_mem hr
   obtain ⟨vs,_,hrd⟩:=hel i r hi
   obtain ⟨_,_,_,_,_,h1,h2⟩:=rt_open hrd
   have key : ∀ {pa ca} {l : List Nat},SlRd U32 w A pa ca l → ∀ x ∈ l,x < 4294967296:=by
    intro pa ca l hs x hx
    obtain ⟨_,_,hs⟩:=hs
    rcases hs with rfl | ⟨b',o',_,_,hel'⟩
    ·cases hx
    ·obtain ⟨j,hj⟩:=List.getElem?_of_mem hx
     obtain ⟨vs,_,_,hR⟩:=hel' j x hj
     simp only [InR] at hR;omega
   exact ⟨key h1,key h2⟩) h
theorem S_rational_Mul {pa : Option Addr} {n ca K : Nat} {ls : List Rt} (hK : 1 ≤ K) (hL : ∀ r ∈ ls,r.2.1.length ≤ K ∧ r.2.2.length ≤ K) (hn : K * ls.length ≤ 134217728) (hK2 : K ≤ 134217728) :
  Ctr Tryz.prog 63 [.slice pa n ca] [] [slF RatE pa n ca ls] (RtV (rt (prodQ ls))):=by
 refine Ctr_of_j' (F:=F_rational_Mul) rfl fun C=>?_
 refine j_len 0 rfl fun e1 hb _=>?_
 subst e1
 have hb' : ls.length * 56 ≤ 140737488355328:=hb
 refine rts_range 0 rfl fun hr=>?_
 have hok : ∀ r ∈ ls,okR K r:=fun r h=>⟨(hr r h).1,(hr r h).2,(hL r h).1,(hL r h).2⟩
 refine j_nf [_,_] rfl ?_
 refine j_step rfl (x_alloc zo26 fun b1=>?_)
 refine j_nf [_,_] rfl ?_
 refine j_step rfl (x_call [] rfl (S_rational_one) rfl ?_)
 rintro _ _ _ ⟨pa1,ca1,rfl,rfl,rfl⟩
 simp only [List.cons_append,List.nil_append]
 refine j_step rfl (x_call [] rfl (S_rational_one) rfl ?_)
 rintro _ _ _ ⟨pa2,ca2,rfl,rfl,rfl⟩
 simp only [List.cons_append,List.nil_append]
 refine j_run it 3 rfl (by simp) ?_
 refine j_nf [_,_,_] rfl ?_
 refine j_run it 1 rfl (by simp) ?_
 refine j_step rfl (x_len sl27 rfl ?_)
 refine j_run it 1 rfl (by simp) ?_
 refine j_nf [_,_,_] rfl ?_
 refine j_loopG (X:=Nat × Rat × (Option Addr × Nat) × (Option Addr × Nat)) [2,11,12] [2] (fun x=>[(3,.bool (rt x.2.1).1),(4,.slice x.2.2.1.1 (rt x.2.1).2.1.length x.2.2.1.2),(5,.slice x.2.2.2.1 (rt x.2.1).2.2.length x.2.2.2.2),(13,.int .i64 x.1)])
  (fun _=>[(some b1,26,[.bool false,.slice none 0 0,.slice none 0 0])]) (fun x=>[slF U32 x.2.2.1.1 (rt x.2.1).2.1.length x.2.2.1.2 (rt x.2.1).2.1,slF U32 x.2.2.2.1 (rt x.2.1).2.2.length x.2.2.2.2 (rt x.2.1).2.2])
  (fun x=>x.1 ≤ ls.length ∧ x.2.1 = prodQ (ls.take x.1)) (fun x=>ls.length - x.1) (0,1,(pa1,ca1),(pa2,ca2)) [1,0] rfl rfl rfl ⟨Nat.zero_le _,by simp [prodQ]⟩ (by rw [rt_one];repeat (first | exact Fr.sub_nil _ | refine Fr.sub_cons rfl ?_)) rfl (by rw [rt_one];rfl) ?_
 rintro ⟨k,q,⟨pn,cn⟩,⟨pd,cd⟩⟩ ⟨hk,hq⟩ ih
 simp only [List.cons_append,List.nil_append] at hk hq ih ⊢
 by_cases hkl : k < ls.length
 ·have hbq : bd (K * k + 1) q:=by
   rw [hq]
   exact bd_mono (prodQ_bd hK fun r h=>hok r (List.mem_of_mem_take h)) (by simp;rw [Nat.min_eq_left (by omega)];omega)
  have hKk : K * k + K ≤ K * ls.length:=by rw [← Nat.mul_succ];exact Nat.mul_le_mul_left _ hkl
  refine j_nf [_,_,_,_,_] rfl ?_
  refine j_run it 1 rfl (by simp) ?_
  refine j_nf [_,_,_,_,_] rfl ?_
  refine j_if rfl rfl (fun h1=>?_) (fun h1=>by exfalso;omega)
  refine j_nf [_,_,_,_,_,_,_] rfl ?_
  refine j_step rfl (x_idx 2 (k) rfl rfl rfl sl27 rfl (by omega) fun z1 hz1 b2 o1=>?_)
  refine j_step rfl (x_ld_rt 0 rfl rfl ld26 fun pa3 ca3 pa4 ca4=>?_)
  refine j_step rfl (x_alloc zo26 fun b3=>?_)
  refine j_step rfl (x_bst_all 0 rfl rfl rfl ld26 rfl rfl (by simp [Value.oneCell']) ?_)
  refine j_nf [_,_,_,_,_,_,_] rfl ?_
  refine j_step rfl (x_bld_all 0 rfl rfl ld26 rfl ?_) --ok
  have hm:=List.mem_of_getElem? hz1
  obtain ⟨zg,zN,zD⟩:=z1
  obtain ⟨y1,y2,y3,y4⟩:=hok _ hm
  obtain ⟨w1,w2⟩:=rt_len (g:=zg) (N:=zN) (D:=zD) y1 y2 y3 y4 hK
  obtain ⟨w3,w4⟩:=bd_len hbq
  dsimp only at y3 y4 ⊢
  have L1 : lenS [(rt q).2.1,(rt (vq (zg,zN,zD))).2.1] ≤ 1073741824:=by simp [lenS];omega
  have L2 : lenS [(rt q).2.2,(rt (vq (zg,zN,zD))).2.2] ≤ 1073741824:=by simp [lenS];omega
  have L3 : (limbs (prodV [(rt q).2.1,(rt (vq (zg,zN,zD))).2.1])).length ≤ 1073741824:=by
   rw [prod2,num_rt,num_rt]
   exact Nat.le_trans (limbs_length_le (mul_pow hbq.1 (limbs_le_length w1))) (by omega)
  have L4 : (limbs (prodV [(rt q).2.2,(rt (vq (zg,zN,zD))).2.2])).length ≤ 1073741824:=by
   rw [prod2,den_rt,den_rt]
   exact Nat.le_trans (limbs_length_le (mul_pow hbq.2 (limbs_le_length w2))) (by omega)
  have e : vq ((rt q).1 != (rt (vq (zg,zN,zD))).1,limbs (prodV [(rt q).2.1,(rt (vq (zg,zN,zD))).2.1]),limbs (prodV [(rt q).2.2,(rt (vq (zg,zN,zD))).2.2])) = q * vq (zg,zN,zD):=by
   rw [vq_eq]
   simp only [prod2,val_limbs,num_rt,den_rt,neg_rt]
   exact mul_mk _ _
  refine j_step rfl (x_call [0,1] rfl (S_rational_Trim (by omega) (by omega)) rfl ?_)
  rintro _ _ _ ⟨pn1,cn1,pd1,cd1,rfl,rfl,rfl⟩
  simp only [List.cons_append,List.nil_append]
  refine j_step rfl (x_bst_all 0 rfl rfl rfl ld26 rfl rfl (by simp [Value.oneCell']) ?_)
  refine j_nf [_,_,_,_,_,_,_] rfl ?_
  (apply j_drawK it mx 16;(· rfl);(· rfl))
  (apply lxk_run 1;(· rfl);(· simp))
  (apply lxk_eq;(· rfl);(· exact d_x fun _=>x_field rfl fd26_0 dk_eq))
  (apply lxk_eq;(· rfl);(· exact d_bld 0 rfl rfl ld4 rfl))
  (apply lxk_eq;(· rfl);(· exact d_x fun _=>x_neb ub rfl rfl dk_eq))
  (apply lxk_run 1;(· rfl);(· simp))
  (apply lxk_eq;(· rfl);(· exact d_x fun _=>x_field rfl fd26_1 dk_eq))
  (apply lxk_eq;(· rfl);(· exact d_bld 0 rfl rfl ld24 rfl))
  (apply lxk_sl;(· rfl);(· exact d_x fun _=>x_lit sl117 zo117e rfl rfl rfl rfl (by decide) (by decide) rfl fun b4=>dk_all (E:=(encSl U32)) [[Value.slice pn (rt q).snd.fst.length cn],[Value.slice pn1 (rt (vq (zg,zN,zD))).snd.fst.length cn1]] [(rt q).snd.fst,(rt (vq (zg,zN,zD))).snd.fst] (fun w A hG=>(allrd_cons (rd_of_slF (hG _ (fact_mem (n:=5) rfl))) (allrd_cons (rd_of_slF (hG _ (fact_mem (n:=0) rfl))) allrd_nil))) rfl rfl rfl (by first | decide | exact Nat.le_of_ble_eq_true rfl));intro pa5 ca5)
  (apply lxk_sl;(· rfl);(· exact d_x fun _=>x_call [0] rfl (S_nat_Mul (by omega)) rfl (by rintro _ _ _ ⟨pa6,ca6,rfl,rfl,rfl⟩;exact (dk_sl 0 rfl)));intro pa6 ca6)
  (apply lxk_run 1;(· rfl);(· simp))
  (apply lxk_eq;(· rfl);(· exact d_x fun _=>x_field rfl fd26_2 dk_eq))
  (apply lxk_eq;(· rfl);(· exact d_bld 0 rfl rfl ld24 rfl))
  (apply lxk_sl;(· rfl);(· exact d_x fun _=>x_lit sl117 zo117e rfl rfl rfl rfl (by decide) (by decide) rfl fun b4=>dk_all (E:=(encSl U32)) [[Value.slice pd (rt q).snd.snd.length cd],[Value.slice pd1 (rt (vq (zg,zN,zD))).snd.snd.length cd1]] [(rt q).snd.snd,(rt (vq (zg,zN,zD))).snd.snd] (fun w A hG=>(allrd_cons (rd_of_slF (hG _ (fact_mem (n:=6) rfl))) (allrd_cons (rd_of_slF (hG _ (fact_mem (n:=1) rfl))) allrd_nil))) rfl rfl rfl (by first | decide | exact Nat.le_of_ble_eq_true rfl));intro pa7 ca7)
  (apply lxk_sl;(· rfl);(· exact d_x fun _=>x_call [0] rfl (S_nat_Mul (by omega)) rfl (by rintro _ _ _ ⟨pa8,ca8,rfl,rfl,rfl⟩;exact (dk_sl 0 rfl)));intro pa8 ca8)
  (apply lxk_rq;(· rfl);(· exact d_x fun _=>x_call [2,0] rfl (S_rational_canonical (by omega) (by omega)) rfl (by rintro _ _ _ ⟨pn2,cn2,pd2,cd2,rfl,rfl,rfl⟩;exact (dk_rq 0 1 rfl rfl)));intro pn2 cn2 pd2 cd2)
  simp only [vq_rt']
  (apply lxk_alloc;(· rfl);(· exact zo26);intro b4)
  refine lxk_end rfl ?_
  simp only [List.map_cons,List.map_nil,List.cons_append,List.nil_append]
  refine j_step rfl (x_bst_all 0 rfl rfl rfl ld26 rfl rfl (by simp [Value.oneCell']) ?_)
  refine j_nf [_,_,_,_,_,_] rfl ?_
  (apply j_drawK it mx 8;(· rfl);(· rfl))
  (apply lxk_eq;(· rfl);(· exact d_x fun _=>x_field rfl fd26_0 dk_eq))
  (apply lxk_eq;(· rfl);(· exact d_bld 0 rfl rfl ld4 rfl))
  (apply lxk_eq;(· rfl);(· exact d_x fun _=>x_field rfl fd26_1 dk_eq))
  (apply lxk_eq;(· rfl);(· exact d_bld 0 rfl rfl ld24 rfl))
  (apply lxk_eq;(· rfl);(· exact d_x fun _=>x_field rfl fd26_2 dk_eq))
  (apply lxk_eq;(· rfl);(· exact d_bld 0 rfl rfl ld24 rfl))
  (apply lxk_run 2;(· rfl);(· simp))
  refine lxk_end rfl ?_
  simp only [List.map_cons,List.map_nil,List.cons_append,List.nil_append]
  refine j_run it 1 rfl (by simp) ?_
  refine j_nf [_,_,_,_] rfl ?_
  refine j_run it 2 rfl ⟨trivial,⟨by omega,by omega⟩,trivial⟩ ?_
  refine j_nfn 1 [.lp (pL 116),.blk 0,.c [1,1,1]] rfl ?_
  rw [e]
  refine j_toM [false,false,true] [0,1,13] (by exact fra rfl) rfl rfl (ih (k + 1,q * vq (zg,zN,zD),(pn2,cn2),(pd2,cd2)) (by simp only;omega) ⟨by simp only;omega,by simp only;rw [prodQ_take hz1,hq]⟩)
 ·have ek : k = ls.length:=by omega
  subst ek
  rw [List.take_length] at hq
  subst hq
  refine j_nf [_,_,_,_,_] rfl ?_
  refine j_run it 1 rfl (by simp) ?_
  refine j_nf [_,_,_,_,_] rfl ?_
  refine j_if rfl rfl (fun h1=>by exfalso;omega) (fun h1=>?_)
  refine j_nf [_,_] rfl ?_
  refine j_run it 3 rfl (by simp) ?_
  refine j_step rfl (x_build (cs:=[Value.bool (rt (prodQ ls)).fst,Value.slice pn (rt (prodQ ls)).snd.fst.length cn,Value.slice pd (rt (prodQ ls)).snd.snd.length cd]) st26 zo26 rfl rfl ?_)
  refine j_step rfl (x_bst_all 0 rfl rfl rfl ld26 rfl rfl (by simp [Value.oneCell']) ?_)
  refine j_nf [_] rfl ?_
  refine j_givC [0,1] rfl (.agg 0 rfl rfl ld26 rfl .nil) rfl ⟨_,_,_,_,rfl,rfl,rfl⟩
set_option maxHeartbeats 1000000
theorem S_codewrightref01_Trim {pa : Option Addr} {n ca : Nat} {l : List Nat} : Ctr Tryz.prog 49 [.slice pa n ca] [] [slF U32 pa n ca l] (Sv U32 (trim l)):=by
 refine Ctr_of_j' (F:=F_codewrightref01_Trim) rfl fun C=>?_
 refine j_len 0 rfl fun hn hb hc=>?_
 subst hn
 have hb' : l.length * 4 ≤ 140737488355328:=hb
 have done : ∀ k,k ≤ l.length → trim l = l.take k → J F_codewrightref01_Trim C [.c [1,1,1]] [(0,.slice pa l.length ca),(3,.int .i64 k)] [] [slF U32 pa l.length ca l] (Gives C (Sv U32 (trim l))):=by
  intro k hk he
  have hlk : (l.take k).length = k:=by rw [List.length_take];omega
  refine j_nf [_,_] rfl (j_step rfl (x_lit0 sl24 fun b1=>?_))
  refine j_run it 2 rfl (by simp) ?_
  refine j_step rfl (x_slice_h 0 (k) rfl rfl rfl sl24 (by omega) (by omega) ?_)
  refine j_step rfl (x_app_sl 0 0 rfl rfl rfl rfl sl24 zo24e rfl (by first | exact GrOk.nil _ | assumption | exact .inr ⟨_,rfl,Nat.le_refl _,by omega,rfl⟩) (by omega) _ by24e (by omega) fun bo1 cap1 cs1 vss1 hg1 ht1=>?_)
  refine j_run it 1 rfl (by simp) ?_
  refine j_nf [_] rfl ?_
  simp only [Nat.zero_add] at hg1 ht1 ⊢
  refine j_pub 0 0 rfl rfl hg1 (by simpa using ht1) hlk.symm (by show _ * 4 ≤ _;omega) ?_
  refine j_giv [0] rfl rfl rfl ⟨_,_,by rw [he,hlk];rfl,by rw [he,hlk],rfl⟩
 refine j_nf [_,_] rfl (j_run it 1 rfl (by simp) ?_)
 refine j_nf [_,_] rfl (j_run it 1 rfl (by simp) ?_)
 refine j_step rfl (x_len sl24 rfl ?_)
 refine j_run it 1 rfl (by simp) ?_
 refine j_nf [_,_,_] rfl ?_
 refine j_loopN (X:=Nat) (fun k=>[(0,.slice pa l.length ca),(3,.int .i64 k)]) (fun _=>[]) (fun _=>[slF U32 pa l.length ca l]) (fun k=>k ≤ l.length ∧ trim (l.take k) = trim l) (fun k=>k) l.length [0] rfl ⟨Nat.le_refl _,by rw [List.take_length]⟩ (by repeat (first | exact Fr.sub_nil _ | refine Fr.sub_cons rfl ?_)) rfl rfl ?_
 intro k ⟨hk,ht⟩ ih
 by_cases hk0 : 0 < k
 ·obtain ⟨z,hz⟩ : ∃ z,l[k - 1]? = some z:=⟨_,List.getElem?_eq_getElem (show k - 1 < l.length by omega)⟩
  have side : ∀ y,l[k - 1]? = some y → y = z:=fun y hy=>by rw [hz] at hy;exact (Option.some.inj hy).symm
  refine j_nf [_,_,_,_,_,_] rfl (j_run it 3 rfl (by simp) ?_)
  refine j_split_dec (t:=8) rfl (fun h1=>?_) (fun h1=>by exfalso;omega)
  refine j_run it 3 rfl ⟨⟨by omega,by omega⟩,trivial,trivial,trivial⟩ ?_
  refine j_gstep rfl rfl (x_idx 0 ((k) - 1) rfl rfl rfl sl24 (by omega) (by omega) fun z1 hz1 b1 o1=>?_)
  refine j_gstep rfl rfl (x_ld_nat 0 rfl rfl ld73 fun ⟨r1,r2⟩=>?_)
  refine j_run it 2 rfl (by simp) ?_
  refine j_nf [_,_,_,_,_] rfl (j_if rfl rfl (fun h2=>?_) (fun h2=>?_))
  ·have e:=side z1 hz1
   have hz0 : z1 = 0:=by omega
   subst hz0
   refine j_nf [_,_,_,_,_] rfl (j_run it 3 rfl ⟨trivial,⟨by omega,by omega⟩,trivial,trivial⟩ ?_)
   refine j_nfn 2 [.lp [1,1,0,0,0],.blk 0,.c [1,1,1]] rfl ?_
   refine j_to [1] (by exact fcc rfl (fii rfl (by omega) (fzz _))) rfl rfl (ih (k - 1) (by omega) ⟨by omega,by rw [← trim_take_zero hz1];rw [show k - 1 + 1 = k by omega];exact ht⟩)
  ·refine j_nfn 1 [.c [1,1,1]] rfl ?_
   refine j_to [1] (by exact fra rfl) rfl rfl (done k hk (by rw [← ht];have:=trim_take_ne hz1 (by omega);rwa [show k - 1 + 1 = k by omega] at this))
 ·refine j_nf [_,_,_,_,_,_] rfl (j_run it 3 rfl (by simp) ?_)
  refine j_split_dec (t:=8) rfl (fun h1=>by exfalso;omega) (fun h1=>?_)
  refine j_run it 7 rfl (by simp) ?_
  refine j_nf [_,_,_,_,_] rfl ?_
  refine j_false rfl rfl ?_
  refine j_nfn 1 [.c [1,1,1]] rfl ?_
  refine j_to [0] (by exact fra rfl) rfl rfl (done k hk (by rw [← ht,show k = 0 by omega];rfl))
theorem val_two' (n : Nat) : val [n % 4294967296,n / 4294967296] = n:=by simp only [val];omega
theorem S_codewrightref01_Of {n : Nat} (hn : n < 18446744073709551616) : Ctr Tryz.prog 23 [.int .u64 n] [] [] (Sv U32 (limbs n)):=by
 refine Ctr_of_j' (F:=F_codewrightref01_Of) rfl fun C=>?_
 refine j_nf [_,_] rfl (j_run it 1 rfl (by simp) ?_)
 refine j_nf [_,_] rfl (j_run it 6 rfl ⟨⟨by omega,by omega⟩,⟨by omega,by omega,by omega,by omega⟩,trivial,⟨by omega,by omega⟩,⟨by omega,by omega⟩,trivial,trivial⟩ ?_)
 refine j_step rfl (x_lit sl24 zo24e rfl rfl rfl rfl (by decide) (by decide) rfl fun b1=>?_)
 refine j_pub_made (n:=2) (kd:=IntKind.u32) 4 [((n) % 4294967296),((n) / 4294967296)] 0 rfl rfl (by first | (simp [InR];done) | (simp only [InR,List.mem_cons,List.not_mem_nil,or_false,forall_eq_or_imp,forall_eq];omega)) (by decide) (by decide) ?_
 refine j_step rfl (x_call [0] rfl (S_codewrightref01_Trim) rfl ?_)
 rintro _ _ _ ⟨pa1,ca1,rfl,rfl,rfl⟩
 simp only [List.cons_append,List.nil_append]
 refine j_run it 1 rfl (by simp) ?_
 refine j_nf [_] rfl ?_
 rw [trim_eq (l:=[n % 4294967296,n / 4294967296]) (by simp;omega),val_two']
 refine j_giv [0] rfl rfl rfl ⟨_,_,rfl,rfl,rfl⟩
theorem S_codewrightref01_limb {pa : Option Addr} {n ca i : Nat} {l : List Nat} : Ctr Tryz.prog 47 [.slice pa n ca,.int .i64 i] [] [slF U32 pa n ca l] (Rv (.int .u64 (l.getD i 0 : Nat)) []):=by
 refine Ctr_of_j' (F:=F_codewrightref01_limb) rfl fun C=>?_
 refine j_len 0 rfl fun hn hb hc=>?_
 subst hn
 by_cases hi : i < l.length
 ·refine j_nf [_,_] rfl (j_run it 1 rfl (by simp) ?_)
  refine j_nf [_,_,_] rfl (j_run it 2 rfl (by simp) ?_)
  refine j_step rfl (x_len sl24 rfl ?_)
  refine j_run it 1 rfl (by simp) ?_
  refine j_nf [_,_] rfl (j_if rfl rfl (fun h1=>?_) (fun h1=>by exfalso;omega))
  refine j_nf [_,_,_] rfl (j_run it 2 rfl (by simp) ?_)
  refine j_step rfl (x_idx 0 (i) rfl rfl rfl sl24 rfl (by omega) fun z1 hz1 b1 o1=>?_)
  refine j_step rfl (x_ld_nat 0 rfl rfl ld73 fun ⟨r1,r2⟩=>?_)
  refine j_run it 2 rfl ⟨trivial,⟨by omega,by omega⟩,trivial⟩ ?_
  refine j_nf [_,_] rfl ?_
  have e : l.getD i 0 = z1:=by rw [List.getD,hz1];rfl
  refine j_giv [] rfl rfl rfl ⟨by rw [e];rfl,rfl,rfl⟩
 ·refine j_nf [_,_] rfl (j_run it 1 rfl (by simp) ?_)
  refine j_nf [_,_,_] rfl (j_run it 2 rfl (by simp) ?_)
  refine j_step rfl (x_len sl24 rfl ?_)
  refine j_run it 1 rfl (by simp) ?_
  refine j_nf [_,_] rfl (j_if rfl rfl (fun h1=>by exfalso;omega) (fun h1=>?_))
  refine j_nf [_,_] rfl (j_run it 1 rfl (by simp) ?_)
  refine j_nf [_] rfl ?_
  have e : l.getD i 0 = 0:=by rw [List.getD,List.getElem?_eq_none (by omega)];rfl
  refine j_giv [] rfl rfl rfl ⟨by rw [e];rfl,rfl,rfl⟩
theorem S_codewrightref01_Zero {pa : Option Addr} {n ca : Nat} {l : List Nat} : Ctr Tryz.prog 75 [.slice pa n ca] [] [slF U32 pa n ca l] (Rv (.bool (decide (((trim l).length : Int) = 0))) []):=by
 refine Ctr_of_j' (F:=F_codewrightref01_Zero) rfl fun C=>?_
 refine j_nf [_,_] rfl (j_run it 1 rfl (by simp) ?_)
 refine j_nf [_,_] rfl (j_run it 1 rfl (by simp) ?_)
 refine j_step rfl (x_call [0] rfl (S_codewrightref01_Trim) rfl ?_)
 rintro _ _ _ ⟨pa1,ca1,rfl,rfl,rfl⟩
 simp only [List.cons_append,List.nil_append]
 refine j_step rfl (x_len sl24 rfl ?_)
 refine j_run it 2 rfl (by simp) ?_
 refine j_nf [_] rfl ?_
 refine j_giv [] rfl rfl rfl ⟨rfl,rfl,rfl⟩
theorem take_eq_step {a b : List Nat} {k : Nat} (h : a.take k = b.take k) (ha : k < a.length) (hb : k < b.length) (e : a.getD k default = b.getD k default) : a.take (k + 1) = b.take (k + 1):=by
 rw [List.take_add_one,List.take_add_one,h,List.getElem?_eq_getElem ha,List.getElem?_eq_getElem hb]
 rw [List.getD,List.getD,List.getElem?_eq_getElem ha,List.getElem?_eq_getElem hb] at e
 simp only [Option.getD_some] at e
 rw [e]
theorem S_codewrightref01_Same {pa pb : Option Addr} {n m ca cb : Nat} {a b : List Nat} : Ctr Tryz.prog 24 [.slice pa n ca,.slice pb m cb] [] [slF U32 pa n ca a,slF U32 pb m cb b] (Rv (.bool (decide (a = b))) []):=by
 refine Ctr_of_j' (F:=F_codewrightref01_Same) rfl fun C=>?_
 refine j_len 0 rfl fun hn hba _=>?_
 refine j_len 1 rfl fun hm _ _=>?_
 subst hn;subst hm
 have hba' : a.length * 4 ≤ 140737488355328:=hba
 by_cases hl : a.length = b.length
 ·refine j_nf [_,_] rfl ?_
  refine j_run it 1 rfl (by simp) ?_
  refine j_nf [_,_,_] rfl ?_
  refine j_run it 1 rfl (by simp) ?_
  refine j_step rfl (x_len sl24 rfl ?_)
  refine j_run it 1 rfl (by simp) ?_
  refine j_step rfl (x_len sl24 rfl ?_)
  refine j_run it 1 rfl (by simp) ?_
  refine j_nf [_,_] rfl ?_
  refine j_ifn rfl rfl (fun h1=>by exfalso;omega) (fun h1=>?_)
  refine j_nf [_,_,_] rfl ?_
  refine j_run it 1 rfl (by simp) ?_
  refine j_nf [_,_,_] rfl ?_
  refine j_loopN (X:=Nat) (fun k=>[(0,.slice pa a.length ca),(1,.slice pb b.length cb),(5,.int .i64 k)]) (fun _=>[]) (fun _=>[slF U32 pa a.length ca a,slF U32 pb b.length cb b]) (fun k=>k ≤ a.length ∧ a.take k = b.take k) (fun k=>a.length - k) 0 [0,1] rfl ⟨Nat.zero_le _,by simp⟩ (by repeat (first | exact Fr.sub_nil _ | refine Fr.sub_cons rfl ?_)) rfl rfl ?_
  intro k ⟨hk,ht⟩ ih
  by_cases hkl : k < a.length
  ·refine j_nf [_,_,_,_,_,_] rfl ?_
   refine j_run it 2 rfl (by simp) ?_
   refine j_step rfl (x_len sl24 rfl ?_)
   refine j_run it 1 rfl (by simp) ?_
   refine j_nf [_,_,_,_,_] rfl ?_
   refine j_if rfl rfl (fun h2=>?_) (fun h2=>by exfalso;omega)
   refine j_nf [_,_,_,_,_,_,_] rfl ?_
   (apply j_drawK it mx 9;(· rfl);(· rfl))
   (apply lxk_run 2;(· rfl);(· simp))
   (apply lxk_pt;(· rfl);(· exact d_x fun _=>x_idx 0 (k) rfl rfl rfl sl24 rfl (by omega) fun z1 hz1 b1 o1=>(dk_ptD default hz1 0 rfl));intro b1 o1)
   (apply lxk_eq;(· rfl);(· exact d_x fun _=>x_ld_nat 0 rfl rfl ld73 fun ⟨r1,r2⟩=>dk_eq))
   (apply lxk_run 2;(· rfl);(· simp))
   (apply lxk_pt;(· rfl);(· exact d_x fun _=>x_idx 1 (k) rfl rfl rfl sl24 rfl (by omega) fun z1 hz1 b2 o2=>(dk_ptD default hz1 0 rfl));intro b2 o2)
   (apply lxk_eq;(· rfl);(· exact d_x fun _=>x_ld_nat 0 rfl rfl ld73 fun ⟨r1,r2⟩=>dk_eq))
   (apply lxk_run 1;(· rfl);(· simp))
   refine lxk_end rfl ?_
   simp only [List.map_cons,List.map_nil,List.cons_append,List.nil_append]
   refine j_nf [_,_,_,_,_,_] rfl ?_
   refine j_ifn rfl rfl (fun h3=>?_) (fun h3=>?_)
   ·refine j_nf [_,_,_,_,_,_,_] rfl ?_
    refine j_run it 1 rfl (by simp) ?_
    refine j_nf [_,_,_,_,_,_] rfl ?_
    refine j_giv [] rfl rfl rfl ⟨by
     rw [decide_eq_false (fun e=>by subst e;omega)];rfl,rfl,rfl⟩
   ·refine j_nf [_,_,_,_] rfl ?_
    refine j_run it 3 rfl ⟨trivial,⟨by omega,by omega⟩,trivial,trivial⟩ ?_
    refine j_nfn 1 [.lp (pL 116),.blk 0,.c [1,1,1]] rfl ?_
    refine j_to [2,3] (by exact fra rfl) rfl rfl (ih (k + 1) (by omega) ⟨by omega,take_eq_step ht hkl (by omega) (by omega)⟩)
  ·refine j_nf [_,_,_,_,_,_] rfl ?_
   refine j_run it 2 rfl (by simp) ?_
   refine j_step rfl (x_len sl24 rfl ?_)
   refine j_run it 1 rfl (by simp) ?_
   refine j_nf [_,_,_,_,_] rfl ?_
   refine j_if rfl rfl (fun h2=>by exfalso;omega) (fun h2=>?_)
   refine j_nf [_,_] rfl ?_
   refine j_run it 1 rfl (by simp) ?_
   refine j_nf [_] rfl ?_
   have e : a = b:=by
    have e1 : k = a.length:=by omega
    rw [e1,List.take_length,hl,List.take_length] at ht
    exact ht
   refine j_giv [] rfl rfl rfl ⟨by rw [decide_eq_true e];rfl,rfl,rfl⟩
 ·refine j_nf [_,_] rfl ?_
  refine j_run it 1 rfl (by simp) ?_
  refine j_nf [_,_,_] rfl ?_
  refine j_run it 1 rfl (by simp) ?_
  refine j_step rfl (x_len sl24 rfl ?_)
  refine j_run it 1 rfl (by simp) ?_
  refine j_step rfl (x_len sl24 rfl ?_)
  refine j_run it 1 rfl (by simp) ?_
  refine j_nf [_,_] rfl ?_
  refine j_ifn rfl rfl (fun h1=>?_) (fun h1=>by exfalso;omega)
  refine j_nf [_,_,_] rfl ?_
  refine j_run it 1 rfl (by simp) ?_
  refine j_nf [_,_] rfl ?_
  refine j_giv [] rfl rfl rfl ⟨by rw [decide_eq_false (fun e=>hl (by rw [e]))];rfl,rfl,rfl⟩
theorem S_codewrightref01_Mul {pa pb : Option Addr} {n m ca cb : Nat} {a b : List Nat} (ha : a.length ≤ 1099511627776) (hb : b.length ≤ 1099511627776) :
  Ctr Tryz.prog 70 [.slice pa n ca,.slice pb m cb] [] [slF U32 pa n ca a,slF U32 pb m cb b] (Sv U32 (limbs (val a * val b))):=by
 refine Ctr_of_j' (F:=F_codewrightref01_Mul) rfl fun C=>?_
 refine j_len 0 rfl fun hn _ _=>?_
 refine j_len 1 rfl fun hm _ _=>?_
 subst hn;subst hm
 refine j_range 0 rfl fun hra=>?_
 refine j_range 1 rfl fun hrb=>?_
 simp only [InR] at hra hrb
 refine j_nf [_,_] rfl ?_
 refine j_run it 1 rfl (by simp) ?_
 refine j_nf [_,_] rfl ?_
 refine j_run it 1 rfl (by simp) ?_
 refine j_step rfl (x_len sl24 rfl ?_)
 refine j_run it 1 rfl (by simp) ?_
 refine j_step rfl (x_len sl24 rfl ?_)
 refine j_run it 1 rfl ⟨⟨by omega,by omega⟩,trivial⟩ ?_
 refine j_step rfl (x_make_nat ((a.length) + (b.length)) _ rfl rfl sl24 zo24e by24e (by omega) (by omega) (by omega) fun b1=>?_)
 refine j_run it 1 rfl (by simp) ?_
 refine j_nf [_,_,_] rfl ?_
 refine j_run it 1 rfl (by simp) ?_
 refine j_nf [_,_,_] rfl ?_
 refine j_loopN (X:=Nat × List Nat) (fun x=>[(0,.slice pa a.length ca),(1,.slice pb b.length cb),(5,.slice (some ⟨b1,0,none⟩) (a.length + b.length) (a.length + b.length)),(6,.int .i64 x.1)])
  (fun x=>[(some b1,73,natCells .u32 x.2)]) (fun _=>[slF U32 pa a.length ca a,slF U32 pb b.length cb b])
  (fun x=>x.1 ≤ a.length ∧ x.2.length = a.length + b.length ∧ (∀ y ∈ x.2,y < 4294967296) ∧ val (x.2.take (x.1 + b.length)) = val (a.take x.1) * val b)
  (fun x=>a.length - x.1) (0,List.replicate (a.length + b.length) 0) [0,1] rfl ⟨Nat.zero_le _,by simp,rep_lt (by decide),by simp [val,val_replicate]⟩ (by repeat (first | exact Fr.sub_nil _ | refine Fr.sub_cons rfl ?_)) rfl rfl ?_
 rintro ⟨i,v0⟩ ⟨hi,hl,ho,hv⟩ ih
 simp only at hi hl ho hv ih ⊢
 by_cases hil : i < a.length
 ·obtain ⟨z1,hz1⟩ : ∃ z,a[i]? = some z:=⟨_,List.getElem?_eq_getElem hil⟩
  have ex : a.getD i default = z1:=by rw [List.getD,hz1];rfl
  have hx:=(hra z1 (List.mem_of_getElem? hz1)).2
  refine j_nf [_,_,_,_,_,_] rfl ?_
  refine j_run it 2 rfl (by simp) ?_
  refine j_step rfl (x_len sl24 rfl ?_)
  refine j_run it 1 rfl (by simp) ?_
  refine j_nf [_,_,_,_,_] rfl ?_
  refine j_if rfl rfl (fun h1=>?_) (fun h1=>by exfalso;omega)
  refine j_nf [_,_,_,_,_,_,_] rfl ?_
  refine j_run it 1 rfl (by simp) ?_
  refine j_nf [_,_,_,_,_,_,_,_] rfl ?_
  refine j_run it 1 rfl (by simp) ?_
  refine j_nf [_,_,_,_,_,_,_,_] rfl ?_
  refine j_loopN (X:=Nat × Nat × List Nat) (fun x=>[(0,.slice pa a.length ca),(1,.slice pb b.length cb),(5,.slice (some ⟨b1,0,none⟩) (a.length + b.length) (a.length + b.length)),(6,.int .i64 i),(7,.int .u64 x.2.1),(8,.int .i64 x.1)])
   (fun x=>[(some b1,73,natCells .u32 x.2.2)]) (fun _=>[slF U32 pa a.length ca a,slF U32 pb b.length cb b])
   (fun x=>x.1 ≤ b.length ∧ x.2.2.length = a.length + b.length ∧ x.2.1 < 4294967296 ∧ (∀ y ∈ x.2.2,y < 4294967296) ∧ val (x.2.2.take (i + x.1)) + 4294967296 ^ (i + x.1) * x.2.1 = val (v0.take (i + x.1)) + 4294967296 ^ i * (z1 * val (b.take x.1)) ∧ x.2.2.drop (i + x.1) = v0.drop (i + x.1))
   (fun x=>b.length - x.1) (0,0,v0) [0,1] rfl ⟨Nat.zero_le _,hl,Nat.zero_lt_succ _,ho,by simp [val],rfl⟩ (by repeat (first | exact Fr.sub_nil _ | refine Fr.sub_cons rfl ?_)) rfl rfl ?_
  rintro ⟨j,c,out⟩ ⟨hj,hl',hc,ho',hv',hd⟩ ih'
  simp only at hj hl' hc ho' hv' hd ih' ⊢
  by_cases hjl : j < b.length
  ·obtain ⟨z2,hz2⟩ : ∃ z,b[j]? = some z:=⟨_,List.getElem?_eq_getElem hjl⟩
   have ey : b.getD j default = z2:=by rw [List.getD,hz2];rfl
   have hy:=(hrb z2 (List.mem_of_getElem? hz2)).2
   obtain ⟨z3,hz3⟩ : ∃ z,out[i + j]? = some z:=⟨_,List.getElem?_eq_getElem (show i + j < out.length by omega)⟩
   have hz3':=ho' z3 (List.mem_of_getElem? hz3)
   refine j_nf [_,_,_,_,_,_,_,_,_,_,_] rfl ?_
   refine j_run it 2 rfl (by simp) ?_
   refine j_step rfl (x_len sl24 rfl ?_)
   refine j_run it 1 rfl (by simp) ?_
   refine j_nf [_,_,_,_,_,_,_,_,_,_] rfl ?_
   refine j_if rfl rfl (fun h2=>?_) (fun h2=>by exfalso;omega)
   refine j_nf [_,_,_,_,_,_,_,_,_,_,_,_] rfl ?_
   (apply j_drawK it mx 21;(· rfl);(· rfl))
   (apply lxk_run 2;(· rfl);(· simp))
   (apply lxk_pt;(· rfl);(· exact d_x fun _=>x_idx 0 (i) rfl rfl rfl sl24 rfl (by omega) fun z4 hz4 b2 o1=>(dk_ptD default hz4 0 rfl));intro b2 o1)
   (apply lxk_eq;(· rfl);(· exact d_x fun _=>x_ld_nat 0 rfl rfl ld73 fun ⟨r1,r2⟩=>dk_eq))
   (apply lxk_run 3;(· rfl);(· exact ⟨trivial,trivial,⟨by omega,by omega⟩,trivial⟩))
   (apply lxk_pt;(· rfl);(· exact d_x fun _=>x_idx 1 (j) rfl rfl rfl sl24 rfl (by omega) fun z4 hz4 b3 o2=>(dk_ptD default hz4 0 rfl));intro b3 o2)
   (apply lxk_eq;(· rfl);(· exact d_x fun _=>x_ld_nat 0 rfl rfl ld73 fun ⟨r1,r2⟩=>dk_eq))
   (apply lxk_run 6;(· rfl);(· exact ⟨⟨by omega,by omega⟩,trivial,trivial,trivial,⟨Int.mul_nonneg (by omega) (by omega),mul64_1 (by omega) (by omega) (by omega) (by omega)⟩,⟨by omega,by omega⟩,trivial⟩))
   (apply lxk_eq;(· rfl);(· exact d_x fun _=>x_idx_own ((i) + (j)) ((i) + (j)) rfl rfl sl24 (by omega) (by omega) (Nat.mul_one _) dk_eq))
   (apply lxk_eq;(· rfl);(· exact d_bld_nat 0 rfl rfl ld73 (by assumption)))
   (apply lxk_run 4;(· rfl);(· exact ⟨⟨mul64_nnn (by omega) (by omega) (by omega) (by omega),mul64_3 (by omega) (by omega) (by omega) (by omega) (by omega) (by omega)⟩,trivial,⟨mul64_nn (by omega) (by omega) (by omega),mul64_2 (by omega) (by omega) (by omega) (by omega) (by omega)⟩,⟨by omega,by omega⟩,trivial⟩))
   refine lxk_end rfl ?_
   simp only [List.map_cons,List.map_nil,List.cons_append,List.nil_append]
   refine j_run it 1 rfl (by simp) ?_
   refine j_nf [_,_,_,_,_,_,_,_,_,_,_,_] rfl ?_
   refine j_run it 7 rfl ⟨⟨by omega,by omega⟩,⟨mul64_nnn (by omega) (by omega) (by omega) (by omega),by omega⟩,trivial,⟨by omega,by omega⟩,trivial,trivial,trivial,trivial⟩ ?_
   refine j_step rfl (x_idx_own ((i) + (j)) ((i) + (j)) rfl rfl sl24 (by omega) (by omega) (Nat.mul_one _) ?_)
   refine j_step rfl (x_bst_nat 0 (((((a.getD i default) * (b.getD j default)) + (z3)) + (c)) % 4294967296) rfl rfl rfl ld73 (by first | rfl | omega) (by first | omega | (simp;omega)) ?_)
   refine j_nf [_,_,_,_,_,_,_,_,_,_,_] rfl ?_
   refine j_run it 3 rfl ⟨trivial,⟨mul64_nnn (by omega) (by omega) (by omega) (by omega),by omega,mul64_nnn (by omega) (by omega) (by omega) (by omega),mul64_3 (by omega) (by omega) (by omega) (by omega) (by omega) (by omega)⟩,trivial,trivial⟩ ?_
   refine j_nf [_,_,_,_,_,_,_,_,_] rfl ?_
   refine j_run it 3 rfl ⟨trivial,⟨by omega,by omega⟩,trivial,trivial⟩ ?_
   refine j_nfn 1 [.lp (pL 29844),.blk 2,.c (pL 3731),.blk 1,.c (pL 467),.lp (pL 116),.blk 0,.c [1,1,1]] rfl ?_
   rw [ex,ey]
   have e3:=get_of_drop hd hz3
   refine j_to [2,3] (by exact fra rfl) rfl rfl (ih' (j + 1,(z1 * z2 + z3 + c) / 4294967296,out.set (i + j) ((z1 * z2 + z3 + c) % 4294967296)) (by simp only;omega) ⟨by simp only;omega,by simpa using hl',by
     have:=Nat.mul_le_mul (show z1 ≤ 4294967295 by omega) (show z2 ≤ 4294967295 by omega)
     simp only;omega,set_lt ho' (by omega),mul_step hv' e3 hz2 (by omega),by
     simp only
     rw [drop_set_ge (by omega),← Nat.add_assoc];exact drop_more hd⟩)
  ·refine j_nf [_,_,_,_,_,_,_,_,_,_,_] rfl ?_
   refine j_run it 2 rfl (by simp) ?_
   refine j_step rfl (x_len sl24 rfl ?_)
   refine j_run it 1 rfl (by simp) ?_
   refine j_nf [_,_,_,_,_,_,_,_,_,_] rfl ?_
   refine j_if rfl rfl (fun h2=>by exfalso;omega) (fun h2=>?_)
   refine j_nf [_,_,_,_,_,_] rfl ?_
   refine j_run it 3 rfl (by simp) ?_
   refine j_step rfl (x_len sl24 rfl ?_)
   refine j_run it 3 rfl ⟨⟨by omega,by omega⟩,trivial,⟨by omega,by omega⟩,trivial⟩ ?_
   refine j_step rfl (x_idx_own ((i) + (b.length)) ((i) + (b.length)) rfl rfl sl24 (by omega) (by omega) (Nat.mul_one _) ?_)
   refine j_step rfl (x_bst_nat 0 (c) rfl rfl rfl ld73 (by first | rfl | omega) (by first | omega | (simp;omega)) ?_)
   refine j_nf [_,_,_,_] rfl ?_
   refine j_run it 3 rfl ⟨trivial,⟨by omega,by omega⟩,trivial,trivial⟩ ?_
   refine j_nfn 1 [.lp (pL 116),.blk 0,.c [1,1,1]] rfl ?_
   have e : j = b.length:=by omega
   subst e
   refine j_to [0,1] (by exact fra rfl) rfl rfl (ih (i + 1,out.set (i + b.length) c) (by simp only;omega) ⟨by simp only;omega,by simpa using hl',set_lt ho' hc,by
     simp only
     exact mul_row (by rw [List.take_length,hv] at hv';exact hv') hz1 (by omega)⟩)
 ·refine j_nf [_,_,_,_,_,_] rfl ?_
  refine j_run it 2 rfl (by simp) ?_
  refine j_step rfl (x_len sl24 rfl ?_)
  refine j_run it 1 rfl (by simp) ?_
  refine j_nf [_,_,_,_,_] rfl ?_
  refine j_if rfl rfl (fun h1=>by exfalso;omega) (fun h1=>?_)
  refine j_nf [_,_] rfl ?_
  refine j_run it 1 rfl (by simp) ?_
  refine j_pub32 (n:=a.length + b.length) 0 rfl (by simp [*]) (by first | assumption | exact set_all (by assumption) (by omega) | (simp;omega)) (by omega) ?_
  refine j_step rfl (x_call [0] rfl (S_codewrightref01_Trim) rfl ?_)
  rintro _ _ _ ⟨pa1,ca1,rfl,rfl,rfl⟩
  simp only [List.cons_append,List.nil_append]
  refine j_run it 1 rfl (by simp) ?_
  refine j_nf [_] rfl ?_
  have e : i = a.length:=by omega
  subst e
  rw [List.take_length,List.take_of_length_le (by omega)] at hv
  rw [trim_eq ho,hv]
  refine j_giv [0] rfl rfl rfl ⟨_,_,rfl,rfl,rfl⟩
theorem S_codewrightref01_Add {pa pb : Option Addr} {n m ca cb : Nat} {a b : List Nat} (ha : a.length ≤ 1099511627776) (hb : b.length ≤ 1099511627776) :
  Ctr Tryz.prog 71 [.slice pa n ca,.slice pb m cb] [] [slF U32 pa n ca a,slF U32 pb m cb b] (Sv U32 (limbs (val a + val b))):=by
 refine Ctr_of_j' (F:=F_codewrightref01_Add) rfl fun C=>?_
 refine j_len 0 rfl fun hn _ _=>?_
 refine j_len 1 rfl fun hm _ _=>?_
 subst hn;subst hm
 refine j_range 0 rfl fun hra=>?_
 refine j_range 1 rfl fun hrb=>?_
 have hra' : ∀ x ∈ a,x < 4294967296:=fun x hx=>by have:=hra x hx;simp only [InR] at this;omega
 have hrb' : ∀ x ∈ b,x < 4294967296:=fun x hx=>by have:=hrb x hx;simp only [InR] at this;omega
 obtain ⟨M,hM1,hM2,hM3⟩ : ∃ M,a.length ≤ M ∧ b.length ≤ M ∧ (M = a.length ∨ M = b.length):=⟨max a.length b.length,by omega,by omega,by omega⟩
 refine j_nf [_,_] rfl (j_run it 1 rfl (by simp) ?_)
 refine j_nf [_,_] rfl (j_run it 1 rfl (by simp) ?_)
 refine j_nf [_,_] rfl (j_run it 1 rfl (by simp) ?_)
 refine j_nf [_,_,_] rfl (j_run it 1 rfl (by simp) ?_)
 refine j_nf [_,_,_] rfl ?_
 refine j_nil 73 ?_
 refine j_loopN (X:=Nat × Nat × List Nat × Option Nat × Nat × List Value) (fun x=>[(0,.slice pa a.length ca),(1,.slice pb b.length cb),(5,.slice (ad x.2.2.2.1) x.1 x.2.2.2.2.1),(6,.int .u64 x.2.1),(7,.int .i64 x.1)])
  (fun x=>[(x.2.2.2.1,73,x.2.2.2.2.2)]) (fun _=>[slF U32 pa a.length ca a,slF U32 pb b.length cb b])
  (fun x=>(x.1 ≤ M + 1 ∧ (x.1 = M + 1 → x.2.1 = 0) ∧ x.2.1 ≤ 1 ∧ x.2.2.1.length = x.1) ∧ (∀ y ∈ x.2.2.1,y < 4294967296) ∧ val x.2.2.1 + 4294967296 ^ x.1 * x.2.1 = val (a.take x.1) + val (b.take x.1) ∧ GrOk x.2.2.2.1 x.1 x.2.2.2.2.1 1 x.2.2.2.2.2 ∧ x.2.2.2.2.2.take x.1 = natCells .u32 x.2.2.1)
  (fun x=>M + 1 - x.1) (0,0,[],none,0,[]) [0,1] rfl ⟨⟨Nat.zero_le _,fun h=>rfl,Nat.zero_le _,rfl⟩,(fun y hy=>by cases hy),by simp [val],GrOk.nil _,rfl⟩ (by repeat (first | exact Fr.sub_nil _ | refine Fr.sub_cons rfl ?_)) rfl rfl ?_
 rintro ⟨k,c,out,bo,cap,cs⟩ ⟨⟨hk,hkc,hc,hl⟩,ho,hv,hg,ht⟩ ih
 simp only at hk hkc hc hl ho hv hg ht ih ⊢
 have h1:=getD_lt (k:=k) hra' (by decide)
 have h2:=getD_lt (k:=k) hrb' (by decide)
 have step : k ≤ M → (k < a.length ∨ k < b.length ∨ 0 < c) → J F_codewrightref01_Add C [.c (pL 978),.c (pL 979),.lp (pL 244),.blk 0,.c [1,1,1,1]] [(0,.slice pa a.length ca),(1,.slice pb b.length cb),(5,.slice (ad bo) k cap),(6,.int .u64 c),(7,.int .i64 k)] [(bo,73,cs)] [slF U32 pa a.length ca a,slF U32 pb b.length cb b] (Gives C (Sv U32 (limbs (val a + val b)))):=by
  intro hkM hor
  refine j_nf [_,_,_,_,_,_,_] rfl (j_run it 2 rfl (by simp) ?_)
  refine j_step rfl (x_call [0] rfl (S_codewrightref01_limb) rfl ?_)
  rintro _ _ _ ⟨rfl,rfl,rfl⟩
  simp only [List.cons_append,List.nil_append]
  refine j_run it 2 rfl (by simp) ?_
  refine j_step rfl (x_call [1] rfl (S_codewrightref01_limb) rfl ?_)
  rintro _ _ _ ⟨rfl,rfl,rfl⟩
  simp only [List.cons_append,List.nil_append]
  refine j_run it 4 rfl ⟨trivial,⟨by omega,by omega⟩,trivial,⟨by omega,by omega⟩,trivial⟩ ?_
  refine j_nf [_,_,_,_,_,_,_] rfl (j_run it 4 rfl ⟨⟨by omega,by omega⟩,⟨by omega,by omega⟩,trivial,trivial,trivial⟩ ?_)
  refine j_step rfl (x_lit sl24 zo24e rfl rfl rfl rfl (by decide) (by decide) rfl fun b1=>?_)
  refine j_step rfl (x_app 1 0 rfl rfl rfl rfl sl24 zo24e rfl (by first | exact GrOk.nil _ | assumption | exact .inr ⟨_,rfl,Nat.le_refl _,by omega,rfl⟩) rfl rfl (by first | (simp [Value.oneCell'];done) | (simp [Value.oneCell',cellsL];done) | (intro u hu;rcases List.mem_singleton.1 hu with rfl;rfl)) (by omega) _ by24e (by omega) fun bo1 cap1 cs1 hg1 ht1=>?_)
  refine j_run it 1 rfl (by simp) ?_
  refine j_nf [_,_,_,_,_,_] rfl (j_run it 3 rfl ⟨trivial,⟨by omega,by omega,by omega,by omega⟩,trivial,trivial⟩ ?_)
  refine j_nf [_,_,_,_] rfl (j_run it 3 rfl ⟨trivial,⟨by omega,by omega⟩,trivial,trivial⟩ ?_)
  refine j_nfn 1 [.lp (pL 244),.blk 0,.c [1,1,1,1]] rfl ?_
  simp only [Nat.mul_one] at hg1 ht1
  have hs1 : (a.getD k 0 + b.getD k 0 + c) / 4294967296 ≤ 1:=by omega
  refine j_weakB (β':=[(bo1,73,cs1)]) (by simp) ?_
  refine j_to [0,1] (by exact fra rfl) rfl rfl (ih (k + 1,(a.getD k 0 + b.getD k 0 + c) / 4294967296,out++[(a.getD k 0 + b.getD k 0 + c) % 4294967296],bo1,cap1,cs1) (by simp only;omega)
   ⟨⟨by simp only;omega,(by
    intro hkM1
    have ga:=getD_ge (l:=a) (k:=k) (by omega)
    have gb:=getD_ge (l:=b) (k:=k) (by omega)
    simp only at hkM1 ⊢
    omega),hs1,by simp [hl]⟩,snoc_lt ho (by omega),by
    simp only
    rw [val_snoc,hl,Nat.pow_succ,val_take_getD,val_take_getD]
    exact carry_step hv (by omega),hg1,by
    simp only
    rw [ht1,ht,natCells_append];rfl⟩)
 by_cases hor : k < a.length ∨ k < b.length ∨ 0 < c
 ·have hkM : k ≤ M:=by
   rcases hor with h | h | h
   ·omega
   ·omega
   ·by_cases e : k = M + 1
    ·have:=hkc e;omega
    ·omega
  by_cases ka : k < a.length
  ·refine j_nf [_,_,_,_,_,_] rfl (j_run it 2 rfl (by simp) ?_)
   refine j_step rfl (x_len sl24 rfl ?_)
   refine j_run it 2 rfl (by simp) ?_
   refine j_split_dec (t:=13) rfl (fun h3=>?_) (fun h3=>by exfalso;omega)
   refine j_run it 9 rfl (by simp) ?_
   refine j_nf [_,_,_,_,_] rfl ?_
   refine j_true rfl rfl ?_
   refine j_nfn 2 [.c (pL 978),.c (pL 979),.lp (pL 244),.blk 0,.c [1,1,1,1]] rfl ?_
   refine j_to [0,1] (by exact fra rfl) rfl rfl (step hkM hor)
  ·by_cases kb : k < b.length
   ·refine j_nf [_,_,_,_,_,_] rfl (j_run it 2 rfl (by simp) ?_)
    refine j_step rfl (x_len sl24 rfl ?_)
    refine j_run it 2 rfl (by simp) ?_
    refine j_split_dec (t:=13) rfl (fun h3=>by exfalso;omega) (fun h3=>?_)
    refine j_run it 2 rfl (by simp) ?_
    refine j_gstep rfl rfl (x_len sl24 rfl ?_)
    refine j_run it 3 rfl (by simp) ?_
    refine j_split_dec (t:=19) rfl (fun h4=>?_) (fun h4=>by exfalso;omega)
    refine j_run it 3 rfl (by simp) ?_
    refine j_nf [_,_,_,_,_] rfl ?_
    refine j_true rfl rfl ?_
    refine j_nfn 2 [.c (pL 978),.c (pL 979),.lp (pL 244),.blk 0,.c [1,1,1,1]] rfl ?_
    refine j_to [0,1] (by exact fra rfl) rfl rfl (step hkM hor)
   ·have hc0 : 0 < c:=by omega
    refine j_nf [_,_,_,_,_,_] rfl (j_run it 2 rfl (by simp) ?_)
    refine j_step rfl (x_len sl24 rfl ?_)
    refine j_run it 2 rfl (by simp) ?_
    refine j_split_dec (t:=13) rfl (fun h3=>by exfalso;omega) (fun h3=>?_)
    refine j_run it 2 rfl (by simp) ?_
    refine j_gstep rfl rfl (x_len sl24 rfl ?_)
    refine j_run it 3 rfl (by simp) ?_
    refine j_split_dec (t:=19) rfl (fun h4=>by exfalso;omega) (fun h4=>?_)
    refine j_run it 3 rfl (by simp) ?_
    refine j_nf [_,_,_,_,_] rfl (j_if rfl rfl (fun h5=>?_) (fun h5=>by exfalso;omega))
    refine j_nfn 2 [.c (pL 978),.c (pL 979),.lp (pL 244),.blk 0,.c [1,1,1,1]] rfl ?_
    refine j_to [0,1] (by exact fra rfl) rfl rfl (step hkM hor)
 ·have ka : ¬ k < a.length:=by omega
  have kb : ¬ k < b.length:=by omega
  have hc0 : c = 0:=by omega
  subst hc0
  rw [List.take_of_length_le (by omega),List.take_of_length_le (by omega),Nat.mul_zero,Nat.add_zero] at hv
  refine j_pub_nat (kd:=.u32) 4 out 0 rfl hg ht hl.symm (fun x hx=>by have:=ho x hx;simp only [InR];omega) (by omega) ?_
  refine j_nf [_,_,_,_,_,_] rfl (j_run it 2 rfl (by simp) ?_)
  refine j_step rfl (x_len sl24 rfl ?_)
  refine j_run it 2 rfl (by simp) ?_
  refine j_split_dec (t:=13) rfl (fun h3=>by exfalso;omega) (fun h3=>?_)
  refine j_run it 2 rfl (by simp) ?_
  refine j_gstep rfl rfl (x_len sl24 rfl ?_)
  refine j_run it 3 rfl (by simp) ?_
  refine j_split_dec (t:=19) rfl (fun h4=>by exfalso;omega) (fun h4=>?_)
  refine j_run it 3 rfl (by simp) ?_
  refine j_nf [_,_,_,_,_] rfl (j_if rfl rfl (fun h5=>by exfalso;omega) (fun h5=>?_))
  refine j_nf [_,_] rfl (j_run it 1 rfl (by simp) ?_)
  refine j_step rfl (x_call [0] rfl (S_codewrightref01_Trim) rfl ?_)
  rintro _ _ _ ⟨pa1,ca1,rfl,rfl,rfl⟩
  simp only [List.cons_append,List.nil_append]
  refine j_run it 1 rfl (by simp) ?_
  refine j_nf [_] rfl ?_
  rw [trim_eq ho,hv]
  refine j_giv [0] rfl rfl rfl ⟨_,_,rfl,rfl,rfl⟩
theorem pow_len {a n k : Nat} (h : a < 4294967296) (hn : n ≤ k) : (limbs (a ^ n)).length ≤ k + 1:=by
 refine limbs_length_le ?_
 have h1 : a ^ n ≤ 4294967296 ^ n:=Nat.pow_le_pow_left (by omega) n
 have h2 : 4294967296 ^ n ≤ 4294967296 ^ k:=Nat.pow_le_pow_right (by omega) hn
 have h3 : 0 < 4294967296 ^ k:=Nat.pow_pos (by omega)
 rw [Nat.pow_succ];omega
theorem S_nat_Pow {pa : Option Addr} {m ca n : Nat} {l : List Nat} (hl : val l < 4294967296) (hn : n ≤ 4000) : Ctr Tryz.prog 105 [.slice pa m ca,.int .i64 n] [] [slF U32 pa m ca l] (S2 U32 (limbs (val l ^ n)) 0):=by
 refine Ctr_of_j' (F:=F_nat_Pow) rfl fun C=>?_
 refine j_len 0 rfl fun hm _ _=>?_
 subst hm
 refine j_range 0 rfl fun hr=>?_
 have hrr : ∀ x ∈ l,x < 4294967296:=fun x hx=>by have:=hr x hx;simp only [InR] at this;omega
 have ht : trim l = limbs (val l):=trim_eq hrr
 have hbl:=bitsL_small ht hl
 have h32 : blen (val l) ≤ 32:=blen_le (by simpa using hl)
 rw [← hbl] at h32
 have hmul : ((bitsL l : Int) - 1) * n ≤ 124000:=by
  have:=Int.mul_le_mul (show (bitsL l : Int) - 1 ≤ 31 by omega) (show (n : Int) ≤ 4000 by omega) (by omega) (by decide)
  omega
 have hmul0 : 0 < bitsL l → 0 ≤ ((bitsL l : Int) - 1) * n:=fun h=>Int.mul_nonneg (by omega) (by omega)
 by_cases h0 : n = 0
 ·subst h0
  have hone : (limbs (val l ^ 0)) = [1]:=by rw [Nat.pow_zero,limbs_one]
  refine j_nf [_,_] rfl (j_run it 2 rfl (by simp) ?_)
  refine j_nf [_,_,_] rfl (j_run it 2 rfl (by simp) ?_)
  refine j_nf [_,_] rfl (j_if rfl rfl (fun h1=>by exfalso;omega) (fun h1=>?_))
  refine j_nf [_,_] rfl (j_run it 1 rfl (by simp) ?_)
  refine j_step rfl (x_call [0] rfl (S_nat_Bits) rfl ?_)
  rintro _ _ _ ⟨rfl,rfl,rfl⟩
  simp only [List.cons_append,List.nil_append]
  refine j_run it 1 rfl (by simp) ?_
  refine j_nf [_,_,_,_] rfl (j_run it 7 rfl (by simp) ?_)
  refine j_nf [_,_,_] rfl ?_
  refine j_true rfl rfl ?_
  refine j_nf [_,_,_,_] rfl (j_step rfl (x_lit sl24 zo24e rfl rfl rfl rfl (by decide) (by decide) rfl fun b1=>?_))
  refine j_run it 2 rfl (by simp) ?_
  refine j_nf [_,_,_] rfl ?_
  refine j_pub_made (n:=1) (kd:=.u32) 4 [1] 0 rfl rfl (by simp [InR]) (by decide) (by decide) ?_
  refine j_giv [0] rfl rfl rfl ⟨_,_,by rw [hone];rfl,by rw [hone];rfl,rfl⟩
 by_cases h1 : val l = 1
 ·have hone : (limbs (val l ^ n)) = [1]:=by rw [h1,Nat.one_pow,limbs_one]
  have hb1 : bitsL l = 1:=by rw [hbl];exact blen_eq_one.2 h1
  refine j_nf [_,_] rfl (j_run it 2 rfl (by simp) ?_)
  refine j_nf [_,_,_] rfl (j_run it 2 rfl (by simp) ?_)
  refine j_nf [_,_] rfl (j_if rfl rfl (fun h2=>by exfalso;omega) (fun h2=>?_))
  refine j_nf [_,_] rfl (j_run it 1 rfl (by simp) ?_)
  refine j_step rfl (x_call [0] rfl (S_nat_Bits) rfl ?_)
  rintro _ _ _ ⟨rfl,rfl,rfl⟩
  simp only [List.cons_append,List.nil_append]
  refine j_run it 1 rfl (by simp) ?_
  refine j_nf [_,_,_,_] rfl (j_run it 3 rfl (by simp) ?_)
  refine j_split_dec (t:=16) rfl (fun h3=>by exfalso;omega) (fun h3=>?_)
  refine j_run it 4 rfl (by simp) ?_
  refine j_nf [_,_,_] rfl (j_if rfl rfl (fun h4=>?_) (fun h4=>by exfalso;omega))
  refine j_nf [_,_,_,_] rfl (j_step rfl (x_lit sl24 zo24e rfl rfl rfl rfl (by decide) (by decide) rfl fun b1=>?_))
  refine j_run it 2 rfl (by simp) ?_
  refine j_nf [_,_,_] rfl ?_
  refine j_pub_made (n:=1) (kd:=.u32) 4 [1] 0 rfl rfl (by simp [InR]) (by decide) (by decide) ?_
  refine j_giv [0] rfl rfl rfl ⟨_,_,by rw [hone];rfl,by rw [hone];rfl,rfl⟩
 have hb1 : bitsL l ≠ 1:=by rw [hbl];exact fun h=>h1 (blen_eq_one.1 h)
 by_cases h2 : val l = 0
 ·have hz : (limbs (val l ^ n)) = []:=by rw [h2,Nat.zero_pow (by omega),limbs_zero]
  have hb0 : bitsL l = 0:=by rw [hbl];exact blen_eq_zero.2 h2
  refine j_nf [_,_] rfl (j_run it 2 rfl (by simp) ?_)
  refine j_nf [_,_,_] rfl (j_run it 2 rfl (by simp) ?_)
  refine j_nf [_,_] rfl (j_if rfl rfl (fun h3=>by exfalso;omega) (fun h3=>?_))
  refine j_nf [_,_] rfl (j_run it 1 rfl (by simp) ?_)
  refine j_step rfl (x_call [0] rfl (S_nat_Bits) rfl ?_)
  rintro _ _ _ ⟨rfl,rfl,rfl⟩
  simp only [List.cons_append,List.nil_append]
  refine j_run it 1 rfl (by simp) ?_
  refine j_nf [_,_,_,_] rfl (j_run it 3 rfl (by simp) ?_)
  refine j_split_dec (t:=16) rfl (fun h4=>by exfalso;omega) (fun h4=>?_)
  refine j_run it 4 rfl (by simp) ?_
  refine j_nf [_,_,_] rfl (j_if rfl rfl (fun h5=>by exfalso;omega) (fun h5=>?_))
  refine j_nf [_,_,_,_] rfl (j_run it 3 rfl (by simp) ?_)
  refine j_nf [_,_,_] rfl (j_if rfl rfl (fun h6=>?_) (fun h6=>by exfalso;omega))
  refine j_nf [_,_,_,_] rfl (j_run it 2 rfl (by simp) ?_)
  refine j_nf [_,_,_] rfl ?_
  refine j_add (slF U32 none 0 0 []) (fun w A _=>slF_nil _ _ _ _ _) ?_
  refine j_giv [0] rfl rfl rfl ⟨_,_,by rw [hz];rfl,by rw [hz];rfl,rfl⟩
 have hb0 : bitsL l ≠ 0:=by rw [hbl];exact fun h=>h2 (blen_eq_zero.1 h)
 have hm0:=hmul0 (by omega)
 have hW:=pow_len hl (show n ≤ 4000 from hn)
 refine j_nf [_,_] rfl (j_run it 2 rfl (by simp) ?_)
 refine j_nf [_,_,_] rfl (j_run it 2 rfl (by simp) ?_)
 refine j_nf [_,_] rfl (j_if rfl rfl (fun h3=>by exfalso;omega) (fun h3=>?_))
 refine j_nf [_,_] rfl (j_run it 1 rfl (by simp) ?_)
 refine j_step rfl (x_call [0] rfl (S_nat_Bits) rfl ?_)
 rintro _ _ _ ⟨rfl,rfl,rfl⟩
 simp only [List.cons_append,List.nil_append]
 refine j_run it 1 rfl (by simp) ?_
 refine j_nf [_,_,_,_] rfl (j_run it 3 rfl (by simp) ?_)
 refine j_split_dec (t:=16) rfl (fun h4=>by exfalso;omega) (fun h4=>?_)
 refine j_run it 4 rfl (by simp) ?_
 refine j_nf [_,_,_] rfl (j_if rfl rfl (fun h5=>by exfalso;omega) (fun h5=>?_))
 refine j_nf [_,_,_,_] rfl (j_run it 3 rfl (by simp) ?_)
 refine j_nf [_,_,_] rfl (j_if rfl rfl (fun h6=>by exfalso;omega) (fun h6=>?_))
 refine j_nf [_,_,_,_] rfl (j_run it 3 rfl (by simp) ?_)
 refine j_split_dec (t:=27) rfl (fun h7=>by exfalso;omega) (fun h7=>?_)
 refine j_run it 7 rfl ⟨trivial,trivial,trivial,⟨by omega,by omega⟩,trivial,⟨by omega,by omega⟩,trivial,trivial⟩ ?_
 refine j_nf [_,_,_] rfl (j_if rfl rfl (fun h8=>by exfalso;omega) (fun h8=>?_))
 refine j_nf [_,_] rfl (j_step rfl (x_lit sl24 zo24e rfl rfl rfl rfl (by decide) (by decide) rfl fun b1=>?_))
 refine j_run it 1 rfl (by simp) ?_
 refine j_step rfl (x_call [0] rfl (S_nat_short) rfl ?_)
 rintro _ _ _ ⟨rfl,rfl,rfl⟩
 simp only [List.cons_append,List.nil_append]
 refine j_run it 2 rfl (by simp) ?_
 refine j_nf [_,_,_] rfl ?_
 refine j_pub_made (n:=1) (kd:=.u32) 4 [1] 0 rfl rfl (by simp [InR]) (by decide) (by decide) ?_
 rw [ht]
 have e1 : limbs 1 = [1]:=limbs_one
 refine j_loopN (X:=Nat × Nat × Nat × (Option Addr × Nat) × (Option Addr × Nat)) (fun x=>[(1,.int .i64 x.1),(7,.slice x.2.2.2.1.1 (limbs x.2.1).length x.2.2.2.1.2),(8,.slice x.2.2.2.2.1 (limbs x.2.2.1).length x.2.2.2.2.2)])
  (fun _=>[]) (fun x=>[slF U32 x.2.2.2.1.1 (limbs x.2.1).length x.2.2.2.1.2 (limbs x.2.1),slF U32 x.2.2.2.2.1 (limbs x.2.2.1).length x.2.2.2.2.2 (limbs x.2.2.1)])
  (fun x=>1 ≤ x.1 ∧ x.1 ≤ 4000 ∧ 1 ≤ x.2.1 ∧ 1 ≤ x.2.2.1 ∧ x.2.1 * x.2.2.1 ^ x.1 = val l ^ n) (fun x=>x.1) (n,1,val l,(some ⟨b1,0,none⟩,1),(pa,(limbs (val l)).length)) [0,1] rfl
  ⟨by simp only;omega,hn,Nat.le_refl _,by simp only;omega,by simp⟩ (by simp only [e1];repeat (first | exact Fr.sub_nil _ | refine Fr.sub_cons rfl ?_)) rfl (by simp only [e1];rfl) ?_
 rintro ⟨k,o,s,⟨po,co⟩,⟨ps,cs⟩⟩ ⟨hk1,hk2,ho,hs,hv⟩ ih
 simp only at hk1 hk2 ho hs hv ih ⊢
 obtain ⟨hoW,hsW,hosW⟩:=pow_bounds hv ho hs hk1
 have lo:=limbs_mono hW hoW
 have ls:=limbs_mono hW hsW
 have los:=limbs_mono hW hosW
 have lx : (limbs (val (limbs o) * val (limbs s))).length ≤ 4001:=by rw [val_limbs,val_limbs];exact los
 have hss : 1 ≤ s * s:=Nat.mul_pos hs hs
 by_cases hodd : k % 2 = 1
 ·by_cases hk : k = 1
  ·have hend : o * s = val l ^ n:=by rw [← hv,hk,Nat.pow_one]
   refine j_nf [_,_,_,_,_,_,_] rfl (j_run it 1 rfl (by simp) ?_)
   refine j_step rfl (x_and_one (k) rfl rfl (by first | rfl | omega) (by omega) ?_)
   refine j_run it 1 rfl (by simp) ?_
   refine j_nf [_,_,_,_,_,_] rfl (j_if rfl rfl (fun h9=>?_) (fun h9=>by exfalso;omega))
   refine j_nf [_,_,_,_,_,_] rfl (j_run it 2 rfl (by simp) ?_)
   refine j_step rfl (x_call [0,1] rfl (S_nat_times (by omega) (by omega)) rfl ?_)
   rintro _ _ _ ⟨pa1,ca1,rfl,rfl,rfl⟩
   simp only [List.cons_append,List.nil_append]
   refine j_run it 1 rfl (by simp) ?_
   refine j_nf [_,_,_,_,_,_] rfl (j_run it 3 rfl (by simp) ?_)
   refine j_nf [_,_,_,_,_,_,_] rfl (j_run it 2 rfl (by simp) ?_)
   refine j_nf [_,_,_,_,_,_] rfl (j_if rfl rfl (fun h10=>?_) (fun h10=>by exfalso;omega))
   refine j_nf [_,_,_] rfl (j_run it 1 rfl (by simp) ?_)
   refine j_step rfl (x_len sl24 rfl ?_)
   refine j_run it 1 rfl (by simp) ?_
   refine j_nf [_,_] rfl (j_if rfl rfl (fun h11=>by exfalso;omega) (fun h11=>?_))
   refine j_nf [_,_] rfl (j_run it 1 rfl (by simp) ?_)
   refine j_step rfl (x_call [0] rfl (S_nat_Trim) rfl ?_)
   rintro _ _ _ ⟨pa2,ca2,rfl,rfl,rfl⟩
   simp only [List.cons_append,List.nil_append]
   refine j_run it 2 rfl (by simp) ?_
   refine j_nf [_] rfl ?_
   simp only [val_limbs,trim_limbs,hend]
   refine j_giv [0] rfl rfl rfl ⟨_,_,rfl,rfl,rfl⟩
  ·refine j_nf [_,_,_,_,_,_,_] rfl (j_run it 1 rfl (by simp) ?_)
   refine j_step rfl (x_and_one (k) rfl rfl (by first | rfl | omega) (by omega) ?_)
   refine j_run it 1 rfl (by simp) ?_
   refine j_nf [_,_,_,_,_,_] rfl (j_if rfl rfl (fun h9=>?_) (fun h9=>by exfalso;omega))
   refine j_nf [_,_,_,_,_,_] rfl (j_run it 2 rfl (by simp) ?_)
   refine j_step rfl (x_call [0,1] rfl (S_nat_times (by omega) (by omega)) rfl ?_)
   rintro _ _ _ ⟨pa1,ca1,rfl,rfl,rfl⟩
   simp only [List.cons_append,List.nil_append]
   refine j_run it 1 rfl (by simp) ?_
   refine j_nf [_,_,_,_,_,_] rfl (j_run it 3 rfl (by simp) ?_)
   refine j_nf [_,_,_,_,_,_,_] rfl (j_run it 2 rfl (by simp) ?_)
   refine j_nf [_,_,_,_,_,_] rfl (j_if rfl rfl (fun h10=>by exfalso;omega) (fun h10=>?_))
   refine j_nf [_,_,_,_,_] rfl (j_run it 2 rfl (by simp) ?_)
   refine j_step rfl (x_call [2,2] rfl (S_nat_times (by omega) (by omega)) rfl ?_)
   rintro _ _ _ ⟨pa2,ca2,rfl,rfl,rfl⟩
   simp only [List.cons_append,List.nil_append]
   refine j_run it 1 rfl (by simp) ?_
   refine j_nfn 2 [.lp (pL 504),.blk 1,.c (pL 127)] rfl ?_
   simp only [val_limbs]
   refine j_to [1,0] (by exact fra rfl) rfl rfl (ih (k / 2,o * s,s * s,(pa1,ca1),(pa2,ca2)) (by simp only;omega) ⟨by simp only;omega,by simp only;omega,Nat.mul_pos ho hs,hss,pow_odd hv hodd⟩)
 ·refine j_nf [_,_,_,_,_,_,_] rfl (j_run it 1 rfl (by simp) ?_)
  refine j_step rfl (x_and_one (k) rfl rfl (by first | rfl | omega) (by omega) ?_)
  refine j_run it 1 rfl (by simp) ?_
  refine j_nf [_,_,_,_,_,_] rfl (j_if rfl rfl (fun h9=>by exfalso;omega) (fun h9=>?_))
  refine j_nf [_,_,_,_,_,_] rfl (j_run it 3 rfl (by simp) ?_)
  refine j_nf [_,_,_,_,_,_,_] rfl (j_run it 2 rfl (by simp) ?_)
  refine j_nf [_,_,_,_,_,_] rfl (j_if rfl rfl (fun h10=>by exfalso;omega) (fun h10=>?_))
  refine j_nf [_,_,_,_,_] rfl (j_run it 2 rfl (by simp) ?_)
  refine j_step rfl (x_call [1,1] rfl (S_nat_times (by omega) (by omega)) rfl ?_)
  rintro _ _ _ ⟨pa1,ca1,rfl,rfl,rfl⟩
  simp only [List.cons_append,List.nil_append]
  refine j_run it 1 rfl (by simp) ?_
  refine j_nfn 2 [.lp (pL 504),.blk 1,.c (pL 127)] rfl ?_
  simp only [val_limbs]
  refine j_to [1,0] (by exact fra rfl) rfl rfl (ih (k / 2,o,s * s,(po,co),(pa1,ca1)) (by simp only;omega) ⟨by simp only;omega,by simp only;omega,ho,hss,pow_even hv (by omega)⟩)
set_option maxHeartbeats 400000
theorem S_codewrightref01_Bits {pa : Option Addr} {n ca : Nat} {l : List Nat} : Ctr Tryz.prog 94 [.slice pa n ca] [] [slF U32 pa n ca l] (Rv (.int .i64 (bitsL l)) []):=by
 refine Ctr_of_j' (F:=F_codewrightref01_Bits) rfl fun C=>?_
 refine j_len 0 rfl fun hn hb _=>?_
 subst hn
 have hb' : l.length * 4 ≤ 140737488355328:=hb
 refine j_range 0 rfl fun hr=>?_
 simp only [InR] at hr
 have hl:=trim_length_le l
 by_cases h0 : (trim l).length = 0
 ·refine j_nf [_,_] rfl (j_run it 1 rfl (by simp) ?_)
  refine j_nf [_,_] rfl (j_run it 1 rfl (by simp) ?_)
  refine j_step rfl (x_call [0] rfl (S_codewrightref01_Trim) rfl ?_)
  rintro _ _ _ ⟨pa1,ca1,rfl,rfl,rfl⟩
  simp only [List.cons_append,List.nil_append]
  refine j_run it 1 rfl (by simp) ?_
  refine j_nf [_,_,_] rfl (j_run it 1 rfl (by simp) ?_)
  refine j_step rfl (x_len sl24 rfl ?_)
  refine j_run it 1 rfl (by simp) ?_
  refine j_nf [_,_] rfl (j_if rfl rfl (fun h1=>?_) (fun h1=>by exfalso;omega))
  refine j_nf [_,_,_] rfl (j_run it 1 rfl (by simp) ?_)
  refine j_nf [_,_] rfl ?_
  refine j_giv [] rfl rfl rfl ⟨by rw [bitsL_nil h0];rfl,rfl,rfl⟩
 ·have side2 : ∀ z,(trim l)[(trim l).length - 1]? = some z → blen z ≤ 32:=fun z hz=>blen_le (by have:=hr z (mem_trim (List.mem_of_getElem? hz));omega)
  refine j_nf [_,_] rfl (j_run it 1 rfl (by simp) ?_)
  refine j_nf [_,_] rfl (j_run it 1 rfl (by simp) ?_)
  refine j_step rfl (x_call [0] rfl (S_codewrightref01_Trim) rfl ?_)
  rintro _ _ _ ⟨pa1,ca1,rfl,rfl,rfl⟩
  simp only [List.cons_append,List.nil_append]
  refine j_run it 1 rfl (by simp) ?_
  refine j_nf [_,_,_] rfl (j_run it 1 rfl (by simp) ?_)
  refine j_step rfl (x_len sl24 rfl ?_)
  refine j_run it 1 rfl (by simp) ?_
  refine j_nf [_,_] rfl (j_if rfl rfl (fun h1=>by exfalso;omega) (fun h1=>?_))
  refine j_nf [_,_] rfl (j_run it 1 rfl (by simp) ?_)
  refine j_step rfl (x_len sl24 rfl ?_)
  refine j_run it 3 rfl ⟨trivial,⟨by omega,by omega⟩,⟨by omega,by omega⟩,trivial⟩ ?_
  refine j_nf [_,_,_] rfl (j_run it 2 rfl (by simp) ?_)
  refine j_step rfl (x_len sl24 rfl ?_)
  refine j_run it 1 rfl ⟨⟨by omega,by omega⟩,trivial⟩ ?_
  refine j_step rfl (x_idx 0 (((trim l).length) - 1) rfl rfl rfl sl24 (by omega) (by omega) fun z1 hz1 b1 o1=>?_)
  refine j_step rfl (x_ld_nat 0 rfl rfl ld73 fun ⟨r1,r2⟩=>?_)
  refine j_run it 1 rfl (by simp) ?_
  refine j_nf [_,_,_] rfl ?_
  have hs2:=side2 z1 hz1
  refine j_loopN (X:=Nat × Nat) (fun x=>[(3,.int .i64 x.1),(4,.int .u32 x.2)]) (fun _=>[]) (fun _=>[])
   (fun x=>x.1 + blen x.2 = bitsL l ∧ x.2 < 4294967296 ∧ bitsL l ≤ 32 * l.length + 32) (fun x=>x.2) (32 * ((trim l).length - 1),z1) [] rfl ⟨by rw [bitsL_top hz1],by have:=hr z1 (mem_trim (List.mem_of_getElem? hz1));simp only;omega,by rw [bitsL_top hz1];omega⟩ (by repeat (first | exact Fr.sub_nil _ | refine Fr.sub_cons rfl ?_ | refine Fr.sub_consI rfl (by omega) ?_)) rfl rfl ?_
  rintro ⟨c,x⟩ ⟨hc,hx,hbl⟩ ih
  simp only at hc hx ih ⊢
  by_cases hx0 : 0 < x
  ·rw [blen_pos (by omega)] at hc
   refine j_nf [_,_,_,_,_,_] rfl (j_run it 2 rfl (by simp) ?_)
   refine j_nf [_,_,_,_,_] rfl (j_if rfl rfl (fun h2=>?_) (fun h2=>by exfalso;omega))
   refine j_nf [_,_,_,_,_,_] rfl (j_run it 3 rfl ⟨trivial,⟨by omega,by omega⟩,trivial,trivial⟩ ?_)
   refine j_nf [_,_,_,_] rfl (j_run it 3 rfl ⟨trivial,⟨by omega,by omega,by omega,by omega⟩,trivial,trivial⟩ ?_)
   refine j_nfn 1 [.lp (pL 500),.blk 0,.c [1,1,1,1,1]] rfl ?_
   refine j_to [] (by exact fra rfl) rfl rfl (ih (c + 1,x / 2) (by simp only;omega) ⟨by simp only;omega,by simp only;omega,hbl⟩)
  ·refine j_nf [_,_,_,_,_,_] rfl (j_run it 2 rfl (by simp) ?_)
   refine j_nf [_,_,_,_,_] rfl (j_if rfl rfl (fun h2=>by exfalso;omega) (fun h2=>?_))
   refine j_nf [_,_] rfl (j_run it 2 rfl (by simp) ?_)
   refine j_nf [_] rfl ?_
   have e : x = 0:=by omega
   subst e
   rw [blen_zero] at hc
   refine j_giv [] rfl rfl rfl ⟨by rw [← hc];rfl,rfl,rfl⟩
set_option maxHeartbeats 2000000
theorem cmp_top {a b : List Nat} {k : Nat} (ha : ∀ x ∈ a,x < 4294967296) (hR : val a + val (b.take (k + 1)) = val b + val (a.take (k + 1))) (h : a.getD k 0 < b.getD k 0) : val a < val b:=by
 rw [val_take_getD,val_take_getD] at hR
 have h1 : val (a.take k) < 4294967296 ^ k:=by
  have:=val_lt (l:=a.take k) (fun x hx=>ha x (List.mem_of_mem_take hx))
  rw [List.length_take] at this
  exact Nat.lt_of_lt_of_le this (Nat.pow_le_pow_right (by decide) (Nat.min_le_left _ _))
 generalize 4294967296 ^ k = P at *
 have h2 : P * (a.getD k 0 + 1) ≤ P * b.getD k 0:=Nat.mul_le_mul_left _ h
 rw [Nat.mul_succ] at h2
 omega
theorem S_codewrightref01_Cmp {pa pb : Option Addr} {n m ca cb : Nat} {a b : List Nat} :
  Ctr Tryz.prog 21 [.slice pa n ca,.slice pb m cb] [] [slF U32 pa n ca a,slF U32 pb m cb b] (Rv (.int .i64 (cmpN (val a) (val b))) []):=by
 refine Ctr_of_j' (F:=F_codewrightref01_Cmp) rfl fun C=>?_
 refine j_len 0 rfl fun hn hba _=>?_
 refine j_len 1 rfl fun hm hbb _=>?_
 subst hn;subst hm
 have hba' : a.length * 4 ≤ 140737488355328:=hba
 have hbb' : b.length * 4 ≤ 140737488355328:=hbb
 refine j_range 0 rfl fun hra=>?_
 refine j_range 1 rfl fun hrb=>?_
 have ha : ∀ x ∈ a,x < 4294967296:=fun x hx=>by have:=hra x hx;simp only [InR] at this;omega
 have hb : ∀ x ∈ b,x < 4294967296:=fun x hx=>by have:=hrb x hx;simp only [InR] at this;omega
 obtain ⟨M,hM1,hM2,hM3,hM4⟩ : ∃ M : Nat,a.length ≤ M ∧ b.length ≤ M ∧ M ≤ 35184372088832 ∧ (if (a.length : Int) < b.length then (b.length : Int) else a.length) = M :=
  ⟨max a.length b.length,by omega,by omega,by omega,by split <;> omega⟩
 refine j_nf [_,_] rfl (j_run it 1 rfl (by simp) ?_)
 refine j_nf [_,_,_] rfl (j_run it 1 rfl (by simp) ?_)
 refine j_step rfl (x_len sl24 rfl ?_)
 refine j_run it 1 rfl (by simp) ?_
 refine j_step rfl (x_len sl24 rfl ?_)
 refine j_step rfl (x_max rfl rfl ?_) --ok
 rw [hM4]
 refine j_run it 2 rfl ⟨trivial,⟨by omega,by omega⟩,trivial⟩ ?_
 refine j_nf [_,_,_] rfl ?_
 refine j_loopG (X:=Nat) [0,1] [0,1] (fun k=>[(5,.int .i64 ((k : Int) - 1))]) (fun _=>[]) (fun _=>[]) (fun k=>k ≤ M ∧ val a + val (b.take k) = val b + val (a.take k)) (fun k=>k) M [] rfl rfl rfl ⟨Nat.le_refl _,by rw [List.take_of_length_le (by omega),List.take_of_length_le (by omega)];omega⟩ (by repeat (first | exact Fr.sub_nil _ | refine Fr.sub_cons rfl ?_)) rfl rfl ?_
 intro k ⟨hk,hR⟩ ih
 simp only [List.cons_append,List.nil_append] at ih ⊢
 by_cases hk0 : 0 < k
 ·obtain ⟨j,rfl⟩ : ∃ j,k = j + 1:=⟨k - 1,by omega⟩
  rw [show (((j + 1 : Nat) : Int) - 1) = (j : Int) by omega]
  by_cases h1 : a.getD j 0 < b.getD j 0
  ·rw [cmpN_lt (cmp_top ha hR h1)]
   refine j_nf [_,_,_,_,_,_] rfl (j_run it 2 rfl (by simp) ?_)
   refine j_nf [_,_,_,_,_] rfl (j_if rfl rfl (fun h2=>?_) (fun h2=>by exfalso;omega))
   refine j_nf [_,_,_,_,_,_,_,_] rfl (j_run it 2 rfl (by simp) ?_)
   refine j_step rfl (x_call [0] rfl (S_codewrightref01_limb) rfl ?_)
   rintro _ _ _ ⟨rfl,rfl,rfl⟩
   simp only [List.cons_append,List.nil_append]
   refine j_run it 2 rfl (by simp) ?_
   refine j_step rfl (x_call [1] rfl (S_codewrightref01_limb) rfl ?_)
   rintro _ _ _ ⟨rfl,rfl,rfl⟩
   simp only [List.cons_append,List.nil_append]
   refine j_run it 1 rfl (by simp) ?_
   refine j_nf [_,_,_,_,_,_,_] rfl (j_if rfl rfl (fun h3=>?_) (fun h3=>by exfalso;omega))
   refine j_nf [_,_,_,_,_,_,_,_] rfl (j_run it 1 rfl (by simp) ?_)
   refine j_nf [_,_,_,_,_,_,_] rfl ?_
   refine j_giv [] rfl rfl rfl ⟨rfl,rfl,rfl⟩
  by_cases h2 : b.getD j 0 < a.getD j 0
  ·rw [cmpN_gt (cmp_top hb hR.symm h2)]
   refine j_nf [_,_,_,_,_,_] rfl (j_run it 2 rfl (by simp) ?_)
   refine j_nf [_,_,_,_,_] rfl (j_if rfl rfl (fun h3=>?_) (fun h3=>by exfalso;omega))
   refine j_nf [_,_,_,_,_,_,_,_] rfl (j_run it 2 rfl (by simp) ?_)
   refine j_step rfl (x_call [0] rfl (S_codewrightref01_limb) rfl ?_)
   rintro _ _ _ ⟨rfl,rfl,rfl⟩
   simp only [List.cons_append,List.nil_append]
   refine j_run it 2 rfl (by simp) ?_
   refine j_step rfl (x_call [1] rfl (S_codewrightref01_limb) rfl ?_)
   rintro _ _ _ ⟨rfl,rfl,rfl⟩
   simp only [List.cons_append,List.nil_append]
   refine j_run it 1 rfl (by simp) ?_
   refine j_nf [_,_,_,_,_,_,_] rfl (j_if rfl rfl (fun h4=>by exfalso;omega) (fun h4=>?_))
   refine j_nf [_,_,_,_,_,_,_] rfl (j_run it 2 rfl (by simp) ?_)
   refine j_step rfl (x_call [0] rfl (S_codewrightref01_limb) rfl ?_)
   rintro _ _ _ ⟨rfl,rfl,rfl⟩
   simp only [List.cons_append,List.nil_append]
   refine j_run it 2 rfl (by simp) ?_
   refine j_step rfl (x_call [1] rfl (S_codewrightref01_limb) rfl ?_)
   rintro _ _ _ ⟨rfl,rfl,rfl⟩
   simp only [List.cons_append,List.nil_append]
   refine j_run it 1 rfl (by simp) ?_
   refine j_nf [_,_,_,_,_,_] rfl (j_if rfl rfl (fun h5=>?_) (fun h5=>by exfalso;omega))
   refine j_nf [_,_,_,_,_,_,_] rfl (j_run it 1 rfl (by simp) ?_)
   refine j_nf [_,_,_,_,_,_] rfl ?_
   refine j_giv [] rfl rfl rfl ⟨rfl,rfl,rfl⟩
  ·refine j_nf [_,_,_,_,_,_] rfl (j_run it 2 rfl (by simp) ?_)
   refine j_nf [_,_,_,_,_] rfl (j_if rfl rfl (fun h3=>?_) (fun h3=>by exfalso;omega))
   refine j_nf [_,_,_,_,_,_,_,_] rfl (j_run it 2 rfl (by simp) ?_)
   refine j_step rfl (x_call [0] rfl (S_codewrightref01_limb) rfl ?_)
   rintro _ _ _ ⟨rfl,rfl,rfl⟩
   simp only [List.cons_append,List.nil_append]
   refine j_run it 2 rfl (by simp) ?_
   refine j_step rfl (x_call [1] rfl (S_codewrightref01_limb) rfl ?_)
   rintro _ _ _ ⟨rfl,rfl,rfl⟩
   simp only [List.cons_append,List.nil_append]
   refine j_run it 1 rfl (by simp) ?_
   refine j_nf [_,_,_,_,_,_,_] rfl (j_if rfl rfl (fun h4=>by exfalso;omega) (fun h4=>?_))
   refine j_nf [_,_,_,_,_,_,_] rfl (j_run it 2 rfl (by simp) ?_)
   refine j_step rfl (x_call [0] rfl (S_codewrightref01_limb) rfl ?_)
   rintro _ _ _ ⟨rfl,rfl,rfl⟩
   simp only [List.cons_append,List.nil_append]
   refine j_run it 2 rfl (by simp) ?_
   refine j_step rfl (x_call [1] rfl (S_codewrightref01_limb) rfl ?_)
   rintro _ _ _ ⟨rfl,rfl,rfl⟩
   simp only [List.cons_append,List.nil_append]
   refine j_run it 1 rfl (by simp) ?_
   refine j_nf [_,_,_,_,_,_] rfl (j_if rfl rfl (fun h5=>by exfalso;omega) (fun h5=>?_))
   refine j_nf [_,_,_,_] rfl (j_run it 3 rfl ⟨trivial,⟨by omega,by omega⟩,trivial,trivial⟩ ?_)
   refine j_nfn 1 [.lp [1,0,1,0,0],.blk 0,.c [1,1]] rfl ?_
   refine j_to [0,1] (by exact fra rfl) rfl rfl (ih j (by omega) ⟨by omega,by
    rw [val_take_getD,val_take_getD] at hR
    have e : a.getD j 0 = b.getD j 0:=by omega
    rw [e] at hR
    omega⟩)
 ·have : k = 0:=by omega
  subst this
  have e : val a = val b:=by simp [val] at hR;exact hR
  rw [cmpN_eq e]
  refine j_nf [_,_,_,_,_,_] rfl (j_run it 2 rfl (by simp) ?_)
  refine j_nf [_,_,_,_,_] rfl (j_if rfl rfl (fun h1=>by exfalso;omega) (fun h1=>?_))
  refine j_nf [_,_] rfl (j_run it 1 rfl (by simp) ?_)
  refine j_nf [_] rfl ?_
  refine j_giv [] rfl rfl rfl ⟨rfl,rfl,rfl⟩
theorem S_codewrightref01_Sub {pa pb : Option Addr} {n m ca cb : Nat} {a b : List Nat} (hab : val b ≤ val a) :
  Ctr Tryz.prog 72 [.slice pa n ca,.slice pb m cb] [] [slF U32 pa n ca a,slF U32 pb m cb b] (Sv U32 (limbs (val a - val b))):=by
 refine Ctr_of_j' (F:=F_codewrightref01_Sub) rfl fun C=>?_
 refine j_len 0 rfl fun hn hba _=>?_
 refine j_len 1 rfl fun hm _ _=>?_
 subst hn;subst hm
 have hba' : a.length * 4 ≤ 140737488355328:=hba
 refine j_range 0 rfl fun hra=>?_
 refine j_range 1 rfl fun hrb=>?_
 have ha : ∀ x ∈ a,x < 4294967296:=fun x hx=>by have:=hra x hx;simp only [InR] at this;omega
 have hb : ∀ x ∈ b,x < 4294967296:=fun x hx=>by have:=hrb x hx;simp only [InR] at this;omega
 refine j_nf [_,_] rfl (j_run it 1 rfl (by simp) ?_)
 refine j_nf [_,_] rfl (j_run it 1 rfl (by simp) ?_)
 refine j_nf [_,_] rfl (j_run it 1 rfl (by simp) ?_)
 refine j_nf [_,_,_] rfl (j_run it 1 rfl (by simp) ?_)
 refine j_nf [_,_,_] rfl ?_
 refine j_nil 73 ?_
 refine j_loopG (X:=Nat × Nat × List Nat × Option Nat × Nat × List Value) [0,1,4] [0,1] (fun x=>[(5,.slice (ad x.2.2.2.1) x.1 x.2.2.2.2.1),(6,.int .u64 x.2.1),(7,.int .i64 x.1)])
  (fun x=>[(x.2.2.2.1,73,x.2.2.2.2.2)]) (fun _=>[])
  (fun x=>(x.1 ≤ a.length ∧ x.2.1 ≤ 1 ∧ x.2.2.1.length = x.1) ∧ (∀ y ∈ x.2.2.1,y < 4294967296) ∧ val x.2.2.1 + val (b.take x.1) = val (a.take x.1) + 4294967296 ^ x.1 * x.2.1 ∧ GrOk x.2.2.2.1 x.1 x.2.2.2.2.1 1 x.2.2.2.2.2 ∧ x.2.2.2.2.2.take x.1 = natCells .u32 x.2.2.1)
  (fun x=>a.length - x.1) (0,0,[],none,0,[]) [] rfl rfl rfl ⟨⟨Nat.zero_le _,Nat.zero_le _,rfl⟩,(fun y hy=>by cases hy),by simp [val],GrOk.nil _,rfl⟩ (by repeat (first | exact Fr.sub_nil _ | refine Fr.sub_cons rfl ?_)) rfl rfl ?_
 rintro ⟨k,c,out,bo,cap,cs⟩ ⟨⟨hk,hc,hl⟩,ho,hv,hg,ht⟩ ih
 simp only [List.cons_append,List.nil_append] at hk hc hl ho hv hg ht ih ⊢
 by_cases hkl : k < a.length
 ·have h1:=getD_lt (k:=k) ha (by decide)
  have h2:=getD_lt (k:=k) hb (by decide)
  refine j_nf [_,_,_,_,_,_] rfl (j_run it 2 rfl (by simp) ?_)
  refine j_step rfl (x_len sl24 rfl ?_)
  refine j_run it 1 rfl (by simp) ?_
  refine j_nf [_,_,_,_,_] rfl (j_if rfl rfl (fun h3=>?_) (fun h3=>by exfalso;omega))
  refine j_nf [_,_,_,_,_,_,_] rfl (j_run it 2 rfl (by simp) ?_)
  refine j_step rfl (x_call [0] rfl (S_codewrightref01_limb) rfl ?_)
  rintro _ _ _ ⟨rfl,rfl,rfl⟩
  simp only [List.cons_append,List.nil_append]
  refine j_run it 3 rfl ⟨trivial,trivial,⟨by omega,by omega⟩,trivial⟩ ?_
  refine j_step rfl (x_call [1] rfl (S_codewrightref01_limb) rfl ?_)
  rintro _ _ _ ⟨rfl,rfl,rfl⟩
  simp only [List.cons_append,List.nil_append]
  refine j_run it 4 rfl ⟨trivial,⟨by omega,by omega⟩,trivial,⟨by omega,by omega⟩,trivial⟩ ?_
  refine j_nf [_,_,_,_,_,_,_] rfl (j_run it 4 rfl ⟨⟨by omega,by omega⟩,⟨by omega,by omega⟩,trivial,trivial,trivial⟩ ?_)
  refine j_step rfl (x_lit sl24 zo24e rfl rfl rfl rfl (by decide) (by decide) rfl fun b1=>?_)
  refine j_step rfl (x_app 1 0 rfl rfl rfl rfl sl24 zo24e rfl (by first | exact GrOk.nil _ | assumption | exact .inr ⟨_,rfl,Nat.le_refl _,by omega,rfl⟩) rfl rfl (by first | (simp [Value.oneCell'];done) | (simp [Value.oneCell',cellsL];done) | (intro u hu;rcases List.mem_singleton.1 hu with rfl;rfl)) (by omega) _ by24e (by omega) fun bo1 cap1 cs1 hg1 ht1=>?_)
  refine j_run it 1 rfl (by simp) ?_
  refine j_nf [_,_,_,_,_,_] rfl (j_run it 4 rfl ⟨trivial,⟨by omega,by omega⟩,⟨by omega,by omega,by omega,by omega⟩,trivial,trivial⟩ ?_)
  refine j_nf [_,_,_,_] rfl (j_run it 3 rfl ⟨trivial,⟨by omega,by omega⟩,trivial,trivial⟩ ?_)
  refine j_nfn 1 [.lp (pL 244),.blk 0,.c [1,1,1,1]] rfl ?_
  simp only [Nat.mul_one] at hg1 ht1
  have hcell : ((a.getD k 0 : Int) + 4294967296 - b.getD k 0 - c) % 4294967296 = ((a.getD k 0 + 4294967296 - b.getD k 0 - c) % 4294967296 : Nat):=by omega
  have hbor : (1 - ((a.getD k 0 : Int) + 4294967296 - b.getD k 0 - c) / 4294967296) = ((1 - (a.getD k 0 + 4294967296 - b.getD k 0 - c) / 4294967296 : Nat) : Int):=by omega
  rw [hbor]
  obtain ⟨hw1,hw2⟩:=sub_word h1 h2 hc rfl
  have hst:=sub_step hv hc h1 h2 rfl
  have hwB : (a.getD k 0 + 4294967296 - b.getD k 0 - c) % 4294967296 < 4294967296:=Nat.mod_lt _ (by decide)
  refine j_toM [true,false] [0,1] (by exact fra rfl) rfl rfl (ih (k + 1,1 - (a.getD k 0 + 4294967296 - b.getD k 0 - c) / 4294967296,out++[(a.getD k 0 + 4294967296 - b.getD k 0 - c) % 4294967296],bo1,cap1,cs1) (by simp only;omega)
   ⟨⟨by simp only;omega,hw2,by simp [hl]⟩,snoc_lt ho hwB,by
    simp only
    rw [val_snoc,hl,Nat.pow_succ,val_take_getD,val_take_getD]
    exact hst,hg1,by
    simp only
    rw [ht1,ht,natCells_append]
    congr 1
    simp only [List.flatten_cons,List.flatten_nil,List.append_nil,cellsL,natCells,List.map_cons,List.map_nil]
    rw [hcell];rfl⟩)
 ·have ek : k = a.length:=by omega
  subst ek
  rw [List.take_length] at hv
  obtain ⟨-,hres⟩:=sub_end ho hl hc hab hv
  refine j_nf [_,_,_,_,_,_] rfl (j_run it 2 rfl (by simp) ?_)
  refine j_step rfl (x_len sl24 rfl ?_)
  refine j_run it 1 rfl (by simp) ?_
  refine j_nf [_,_,_,_,_] rfl (j_if rfl rfl (fun h1=>by exfalso;omega) (fun h1=>?_))
  refine j_nf [_,_] rfl (j_run it 1 rfl (by simp) ?_)
  refine j_pub_nat (kd:=.u32) 4 out 0 rfl hg ht hl.symm (fun x hx=>by have:=ho x hx;simp only [InR];omega) (by omega) ?_
  refine j_step rfl (x_call [0] rfl (S_codewrightref01_Trim) rfl ?_)
  rintro _ _ _ ⟨pa1,ca1,rfl,rfl,rfl⟩
  simp only [List.cons_append,List.nil_append]
  refine j_run it 1 rfl (by simp) ?_
  refine j_nf [_] rfl ?_
  rw [trim_eq ho,hres]
  refine j_giv [0] rfl rfl rfl ⟨_,_,rfl,rfl,rfl⟩
theorem natCells_snoc (k : IntKind) (l : List Nat) (x : Nat) : natCells k (l++[x]) = natCells k l++[.int k x]:=by simp [natCells]
theorem val_zeros_append (n : Nat) (l : List Nat) : val (List.replicate n 0++l) = 4294967296 ^ n * val l:=by
 rw [val_append,val_replicate,List.length_replicate,Nat.zero_add]
theorem S_codewrightref01_shift {pa : Option Addr} {m ca n : Nat} {a : List Nat} (ha : a.length ≤ 1073741824) (hn : n ≤ 1099511627776) :
  Ctr Tryz.prog 95 [.slice pa m ca,.int .i64 n] [] [slF U32 pa m ca a] (Sv U32 (limbs (val a * 2 ^ n))):=by
 refine Ctr_of_j' (F:=F_codewrightref01_shift) rfl fun C=>?_
 refine j_len 0 rfl fun hm hba _=>?_
 subst hm
 refine j_range 0 rfl fun hra=>?_
 have hra' : ∀ x ∈ a,x < 4294967296:=fun x hx=>by have:=hra x hx;simp only [InR] at this;omega
 have hs : n % 32 < 32:=Nat.mod_lt _ (by decide)
 have hdiv : ((n : Int) / 32) = ((n / 32 : Nat) : Int):=by omega
 have hmod : ((n : Int) % 32) = ((n % 32 : Nat) : Int):=by omega
 have hpow : 2 ^ n = 4294967296 ^ (n / 32) * 2 ^ (n % 32):=by
  rw [show (4294967296 : Nat) = 2 ^ 32 from rfl,← Nat.pow_mul,← Nat.pow_add]
  congr 1;omega
 refine j_nf [_,_] rfl (j_run it 1 rfl (by simp) ?_)
 refine j_nf [_,_] rfl (j_run it 2 rfl ⟨⟨by omega,by omega,by omega,by omega⟩,trivial,trivial⟩ ?_)
 refine j_step rfl (x_make_nat ((n) / 32) _ rfl rfl sl24 zo24e by24e (by omega) (by omega) (by omega) fun b1=>?_)
 refine j_run it 1 rfl (by simp) ?_
 refine j_nf [_,_] rfl (j_run it 1 rfl (by simp) ?_)
 refine j_nf [_,_,_] rfl (j_run it 1 rfl (by simp) ?_)
 refine j_nf [_,_,_] rfl ?_
 refine j_loopG (X:=Nat × Nat × List Nat × Option Nat × Nat × List Value) [0,1,4] [0] (fun x=>[(5,.slice (ad x.2.2.2.1) (n / 32 + x.1) x.2.2.2.2.1),(6,.int .u64 x.2.1),(7,.int .i64 x.1)])
  (fun x=>[(x.2.2.2.1,73,x.2.2.2.2.2)]) (fun _=>[])
  (fun x=>(x.1 ≤ a.length ∧ x.2.1 < 2 ^ (n % 32) ∧ x.2.2.1.length = x.1) ∧ (∀ y ∈ x.2.2.1,y < 4294967296) ∧ val x.2.2.1 + 4294967296 ^ x.1 * x.2.1 = val (a.take x.1) * 2 ^ (n % 32) ∧ GrOk x.2.2.2.1 (n / 32 + x.1) x.2.2.2.2.1 1 x.2.2.2.2.2 ∧ x.2.2.2.2.2.take (n / 32 + x.1) = natCells .u32 (List.replicate (n / 32) 0++x.2.2.1))
  (fun x=>a.length - x.1) (0,0,[],some b1,n / 32,natCells .u32 (List.replicate (n / 32) 0)) [] rfl rfl rfl ⟨⟨Nat.zero_le _,Nat.pow_pos (by decide),rfl⟩,(fun y hy=>by cases hy),by simp [val],.inr ⟨b1,rfl,Nat.le_refl _,by dsimp only;omega,by simp⟩,by simp [natCells_take]⟩ (by repeat (first | exact Fr.sub_nil _ | refine Fr.sub_cons rfl ?_)) rfl rfl ?_
 rintro ⟨k,c,out,bo,cap,cs⟩ ⟨⟨hk,hc,hl⟩,ho,hv,hg,ht⟩ ih
 simp only [List.cons_append,List.nil_append] at hk hc hl ho hv hg ht ih ⊢
 by_cases hkl : k < a.length
 ·refine j_nf [_,_,_,_,_,_] rfl (j_run it 2 rfl (by simp) ?_)
  refine j_step rfl (x_len sl24 rfl ?_)
  refine j_run it 1 rfl (by simp) ?_
  refine j_nf [_,_,_,_,_] rfl (j_if rfl rfl (fun h1=>?_) (fun h1=>by exfalso;omega))
  refine j_nf [_,_,_,_,_,_,_] rfl (j_run it 2 rfl (by simp) ?_)
  refine j_step rfl (x_idx 0 (k) rfl rfl rfl sl24 rfl (by omega) fun z1 hz1 b2 o1=>?_)
  refine j_step rfl (x_ld_nat 0 rfl rfl ld73 fun ⟨r1,r2⟩=>?_)
  refine j_run it 3 rfl ⟨⟨by omega,by omega⟩,trivial,⟨by omega,by omega⟩,trivial⟩ ?_ --ok
  have hxl:=hra' _ (List.mem_of_getElem? hz1)
  obtain ⟨hs1,hs2,hs3⟩:=shl_lt hxl hs
  refine j_step rfl (x_shl_nat (z1) ((n) % 32) rfl rfl (by first | rfl | omega) (by first | rfl | omega) (by first | decide | (simp only [IntKind.bits];omega)) (by first | assumption | (simp only [InR];omega)) ?_)
  refine j_run it 3 rfl ⟨trivial,⟨by omega,by omega⟩,trivial,trivial⟩ ?_
  refine j_nf [_,_,_,_,_,_,_] rfl (j_run it 4 rfl ⟨⟨by omega,by omega⟩,⟨by omega,by omega⟩,trivial,trivial,trivial⟩ ?_)
  refine j_step rfl (x_lit sl24 zo24e rfl rfl rfl rfl (by decide) (by decide) rfl fun b3=>?_)
  refine j_step rfl (x_app 1 0 rfl rfl rfl rfl sl24 zo24e rfl (by first | exact GrOk.nil _ | assumption | exact .inr ⟨_,rfl,Nat.le_refl _,by omega,rfl⟩) rfl rfl (by first | (simp [Value.oneCell'];done) | (simp [Value.oneCell',cellsL];done) | (intro u hu;rcases List.mem_singleton.1 hu with rfl;rfl)) (by omega) _ by24e (by omega) fun bo1 cap1 cs1 hg1 ht1=>?_)
  refine j_run it 1 rfl (by simp) ?_
  refine j_nf [_,_,_,_,_,_] rfl (j_run it 3 rfl ⟨trivial,⟨by omega,by omega,by omega,by omega⟩,trivial,trivial⟩ ?_)
  refine j_nf [_,_,_,_] rfl (j_run it 3 rfl ⟨trivial,⟨by omega,by omega⟩,trivial,trivial⟩ ?_)
  refine j_nfn 1 [.lp (pL 244),.blk 0,.c [1,1,1,1]] rfl ?_
  simp only [Nat.mul_one] at hg1 ht1
  have hdv : (z1 * 2 ^ (n % 32) + c) / 4294967296 < 2 ^ (n % 32):=by
   rw [Nat.div_lt_iff_lt_mul (by decide)]
   have:=Nat.mul_le_mul_right (2 ^ (n % 32)) hxl
   rw [Nat.succ_mul] at this
   omega
  have hmB : (z1 * 2 ^ (n % 32) + c) % 4294967296 < 4294967296:=Nat.mod_lt _ (by decide)
  refine j_toM [true,false] [1] (by exact fra rfl) rfl rfl (ih (k + 1,(z1 * 2 ^ (n % 32) + c) / 4294967296,out++[(z1 * 2 ^ (n % 32) + c) % 4294967296],bo1,cap1,cs1) (by simp only;omega)
   ⟨⟨by simp only;omega,hdv,by simp [hl]⟩,snoc_lt ho hmB,by
    simp only
    rw [val_snoc,hl,Nat.pow_succ,val_take_succ hz1,Nat.add_mul]
    generalize hS : z1 * 2 ^ (n % 32) + c = s
    have e : s % 4294967296 + 4294967296 * (s / 4294967296) = s:=by omega
    have e2 : 4294967296 ^ k * (s % 4294967296) + 4294967296 ^ k * 4294967296 * (s / 4294967296) = 4294967296 ^ k * (z1 * 2 ^ (n % 32)) + 4294967296 ^ k * c:=by
     rw [Nat.mul_assoc,← Nat.mul_add,← Nat.mul_add,e,hS]
    rw [Nat.mul_assoc (4294967296 ^ k) z1]
    omega,hg1,by
    simp only
    rw [← Nat.add_assoc,ht1,ht,← List.append_assoc,natCells_snoc];rfl⟩)
 ·have ek : k = a.length:=by omega
  subst ek
  obtain ⟨_,_,hs3⟩:=shl_lt (x:=0) (by decide) hs
  rw [List.take_length] at hv
  refine j_nf [_,_,_,_,_,_] rfl (j_run it 2 rfl (by simp) ?_)
  refine j_step rfl (x_len sl24 rfl ?_)
  refine j_run it 1 rfl (by simp) ?_
  refine j_nf [_,_,_,_,_] rfl (j_if rfl rfl (fun h1=>by exfalso;omega) (fun h1=>?_))
  refine j_nf [_,_] rfl (j_run it 3 rfl ⟨⟨by omega,by omega⟩,trivial,trivial,trivial⟩ ?_)
  refine j_step rfl (x_lit sl24 zo24e rfl rfl rfl rfl (by decide) (by decide) rfl fun b2=>?_)
  refine j_step rfl (x_app 1 0 rfl rfl rfl rfl sl24 zo24e rfl (by first | exact GrOk.nil _ | assumption | exact .inr ⟨_,rfl,Nat.le_refl _,by omega,rfl⟩) rfl rfl (by first | (simp [Value.oneCell'];done) | (simp [Value.oneCell',cellsL];done) | (intro u hu;rcases List.mem_singleton.1 hu with rfl;rfl)) (by omega) _ by24e (by omega) fun bo1 cap1 cs1 hg1 ht1=>?_)
  simp only [Nat.mul_one] at hg1 ht1
  refine j_pub_nat (kd:=.u32) 4 (List.replicate (n / 32) 0++(out++[c])) 0 rfl hg1 (by rw [ht1,ht,← List.append_assoc,natCells_snoc];rfl) (by simp [hl];omega) (fun x hx=>by
   simp only [List.mem_append,List.mem_replicate,List.mem_singleton] at hx
   rcases hx with ⟨_,rfl⟩ | hx | rfl
   ·simp [InR]
   ·have:=ho x hx;simp only [InR];omega
   ·simp only [InR];omega) (by omega) ?_
  have hall : ∀ x ∈ List.replicate (n / 32) 0++(out++[c]),x < 4294967296:=fun x hx=>by
   simp only [List.mem_append,List.mem_replicate,List.mem_singleton] at hx
   rcases hx with ⟨_,rfl⟩ | hx | rfl
   ·decide
   ·exact ho x hx
   ·omega
  refine j_step rfl (x_call [0] rfl (S_codewrightref01_Trim) rfl ?_)
  rintro _ _ _ ⟨pa1,ca1,rfl,rfl,rfl⟩
  simp only [List.cons_append,List.nil_append]
  refine j_run it 1 rfl (by simp) ?_
  refine j_nf [_] rfl ?_
  rw [trim_eq hall,val_zeros_append,val_snoc,hl,hv,hpow]
  rw [show 4294967296 ^ (n / 32) * (val a * 2 ^ (n % 32)) = val a * (4294967296 ^ (n / 32) * 2 ^ (n % 32)) by simp only [Nat.mul_left_comm]]
  refine j_giv [0] rfl rfl rfl ⟨_,_,rfl,rfl,rfl⟩
abbrev DivR (A B : Nat) : Value → List Fact → List Blk → Prop:=fun v Φ β=>∃ p1 c1 p2 c2,v = .tuple #[.slice p1 (limbs (A / B)).length c1,.slice p2 (limbs (A % B)).length c2] ∧ Φ = [slF U32 p1 (limbs (A / B)).length c1 (limbs (A / B)),slF U32 p2 (limbs (A % B)).length c2 (limbs (A % B))] ∧ β = []
theorem bitsL_blen {l : List Nat} (h : ∀ x ∈ l,x < 4294967296) : bitsL l = blen (val l):=by
 have ht:=trim_eq h
 rcases Nat.eq_zero_or_pos (trim l).length with h1 | h1
 ·rw [bitsL_nil h1]
  have:=List.eq_nil_of_length_eq_zero h1
  rw [ht,limbs_nil] at this
  rw [this,blen_zero]
 ·obtain ⟨k,hk⟩ : ∃ k,(trim l).length = k + 1:=⟨(trim l).length - 1,by omega⟩
  obtain ⟨t,hz,hz0⟩:=limbs_top (n:=val l) (k:=k) (by rw [← ht];exact hk)
  have hs:=top_split (by rw [← ht];exact hk) hz
  rw [val_limbs] at hs
  rw [← ht] at hz hs
  rw [bitsL_top (z:=t) (by rw [hk];exact hz),hk,Nat.add_sub_cancel]
  have hlow:=take_lt (l:=trim l) (k:=k) (by rw [ht];exact limbs_lt _) (by omega)
  have e : (4294967296 : Nat) ^ k = 2 ^ (32 * k):=by rw [Nat.pow_mul]
  rw [e] at hs hlow
  rw [hs,blen_div (32 * k) (val ((trim l).take k) + 2 ^ (32 * k) * t) (Nat.le_trans (Nat.le_mul_of_pos_right _ (Nat.pos_of_ne_zero hz0)) (Nat.le_add_left _ _)),Nat.add_mul_div_left _ _ (Nat.pow_pos (by decide)),Nat.div_eq_of_lt hlow,Nat.zero_add,Nat.add_comm]
theorem bits_le {l : List Nat} (h : ∀ x ∈ l,x < 4294967296) : bitsL l ≤ 32 * l.length:=by
 rw [bitsL_blen h]
 have:=val_lt h
 exact blen_le (by rw [Nat.pow_mul];exact this)
theorem bit_step {A B Q R s i : Nat} (h : A = Q * B + R) (hR : R < B * 2 ^ (i + 1)) (hs : s = 2 ^ i) (hge : B * s ≤ R) : A = (Q + s) * B + (R - B * s) ∧ R - B * s < B * 2 ^ i:=by
 subst hs
 rw [Nat.pow_succ,← Nat.mul_assoc] at hR
 constructor
 ·rw [Nat.add_mul,Nat.mul_comm (2 ^ i) B];omega
 ·omega
theorem S_codewrightref01_DivMod {pa pb : Option Addr} {n m ca cb : Nat} {a b : List Nat} (hal : a.length ≤ 1073741824) (hbl : b.length ≤ 1073741824) (hb0 : val b ≠ 0) :
  Ctr Tryz.prog 77 [.slice pa n ca,.slice pb m cb] [] [slF U32 pa n ca a,slF U32 pb m cb b] (DivR (val a) (val b)):=by
 refine Ctr_of_j' (F:=F_codewrightref01_DivMod) rfl fun C=>?_
 refine j_len 0 rfl fun hn hba _=>?_
 refine j_len 1 rfl fun hm hbb _=>?_
 subst hn;subst hm
 refine j_range 0 rfl fun hra=>?_
 refine j_range 1 rfl fun hrb=>?_
 have ha : ∀ x ∈ a,x < 4294967296:=fun x hx=>by have:=hra x hx;simp only [InR] at this;omega
 have hb : ∀ x ∈ b,x < 4294967296:=fun x hx=>by have:=hrb x hx;simp only [InR] at this;omega
 have ea:=trim_eq ha
 have lla:=trim_length_le a
 have ba:=bits_le ha
 have bb:=bits_le hb
 have eba:=bitsL_blen ha
 have ebb:=bitsL_blen hb
 have hst : val a < val b * 2 ^ ((bitsL a : Int) - bitsL b + 1).toNat:=by
  have h1:=blen_lt (val a)
  have h2:=blen_ge hb0
  rw [eba,ebb]
  have h3 : 2 ^ (blen (val b) - 1) * 2 ^ ((blen (val a) : Int) - blen (val b) + 1).toNat ≤ val b * 2 ^ ((blen (val a) : Int) - blen (val b) + 1).toNat:=Nat.mul_le_mul_right _ h2
  rw [← Nat.pow_add] at h3
  have h4 : 2 ^ blen (val a) ≤ 2 ^ (blen (val b) - 1 + ((blen (val a) : Int) - blen (val b) + 1).toNat):=Nat.pow_le_pow_right (by decide) (by omega)
  omega
 refine j_nf [_,_] rfl (j_run it 2 rfl (by simp) ?_)
 refine j_nf [_,_] rfl (j_run it 1 rfl (by simp) ?_)
 refine j_step rfl (x_call [0] rfl (S_codewrightref01_Trim) rfl ?_)
 rintro _ _ _ ⟨pa1,ca1,rfl,rfl,rfl⟩
 simp only [List.cons_append,List.nil_append]
 refine j_run it 1 rfl (by simp) ?_
 refine j_nf [_,_] rfl (j_run it 1 rfl (by simp) ?_)
 refine j_step rfl (x_call [1] rfl (S_codewrightref01_Bits) rfl ?_)
 rintro _ _ _ ⟨rfl,rfl,rfl⟩
 simp only [List.cons_append,List.nil_append]
 refine j_run it 1 rfl (by simp) ?_
 refine j_step rfl (x_call [2] rfl (S_codewrightref01_Bits) rfl ?_)
 rintro _ _ _ ⟨rfl,rfl,rfl⟩
 simp only [List.cons_append,List.nil_append]
 refine j_run it 2 rfl ⟨trivial,⟨by omega,by omega⟩,trivial⟩ ?_
 refine j_nf [_,_,_] rfl (j_run it 2 rfl (by simp) ?_)
 refine j_nf [_,_,_] rfl ?_
 rw [ea]
 rw [ea] at lla
 refine j_add (slF U32 none (limbs 0).length 0 (limbs 0)) (fun w A _=>by rw [limbs_zero];exact slF_nil _ _ _ _ _) ?_
 refine j_loopG (X:=Int × Nat × Nat × (Option Addr × Nat) × (Option Addr × Nat)) [1] [3] (fun x=>[(4,.slice x.2.2.2.1.1 (limbs x.2.1).length x.2.2.2.1.2),(5,.slice x.2.2.2.2.1 (limbs x.2.2.1).length x.2.2.2.2.2),(7,.int .i64 (x.1 - 1))]) (fun _=>[])
  (fun x=>[slF U32 x.2.2.2.1.1 (limbs x.2.1).length x.2.2.2.1.2 (limbs x.2.1),slF U32 x.2.2.2.2.1 (limbs x.2.2.1).length x.2.2.2.2.2 (limbs x.2.2.1)])
  (fun x=>x.1 ≤ (bitsL a : Int) - bitsL b + 1 ∧ val a = x.2.1 * val b + x.2.2.1 ∧ x.2.2.1 < val b * 2 ^ x.1.toNat ∧ -34359738368 ≤ x.1)
  (fun x=>x.1.toNat) ((bitsL a : Int) - bitsL b + 1,0,val a,(none,0),(pa1,ca1)) [0,1] rfl rfl rfl ⟨Int.le_refl _,by simp,hst,by dsimp only;omega⟩ (by rw [limbs_zero];repeat (first | exact Fr.sub_nil _ | refine Fr.sub_cons rfl ?_ | refine Fr.sub_consI rfl (by dsimp only;omega) ?_)) rfl rfl ?_
 rintro ⟨i,Q,R,⟨pq,cq⟩,⟨pr,cr⟩⟩ ⟨hi,hA,hR,hi2⟩ ih
 simp only [List.cons_append,List.nil_append] at hi hA hR hi2 ih ⊢
 by_cases hi0 : 0 < i
 ·obtain ⟨j,rfl⟩ : ∃ j : Nat,i = (j : Int) + 1:=⟨(i - 1).toNat,by omega⟩
  rw [show ((j : Int) + 1 - 1) = (j : Int) by omega]
  rw [show ((j : Int) + 1).toNat = j + 1 by omega] at hR
  have hjn : j ≤ 1099511627776:=by omega
  have hRa : R ≤ val a:=by rw [hA];exact Nat.le_add_left _ _
  have hQa : Q ≤ val a:=by
   have : Q * 1 ≤ Q * val b:=Nat.mul_le_mul_left _ (Nat.pos_of_ne_zero hb0)
   omega
  have lQ:=limbs_mono lla hQa
  by_cases hc : val b * 2 ^ j ≤ R
  ·have hcc : 0 ≤ cmpN (val (limbs R)) (val (limbs (val b * 2 ^ j))):=by rw [val_limbs,val_limbs];unfold cmpN;split <;> (try split) <;> omega
   have hle : val (limbs (val b * 2 ^ j)) ≤ val (limbs R):=by rw [val_limbs,val_limbs];exact hc
   obtain ⟨hA',hR'⟩:=bit_step hA hR rfl hc
   have lQ2 : (limbs (2 ^ j)).length ≤ 1073741824:=limbs_mono (Nat.le_trans lla hal) (by
    have : 1 * 2 ^ j ≤ val b * 2 ^ j:=Nat.mul_le_mul_right _ (Nat.pos_of_ne_zero hb0)
    omega)
   have e1 : val [1] * 2 ^ j = 2 ^ j:=by simp [val]
   refine j_nf [_,_,_,_,_,_] rfl (j_run it 2 rfl (by simp) ?_)
   refine j_nf [_,_,_,_,_] rfl (j_if rfl rfl (fun h1=>?_) (fun h1=>by exfalso;omega))
   refine j_nf [_,_,_,_,_,_,_] rfl (j_run it 2 rfl (by simp) ?_)
   refine j_step rfl (x_call [2] rfl (S_codewrightref01_shift (by omega) (by omega)) rfl ?_)
   rintro _ _ _ ⟨pa2,ca2,rfl,rfl,rfl⟩
   simp only [List.cons_append,List.nil_append]
   refine j_run it 1 rfl (by simp) ?_
   refine j_nf [_,_,_,_,_,_,_] rfl (j_run it 2 rfl (by simp) ?_)
   refine j_step rfl (x_call [2,0] rfl (S_codewrightref01_Cmp) rfl ?_)
   rintro _ _ _ ⟨rfl,rfl,rfl⟩
   simp only [List.cons_append,List.nil_append]
   refine j_run it 1 rfl (by simp) ?_
   refine j_nf [_,_,_,_,_,_] rfl (j_if rfl rfl (fun h2=>?_) (fun h2=>by exfalso;omega))
   refine j_nf [_,_,_,_,_,_,_] rfl (j_run it 2 rfl (by simp) ?_)
   refine j_step rfl (x_call [2,0] rfl (S_codewrightref01_Sub (by omega)) rfl ?_)
   rintro _ _ _ ⟨pa3,ca3,rfl,rfl,rfl⟩
   simp only [List.cons_append,List.nil_append]
   refine j_run it 1 rfl (by simp) ?_
   refine j_nf [_,_,_,_,_,_] rfl (j_run it 1 rfl (by simp) ?_)
   refine j_step rfl (x_lit sl24 zo24e rfl rfl rfl rfl (by decide) (by decide) rfl fun b1=>?_)
   refine j_run it 1 rfl (by simp) ?_
   refine j_pub_made (n:=1) (kd:=IntKind.u32) 4 [1] 0 rfl rfl (by first | (simp [InR];done) | (simp only [InR,List.mem_cons,List.not_mem_nil,or_false,forall_eq_or_imp,forall_eq];omega)) (by decide) (by decide) ?_
   refine j_step rfl (x_call [0] rfl (S_codewrightref01_shift (by simp) (by omega)) rfl ?_)
   rintro _ _ _ ⟨pa4,ca4,rfl,rfl,rfl⟩
   simp only [List.cons_append,List.nil_append] --ok
   rw [e1]
   refine j_step rfl (x_call [4,0] rfl (S_codewrightref01_Add (by omega) (by omega)) rfl ?_)
   rintro _ _ _ ⟨pa5,ca5,rfl,rfl,rfl⟩
   simp only [List.cons_append,List.nil_append]
   refine j_run it 1 rfl (by simp) ?_
   refine j_nf [_,_,_,_] rfl (j_run it 3 rfl ⟨trivial,⟨by omega,by omega⟩,trivial,trivial⟩ ?_)
   refine j_nfn 1 [.lp (pL 244),.blk 0,.c [1,1,1,1]] rfl ?_
   simp only [val_limbs]
   refine j_to [0,3,7] (by exact fra rfl) rfl rfl (ih ((j : Int),Q + 2 ^ j,R - val b * 2 ^ j,(pa5,ca5),(pa3,ca3)) (by dsimp only;omega) ⟨by dsimp only;omega,hA',by dsimp only;rw [Int.toNat_natCast];exact hR',by dsimp only;omega⟩)
  ·have hcc : ¬ 0 ≤ cmpN (val (limbs R)) (val (limbs (val b * 2 ^ j))):=by rw [val_limbs,val_limbs,cmpN_lt (by omega)];decide
   refine j_nf [_,_,_,_,_,_] rfl (j_run it 2 rfl (by simp) ?_)
   refine j_nf [_,_,_,_,_] rfl (j_if rfl rfl (fun h1=>?_) (fun h1=>by exfalso;omega))
   refine j_nf [_,_,_,_,_,_,_] rfl (j_run it 2 rfl (by simp) ?_)
   refine j_step rfl (x_call [2] rfl (S_codewrightref01_shift (by omega) (by omega)) rfl ?_)
   rintro _ _ _ ⟨pa2,ca2,rfl,rfl,rfl⟩
   simp only [List.cons_append,List.nil_append]
   refine j_run it 1 rfl (by simp) ?_
   refine j_nf [_,_,_,_,_,_,_] rfl (j_run it 2 rfl (by simp) ?_)
   refine j_step rfl (x_call [2,0] rfl (S_codewrightref01_Cmp) rfl ?_)
   rintro _ _ _ ⟨rfl,rfl,rfl⟩
   simp only [List.cons_append,List.nil_append]
   refine j_run it 1 rfl (by simp) ?_
   refine j_nf [_,_,_,_,_,_] rfl (j_if rfl rfl (fun h2=>by exfalso;omega) (fun h2=>?_))
   refine j_nf [_,_,_,_] rfl (j_run it 3 rfl ⟨trivial,⟨by omega,by omega⟩,trivial,trivial⟩ ?_)
   refine j_nfn 1 [.lp (pL 244),.blk 0,.c [1,1,1,1]] rfl ?_
   refine j_to [1,2,3] (by exact fra rfl) rfl rfl (ih ((j : Int),Q,R,(pq,cq),(pr,cr)) (by dsimp only;omega) ⟨by dsimp only;omega,hA,by dsimp only;rw [Int.toNat_natCast];omega,by dsimp only;omega⟩)
 ·have e0 : i.toNat = 0:=by omega
  rw [e0,Nat.pow_zero,Nat.mul_one] at hR
  have hQ : Q = val a / val b:=by
   rw [hA,Nat.mul_comm,Nat.mul_add_div (Nat.pos_of_ne_zero hb0),Nat.div_eq_of_lt hR,Nat.add_zero]
  have hRR : R = val a % val b:=by
   rw [hA,Nat.mul_comm,Nat.mul_add_mod,Nat.mod_eq_of_lt hR]
  refine j_nf [_,_,_,_,_,_] rfl (j_run it 2 rfl (by simp) ?_)
  refine j_nf [_,_,_,_,_] rfl (j_if rfl rfl (fun h1=>by exfalso;omega) (fun h1=>?_))
  refine j_nf [_,_] rfl (j_run it 1 rfl (by simp) ?_)
  refine j_step rfl (x_call [0] rfl (S_codewrightref01_Trim) rfl ?_)
  rintro _ _ _ ⟨pa2,ca2,rfl,rfl,rfl⟩
  simp only [List.cons_append,List.nil_append]
  refine j_run it 3 rfl (by simp) ?_
  refine j_nf [_] rfl ?_
  rw [trim_limbs,hQ,hRR]
  refine j_giv [0,2] rfl rfl rfl ⟨_,_,_,_,rfl,rfl,rfl⟩
theorem S_codewrightref01_Gcd {pa pb : Option Addr} {n m ca cb : Nat} {a b : List Nat} (hal : a.length ≤ 1073741824) (hbl : b.length ≤ 1073741824) :
  Ctr Tryz.prog 76 [.slice pa n ca,.slice pb m cb] [] [slF U32 pa n ca a,slF U32 pb m cb b] (Sv U32 (limbs (Nat.gcd (val a) (val b)))):=by
 refine Ctr_of_j' (F:=F_codewrightref01_Gcd) rfl fun C=>?_
 refine j_len 0 rfl fun hn hba _=>?_
 refine j_len 1 rfl fun hm hbb _=>?_
 subst hn;subst hm
 refine j_nf [_,_] rfl (j_run it 1 rfl (by simp) ?_)
 refine j_nf [_,_,_] rfl ?_
 refine j_loopG (X:=List Nat × List Nat × (Option Addr × Nat) × (Option Addr × Nat)) [4] [] (fun x=>[(0,.slice x.2.2.1.1 x.1.length x.2.2.1.2),(1,.slice x.2.2.2.1 x.2.1.length x.2.2.2.2)]) (fun _=>[]) (fun x=>[slF U32 x.2.2.1.1 x.1.length x.2.2.1.2 x.1,slF U32 x.2.2.2.1 x.2.1.length x.2.2.2.2 x.2.1])
  (fun x=>x.1.length ≤ 1073741824 ∧ x.2.1.length ≤ 1073741824 ∧ Nat.gcd (val x.1) (val x.2.1) = Nat.gcd (val a) (val b)) (fun x=>val x.2.1) (a,b,(pa,ca),(pb,cb)) [0,1] rfl rfl rfl ⟨hal,hbl,rfl⟩ (by repeat (first | exact Fr.sub_nil _ | refine Fr.sub_cons rfl ?_)) rfl rfl ?_
 rintro ⟨x,y,⟨px,cx⟩,⟨py,cy⟩⟩ ⟨hx,hy,hg⟩ ih
 simp only [List.cons_append,List.nil_append] at hx hy hg ih ⊢
 refine j_range 0 rfl fun hrx=>?_
 refine j_range 1 rfl fun hry=>?_
 have hxB : ∀ z ∈ x,z < 4294967296:=fun z hz=>by have:=hrx z hz;simp only [InR] at this;omega
 have hyB : ∀ z ∈ y,z < 4294967296:=fun z hz=>by have:=hry z hz;simp only [InR] at this;omega
 have ey:=trim_eq hyB
 have ex:=trim_eq hxB
 have ly:=trim_length_le y
 by_cases hy0 : val y = 0
 ·have e0 : (trim y).length = 0:=by rw [ey,hy0,limbs_zero];rfl
  refine j_nf [_,_,_,_,_,_] rfl (j_run it 1 rfl (by simp) ?_)
  refine j_step rfl (x_call [1] rfl (S_codewrightref01_Zero) rfl ?_)
  rintro _ _ _ ⟨rfl,rfl,rfl⟩
  simp only [List.cons_append,List.nil_append]
  refine j_run it 1 rfl (by simp) ?_
  refine j_nf [_,_,_,_,_] rfl (j_ifn rfl rfl (fun h1=>by exfalso;omega) (fun h1=>?_))
  refine j_nf [_,_] rfl (j_run it 1 rfl (by simp) ?_)
  refine j_step rfl (x_call [0] rfl (S_codewrightref01_Trim) rfl ?_)
  rintro _ _ _ ⟨pa1,ca1,rfl,rfl,rfl⟩
  simp only [List.cons_append,List.nil_append]
  refine j_run it 1 rfl (by simp) ?_
  refine j_nf [_] rfl ?_
  rw [ex,show val x = Nat.gcd (val a) (val b) by rw [← hg,hy0,Nat.gcd_zero_right]]
  refine j_giv [0] rfl rfl rfl ⟨_,_,rfl,rfl,rfl⟩
 ·have e0 : 0 < (trim y).length:=by rw [ey];exact List.length_pos_iff.2 (fun h=>hy0 (limbs_nil.1 h))
  have hm : val x % val y < val y:=Nat.mod_lt _ (Nat.pos_of_ne_zero hy0)
  refine j_nf [_,_,_,_,_,_] rfl (j_run it 1 rfl (by simp) ?_)
  refine j_step rfl (x_call [1] rfl (S_codewrightref01_Zero) rfl ?_)
  rintro _ _ _ ⟨rfl,rfl,rfl⟩
  simp only [List.cons_append,List.nil_append]
  refine j_run it 1 rfl (by simp) ?_
  refine j_nf [_,_,_,_,_] rfl (j_ifn rfl rfl (fun h1=>?_) (fun h1=>by exfalso;omega))
  refine j_nf [_,_,_,_,_,_] rfl (j_run it 2 rfl (by simp) ?_)
  refine j_step rfl (x_call [0,1] rfl (S_codewrightref01_DivMod (by omega) (by omega) (by omega)) rfl ?_)
  rintro _ _ _ ⟨p11,c11,p21,c21,rfl,rfl,rfl⟩
  simp only [List.cons_append,List.nil_append]
  refine j_run it 5 rfl (by simp) ?_
  refine j_nf [_,_,_,_,_,_] rfl (j_run it 2 rfl (by simp) ?_)
  refine j_nf [_,_,_,_,_] rfl (j_run it 2 rfl (by simp) ?_)
  refine j_nfn 2 [.lp [1,0,0,0],.blk 0,.c [1,1]] rfl ?_
  refine j_to [3,1] (by exact fra rfl) rfl rfl (ih (y,limbs (val x % val y),(py,cy),(p21,c21)) (by dsimp only;rw [val_limbs];exact hm) ⟨hy,by
   dsimp only
   rw [ey] at ly
   exact limbs_mono (Nat.le_trans ly hy) (Nat.le_of_lt hm),by dsimp only;rw [val_limbs,← hg];exact (Nat.gcd_comm _ _).trans ((Nat.gcd_rec (val y) (val x)).symm.trans (Nat.gcd_comm _ _))⟩)
theorem S_codewrightref02_Make {neg : Bool} {pn pd : Option Addr} {n m cn cd : Nat} {N D : List Nat} (hN : N.length ≤ 1073741824) (hD : D.length ≤ 1073741824) :
  Ctr Tryz.prog 50 [.bool neg,.slice pn n cn,.slice pd m cd] [] [slF U32 pn n cn N,slF U32 pd m cd D] (RtV (rt (vq (neg,N,D)))):=by
 refine Ctr_of_j' (F:=F_codewrightref02_Make) rfl fun C=>?_
 refine j_len 0 rfl fun hn hba _=>?_
 refine j_len 1 rfl fun hm hbb _=>?_
 subst hn;subst hm
 refine j_range 0 rfl fun hra=>?_
 refine j_range 1 rfl fun hrb=>?_
 have ha:=lim hra
 have hb:=lim hrb
 have ea:=trim_eq ha
 have eb:=trim_eq hb
 have za : (trim N).length = 0 ↔ val N = 0:=by rw [ea];exact ⟨fun h=>limbs_nil.1 (List.eq_nil_of_length_eq_zero h),fun h=>by rw [h,limbs_zero];rfl⟩
 have zb : (trim D).length = 0 ↔ val D = 0:=by rw [eb];exact ⟨fun h=>limbs_nil.1 (List.eq_nil_of_length_eq_zero h),fun h=>by rw [h,limbs_zero];rfl⟩
 have zero : val N = 0 ∨ val D = 0 → rt (vq (neg,N,D)) = (false,[],[1]):=fun h=>by rw [vq_eq,mk_zero h,rt_zero]
 by_cases h1 : (trim N).length = 0
 ·have e:=zero (.inl (za.1 h1))
  refine j_nf [_,_] rfl (j_step rfl (x_alloc zo26 fun b1=>?_))
  refine j_nf [_,_,_] rfl (j_run it 1 rfl (by simp) ?_)
  refine j_step rfl (x_call [0] rfl (S_codewrightref01_Zero) rfl ?_)
  rintro _ _ _ ⟨rfl,rfl,rfl⟩
  simp only [List.cons_append,List.nil_append]
  refine j_run it 1 rfl (by simp) ?_
  refine j_split_dec (t:=14) rfl (fun h2=>?_) (fun h2=>by exfalso;omega)
  refine j_run it 3 rfl (by simp) ?_
  refine j_nf [_,_] rfl ?_
  refine j_true rfl rfl ?_
  refine j_nf [_,_,_] rfl (j_step rfl (x_lit0 sl24 fun b2=>?_))
  refine j_step rfl (x_lit sl24 zo24e rfl rfl rfl rfl (by decide) (by decide) rfl fun b3=>?_)
  refine j_step rfl (x_build (cs:=[Value.bool false,Value.slice (some { block:=b2,off:=0 }) 0 0,Value.slice (some { block:=b3,off:=0 }) 1 1]) st26 zo26 rfl rfl ?_)
  refine j_step rfl (x_bst_all 2 rfl rfl rfl ld26 rfl rfl (by simp [Value.oneCell']) ?_)
  refine j_nf [_,_] rfl ?_
  refine j_pub_made (n:=1) (kd:=.u32) 4 [1] 0 rfl rfl (by simp [InR]) (by decide) (by decide) ?_
  refine j_add (slF U32 (some ⟨b2,0,none⟩) 0 0 []) (fun w A _=>slF_nil _ _ _ _ _) ?_
  refine j_givC [0,1] rfl (.agg 1 rfl rfl ld26 rfl .nil) rfl ⟨_,_,_,_,by rw [e];rfl,by rw [e];rfl,rfl⟩
 by_cases h2 : (trim D).length = 0
 ·have e:=zero (.inr (zb.1 h2))
  refine j_nf [_,_] rfl (j_step rfl (x_alloc zo26 fun b1=>?_))
  refine j_nf [_,_,_] rfl (j_run it 1 rfl (by simp) ?_)
  refine j_step rfl (x_call [0] rfl (S_codewrightref01_Zero) rfl ?_)
  rintro _ _ _ ⟨rfl,rfl,rfl⟩
  simp only [List.cons_append,List.nil_append]
  refine j_run it 1 rfl (by simp) ?_
  refine j_split_dec (t:=14) rfl (fun h3=>by exfalso;omega) (fun h3=>?_)
  refine j_run it 1 rfl (by simp) ?_
  refine j_gstep rfl rfl (x_call [1] rfl (S_codewrightref01_Zero) rfl ?_)
  rintro _ _ _ ⟨rfl,rfl,rfl⟩
  simp only [List.cons_append,List.nil_append]
  refine j_run it 1 rfl (by simp) ?_
  refine j_nf [_,_] rfl (j_if rfl rfl (fun h4=>?_) (fun h4=>by exfalso;omega))
  refine j_nf [_,_,_] rfl (j_step rfl (x_lit0 sl24 fun b2=>?_))
  refine j_step rfl (x_lit sl24 zo24e rfl rfl rfl rfl (by decide) (by decide) rfl fun b3=>?_)
  refine j_step rfl (x_build (cs:=[Value.bool false,Value.slice (some { block:=b2,off:=0 }) 0 0,Value.slice (some { block:=b3,off:=0 }) 1 1]) st26 zo26 rfl rfl ?_)
  refine j_step rfl (x_bst_all 2 rfl rfl rfl ld26 rfl rfl (by simp [Value.oneCell']) ?_)
  refine j_nf [_,_] rfl ?_
  refine j_pub_made (n:=1) (kd:=.u32) 4 [1] 0 rfl rfl (by simp [InR]) (by decide) (by decide) ?_
  refine j_add (slF U32 (some ⟨b2,0,none⟩) 0 0 []) (fun w A _=>slF_nil _ _ _ _ _) ?_
  refine j_givC [0,1] rfl (.agg 1 rfl rfl ld26 rfl .nil) rfl ⟨_,_,_,_,by rw [e];rfl,by rw [e];rfl,rfl⟩
 ·have v1 : val N ≠ 0:=fun h=>h1 (za.2 h)
  have v2 : val D ≠ 0:=fun h=>h2 (zb.2 h)
  have hg : val (limbs (Nat.gcd (val N) (val D))) ≠ 0:=by
   rw [val_limbs]
   have:=Nat.gcd_pos_of_pos_left (val D) (Nat.pos_of_ne_zero v1)
   omega
  have e : rt (vq (neg,N,D)) = (neg,limbs (val N / val (limbs (Nat.gcd (val N) (val D)))),limbs (val D / val (limbs (Nat.gcd (val N) (val D))))):=by
   rw [vq_eq,rt_mk v1 v2,val_limbs]
  have hgl : (limbs (Nat.gcd (val N) (val D))).length ≤ 1073741824:=limbs_mono (Nat.le_trans (by rw [← ea];exact trim_length_le N) hN) (Nat.gcd_le_left _ (Nat.pos_of_ne_zero v1))
  refine j_nf [_,_] rfl (j_step rfl (x_alloc zo26 fun b1=>?_))
  refine j_nf [_,_,_] rfl (j_run it 1 rfl (by simp) ?_)
  refine j_step rfl (x_call [0] rfl (S_codewrightref01_Zero) rfl ?_)
  rintro _ _ _ ⟨rfl,rfl,rfl⟩
  simp only [List.cons_append,List.nil_append]
  refine j_run it 1 rfl (by simp) ?_
  refine j_split_dec (t:=14) rfl (fun h3=>by exfalso;omega) (fun h3=>?_)
  refine j_run it 1 rfl (by simp) ?_
  refine j_gstep rfl rfl (x_call [1] rfl (S_codewrightref01_Zero) rfl ?_)
  rintro _ _ _ ⟨rfl,rfl,rfl⟩
  simp only [List.cons_append,List.nil_append]
  refine j_run it 1 rfl (by simp) ?_
  refine j_nf [_,_] rfl (j_if rfl rfl (fun h4=>by exfalso;omega) (fun h4=>?_))
  refine j_nf [_,_] rfl (j_run it 2 rfl (by simp) ?_)
  refine j_step rfl (x_call [0,1] rfl (S_codewrightref01_Gcd (by omega) (by omega)) rfl ?_)
  rintro _ _ _ ⟨pa1,ca1,rfl,rfl,rfl⟩
  simp only [List.cons_append,List.nil_append]
  refine j_run it 1 rfl (by simp) ?_
  refine j_nf [_,_] rfl (j_run it 2 rfl (by simp) ?_)
  refine j_step rfl (x_call [1,0] rfl (S_codewrightref01_DivMod (by omega) (by omega) (by omega)) rfl ?_)
  rintro _ _ _ ⟨p11,c11,p21,c21,rfl,rfl,rfl⟩
  simp only [List.cons_append,List.nil_append]
  refine j_run it 5 rfl (by simp) ?_
  refine j_nf [_,_] rfl (j_run it 2 rfl (by simp) ?_)
  refine j_step rfl (x_call [4,2] rfl (S_codewrightref01_DivMod (by omega) (by omega) (by omega)) rfl ?_)
  rintro _ _ _ ⟨p12,c12,p22,c22,rfl,rfl,rfl⟩
  simp only [List.cons_append,List.nil_append]
  refine j_run it 5 rfl (by simp) ?_
  refine j_nf [_,_] rfl (j_run it 3 rfl (by simp) ?_)
  refine j_step rfl (x_build (cs:=[Value.bool neg,Value.slice p11 (limbs (val N / val (limbs ((val N).gcd (val D))))).length c11,Value.slice p12 (limbs (val D / val (limbs ((val N).gcd (val D))))).length c12]) st26 zo26 rfl rfl ?_)
  refine j_step rfl (x_bst_all 0 rfl rfl rfl ld26 rfl rfl (by simp [Value.oneCell']) ?_)
  refine j_nf [_] rfl ?_
  refine j_givC [2,0] rfl (.agg 0 rfl rfl ld26 rfl .nil) rfl ⟨p11,c11,p12,c12,by rw [e];rfl,by rw [e],rfl⟩
theorem S_codewrightref02_Trim {neg : Bool} {pn pd : Option Addr} {n m cn cd : Nat} {N D : List Nat} (hN : N.length ≤ 1073741824) (hD : D.length ≤ 1073741824) :
  Ctr Tryz.prog 25 [.agg #[.bool neg,.slice pn n cn,.slice pd m cd]] [] [slF U32 pn n cn N,slF U32 pd m cd D] (RtV (rt (vq (neg,N,D)))):=by
 refine Ctr_of_j' (F:=F_codewrightref02_Trim) rfl fun C=>?_
 refine j_nf [_,_] rfl (j_step rfl (x_box_agg rfl fun b1=>?_))
 refine j_step rfl (x_alloc zo26 fun b2=>?_)
 refine j_nf [_,_] rfl (j_step rfl (x_field rfl fd26_0 ?_))
 refine j_step rfl (x_bld 1 rfl rfl ld4 rfl ?_)
 refine j_step rfl (x_field rfl fd26_1 ?_)
 refine j_step rfl (x_bld 1 rfl rfl ld24 rfl ?_)
 refine j_step rfl (x_field rfl fd26_2 ?_)
 refine j_step rfl (x_bld 1 rfl rfl ld24 rfl ?_)
 refine j_step rfl (x_call [0,1] rfl (S_codewrightref02_Make (by omega) (by omega)) rfl ?_)
 rintro _ _ _ ⟨pn1,cn1,pd1,cd1,rfl,rfl,rfl⟩
 simp only [List.cons_append,List.nil_append]
 refine j_step rfl (x_bst_all 0 rfl rfl rfl ld26 rfl rfl (by simp [Value.oneCell']) ?_)
 refine j_nf [_] rfl ?_
 refine j_givC [0,1] rfl (.agg 0 rfl rfl ld26 rfl .nil) rfl ⟨_,_,_,_,rfl,rfl,rfl⟩
theorem S_codewrightref02_Sign {neg : Bool} {pn pd : Option Addr} {n m cn cd : Nat} {N D : List Nat} (hN : N.length ≤ 1073741824) (hD : D.length ≤ 1073741824) :
  Ctr Tryz.prog 19 [.agg #[.bool neg,.slice pn n cn,.slice pd m cd]] [] [slF U32 pn n cn N,slF U32 pd m cd D] (Rv (.int .i64 (vq (neg,N,D)).num.sign) []):=by
 refine Ctr_of_j' (F:=F_codewrightref02_Sign) rfl fun C=>?_
 by_cases h0 : (rt (vq (neg,N,D))).2.1.length = 0
 ·have e : (vq (neg,N,D)).num.sign = 0:=by
   have:=List.eq_nil_of_length_eq_zero h0
   have h2 : (vq (neg,N,D)).num.natAbs = 0:=limbs_nil.1 this
   have h3 : (vq (neg,N,D)).num = 0:=by omega
   rw [h3];rfl
  rw [e]
  refine j_nf [_,_] rfl (j_step rfl (x_box_agg rfl fun b1=>?_))
  refine j_run it 1 rfl (by simp) ?_
  refine j_nf [_,_] rfl (j_step rfl (x_bld_all 0 rfl rfl ld26 rfl ?_))
  refine j_step rfl (x_call [0,1] rfl (S_codewrightref02_Trim (by omega) (by omega)) rfl ?_)
  rintro _ _ _ ⟨pn1,cn1,pd1,cd1,rfl,rfl,rfl⟩
  simp only [List.cons_append,List.nil_append]
  refine j_step rfl (x_bst_all 0 rfl rfl rfl ld26 rfl rfl (by simp [Value.oneCell']) ?_)
  refine j_nf [_,_,_] rfl (j_step rfl (x_field rfl fd26_1 ?_))
  refine j_step rfl (x_bld 0 rfl rfl ld24 rfl ?_)
  refine j_step rfl (x_len sl24 rfl ?_)
  refine j_run it 1 rfl (by simp) ?_
  refine j_nf [_,_] rfl (j_if rfl rfl (fun h1=>?_) (fun h1=>by exfalso;omega))
  refine j_nf [_,_,_] rfl (j_run it 1 rfl (by simp) ?_)
  refine j_nf [_,_] rfl ?_
  refine j_giv [] rfl rfl rfl ⟨rfl,rfl,rfl⟩
 ·have e : (vq (neg,N,D)).num ≠ 0:=fun h=>h0 (by show (limbs (vq (neg,N,D)).num.natAbs).length = 0;rw [h];simp [limbs_zero])
  refine j_nf [_,_] rfl (j_step rfl (x_box_agg rfl fun b1=>?_))
  refine j_run it 1 rfl (by simp) ?_
  refine j_nf [_,_] rfl (j_step rfl (x_bld_all 0 rfl rfl ld26 rfl ?_))
  refine j_step rfl (x_call [0,1] rfl (S_codewrightref02_Trim (by omega) (by omega)) rfl ?_)
  rintro _ _ _ ⟨pn1,cn1,pd1,cd1,rfl,rfl,rfl⟩
  simp only [List.cons_append,List.nil_append]
  refine j_step rfl (x_bst_all 0 rfl rfl rfl ld26 rfl rfl (by simp [Value.oneCell']) ?_)
  refine j_nf [_,_,_] rfl (j_step rfl (x_field rfl fd26_1 ?_))
  refine j_step rfl (x_bld 0 rfl rfl ld24 rfl ?_)
  refine j_step rfl (x_len sl24 rfl ?_)
  refine j_run it 1 rfl (by simp) ?_
  refine j_nf [_,_] rfl (j_if rfl rfl (fun h1=>by exfalso;omega) (fun h1=>?_))
  refine j_nf [_,_,_] rfl (j_step rfl (x_field rfl fd26_0 ?_))
  refine j_step rfl (x_bld 0 rfl rfl ld4 rfl ?_)
  refine j_nf [_,_] rfl ?_
  refine j_cond rfl rfl (fun h2=>?_) (fun h2=>?_)
  ·have hn : (vq (neg,N,D)).num < 0:=by simpa [rt] using h2
   rw [Int.sign_eq_neg_one_of_neg hn]
   refine j_nf [_,_,_] rfl (j_run it 1 rfl (by simp) ?_)
   refine j_nf [_,_] rfl ?_
   refine j_giv [] rfl rfl rfl ⟨rfl,rfl,rfl⟩
  ·have hn : ¬ (vq (neg,N,D)).num < 0:=by simpa [rt] using h2
   rw [Int.sign_eq_one_of_pos (by omega)]
   refine j_nf [_,_] rfl (j_run it 1 rfl (by simp) ?_)
   refine j_nf [_] rfl ?_
   refine j_giv [] rfl rfl rfl ⟨rfl,rfl,rfl⟩
theorem S_codewrightref02_Neg {neg : Bool} {pn pd : Option Addr} {n m cn cd : Nat} {N D : List Nat} (hN : N.length ≤ 1073741824) (hD : D.length ≤ 1073741824) :
  Ctr Tryz.prog 51 [.agg #[.bool neg,.slice pn n cn,.slice pd m cd]] [] [slF U32 pn n cn N,slF U32 pd m cd D] (RtV (rt (-vq (neg,N,D)))):=by
 refine Ctr_of_j' (F:=F_codewrightref02_Neg) rfl fun C=>?_
 refine j_len 0 rfl fun hn _ _=>?_
 refine j_len 1 rfl fun hm _ _=>?_
 subst hn;subst hm
 refine j_range 0 rfl fun hra=>?_
 refine j_range 1 rfl fun hrb=>?_
 obtain ⟨k1,k2⟩:=rt_len (g:=neg) (lim hra) (lim hrb) hN hD (by decide)
 have e : vq (!(rt (vq (neg,N,D))).1,(rt (vq (neg,N,D))).2.1,(rt (vq (neg,N,D))).2.2) = -vq (neg,N,D):=by
  rw [vq_eq,neg_mk];congr 1;exact vq_rt _
 refine j_nf [_,_] rfl (j_step rfl (x_box_agg rfl fun b1=>?_))
 refine j_step rfl (x_alloc zo26 fun b2=>?_)
 refine j_nf [_,_] rfl (j_step rfl (x_bld_all 1 rfl rfl ld26 rfl ?_))
 refine j_step rfl (x_call [0,1] rfl (S_codewrightref02_Trim (by omega) (by omega)) rfl ?_)
 rintro _ _ _ ⟨pn1,cn1,pd1,cd1,rfl,rfl,rfl⟩
 simp only [List.cons_append,List.nil_append]
 refine j_step rfl (x_bst_all 1 rfl rfl rfl ld26 rfl rfl (by simp [Value.oneCell']) ?_)
 refine j_nf [_,_] rfl (j_step rfl (x_field rfl fd26_0 ?_))
 refine j_step rfl (x_bld 1 rfl rfl ld4 rfl ?_)
 refine j_run it 1 rfl (by simp) ?_
 refine j_step rfl (x_field rfl fd26_1 ?_)
 refine j_step rfl (x_bld 1 rfl rfl ld24 rfl ?_)
 refine j_step rfl (x_field rfl fd26_2 ?_)
 refine j_step rfl (x_bld 1 rfl rfl ld24 rfl ?_)
 refine j_step rfl (x_call [0,1] rfl (S_codewrightref02_Make (by omega) (by omega)) rfl ?_)
 rintro _ _ _ ⟨pn2,cn2,pd2,cd2,rfl,rfl,rfl⟩
 simp only [List.cons_append,List.nil_append]
 refine j_step rfl (x_bst_all 0 rfl rfl rfl ld26 rfl rfl (by simp [Value.oneCell']) ?_)
 refine j_nf [_] rfl ?_
 rw [e]
 refine j_givC [0,1] rfl (.agg 0 rfl rfl ld26 rfl .nil) rfl ⟨_,_,_,_,rfl,rfl,rfl⟩
theorem mul_rt (p q : Rat) : vq ((rt p).1 != (rt q).1,limbs (val (rt p).2.1 * val (rt q).2.1),limbs (val (rt p).2.2 * val (rt q).2.2)) = p * q:=by
 rw [vq_eq]
 simp only [val_limbs,num_rt,den_rt,neg_rt]
 exact mul_mk _ _
theorem limbs_of {l : List Nat} {k : Nat} {x : Nat} (h : l = limbs x) (hl : l.length ≤ k) : (limbs (val l)).length ≤ k:=by subst h;rw [val_limbs];exact hl
theorem S_codewrightref02_Mul {g1 g2 : Bool} {pn1 pd1 pn2 pd2 : Option Addr} {n1 m1 n2 m2 cn1 cd1 cn2 cd2 : Nat} {N1 D1 N2 D2 : List Nat}
  (l1 : N1.length ≤ 134217728) (l2 : D1.length ≤ 134217728) (l3 : N2.length ≤ 134217728) (l4 : D2.length ≤ 134217728) :
  Ctr Tryz.prog 45 [.agg #[.bool g1,.slice pn1 n1 cn1,.slice pd1 m1 cd1],.agg #[.bool g2,.slice pn2 n2 cn2,.slice pd2 m2 cd2]] [] [slF U32 pn1 n1 cn1 N1,slF U32 pd1 m1 cd1 D1,slF U32 pn2 n2 cn2 N2,slF U32 pd2 m2 cd2 D2] (RtV (rt (vq (g1,N1,D1) * vq (g2,N2,D2)))):=by
 refine Ctr_of_j' (F:=F_codewrightref02_Mul) rfl fun C=>?_
 refine j_range 0 rfl fun r1=>?_
 refine j_range 1 rfl fun r2=>?_
 refine j_range 2 rfl fun r3=>?_
 refine j_range 3 rfl fun r4=>?_
 obtain ⟨k1,k2⟩:=rt_len (g:=g1) (lim r1) (lim r2) l1 l2 (by decide)
 obtain ⟨k3,k4⟩:=rt_len (g:=g2) (lim r3) (lim r4) l3 l4 (by decide)
 have LX : (limbs (val (rt (vq (g1,N1,D1))).2.1 * val (rt (vq (g2,N2,D2))).2.1)).length ≤ 1073741824:=Nat.le_trans (prod_lim (limbs_of rfl k1) (limbs_of rfl k3)) (by decide)
 have LY : (limbs (val (rt (vq (g1,N1,D1))).2.2 * val (rt (vq (g2,N2,D2))).2.2)).length ≤ 1073741824:=Nat.le_trans (prod_lim (limbs_of rfl k2) (limbs_of rfl k4)) (by decide)
 refine j_nf [_,_] rfl ?_
 refine j_step rfl (x_box_agg rfl fun b1=>?_)
 refine j_step rfl (x_box_agg rfl fun b2=>?_)
 refine j_step rfl (x_alloc zo26 fun b3=>?_)
 refine j_nf [_,_] rfl ?_
 refine j_step rfl (x_bld_all 2 rfl rfl ld26 rfl ?_)
 refine j_step rfl (x_call [0,1] rfl (S_codewrightref02_Trim (by omega) (by omega)) rfl ?_)
 rintro _ _ _ ⟨pn3,cn3,pd3,cd3,rfl,rfl,rfl⟩
 simp only [List.cons_append,List.nil_append]
 refine j_step rfl (x_bst_all 2 rfl rfl rfl ld26 rfl rfl (by simp [Value.oneCell']) ?_)
 refine j_nf [_,_] rfl ?_
 refine j_step rfl (x_bld_all 1 rfl rfl ld26 rfl ?_)
 refine j_step rfl (x_call [4,5] rfl (S_codewrightref02_Trim (by omega) (by omega)) rfl ?_)
 rintro _ _ _ ⟨pn4,cn4,pd4,cd4,rfl,rfl,rfl⟩
 simp only [List.cons_append,List.nil_append]
 refine j_step rfl (x_bst_all 1 rfl rfl rfl ld26 rfl rfl (by simp [Value.oneCell']) ?_)
 refine j_nf [_,_] rfl ?_
 (apply j_drawK it mx 16;(· rfl);(· rfl))
 (apply lxk_eq;(· rfl);(· exact d_x fun _=>x_field rfl fd26_0 dk_eq))
 (apply lxk_eq;(· rfl);(· exact d_bld 2 rfl rfl ld4 rfl))
 (apply lxk_eq;(· rfl);(· exact d_x fun _=>x_field rfl fd26_0 dk_eq))
 (apply lxk_eq;(· rfl);(· exact d_bld 1 rfl rfl ld4 rfl))
 (apply lxk_eq;(· rfl);(· exact d_x fun _=>x_neb ub rfl rfl dk_eq))
 (apply lxk_eq;(· rfl);(· exact d_x fun _=>x_field rfl fd26_1 dk_eq))
 (apply lxk_eq;(· rfl);(· exact d_bld 2 rfl rfl ld24 rfl))
 (apply lxk_eq;(· rfl);(· exact d_x fun _=>x_field rfl fd26_1 dk_eq))
 (apply lxk_eq;(· rfl);(· exact d_bld 1 rfl rfl ld24 rfl))
 (apply lxk_sl;(· rfl);(· exact d_x fun _=>x_call [2,0] rfl (S_codewrightref01_Mul (by omega) (by omega)) rfl (by rintro _ _ _ ⟨pa1,ca1,rfl,rfl,rfl⟩;exact (dk_sl 0 rfl)));intro pa1 ca1)
 (apply lxk_eq;(· rfl);(· exact d_x fun _=>x_field rfl fd26_2 dk_eq))
 (apply lxk_eq;(· rfl);(· exact d_bld 2 rfl rfl ld24 rfl))
 (apply lxk_eq;(· rfl);(· exact d_x fun _=>x_field rfl fd26_2 dk_eq))
 (apply lxk_eq;(· rfl);(· exact d_bld 1 rfl rfl ld24 rfl))
 (apply lxk_sl;(· rfl);(· exact d_x fun _=>x_call [4,2] rfl (S_codewrightref01_Mul (by omega) (by omega)) rfl (by rintro _ _ _ ⟨pa2,ca2,rfl,rfl,rfl⟩;exact (dk_sl 0 rfl)));intro pa2 ca2)
 (apply lxk_rq;(· rfl);(· exact d_x fun _=>x_call [1,0] rfl (S_codewrightref02_Make (by omega) (by omega)) rfl (by rintro _ _ _ ⟨pn5,cn5,pd5,cd5,rfl,rfl,rfl⟩;exact (dk_rq 0 1 rfl rfl)));intro pn5 cn5 pd5 cd5)
 simp only [vq_rt']
 refine lxk_end rfl ?_
 simp only [List.map_cons,List.map_nil,List.cons_append,List.nil_append]
 refine j_step rfl (x_bst_all 0 rfl rfl rfl ld26 rfl rfl (by simp [Value.oneCell']) ?_)
 refine j_nf [_] rfl ?_
 rw [mul_rt]
 refine j_givC [0,1] rfl (.agg 0 rfl rfl ld26 rfl .nil) rfl ⟨_,_,_,_,rfl,rfl,rfl⟩
end Go.Proofs.YthahejfpdhcpiaaGreat
