/-
Contracts of nat.Binomial. Contracts of nat.Cmp and nat.Sub. The program's Design. Contracts of the document's numbers: Trim, Of, limb, Same, Zero. The document's product. The document's sum. The document's binomial coefficient. The document's binomial coefficient; the program's for all places. The document's Cmp and Sub. The document's tests of blocks: Block, Inside, Many. The document's sets of points. The document's Design, and that it is the program's. What the laws of designs look at, and the walk of MacwilliamsDesigns.
-/
import Derived.Test.YtmhcfhddmkhaiaaHA2
set_option linter.unusedVariables false
set_option linter.unusedSimpArgs false
namespace Go.Proofs.Ytmhcfhddmkhaiaa
open Go Go.Fw
set_option maxRecDepth 100000
set_option linter.unusedVariables false
set_option linter.unusedSimpArgs false
set_option maxHeartbeats 1000000
theorem S_nat_Binomial {n k : Nat} (hn : n ≤ 4096) : Ctr Try.prog 22 [.int .i64 n,.int .i64 k] [] [] (S2 U32 (limbs (binom n k)) 0):=by
 refine Ctr_of_j' (F:=F_nat_Binomial) rfl fun C=>?_
 have e1 : limbs (binom n 0) = [1]:=by rw [binom_zero,limbs_one]
 by_cases hkn : n < k
 ·have hz : limbs (binom n k) = []:=by rw [binom_gt n k hkn,limbs_zero]
  refine j_nf [_,_] rfl (j_run it 2 rfl (by simp) ?_)
  refine j_nf [_,_,_] rfl (j_run it 6 rfl (by simp) ?_)
  refine j_nf [_,_] rfl (j_if rfl rfl (fun h1=>by exfalso;omega) (fun h1=>?_))
  refine j_nf [_,_,_] rfl (j_run it 7 rfl (by simp) ?_)
  refine j_nf [_,_] rfl (j_if rfl rfl (fun h2=>?_) (fun h2=>by exfalso;omega))
  refine j_nf [_,_,_] rfl (j_run it 2 rfl (by simp) ?_)
  refine j_nf [_,_] rfl ?_
  refine j_add (slF U32 none 0 0 []) (fun w A _=>slF_nil _ _ _ _ _) ?_
  refine j_giv [0] rfl rfl rfl ⟨_,_,by rw [hz];rfl,by rw [hz];rfl,rfl⟩
 have hk : k ≤ n:=by omega
 refine j_nf [_,_] rfl (j_run it 2 rfl (by simp) ?_)
 refine j_nf [_,_,_] rfl (j_run it 6 rfl (by simp) ?_)
 refine j_nf [_,_] rfl (j_if rfl rfl (fun h1=>by exfalso;omega) (fun h1=>?_))
 refine j_nf [_,_,_] rfl (j_run it 7 rfl (by simp) ?_)
 refine j_nf [_,_] rfl (j_if rfl rfl (fun h2=>by exfalso;omega) (fun h2=>?_))
 refine j_nf [_,_] rfl (j_step rfl (x_lit sl48 zo48e rfl rfl rfl rfl (by decide) (by decide) rfl fun b1=>?_))
 refine j_run it 1 rfl (by simp) ?_
 refine j_nf [_,_,_] rfl ?_
 refine j_pub_made (n:=1) (kd:=.u32) 4 [1] 0 rfl rfl (by simp [InR]) (by decide) (by decide) ?_
 obtain ⟨M,hM,hMk,hMb⟩ : ∃ M : Nat,(if ((n : Int) - k) < k then ((n : Int) - k) else (k : Int)) = M ∧ M ≤ n ∧ binom n M = binom n k:=by
  refine ⟨if n - k < k then n - k else k,?_,?_,binom_min hk⟩
  ·split <;> split <;> omega
  ·split <;> omega
 refine j_run it 4 rfl ⟨⟨by omega,by omega⟩,trivial,trivial,trivial,trivial⟩ ?_
 refine j_step rfl (x_min rfl rfl ?_)
 refine j_run it 1 rfl (by simp) ?_
 refine j_nf [_,_,_] rfl ?_
 refine j_loopN (X:=Nat × Option Addr × Nat) (fun x=>[(0,.int .i64 n),(6,.slice x.2.1 (limbs (binom n x.1)).length x.2.2),(26,.int .i64 M),(27,.int .i64 x.1)])
  (fun _=>[]) (fun x=>[slF U32 x.2.1 (limbs (binom n x.1)).length x.2.2 (limbs (binom n x.1))])
  (fun x=>x.1 ≤ M) (fun x=>M - x.1) (0,some ⟨b1,0,none⟩,1) [0] rfl (Nat.zero_le _) (by simp only [e1];repeat (first | exact Fr.sub_nil _ | refine Fr.sub_cons rfl ?_ | refine Fr.sub_consI rfl (by first | omega | exact hM) ?_)) rfl (by simp only [e1];rfl) ?_
 rintro ⟨i,pa,ca⟩ hi ih
 simp only at hi ih ⊢
 have hlen:=binom_len hn i
 by_cases hiM : i < M
 ·refine j_nf [_,_,_,_,_] rfl (j_run it 1 rfl (by simp) ?_)
  refine j_nf [_,_,_,_,_] rfl (j_if rfl rfl (fun h3=>?_) (fun h3=>by exfalso;omega))
  refine j_nf [_,_,_,_,_,_,_] rfl (j_run it 2 rfl (by simp) ?_)
  refine j_nf [_,_,_,_,_,_] rfl (j_run it 5 rfl ⟨⟨by omega,by omega⟩,⟨by omega,by omega⟩,trivial,trivial,trivial,trivial⟩ ?_)
  refine j_step rfl (x_lit sl48 zo48e rfl rfl rfl rfl (by decide) (by decide) rfl fun b2=>?_) --ok
  rw [show ((n : Int) - i) = ((n - i : Nat) : Int) by omega]
  refine j_pub_made (n:=1) (kd:=.u32) 4 [n - i] 0 rfl rfl (by simp [InR];omega) (by decide) (by decide) ?_
  have v1 : val (limbs (binom n i)) * val [n - i] = binom n i * (n - i):=by rw [val_limbs];simp [val]
  refine j_step rfl (x_call [1,0] rfl (S_nat_times (by omega) (by simp)) rfl ?_)
  rintro _ _ _ ⟨pa1,ca1,rfl,rfl,rfl⟩
  simp only [List.cons_append,List.nil_append]
  refine j_run it 3 rfl ⟨⟨by omega,by omega⟩,⟨by omega,by omega⟩,trivial,trivial⟩ ?_
  refine j_recast (t:=40) ((((i) + 1) : Nat) : Int) rfl (by omega) ?_
  refine j_step rfl (x_call [0] rfl (S_nat_digit (by omega) (by omega)) rfl ?_)
  rintro _ _ _ ⟨pa2,ca2,rfl,rfl,rfl⟩
  simp only [List.cons_append,List.nil_append]
  refine j_run it 4 rfl (by simp) ?_
  refine j_nf [_,_,_,_] rfl (j_run it 2 rfl ⟨trivial,⟨by omega,by omega⟩,trivial⟩ ?_)
  refine j_nfn 1 [.lp (pL 500),.blk 0,.c [1,1,1,1,1]] rfl ?_ --ok
  rw [v1,show ((i : Int) + 1) = ((i + 1 : Nat) : Int) by omega]
  skip
  simp only [val_limbs,binom_next (show i ≤ n by omega)]
  refine j_to [0] (by exact fra rfl) rfl rfl (ih (i + 1,pa2,ca2) (by simp only;omega) (by simp only;omega))
 ·refine j_nf [_,_,_,_,_] rfl (j_run it 1 rfl (by simp) ?_)
  refine j_nf [_,_,_,_,_] rfl (j_if rfl rfl (fun h3=>by exfalso;omega) (fun h3=>?_))
  refine j_nf [_,_] rfl (j_run it 1 rfl (by simp) ?_)
  refine j_step rfl (x_call [0] rfl (S_nat_Trim) rfl ?_)
  rintro _ _ _ ⟨pa1,ca1,rfl,rfl,rfl⟩
  simp only [List.cons_append,List.nil_append]
  refine j_run it 2 rfl (by simp) ?_
  refine j_nf [_] rfl ?_
  have e : i = M:=by omega
  rw [trim_limbs,e,hMb]
  refine j_giv [0] rfl rfl rfl ⟨_,_,rfl,rfl,rfl⟩
theorem S_nat_Cmp {pa pb : Option Addr} {n m ca cb : Nat} {a b : List Nat} :
  Ctr Try.prog 23 [.slice pa n ca,.slice pb m cb] [] [slF U32 pa n ca a,slF U32 pb m cb b] (Rv (.int .i64 (cmpN (val a) (val b))) []):=by
 refine Ctr_of_j' (F:=F_nat_Cmp) rfl fun C=>?_
 refine j_len 0 rfl fun hn hba _=>?_
 refine j_len 1 rfl fun hm hbb _=>?_
 subst hn;subst hm
 have hba' : a.length * 4 ≤ 140737488355328:=hba
 have hbb' : b.length * 4 ≤ 140737488355328:=hbb
 refine j_range 0 rfl fun hra=>?_
 refine j_range 1 rfl fun hrb=>?_
 have hra' : ∀ x ∈ a,x < 4294967296:=fun x hx=>by have:=hra x hx;simp only [InR] at this;omega
 have hrb' : ∀ x ∈ b,x < 4294967296:=fun x hx=>by have:=hrb x hx;simp only [InR] at this;omega
 have ea:=trim_eq hra'
 have eb:=trim_eq hrb'
 have la:=trim_length_le a
 have lb:=trim_length_le b
 by_cases hA : (trim a).length < (trim b).length
 ·have : val a < val b:=lt_of_len (by rw [← ea,← eb];exact hA)
  rw [cmpN_lt this]
  refine j_nf [_,_] rfl ?_
  refine j_run it 1 rfl (by simp) ?_
  refine j_nf [_,_] rfl ?_
  refine j_run it 1 rfl (by simp) ?_
  refine j_step rfl (x_call [0] rfl (S_nat_short) rfl ?_)
  rintro _ _ _ ⟨rfl,rfl,rfl⟩
  simp only [List.cons_append,List.nil_append]
  refine j_run it 1 rfl (by simp) ?_
  refine j_step rfl (x_call [2] rfl (S_nat_short) rfl ?_)
  rintro _ _ _ ⟨rfl,rfl,rfl⟩
  simp only [List.cons_append,List.nil_append]
  refine j_run it 2 rfl (by simp) ?_
  refine j_nf [_,_,_] rfl ?_
  refine j_run it 1 rfl (by simp) ?_
  refine j_step rfl (x_len sl48 rfl ?_)
  refine j_run it 1 rfl (by simp) ?_
  refine j_step rfl (x_len sl48 rfl ?_)
  refine j_run it 1 rfl (by simp) ?_
  refine j_nf [_,_] rfl ?_
  refine j_ifn rfl rfl (fun h1=>?_) (fun h1=>by exfalso;omega)
  refine j_nf [_,_,_,_] rfl ?_
  refine j_run it 1 rfl (by simp) ?_
  refine j_step rfl (x_len sl48 rfl ?_)
  refine j_run it 1 rfl (by simp) ?_
  refine j_step rfl (x_len sl48 rfl ?_)
  refine j_run it 1 rfl (by simp) ?_
  refine j_nf [_,_,_] rfl ?_
  refine j_if rfl rfl (fun h2=>?_) (fun h2=>by exfalso;omega)
  refine j_nf [_,_,_,_] rfl ?_
  refine j_run it 1 rfl (by simp) ?_
  refine j_nf [_,_,_] rfl ?_
  refine j_giv [] rfl rfl rfl ⟨rfl,rfl,rfl⟩
 by_cases hB : (trim b).length < (trim a).length
 ·have : val b < val a:=lt_of_len (by rw [← ea,← eb];exact hB)
  rw [cmpN_gt this]
  refine j_nf [_,_] rfl ?_
  refine j_run it 1 rfl (by simp) ?_
  refine j_nf [_,_] rfl ?_
  refine j_run it 1 rfl (by simp) ?_
  refine j_step rfl (x_call [0] rfl (S_nat_short) rfl ?_)
  rintro _ _ _ ⟨rfl,rfl,rfl⟩
  simp only [List.cons_append,List.nil_append]
  refine j_run it 1 rfl (by simp) ?_
  refine j_step rfl (x_call [2] rfl (S_nat_short) rfl ?_)
  rintro _ _ _ ⟨rfl,rfl,rfl⟩
  simp only [List.cons_append,List.nil_append]
  refine j_run it 2 rfl (by simp) ?_
  refine j_nf [_,_,_] rfl ?_
  refine j_run it 1 rfl (by simp) ?_
  refine j_step rfl (x_len sl48 rfl ?_)
  refine j_run it 1 rfl (by simp) ?_
  refine j_step rfl (x_len sl48 rfl ?_)
  refine j_run it 1 rfl (by simp) ?_
  refine j_nf [_,_] rfl ?_
  refine j_ifn rfl rfl (fun h1=>?_) (fun h1=>by exfalso;omega)
  refine j_nf [_,_,_,_] rfl ?_
  refine j_run it 1 rfl (by simp) ?_
  refine j_step rfl (x_len sl48 rfl ?_)
  refine j_run it 1 rfl (by simp) ?_
  refine j_step rfl (x_len sl48 rfl ?_)
  refine j_run it 1 rfl (by simp) ?_
  refine j_nf [_,_,_] rfl ?_
  refine j_if rfl rfl (fun h2=>by exfalso;omega) (fun h2=>?_)
  refine j_nf [_,_,_] rfl ?_
  refine j_run it 1 rfl (by simp) ?_
  refine j_nf [_,_] rfl ?_
  refine j_giv [] rfl rfl rfl ⟨rfl,rfl,rfl⟩
 have hta : ∀ x ∈ trim a,x < 4294967296:=fun x hx=>hra' x (mem_trim hx)
 have htb : ∀ x ∈ trim b,x < 4294967296:=fun x hx=>hrb' x (mem_trim hx)
 have va : val (trim a) = val a:=val_trim a
 have vb : val (trim b) = val b:=val_trim b
 refine j_nf [_,_] rfl ?_
 refine j_run it 1 rfl (by simp) ?_
 refine j_nf [_,_] rfl ?_
 refine j_run it 1 rfl (by simp) ?_
 refine j_step rfl (x_call [0] rfl (S_nat_short) rfl ?_)
 rintro _ _ _ ⟨rfl,rfl,rfl⟩
 simp only [List.cons_append,List.nil_append]
 refine j_run it 1 rfl (by simp) ?_
 refine j_step rfl (x_call [2] rfl (S_nat_short) rfl ?_)
 rintro _ _ _ ⟨rfl,rfl,rfl⟩
 simp only [List.cons_append,List.nil_append]
 refine j_run it 2 rfl (by simp) ?_
 refine j_nf [_,_,_] rfl ?_
 refine j_run it 1 rfl (by simp) ?_
 refine j_step rfl (x_len sl48 rfl ?_)
 refine j_run it 1 rfl (by simp) ?_
 refine j_step rfl (x_len sl48 rfl ?_)
 refine j_run it 1 rfl (by simp) ?_
 refine j_nf [_,_] rfl ?_
 refine j_ifn rfl rfl (fun h1=>by exfalso;omega) (fun h1=>?_)
 refine j_nf [_,_,_] rfl ?_
 refine j_run it 1 rfl (by simp) ?_
 refine j_step rfl (x_len sl48 rfl ?_)
 refine j_run it 2 rfl ⟨trivial,⟨by omega,by omega⟩,trivial⟩ ?_
 refine j_nf [_,_,_] rfl ?_
 refine j_loopG (X:=Nat) [0,1] [0,1,2,3] (fun k=>[(5,.int .i64 ((k : Int) - 1))]) (fun _=>[]) (fun _=>[]) (fun k=>k ≤ (trim a).length ∧ (trim a).drop k = (trim b).drop k) (fun k=>k) (trim a).length [] rfl rfl rfl ⟨Nat.le_refl _,by rw [List.drop_length,List.drop_of_length_le (by omega)]⟩ (by repeat (first | exact Fr.sub_nil _ | refine Fr.sub_cons rfl ?_)) rfl rfl ?_
 intro k ⟨hk,hd⟩ ih
 simp only [List.cons_append,List.nil_append] at ih ⊢
 by_cases hkl : 0 < k
 ·obtain ⟨j,rfl⟩ : ∃ j,k = j + 1:=⟨k - 1,by omega⟩
  have hx:=get_some (l:=trim a) (i:=j) (dflt:=default) (by omega)
  have hy:=get_some (l:=trim b) (i:=j) (dflt:=default) (by omega)
  generalize hgx : (trim a).getD j default = x at hx
  generalize hgy : (trim b).getD j default = y at hy
  rw [show (((j + 1 : Nat) : Int) - 1) = (j : Int) by omega]
  refine j_nf [_,_,_,_,_,_] rfl ?_
  refine j_run it 2 rfl (by simp) ?_
  refine j_nf [_,_,_,_,_] rfl ?_
  refine j_if rfl rfl (fun h2=>?_) (fun h2=>by exfalso;omega)
  refine j_nf [_,_,_,_,_,_,_,_] rfl ?_
  (apply j_drawK it mx 9;(· rfl);(· rfl))
  (apply lxk_run 2;(· rfl);(· simp))
  (apply lxk_pt;(· rfl);(· exact d_x fun _=>x_idx 1 (j) rfl rfl rfl sl48 rfl (by omega) fun z1 hz1 b1 o1=>(dk_ptD default hz1 0 rfl));intro b1 o1)
  (apply lxk_eq;(· rfl);(· exact d_x fun _=>x_ld_nat 0 rfl rfl ld78 fun ⟨r1,r2⟩=>dk_eq))
  (apply lxk_run 2;(· rfl);(· simp))
  (apply lxk_pt;(· rfl);(· exact d_x fun _=>x_idx 0 (j) rfl rfl rfl sl48 rfl (by omega) fun z1 hz1 b2 o2=>(dk_ptD default hz1 0 rfl));intro b2 o2)
  (apply lxk_eq;(· rfl);(· exact d_x fun _=>x_ld_nat 0 rfl rfl ld78 fun ⟨r1,r2⟩=>dk_eq))
  (apply lxk_run 1;(· rfl);(· simp))
  refine lxk_end rfl ?_
  simp only [List.map_cons,List.map_nil,List.cons_append,List.nil_append]
  refine j_nf [_,_,_,_,_,_,_] rfl ?_
  refine j_if rfl rfl (fun h3=>?_) (fun h3=>?_)
  ·rw [hgx,hgy] at h3
   have : val a < val b:=by rw [← va,← vb];exact lt_of_top hta (by rw [hd]) hx hy (by omega)
   rw [cmpN_lt this]
   refine j_nf [_,_,_,_,_,_,_,_] rfl ?_
   refine j_run it 1 rfl (by simp) ?_
   refine j_nf [_,_,_,_,_,_,_] rfl ?_
   refine j_giv [] rfl rfl rfl ⟨rfl,rfl,rfl⟩
  ·refine j_nf [_,_,_,_,_,_,_] rfl ?_
   (apply j_drawK it mx 9;(· rfl);(· rfl))
   (apply lxk_run 2;(· rfl);(· simp))
   (apply lxk_pt;(· rfl);(· exact d_x fun _=>x_idx 3 (j) rfl rfl rfl sl48 rfl (by omega) fun z1 hz1 b3 o3=>(dk_ptD default hz1 0 rfl));intro b3 o3)
   (apply lxk_eq;(· rfl);(· exact d_x fun _=>x_ld_nat 0 rfl rfl ld78 fun ⟨r1,r2⟩=>dk_eq))
   (apply lxk_run 2;(· rfl);(· simp))
   (apply lxk_pt;(· rfl);(· exact d_x fun _=>x_idx 2 (j) rfl rfl rfl sl48 rfl (by omega) fun z1 hz1 b4 o4=>(dk_ptD default hz1 0 rfl));intro b4 o4)
   (apply lxk_eq;(· rfl);(· exact d_x fun _=>x_ld_nat 0 rfl rfl ld78 fun ⟨r1,r2⟩=>dk_eq))
   (apply lxk_run 1;(· rfl);(· simp))
   refine lxk_end rfl ?_
   simp only [List.map_cons,List.map_nil,List.cons_append,List.nil_append]
   refine j_nf [_,_,_,_,_,_] rfl ?_
   refine j_if rfl rfl (fun h4=>?_) (fun h4=>?_)
   ·rw [hgx,hgy] at h4
    have : val b < val a:=by rw [← va,← vb];exact lt_of_top htb (by rw [hd]) hy hx (by omega)
    rw [cmpN_gt this]
    refine j_nf [_,_,_,_,_,_,_] rfl ?_
    refine j_run it 1 rfl (by simp) ?_
    refine j_nf [_,_,_,_,_,_] rfl ?_
    refine j_giv [] rfl rfl rfl ⟨rfl,rfl,rfl⟩
   ·rw [hgx,hgy] at h3 h4
    have hxy : x = y:=by omega
    subst hxy
    refine j_nf [_,_,_,_] rfl ?_
    refine j_run it 3 rfl ⟨trivial,⟨by omega,by omega⟩,trivial,trivial⟩ ?_
    refine j_nfn 1 [.lp (pL 244),.blk 0,.c [1,1,1,1]] rfl ?_
    refine j_to [4,5,6,7] (by exact fra rfl) rfl rfl (ih j (by omega) ⟨by omega,drop_step hd hx hy⟩)
 ·have e0 : k = 0:=by omega
  subst e0
  have e : trim a = trim b:=by simpa using hd
  rw [cmpN_eq (by rw [← va,← vb,e])]
  refine j_nf [_,_,_,_,_,_] rfl ?_
  refine j_run it 2 rfl (by simp) ?_
  refine j_nf [_,_,_,_,_] rfl ?_
  refine j_if rfl rfl (fun h2=>by exfalso;omega) (fun h2=>?_)
  refine j_nf [_,_] rfl ?_
  refine j_run it 1 rfl (by simp) ?_
  refine j_nf [_] rfl ?_
  refine j_giv [] rfl rfl rfl ⟨rfl,rfl,rfl⟩
set_option maxHeartbeats 8000000
def desR (n : Int) (L : List (List Int)) (t : Int) : Int × Int :=
 if n < 0 ∨ 64 < n then (0,6) else
 match blksN n.toNat L with
 | none=>(0,5)
 | some ms=>if t < 0 ∨ n < t then (0,6) else if 65536 < binom n.toNat t.toNat then (0,8) else
  let r:=visL ms (subsL n.toNat t.toNat 0 0) (-1) true
  if r.2.1 = true then (r.1,0) else (0,11)
theorem S_macwilliams_Design {pa : Option Addr} {nb ca : Nat} {n t : Int} {L : List (List Int)} (hL : L.length ≤ 1000000) :
  Ctr Try.prog 8 [.int .i64 n,.slice pa nb ca,.int .i64 t] [] [slF (encSl I64) pa nb ca L] (Rv (.tuple #[.int .i64 (desR n L t).1,.int .i64 (desR n L t).2]) []):=by
 refine Ctr_of_j' (F:=F_macwilliams_Design) rfl fun C=>?_
 refine j_len 0 rfl fun e1 hb1 _=>?_
 subst e1
 by_cases h1 : n < 0 ∨ 64 < n
 ·have e0 : desR n L t = (0,6):=by rw [desR,if_pos h1]
  rw [e0]
  by_cases h2 : n < 0
  ·refine j_nf [_,_] rfl (j_run it 2 rfl (by simp) ?_)
   refine j_nf [_,_,_] rfl (j_run it 3 rfl (by simp) ?_)
   refine j_split_dec (t:=21) rfl (fun h3=>?_) (fun h3=>by exfalso;omega)
   refine j_run it 3 rfl (by simp) ?_
   refine j_nf [_,_] rfl ?_
   refine j_true rfl rfl ?_
   refine j_nf [_,_,_] rfl (j_run it 2 rfl (by simp) ?_)
   refine j_nf [_,_] rfl ?_
   refine j_giv [] rfl rfl rfl ⟨rfl,rfl,rfl⟩
  ·have h3 : 64 < n:=by omega
   refine j_nf [_,_] rfl (j_run it 2 rfl (by simp) ?_)
   refine j_nf [_,_,_] rfl (j_run it 3 rfl (by simp) ?_)
   refine j_split_dec (t:=21) rfl (fun h4=>by exfalso;omega) (fun h4=>?_)
   refine j_run it 3 rfl (by simp) ?_
   refine j_nf [_,_] rfl (j_if rfl rfl (fun h5=>?_) (fun h5=>by exfalso;omega))
   refine j_nf [_,_,_] rfl (j_run it 2 rfl (by simp) ?_)
   refine j_nf [_,_] rfl ?_
   refine j_giv [] rfl rfl rfl ⟨rfl,rfl,rfl⟩
 obtain ⟨n,rfl⟩ : ∃ k : Nat,n = k:=⟨n.toNat,by omega⟩
 have hn : n ≤ 64:=by omega
 refine j_nf [_,_] rfl (j_run it 2 rfl (by simp) ?_)
 refine j_nf [_,_,_] rfl (j_run it 6 rfl (by simp) ?_)
 refine j_nf [_,_] rfl (j_if rfl rfl (fun h2=>by exfalso;omega) (fun h2=>?_))
 refine j_nf [_,_] rfl (j_step rfl (x_alloc zo52 fun b1=>?_))
 refine j_nf [_,_,_] rfl (j_run it 1 rfl (by simp) ?_)
 refine j_step rfl (x_len sl22 rfl ?_)
 refine j_run it 1 rfl (by simp) ?_
 refine j_nf [_,_,_] rfl ?_
 refine j_row0 (encNat .u64 8) 51 ?_
 refine j_loopG (X:=Nat × Row × List Nat) [0,2,8,25,26] [0,1] (fun x=>[(27,.int .i64 (x.1 : Int))]) (fun x=>[(x.2.1.bo,51,x.2.1.cs),(some b1,52,[.slice (ad x.2.1.bo) x.1 x.2.1.cap])]) (fun x=>[rowF (encNat .u64 8) x.2.1 x.1 x.2.2])
  (fun x=>x.1 ≤ L.length ∧ blksN n (L.take x.1) = some x.2.2) (fun x=>L.length - x.1) (0,⟨none,0,[]⟩,[]) [0] rfl rfl rfl ⟨Nat.zero_le _,rfl⟩ (by repeat (first | exact Fr.sub_nil _ | refine Fr.sub_cons rfl ?_)) rfl rfl ?_
 rintro ⟨i,r,ms⟩ ⟨hi,hb⟩ ih
 simp only [List.cons_append,List.nil_append] at hi hb ih ⊢
 by_cases hil : i < L.length
 ·have hz : L[i]? = some (L.getD i default):=by rw [List.getD_eq_getElem?_getD,List.getElem?_eq_getElem hil];rfl
  refine j_nf [_,_,_,_,_] rfl (j_run it 1 rfl (by simp) ?_)
  refine j_nf [_,_,_,_,_] rfl (j_if rfl rfl (fun h3=>?_) (fun h3=>by exfalso;omega))
  refine j_nf [_,_,_,_,_,_,_] rfl (j_step rfl (x_idx 2 (i) rfl rfl rfl sl22 rfl (by omega) fun z1 hz1 b2 o1=>?_))
  refine j_step rfl (x_ld_sl 0 rfl rfl ld29 fun pa1 ca1=>?_)
  refine j_run it 1 rfl (by simp) ?_
  refine j_nf [_,_,_,_,_,_,_] rfl (j_run it 2 rfl (by simp) ?_)
  refine j_nf [_,_,_,_,_,_,_,_] rfl (j_run it 1 rfl (by simp) ?_)
  refine j_step rfl (x_len sl29 rfl ?_)
  refine j_run it 1 rfl (by simp) ?_
  refine j_nf [_,_,_,_,_,_,_,_] rfl ?_
  obtain rfl : z1 = L.getD i default:=Option.some.inj (hz1.symm.trans hz)
  generalize hl : L.getD i default = l at *
  generalize hq : blkN n (-1) 0 l = q
  refine j_len 0 rfl fun _ hbl _=>?_
  have hbl' : l.length * 8 ≤ 140737488355328:=hbl
  refine j_loopG (X:=Nat × Int × Nat) [0,2,8,10,25,26,27,28,29,30,31,32] [0,1,2,3,4] (fun x=>[(33,.int .i64 (x.1 : Int)),(12,.int .i64 x.2.1),(11,.int .u64 (x.2.2 : Int))]) (fun _=>[(r.bo,51,r.cs),(some b1,52,[.slice (ad r.bo) i r.cap])]) (fun _=>[])
   (fun x=>x.1 ≤ l.length ∧ -1 ≤ x.2.1 ∧ x.2.1 < 64 ∧ x.2.2 < 18446744073709551616 ∧ blkN n x.2.1 x.2.2 (l.drop x.1) = q) (fun x=>l.length - x.1) (0,-1,0) [] rfl rfl rfl ⟨Nat.zero_le _,by decide,by decide,by decide,hq⟩ (by repeat (first | exact Fr.sub_nil _ | refine Fr.sub_cons rfl ?_)) rfl rfl ?_
  rintro ⟨j,last,m⟩ ⟨hj,hl1,hl2,hm,he⟩ ih2
  simp only [List.cons_append,List.nil_append] at hj hl1 hl2 hm he ih2 ⊢
  by_cases hjl : j < l.length
  ·obtain ⟨p,at_p,ed⟩ : ∃ p,l[j]? = some p ∧ l.drop j = p::l.drop (j + 1):=⟨l[j],List.getElem?_eq_getElem hjl,List.drop_eq_getElem_cons hjl⟩
   rw [ed,blkN] at he
   by_cases hc : p ≤ last ∨ (n : Int) ≤ p
   ·rw [if_pos hc] at he
    have e0 : desR n L t = (0,5):=by
     have : blksN n L = none:=blksN_none (hq.trans he.symm) (List.mem_of_getElem? hz)
     rw [desR,if_neg h1,Int.toNat_natCast,this]
    rw [e0]
    by_cases hc1 : p ≤ last
    ·refine j_nf [_,_,_,_,_,_,_,_,_,_] rfl (j_run it 1 rfl (by simp) ?_)
     refine j_nf [_,_,_,_,_,_,_,_,_,_] rfl (j_if rfl rfl (fun h4=>?_) (fun h4=>by exfalso;omega))
     refine j_nf [_,_,_,_,_,_,_,_,_,_,_,_] rfl (j_step rfl (x_idx 0 (j) rfl rfl rfl sl29 rfl (by omega) fun z1 hz2 b3 o2=>?_))
     obtain rfl : _ = z1:=Option.some.inj (at_p.symm.trans hz2)
     refine j_step rfl (x_ld_int 0 rfl rfl ld3 fun ⟨r1,r2⟩=>?_)
     refine j_run it 1 rfl (by simp) ?_
     refine j_nf [_,_,_,_,_,_,_,_,_,_,_,_,_] rfl (j_run it 4 rfl (by simp) ?_)
     refine j_split_dec (t:=40) rfl (fun h5=>?_) (fun h5=>by exfalso;omega)
     refine j_run it 4 rfl (by simp) ?_
     refine j_nf [_,_,_,_,_,_,_,_,_,_,_,_] rfl ?_
     refine j_true rfl rfl ?_
     refine j_nf [_,_,_,_,_,_,_,_,_,_,_,_,_] rfl (j_run it 2 rfl (by simp) ?_)
     refine j_nf [_,_,_,_,_,_,_,_,_,_,_,_] rfl ?_
     refine j_giv [] rfl rfl rfl ⟨rfl,rfl,rfl⟩
    ·refine j_nf [_,_,_,_,_,_,_,_,_,_] rfl (j_run it 1 rfl (by simp) ?_)
     refine j_nf [_,_,_,_,_,_,_,_,_,_] rfl (j_if rfl rfl (fun h4=>?_) (fun h4=>by exfalso;omega))
     refine j_nf [_,_,_,_,_,_,_,_,_,_,_,_] rfl (j_step rfl (x_idx 0 (j) rfl rfl rfl sl29 rfl (by omega) fun z1 hz2 b3 o2=>?_))
     obtain rfl : _ = z1:=Option.some.inj (at_p.symm.trans hz2)
     refine j_step rfl (x_ld_int 0 rfl rfl ld3 fun ⟨r1,r2⟩=>?_)
     refine j_run it 1 rfl (by simp) ?_
     refine j_nf [_,_,_,_,_,_,_,_,_,_,_,_,_] rfl (j_run it 4 rfl (by simp) ?_)
     refine j_split_dec (t:=40) rfl (fun h5=>by exfalso;omega) (fun h5=>?_)
     refine j_run it 4 rfl (by simp) ?_
     refine j_nf [_,_,_,_,_,_,_,_,_,_,_,_] rfl (j_if rfl rfl (fun h6=>?_) (fun h6=>by exfalso;omega))
     refine j_nf [_,_,_,_,_,_,_,_,_,_,_,_,_] rfl (j_run it 2 rfl (by simp) ?_)
     refine j_nf [_,_,_,_,_,_,_,_,_,_,_,_] rfl ?_
     refine j_giv [] rfl rfl rfl ⟨rfl,rfl,rfl⟩
   ·rw [if_neg hc] at he
    obtain ⟨k,rfl⟩ : ∃ k : Nat,p = k:=⟨p.toNat,by omega⟩
    rw [Int.toNat_natCast] at he
    have h2p : 2 ^ k < 18446744073709551616:=Nat.pow_lt_pow_right (n:=64) (by decide) (by omega)
    have hbm : m ||| 1 * 2 ^ k < 18446744073709551616:=Nat.or_lt_two_pow (n:=64) hm (by rw [Nat.one_mul];exact h2p)
    have hir : InR .u64 ((1 * 2 ^ k : Nat) : Int):=by
     rw [Nat.one_mul]
     generalize 2 ^ k = z at *
     simp only [InR];omega
    refine j_nf [_,_,_,_,_,_,_,_,_,_] rfl (j_run it 1 rfl (by simp) ?_)
    refine j_nf [_,_,_,_,_,_,_,_,_,_] rfl (j_if rfl rfl (fun h4=>?_) (fun h4=>by exfalso;omega))
    refine j_nf [_,_,_,_,_,_,_,_,_,_,_,_] rfl (j_step rfl (x_idx 0 (j) rfl rfl rfl sl29 rfl (by omega) fun z1 hz2 b3 o2=>?_))
    obtain rfl : _ = z1:=Option.some.inj (at_p.symm.trans hz2)
    refine j_step rfl (x_ld_int 0 rfl rfl ld3 fun ⟨r1,r2⟩=>?_)
    refine j_run it 1 rfl (by simp) ?_
    refine j_nf [_,_,_,_,_,_,_,_,_,_,_,_,_] rfl (j_run it 4 rfl (by simp) ?_)
    refine j_split_dec (t:=40) rfl (fun h5=>by exfalso;omega) (fun h5=>?_)
    refine j_run it 4 rfl (by simp) ?_
    refine j_nf [_,_,_,_,_,_,_,_,_,_,_,_] rfl (j_if rfl rfl (fun h6=>by exfalso;omega) (fun h6=>?_))
    refine j_nf [_,_,_,_,_,_,_,_,_,_,_,_] rfl (j_run it 2 rfl (by simp) ?_)
    refine j_nf [_,_,_,_,_,_,_,_,_,_,_] rfl (j_run it 2 rfl (by simp) ?_)
    refine j_step rfl (x_shl_nat 1 (k) rfl rfl (by first | rfl | omega) (by first | rfl | omega) (by first | decide | (simp only [IntKind.bits];omega)) (by first | assumption | (simp only [InR];omega)) ?_)
    refine j_step rfl (x_or_nat (m) (1 * 2 ^ k) rfl rfl (by first | rfl | omega) (by first | rfl | omega) (by omega) (by omega) ?_)
    refine j_run it 1 rfl (by simp) ?_
    refine j_nf [_,_,_,_,_,_,_,_,_] rfl (j_run it 2 rfl ⟨trivial,⟨by omega,by omega⟩,trivial⟩ ?_)
    refine j_nfn 1 [.lp (pL 250676),.blk 2,.c (pL 31335),.blk 1,.c (pL 1959),.lp (pL 244),.blk 0,.c [1,1,1,1]] rfl ?_
    refine j_to [1,2,3,4,5] (by exact fra rfl) rfl rfl (ih2 (j + 1,(k : Int),m ||| 1 * 2 ^ k) (by dsimp only;omega) ⟨by dsimp only;omega,by dsimp only;omega,by dsimp only;omega,hbm,he⟩)
  ·obtain rfl : j = l.length:=by omega
   rw [List.drop_length,blkN] at he
   refine j_nf [_,_,_,_,_,_,_,_,_,_] rfl (j_run it 1 rfl (by simp) ?_)
   refine j_nf [_,_,_,_,_,_,_,_,_,_] rfl (j_if rfl rfl (fun h4=>by exfalso;omega) (fun h4=>?_))
   refine j_nf [_,_,_,_,_,_] rfl (j_step rfl (x_bld 1 rfl rfl ld52 rfl ?_))
   refine j_run it 1 rfl (by simp) ?_
   refine j_step rfl (x_lit sl52 zo52e rfl rfl rfl rfl (by decide) (by decide) rfl fun b3=>?_)
   refine j_step rfl (x_appR (z:=(m)) 1 0 2 rfl rfl rfl rfl rfl sl52 zo52e rfl (fun w A hG=>(rd_nat (by first | rfl | omega) (by first | (simp only [InR];omega) | (simp [InR];done)))) (by omega) _ by52e (by omega) fun r1=>?_)
   refine j_step rfl (x_bst1 2 rfl rfl rfl rfl ld52 rfl (Nat.le_of_ble_eq_true rfl) ?_)
   refine j_nf [_,_,_,_] rfl (j_run it 2 rfl ⟨trivial,⟨by omega,by omega⟩,trivial⟩ ?_)
   refine j_nfn 1 [.lp (pL 244),.blk 0,.c [1,1,1,1]] rfl ?_
   refine j_toM [true,false,true] [0,4,5] (by exact fra rfl) rfl rfl (ih (i + 1,r1,ms++[m]) (by dsimp only;omega) ⟨by dsimp only;omega,by
    dsimp only
    rw [List.take_succ_eq_append_getElem hil,show L[i] = l from Option.some.inj ((List.getElem?_eq_getElem hil).symm.trans hz)]
    exact blksN_snoc (hq.trans he.symm) hb⟩)
 ·obtain rfl : i = L.length:=by omega
  rw [List.take_length] at hb
  have hml:=blksN_len hb
  have e0 : desR n L t = if t < 0 ∨ n < t then (0,6) else if 65536 < binom n t.toNat then (0,8) else
    if (visL ms (subsL n t.toNat 0 0) (-1) true).2.1 = true then ((visL ms (subsL n t.toNat 0 0) (-1) true).1,0) else (0,11):=by
   rw [desR,if_neg h1,Int.toNat_natCast,hb]
  rw [e0]
  clear e0
  by_cases ht : t < 0 ∨ n < t
  ·rw [if_pos ht]
   by_cases ht1 : t < 0
   ·refine j_nf [_,_,_,_,_] rfl (j_run it 1 rfl (by simp) ?_)
    refine j_nf [_,_,_,_,_] rfl (j_if rfl rfl (fun h3=>by exfalso;omega) (fun h3=>?_))
    refine j_nf [_,_,_] rfl (j_run it 3 rfl (by simp) ?_)
    refine j_split_dec (t:=58) rfl (fun h4=>?_) (fun h4=>by exfalso;omega)
    refine j_run it 4 rfl (by simp) ?_
    refine j_nf [_,_] rfl ?_
    refine j_true rfl rfl ?_
    refine j_nf [_,_,_] rfl (j_run it 2 rfl (by simp) ?_)
    refine j_nf [_,_] rfl ?_
    refine j_giv [] rfl rfl rfl ⟨rfl,rfl,rfl⟩
   ·refine j_nf [_,_,_,_,_] rfl (j_run it 1 rfl (by simp) ?_)
    refine j_nf [_,_,_,_,_] rfl (j_if rfl rfl (fun h3=>by exfalso;omega) (fun h3=>?_))
    refine j_nf [_,_,_] rfl (j_run it 3 rfl (by simp) ?_)
    refine j_split_dec (t:=58) rfl (fun h4=>by exfalso;omega) (fun h4=>?_)
    refine j_run it 4 rfl (by simp) ?_
    refine j_nf [_,_] rfl (j_if rfl rfl (fun h5=>?_) (fun h5=>by exfalso;omega))
    refine j_nf [_,_,_] rfl (j_run it 2 rfl (by simp) ?_)
    refine j_nf [_,_] rfl ?_
    refine j_giv [] rfl rfl rfl ⟨rfl,rfl,rfl⟩
  rw [if_neg ht]
  obtain ⟨t,rfl⟩ : ∃ k : Nat,t = k:=⟨t.toNat,by omega⟩
  rw [Int.toNat_natCast]
  by_cases hB : 65536 < binom n t
  ·rw [if_pos hB]
   have hcm : cmpN (val (limbs (binom n t))) (val (limbs 65536)) = 1:=by rw [val_limbs,val_limbs];exact cmpN_gt hB
   refine j_nf [_,_,_,_,_] rfl (j_run it 1 rfl (by simp) ?_)
   refine j_nf [_,_,_,_,_] rfl (j_if rfl rfl (fun h3=>by exfalso;omega) (fun h3=>?_))
   refine j_nf [_,_,_] rfl (j_run it 7 rfl (by simp) ?_)
   refine j_nf [_,_] rfl (j_if rfl rfl (fun h4=>by exfalso;omega) (fun h4=>?_))
   refine j_nf [_,_,_] rfl (j_run it 2 rfl (by simp) ?_)
   refine j_step rfl (x_call [] rfl (S_nat_Binomial (by omega)) rfl ?_)
   rintro _ _ _ ⟨pa1,ca1,rfl,rfl,rfl⟩
   simp only [List.cons_append,List.nil_append]
   refine j_run it 5 rfl (by simp) ?_
   refine j_nf [_,_,_] rfl (j_run it 1 rfl (by simp) ?_)
   refine j_step rfl (x_call [] rfl (S_nat_Of (by simp)) rfl ?_)
   rintro _ _ _ ⟨pa2,ca2,rfl,rfl,rfl⟩
   simp only [List.cons_append,List.nil_append]
   refine j_step rfl (x_call [1,0] rfl (S_nat_Cmp) rfl ?_)
   rintro _ _ _ ⟨rfl,rfl,rfl⟩
   simp only [List.cons_append,List.nil_append]
   refine j_run it 1 rfl (by simp) ?_
   refine j_nf [_,_] rfl (j_if rfl rfl (fun h5=>?_) (fun h5=>by exfalso;omega))
   refine j_nf [_,_,_] rfl (j_run it 2 rfl (by simp) ?_)
   refine j_nf [_,_] rfl ?_
   refine j_giv [] rfl rfl rfl ⟨rfl,rfl,rfl⟩
  ·rw [if_neg hB]
   have hcm : ¬ 0 < cmpN (val (limbs (binom n t))) (val (limbs 65536)):=by
    rw [val_limbs,val_limbs,cmpN,if_neg hB];split <;> omega
   refine j_pubR 0 0 rfl rfl (by show L.length * 8 ≤ 140737488355328;omega) ?_
   have hg:=visL_rng ms (subsL n t 0 0) (-1) true (by decide) (by decide) (by omega)
   refine j_nf [_,_,_,_,_] rfl (j_run it 1 rfl (by simp) ?_)
   refine j_nf [_,_,_,_,_] rfl (j_if rfl rfl (fun h3=>by exfalso;omega) (fun h3=>?_))
   refine j_nf [_,_,_] rfl (j_run it 7 rfl (by simp) ?_)
   refine j_nf [_,_] rfl (j_if rfl rfl (fun h4=>by exfalso;omega) (fun h4=>?_))
   refine j_nf [_,_,_] rfl (j_run it 2 rfl (by simp) ?_)
   refine j_step rfl (x_call [] rfl (S_nat_Binomial (by omega)) rfl ?_)
   rintro _ _ _ ⟨pa1,ca1,rfl,rfl,rfl⟩
   simp only [List.cons_append,List.nil_append]
   refine j_run it 5 rfl (by simp) ?_
   refine j_nf [_,_,_] rfl (j_run it 1 rfl (by simp) ?_)
   refine j_step rfl (x_call [] rfl (S_nat_Of (by simp)) rfl ?_)
   rintro _ _ _ ⟨pa2,ca2,rfl,rfl,rfl⟩
   simp only [List.cons_append,List.nil_append]
   refine j_step rfl (x_call [1,0] rfl (S_nat_Cmp) rfl ?_)
   rintro _ _ _ ⟨rfl,rfl,rfl⟩
   simp only [List.cons_append,List.nil_append]
   refine j_run it 1 rfl (by simp) ?_
   refine j_nf [_,_] rfl (j_if rfl rfl (fun h5=>by exfalso;omega) (fun h5=>?_))
   refine j_nf [_,_] rfl (j_step rfl (x_alloc zo3 fun b2=>?_))
   refine j_step rfl (x_bst1 0 rfl rfl rfl rfl ld3 rfl (Nat.le_of_ble_eq_true rfl) ?_)
   refine j_nf [_,_] rfl (j_step rfl (x_alloc zo4 fun b3=>?_))
   refine j_step rfl (x_bst1 0 rfl rfl rfl rfl ld4 rfl (Nat.le_of_ble_eq_true rfl) ?_)
   refine j_nf [_,_] rfl (j_run it 3 rfl (by simp) ?_)
   refine j_selB [2,1,0] rfl rfl ?_
   refine j_step rfl (x_callN 3 [2] rfl rfl (S_macwilliams_subsets (by omega) (by omega) (by omega) (by simp) (by simp) (by omega) (by omega)) rfl ?_)
   rintro _ _ _ ⟨rfl,rfl,rfl⟩
   simp only [List.cons_append,List.nil_append]
   refine j_nf [_,_,_] rfl (j_step rfl (x_bld 2 rfl rfl ld4 rfl ?_))
   refine j_run it 1 rfl (by simp) ?_
   refine j_nf [_,_] rfl ?_
   refine j_cond rfl rfl (fun h6=>?_) (fun h6=>?_)
   ·rw [if_neg (by simpa using h6)]
    refine j_nf [_,_,_] rfl (j_run it 2 rfl (by simp) ?_)
    refine j_nf [_,_] rfl ?_
    refine j_giv [] rfl rfl rfl ⟨rfl,rfl,rfl⟩
   ·rw [if_pos (by simpa using h6)]
    refine j_nf [_,_] rfl (j_step rfl (x_bld 1 rfl rfl ld3 rfl ?_))
    refine j_run it 2 rfl (by simp) ?_
    refine j_nf [_] rfl ?_
    refine j_giv [] rfl rfl rfl ⟨rfl,rfl,rfl⟩
set_option maxHeartbeats 1000000
theorem S_codewrightref01_Trim {pa : Option Addr} {n ca : Nat} {l : List Nat} : Ctr Try.prog 48 [.slice pa n ca] [] [slF U32 pa n ca l] (Sv U32 (trim l)):=by
 refine Ctr_of_j' (F:=F_codewrightref01_Trim) rfl fun C=>?_
 refine j_len 0 rfl fun hn hb hc=>?_
 subst hn
 have hb' : l.length * 4 ≤ 140737488355328:=hb
 have done : ∀ k,k ≤ l.length → trim l = l.take k → J F_codewrightref01_Trim C [.c [1,1,1]] [(0,.slice pa l.length ca),(3,.int .i64 k)] [] [slF U32 pa l.length ca l] (Gives C (Sv U32 (trim l))):=by
  intro k hk he
  have hlk : (l.take k).length = k:=by rw [List.length_take];omega
  refine j_nf [_,_] rfl (j_step rfl (x_lit0 sl48 fun b1=>?_))
  refine j_run it 2 rfl (by simp) ?_
  refine j_step rfl (x_slice_h 0 (k) rfl rfl rfl sl48 (by omega) (by omega) ?_)
  refine j_step rfl (x_app_sl 0 0 rfl rfl rfl rfl sl48 zo48e rfl (by first | exact GrOk.nil _ | assumption | exact .inr ⟨_,rfl,Nat.le_refl _,by omega,rfl⟩) (by omega) _ by48e (by omega) fun bo1 cap1 cs1 vss1 hg1 ht1=>?_)
  refine j_run it 1 rfl (by simp) ?_
  refine j_nf [_] rfl ?_
  simp only [Nat.zero_add] at hg1 ht1 ⊢
  refine j_pub 0 0 rfl rfl hg1 (by simpa using ht1) hlk.symm (by show _ * 4 ≤ _;omega) ?_
  refine j_giv [0] rfl rfl rfl ⟨_,_,by rw [he,hlk];rfl,by rw [he,hlk],rfl⟩
 refine j_nf [_,_] rfl (j_run it 1 rfl (by simp) ?_)
 refine j_nf [_,_] rfl (j_run it 1 rfl (by simp) ?_)
 refine j_step rfl (x_len sl48 rfl ?_)
 refine j_run it 1 rfl (by simp) ?_
 refine j_nf [_,_,_] rfl ?_
 refine j_loopN (X:=Nat) (fun k=>[(0,.slice pa l.length ca),(3,.int .i64 k)]) (fun _=>[]) (fun _=>[slF U32 pa l.length ca l]) (fun k=>k ≤ l.length ∧ trim (l.take k) = trim l) (fun k=>k) l.length [0] rfl ⟨Nat.le_refl _,by rw [List.take_length]⟩ (by repeat (first | exact Fr.sub_nil _ | refine Fr.sub_cons rfl ?_)) rfl rfl ?_
 intro k ⟨hk,ht⟩ ih
 by_cases hk0 : 0 < k
 ·obtain ⟨z,hz⟩ : ∃ z,l[k - 1]? = some z:=⟨_,List.getElem?_eq_getElem (show k - 1 < l.length by omega)⟩
  have side : ∀ y,l[k - 1]? = some y → y = z:=fun y hy=>by rw [hz] at hy;exact (Option.some.inj hy).symm
  refine j_nf [_,_,_,_,_,_] rfl (j_run it 3 rfl (by simp) ?_)
  refine j_split_dec (t:=8) rfl (fun h1=>?_) (fun h1=>by exfalso;omega)
  refine j_run it 3 rfl ⟨⟨by omega,by omega⟩,trivial,trivial,trivial⟩ ?_
  refine j_gstep rfl rfl (x_idx 0 ((k) - 1) rfl rfl rfl sl48 (by omega) (by omega) fun z1 hz1 b1 o1=>?_)
  refine j_gstep rfl rfl (x_ld_nat 0 rfl rfl ld78 fun ⟨r1,r2⟩=>?_)
  refine j_run it 2 rfl (by simp) ?_
  refine j_nf [_,_,_,_,_] rfl (j_if rfl rfl (fun h2=>?_) (fun h2=>?_))
  ·have e:=side z1 hz1
   have hz0 : z1 = 0:=by omega
   subst hz0
   refine j_nf [_,_,_,_,_] rfl (j_run it 3 rfl ⟨trivial,⟨by omega,by omega⟩,trivial,trivial⟩ ?_)
   refine j_nfn 2 [.lp [1,1,0,0,0],.blk 0,.c [1,1,1]] rfl ?_
   refine j_to [1] (by exact fcc rfl (fii rfl (by omega) (fzz _))) rfl rfl (ih (k - 1) (by omega) ⟨by omega,by rw [← trim_take_zero hz1];rw [show k - 1 + 1 = k by omega];exact ht⟩)
  ·refine j_nfn 1 [.c [1,1,1]] rfl ?_
   refine j_to [1] (by exact fra rfl) rfl rfl (done k hk (by rw [← ht];have:=trim_take_ne hz1 (by omega);rwa [show k - 1 + 1 = k by omega] at this))
 ·refine j_nf [_,_,_,_,_,_] rfl (j_run it 3 rfl (by simp) ?_)
  refine j_split_dec (t:=8) rfl (fun h1=>by exfalso;omega) (fun h1=>?_)
  refine j_run it 7 rfl (by simp) ?_
  refine j_nf [_,_,_,_,_] rfl ?_
  refine j_false rfl rfl ?_
  refine j_nfn 1 [.c [1,1,1]] rfl ?_
  refine j_to [0] (by exact fra rfl) rfl rfl (done k hk (by rw [← ht,show k = 0 by omega];rfl))
theorem val_two' (n : Nat) : val [n % 4294967296,n / 4294967296] = n:=by simp only [val];omega
theorem S_codewrightref01_Of {n : Nat} (hn : n < 18446744073709551616) : Ctr Try.prog 21 [.int .u64 n] [] [] (Sv U32 (limbs n)):=by
 refine Ctr_of_j' (F:=F_codewrightref01_Of) rfl fun C=>?_
 refine j_nf [_,_] rfl (j_run it 1 rfl (by simp) ?_)
 refine j_nf [_,_] rfl (j_run it 6 rfl ⟨⟨by omega,by omega⟩,⟨by omega,by omega,by omega,by omega⟩,trivial,⟨by omega,by omega⟩,⟨by omega,by omega⟩,trivial,trivial⟩ ?_)
 refine j_step rfl (x_lit sl48 zo48e rfl rfl rfl rfl (by decide) (by decide) rfl fun b1=>?_)
 refine j_pub_made (n:=2) (kd:=IntKind.u32) 4 [((n) % 4294967296),((n) / 4294967296)] 0 rfl rfl (by first | (simp [InR];done) | (simp only [InR,List.mem_cons,List.not_mem_nil,or_false,forall_eq_or_imp,forall_eq];omega)) (by decide) (by decide) ?_
 refine j_step rfl (x_call [0] rfl (S_codewrightref01_Trim) rfl ?_)
 rintro _ _ _ ⟨pa1,ca1,rfl,rfl,rfl⟩
 simp only [List.cons_append,List.nil_append]
 refine j_run it 1 rfl (by simp) ?_
 refine j_nf [_] rfl ?_
 rw [trim_eq (l:=[n % 4294967296,n / 4294967296]) (by simp;omega),val_two']
 refine j_giv [0] rfl rfl rfl ⟨_,_,rfl,rfl,rfl⟩
theorem S_codewrightref01_limb {pa : Option Addr} {n ca i : Nat} {l : List Nat} : Ctr Try.prog 46 [.slice pa n ca,.int .i64 i] [] [slF U32 pa n ca l] (Rv (.int .u64 (l.getD i 0 : Nat)) []):=by
 refine Ctr_of_j' (F:=F_codewrightref01_limb) rfl fun C=>?_
 refine j_len 0 rfl fun hn hb hc=>?_
 subst hn
 by_cases hi : i < l.length
 ·refine j_nf [_,_] rfl (j_run it 1 rfl (by simp) ?_)
  refine j_nf [_,_,_] rfl (j_run it 2 rfl (by simp) ?_)
  refine j_step rfl (x_len sl48 rfl ?_)
  refine j_run it 1 rfl (by simp) ?_
  refine j_nf [_,_] rfl (j_if rfl rfl (fun h1=>?_) (fun h1=>by exfalso;omega))
  refine j_nf [_,_,_] rfl (j_run it 2 rfl (by simp) ?_)
  refine j_step rfl (x_idx 0 (i) rfl rfl rfl sl48 rfl (by omega) fun z1 hz1 b1 o1=>?_)
  refine j_step rfl (x_ld_nat 0 rfl rfl ld78 fun ⟨r1,r2⟩=>?_)
  refine j_run it 2 rfl ⟨trivial,⟨by omega,by omega⟩,trivial⟩ ?_
  refine j_nf [_,_] rfl ?_
  have e : l.getD i 0 = z1:=by rw [List.getD,hz1];rfl
  refine j_giv [] rfl rfl rfl ⟨by rw [e];rfl,rfl,rfl⟩
 ·refine j_nf [_,_] rfl (j_run it 1 rfl (by simp) ?_)
  refine j_nf [_,_,_] rfl (j_run it 2 rfl (by simp) ?_)
  refine j_step rfl (x_len sl48 rfl ?_)
  refine j_run it 1 rfl (by simp) ?_
  refine j_nf [_,_] rfl (j_if rfl rfl (fun h1=>by exfalso;omega) (fun h1=>?_))
  refine j_nf [_,_] rfl (j_run it 1 rfl (by simp) ?_)
  refine j_nf [_] rfl ?_
  have e : l.getD i 0 = 0:=by rw [List.getD,List.getElem?_eq_none (by omega)];rfl
  refine j_giv [] rfl rfl rfl ⟨by rw [e];rfl,rfl,rfl⟩
theorem S_codewrightref01_Mul {pa pb : Option Addr} {n m ca cb : Nat} {a b : List Nat} (ha : a.length ≤ 1099511627776) (hb : b.length ≤ 1099511627776) :
  Ctr Try.prog 74 [.slice pa n ca,.slice pb m cb] [] [slF U32 pa n ca a,slF U32 pb m cb b] (Sv U32 (limbs (val a * val b))):=by
 refine Ctr_of_j' (F:=F_codewrightref01_Mul) rfl fun C=>?_
 refine j_len 0 rfl fun hn _ _=>?_
 refine j_len 1 rfl fun hm _ _=>?_
 subst hn;subst hm
 refine j_range 0 rfl fun hra=>?_
 refine j_range 1 rfl fun hrb=>?_
 simp only [InR] at hra hrb
 refine j_nf [_,_] rfl ?_
 refine j_run it 1 rfl (by simp) ?_
 refine j_nf [_,_] rfl ?_
 refine j_run it 1 rfl (by simp) ?_
 refine j_step rfl (x_len sl48 rfl ?_)
 refine j_run it 1 rfl (by simp) ?_
 refine j_step rfl (x_len sl48 rfl ?_)
 refine j_run it 1 rfl ⟨⟨by omega,by omega⟩,trivial⟩ ?_
 refine j_step rfl (x_make_nat ((a.length) + (b.length)) _ rfl rfl sl48 zo48e by48e (by omega) (by omega) (by omega) fun b1=>?_)
 refine j_run it 1 rfl (by simp) ?_
 refine j_nf [_,_,_] rfl ?_
 refine j_run it 1 rfl (by simp) ?_
 refine j_nf [_,_,_] rfl ?_
 refine j_loopN (X:=Nat × List Nat) (fun x=>[(0,.slice pa a.length ca),(1,.slice pb b.length cb),(5,.slice (some ⟨b1,0,none⟩) (a.length + b.length) (a.length + b.length)),(6,.int .i64 x.1)])
  (fun x=>[(some b1,78,natCells .u32 x.2)]) (fun _=>[slF U32 pa a.length ca a,slF U32 pb b.length cb b])
  (fun x=>x.1 ≤ a.length ∧ x.2.length = a.length + b.length ∧ (∀ y ∈ x.2,y < 4294967296) ∧ val (x.2.take (x.1 + b.length)) = val (a.take x.1) * val b)
  (fun x=>a.length - x.1) (0,List.replicate (a.length + b.length) 0) [0,1] rfl ⟨Nat.zero_le _,by simp,rep_lt (by decide),by simp [val,val_replicate]⟩ (by repeat (first | exact Fr.sub_nil _ | refine Fr.sub_cons rfl ?_)) rfl rfl ?_
 rintro ⟨i,v0⟩ ⟨hi,hl,ho,hv⟩ ih
 simp only at hi hl ho hv ih ⊢
 by_cases hil : i < a.length
 ·obtain ⟨z1,hz1⟩ : ∃ z,a[i]? = some z:=⟨_,List.getElem?_eq_getElem hil⟩
  have ex : a.getD i default = z1:=by rw [List.getD,hz1];rfl
  have hx:=(hra z1 (List.mem_of_getElem? hz1)).2
  refine j_nf [_,_,_,_,_,_] rfl ?_
  refine j_run it 2 rfl (by simp) ?_
  refine j_step rfl (x_len sl48 rfl ?_)
  refine j_run it 1 rfl (by simp) ?_
  refine j_nf [_,_,_,_,_] rfl ?_
  refine j_if rfl rfl (fun h1=>?_) (fun h1=>by exfalso;omega)
  refine j_nf [_,_,_,_,_,_,_] rfl ?_
  refine j_run it 1 rfl (by simp) ?_
  refine j_nf [_,_,_,_,_,_,_,_] rfl ?_
  refine j_run it 1 rfl (by simp) ?_
  refine j_nf [_,_,_,_,_,_,_,_] rfl ?_
  refine j_loopN (X:=Nat × Nat × List Nat) (fun x=>[(0,.slice pa a.length ca),(1,.slice pb b.length cb),(5,.slice (some ⟨b1,0,none⟩) (a.length + b.length) (a.length + b.length)),(6,.int .i64 i),(7,.int .u64 x.2.1),(8,.int .i64 x.1)])
   (fun x=>[(some b1,78,natCells .u32 x.2.2)]) (fun _=>[slF U32 pa a.length ca a,slF U32 pb b.length cb b])
   (fun x=>x.1 ≤ b.length ∧ x.2.2.length = a.length + b.length ∧ x.2.1 < 4294967296 ∧ (∀ y ∈ x.2.2,y < 4294967296) ∧ val (x.2.2.take (i + x.1)) + 4294967296 ^ (i + x.1) * x.2.1 = val (v0.take (i + x.1)) + 4294967296 ^ i * (z1 * val (b.take x.1)) ∧ x.2.2.drop (i + x.1) = v0.drop (i + x.1))
   (fun x=>b.length - x.1) (0,0,v0) [0,1] rfl ⟨Nat.zero_le _,hl,Nat.zero_lt_succ _,ho,by simp [val],rfl⟩ (by repeat (first | exact Fr.sub_nil _ | refine Fr.sub_cons rfl ?_)) rfl rfl ?_
  rintro ⟨j,c,out⟩ ⟨hj,hl',hc,ho',hv',hd⟩ ih'
  simp only at hj hl' hc ho' hv' hd ih' ⊢
  by_cases hjl : j < b.length
  ·obtain ⟨z2,hz2⟩ : ∃ z,b[j]? = some z:=⟨_,List.getElem?_eq_getElem hjl⟩
   have ey : b.getD j default = z2:=by rw [List.getD,hz2];rfl
   have hy:=(hrb z2 (List.mem_of_getElem? hz2)).2
   obtain ⟨z3,hz3⟩ : ∃ z,out[i + j]? = some z:=⟨_,List.getElem?_eq_getElem (show i + j < out.length by omega)⟩
   have hz3':=ho' z3 (List.mem_of_getElem? hz3)
   refine j_nf [_,_,_,_,_,_,_,_,_,_,_] rfl ?_
   refine j_run it 2 rfl (by simp) ?_
   refine j_step rfl (x_len sl48 rfl ?_)
   refine j_run it 1 rfl (by simp) ?_
   refine j_nf [_,_,_,_,_,_,_,_,_,_] rfl ?_
   refine j_if rfl rfl (fun h2=>?_) (fun h2=>by exfalso;omega)
   refine j_nf [_,_,_,_,_,_,_,_,_,_,_,_] rfl ?_
   (apply j_drawK it mx 21;(· rfl);(· rfl))
   (apply lxk_run 2;(· rfl);(· simp))
   (apply lxk_pt;(· rfl);(· exact d_x fun _=>x_idx 0 (i) rfl rfl rfl sl48 rfl (by omega) fun z4 hz4 b2 o1=>(dk_ptD default hz4 0 rfl));intro b2 o1)
   (apply lxk_eq;(· rfl);(· exact d_x fun _=>x_ld_nat 0 rfl rfl ld78 fun ⟨r1,r2⟩=>dk_eq))
   (apply lxk_run 3;(· rfl);(· exact ⟨trivial,trivial,⟨by omega,by omega⟩,trivial⟩))
   (apply lxk_pt;(· rfl);(· exact d_x fun _=>x_idx 1 (j) rfl rfl rfl sl48 rfl (by omega) fun z4 hz4 b3 o2=>(dk_ptD default hz4 0 rfl));intro b3 o2)
   (apply lxk_eq;(· rfl);(· exact d_x fun _=>x_ld_nat 0 rfl rfl ld78 fun ⟨r1,r2⟩=>dk_eq))
   (apply lxk_run 6;(· rfl);(· exact ⟨⟨by omega,by omega⟩,trivial,trivial,trivial,⟨Int.mul_nonneg (by omega) (by omega),mul64_1 (by omega) (by omega) (by omega) (by omega)⟩,⟨by omega,by omega⟩,trivial⟩))
   (apply lxk_eq;(· rfl);(· exact d_x fun _=>x_idx_own ((i) + (j)) ((i) + (j)) rfl rfl sl48 (by omega) (by omega) (Nat.mul_one _) dk_eq))
   (apply lxk_eq;(· rfl);(· exact d_bld_nat 0 rfl rfl ld78 (by assumption)))
   (apply lxk_run 4;(· rfl);(· exact ⟨⟨mul64_nnn (by omega) (by omega) (by omega) (by omega),mul64_3 (by omega) (by omega) (by omega) (by omega) (by omega) (by omega)⟩,trivial,⟨mul64_nn (by omega) (by omega) (by omega),mul64_2 (by omega) (by omega) (by omega) (by omega) (by omega)⟩,⟨by omega,by omega⟩,trivial⟩))
   refine lxk_end rfl ?_
   simp only [List.map_cons,List.map_nil,List.cons_append,List.nil_append]
   refine j_run it 1 rfl (by simp) ?_
   refine j_nf [_,_,_,_,_,_,_,_,_,_,_,_] rfl ?_
   refine j_run it 7 rfl ⟨⟨by omega,by omega⟩,⟨mul64_nnn (by omega) (by omega) (by omega) (by omega),by omega⟩,trivial,⟨by omega,by omega⟩,trivial,trivial,trivial,trivial⟩ ?_
   refine j_step rfl (x_idx_own ((i) + (j)) ((i) + (j)) rfl rfl sl48 (by omega) (by omega) (Nat.mul_one _) ?_)
   refine j_step rfl (x_bst_nat 0 (((((a.getD i default) * (b.getD j default)) + (z3)) + (c)) % 4294967296) rfl rfl rfl ld78 (by first | rfl | omega) (by first | omega | (simp;omega)) ?_)
   refine j_nf [_,_,_,_,_,_,_,_,_,_,_] rfl ?_
   refine j_run it 3 rfl ⟨trivial,⟨mul64_nnn (by omega) (by omega) (by omega) (by omega),by omega,mul64_nnn (by omega) (by omega) (by omega) (by omega),mul64_3 (by omega) (by omega) (by omega) (by omega) (by omega) (by omega)⟩,trivial,trivial⟩ ?_
   refine j_nf [_,_,_,_,_,_,_,_,_] rfl ?_
   refine j_run it 3 rfl ⟨trivial,⟨by omega,by omega⟩,trivial,trivial⟩ ?_
   refine j_nfn 1 [.lp (pL 29844),.blk 2,.c (pL 3731),.blk 1,.c (pL 467),.lp (pL 116),.blk 0,.c [1,1,1]] rfl ?_
   rw [ex,ey]
   have e3:=get_of_drop hd hz3
   refine j_to [2,3] (by exact fra rfl) rfl rfl (ih' (j + 1,(z1 * z2 + z3 + c) / 4294967296,out.set (i + j) ((z1 * z2 + z3 + c) % 4294967296)) (by simp only;omega) ⟨by simp only;omega,by simpa using hl',by
     have:=Nat.mul_le_mul (show z1 ≤ 4294967295 by omega) (show z2 ≤ 4294967295 by omega)
     simp only;omega,set_lt ho' (by omega),mul_step hv' e3 hz2 (by omega),by
     simp only
     rw [drop_set_ge (by omega),← Nat.add_assoc];exact drop_more hd⟩)
  ·refine j_nf [_,_,_,_,_,_,_,_,_,_,_] rfl ?_
   refine j_run it 2 rfl (by simp) ?_
   refine j_step rfl (x_len sl48 rfl ?_)
   refine j_run it 1 rfl (by simp) ?_
   refine j_nf [_,_,_,_,_,_,_,_,_,_] rfl ?_
   refine j_if rfl rfl (fun h2=>by exfalso;omega) (fun h2=>?_)
   refine j_nf [_,_,_,_,_,_] rfl ?_
   refine j_run it 3 rfl (by simp) ?_
   refine j_step rfl (x_len sl48 rfl ?_)
   refine j_run it 3 rfl ⟨⟨by omega,by omega⟩,trivial,⟨by omega,by omega⟩,trivial⟩ ?_
   refine j_step rfl (x_idx_own ((i) + (b.length)) ((i) + (b.length)) rfl rfl sl48 (by omega) (by omega) (Nat.mul_one _) ?_)
   refine j_step rfl (x_bst_nat 0 (c) rfl rfl rfl ld78 (by first | rfl | omega) (by first | omega | (simp;omega)) ?_)
   refine j_nf [_,_,_,_] rfl ?_
   refine j_run it 3 rfl ⟨trivial,⟨by omega,by omega⟩,trivial,trivial⟩ ?_
   refine j_nfn 1 [.lp (pL 116),.blk 0,.c [1,1,1]] rfl ?_
   have e : j = b.length:=by omega
   subst e
   refine j_to [0,1] (by exact fra rfl) rfl rfl (ih (i + 1,out.set (i + b.length) c) (by simp only;omega) ⟨by simp only;omega,by simpa using hl',set_lt ho' hc,by
     simp only
     exact mul_row (by rw [List.take_length,hv] at hv';exact hv') hz1 (by omega)⟩)
 ·refine j_nf [_,_,_,_,_,_] rfl ?_
  refine j_run it 2 rfl (by simp) ?_
  refine j_step rfl (x_len sl48 rfl ?_)
  refine j_run it 1 rfl (by simp) ?_
  refine j_nf [_,_,_,_,_] rfl ?_
  refine j_if rfl rfl (fun h1=>by exfalso;omega) (fun h1=>?_)
  refine j_nf [_,_] rfl ?_
  refine j_run it 1 rfl (by simp) ?_
  refine j_pub32 (n:=a.length + b.length) 0 rfl (by simp [*]) (by first | assumption | exact set_all (by assumption) (by omega) | (simp;omega)) (by omega) ?_
  refine j_step rfl (x_call [0] rfl (S_codewrightref01_Trim) rfl ?_)
  rintro _ _ _ ⟨pa1,ca1,rfl,rfl,rfl⟩
  simp only [List.cons_append,List.nil_append]
  refine j_run it 1 rfl (by simp) ?_
  refine j_nf [_] rfl ?_
  have e : i = a.length:=by omega
  subst e
  rw [List.take_length,List.take_of_length_le (by omega)] at hv
  rw [trim_eq ho,hv]
  refine j_giv [0] rfl rfl rfl ⟨_,_,rfl,rfl,rfl⟩
set_option maxHeartbeats 400000
theorem limbs_two {n : Nat} (h : n < 18446744073709551616) : (limbs n).length ≤ 2:=limbs_length_le (by simpa using h)
theorem mul_len {x y L K : Nat} (hx : x < 4294967296 ^ L) (hy : y < 4294967296 ^ K) : (limbs (x * y)).length ≤ L + K:=by
 refine limbs_length_le ?_
 rw [Nat.pow_add]
 rcases Nat.eq_zero_or_pos y with h0 | h0
 ·subst h0;rw [Nat.mul_zero];exact Nat.mul_pos (Nat.pow_pos (by decide)) (Nat.pow_pos (by decide))
 ·exact Nat.lt_of_lt_of_le (Nat.mul_lt_mul_of_pos_right hx h0) (Nat.mul_le_mul_left _ (Nat.le_of_lt hy))
theorem S_codewrightref01_small {pa : Option Addr} {m ca : Nat} {a : List Nat} {n d : Nat} (ha : a.length ≤ 1073741824) (hn : n < 4294967296) (hd : 0 < d) (hdB : d < 4294967296) :
  Ctr Try.prog 47 [.slice pa m ca,.int .i64 n,.int .i64 d] [] [slF U32 pa m ca a] (Sv U32 (limbs (val a * n / d))):=by
 refine Ctr_of_j' (F:=F_codewrightref01_small) rfl fun C=>?_
 refine j_len 0 rfl fun hm _ _=>?_
 subst hm
 refine j_range 0 rfl fun hra=>?_
 have hra' : ∀ x ∈ a,x < 4294967296:=fun x hx=>by have:=hra x hx;simp only [InR] at this;omega
 have h2:=limbs_two (show n < 18446744073709551616 by omega)
 have hlen : (limbs (val a * val (limbs n))).length ≤ a.length + 2:=mul_len (val_lt hra') (limbs_le_length (by rw [val_limbs];exact h2))
 have hpr:=limbs_lt (val a * val (limbs n))
 have hpv : val (limbs (val a * val (limbs n))) = val a * n:=by rw [val_limbs,val_limbs]
 clear hra
 refine j_nf [_,_] rfl (j_run it 1 rfl (by simp) ?_)
 refine j_nf [_,_] rfl (j_run it 3 rfl ⟨⟨by omega,by omega⟩,trivial,trivial,trivial⟩ ?_)
 refine j_step rfl (x_call [] rfl (S_codewrightref01_Of (by omega)) rfl ?_)
 rintro _ _ _ ⟨pa1,ca1,rfl,rfl,rfl⟩
 simp only [List.cons_append,List.nil_append]
 refine j_step rfl (x_call [1,0] rfl (S_codewrightref01_Mul (by omega) (by omega)) rfl ?_)
 rintro _ _ _ ⟨pa2,ca2,rfl,rfl,rfl⟩
 simp only [List.cons_append,List.nil_append]
 refine j_run it 1 rfl (by simp) ?_
 refine j_nf [_,_] rfl (j_run it 1 rfl (by simp) ?_)
 refine j_step rfl (x_len sl48 rfl ?_)
 refine j_step rfl (x_make_nat ((limbs (val a * val (limbs n))).length) _ rfl rfl sl48 zo48e by48e (by omega) (by omega) (by omega) fun b1=>?_)
 refine j_run it 1 rfl (by simp) ?_
 refine j_nf [_,_] rfl (j_run it 1 rfl (by simp) ?_)
 refine j_nf [_,_,_] rfl (j_run it 1 rfl (by simp) ?_)
 refine j_step rfl (x_len sl48 rfl ?_)
 refine j_run it 2 rfl ⟨trivial,⟨by omega,by omega⟩,trivial⟩ ?_
 refine j_nf [_,_,_] rfl ?_
 generalize limbs (val a * val (limbs n)) = p at hlen hpr hpv ⊢
 refine j_loopN (X:=Nat × Nat × List Nat) (fun x=>[(0,.slice pa2 p.length ca2),(2,.int .i64 d),(7,.slice (some ⟨b1,0,none⟩) p.length p.length),(8,.int .u64 x.2.1),(9,.int .i64 ((x.1 : Int) - 1))])
  (fun x=>[(some b1,78,natCells .u32 x.2.2)]) (fun _=>[slF U32 pa2 p.length ca2 p])
  (fun x=>x.1 ≤ p.length ∧ x.2.2.length = p.length ∧ x.2.1 < d ∧ (∀ y ∈ x.2.2,y < 4294967296) ∧ val (p.drop x.1) = val (x.2.2.drop x.1) * d + x.2.1)
  (fun x=>x.1) (p.length,0,List.replicate p.length 0) [0] rfl ⟨Nat.le_refl _,by simp,hd,rep_lt (by decide),by simp [val]⟩ (by repeat (first | exact Fr.sub_nil _ | refine Fr.sub_cons rfl ?_)) rfl rfl ?_
 rintro ⟨k,r,out⟩ ⟨hk,hl,hr,ho,hv⟩ ih
 simp only at hk hl hr ho hv ih ⊢
 by_cases hk0 : 0 < k
 ·refine j_nf [_,_,_,_,_,_] rfl (j_run it 2 rfl (by simp) ?_)
  refine j_nf [_,_,_,_,_] rfl (j_if rfl rfl (fun h1=>?_) (fun h1=>by exfalso;omega))
  refine j_nf [_,_,_,_,_,_,_] rfl (j_run it 4 rfl ⟨trivial,trivial,⟨by omega,by omega⟩,trivial,trivial⟩ ?_)
  refine j_step rfl (x_idx 0 ((k) - 1) rfl rfl rfl sl48 (by omega) (by omega) fun z1 hz1 b2 o1=>?_)
  refine j_step rfl (x_ld_nat 0 rfl rfl ld78 fun ⟨r1,r2⟩=>?_)
  refine j_run it 3 rfl ⟨trivial,⟨by omega,by omega⟩,⟨by omega,by omega⟩,trivial⟩ ?_
  refine j_nf [_,_,_,_,_,_,_] rfl (j_run it 6 rfl ⟨⟨by omega,by omega,by omega,by omega⟩,⟨by omega,by omega⟩,trivial,trivial,trivial,trivial,trivial⟩ ?_)
  refine j_step rfl (x_conv_u32 it rfl rfl rfl ?_)
  refine j_step rfl (x_idx_own ((k) - 1) ((k) - 1) rfl rfl sl48 (by omega) (by omega) (Nat.mul_one _) ?_)
  refine j_step rfl (x_bst_nat 0 (((((r) * 4294967296) + (z1)) / (d)) % 4294967296) rfl rfl rfl ld78 (by first | rfl | omega) (by first | omega | (simp;omega)) ?_)
  refine j_nf [_,_,_,_,_,_] rfl (j_run it 5 rfl ⟨trivial,⟨by omega,by omega⟩,⟨by omega,by omega⟩,trivial,trivial,trivial⟩ ?_)
  refine j_nf [_,_,_,_] rfl (j_run it 3 rfl ⟨trivial,⟨by omega,by omega⟩,trivial,trivial⟩ ?_)
  refine j_nfn 1 [.lp (pL 500),.blk 0,.c [1,1,1,1,1]] rfl ?_
  have hz : z1 < 4294967296:=hpr z1 (List.mem_of_getElem? hz1)
  have hq:=div_lt' (x:=z1) hr hz
  refine j_to [1] (by exact fcc rfl (fcc rfl (fcc rfl (fcc rfl (fii rfl (by omega) (fzz _)))))) rfl rfl (ih (k - 1,(r * 4294967296 + z1) % d,out.set (k - 1) ((r * 4294967296 + z1) / d % 4294967296)) (by simp only;omega) ⟨by simp only;omega,by simpa using hl,Nat.mod_lt _ hd,set_lt ho (by omega),by
   simp only
   rw [Nat.mod_eq_of_lt hq]
   have e : k - 1 + 1 = k:=by omega
   have hz1' : p[k - 1]? = some z1:=by first | exact hz1 | simpa using hz1
   rw [val_drop hz1',val_set_drop (by omega),e]
   exact div_step hv hd⟩)
 ·refine j_nf [_,_,_,_,_,_] rfl (j_run it 2 rfl (by simp) ?_)
  refine j_nf [_,_,_,_,_] rfl (j_if rfl rfl (fun h1=>by exfalso;omega) (fun h1=>?_))
  refine j_nf [_,_] rfl (j_run it 1 rfl (by simp) ?_)
  refine j_pub32 (n:=p.length) 0 rfl (by simp [*]) (by first | assumption | exact set_all (by assumption) (by omega) | (simp;omega)) (by omega) ?_
  refine j_step rfl (x_call [0] rfl (S_codewrightref01_Trim) rfl ?_)
  rintro _ _ _ ⟨pa3,ca3,rfl,rfl,rfl⟩
  simp only [List.cons_append,List.nil_append]
  refine j_run it 1 rfl (by simp) ?_
  refine j_nf [_] rfl ?_
  have e : k = 0:=by omega
  subst e
  simp only [List.drop_zero] at hv
  have h1 : val p / d = val out:=by rw [hv,Nat.mul_comm,Nat.mul_add_div hd,Nat.div_eq_of_lt hr,Nat.add_zero]
  rw [trim_eq ho,← h1,hpv]
  refine j_giv [0] rfl rfl rfl ⟨_,_,rfl,rfl,rfl⟩
theorem S_codewrightref01_Choose {n k : Nat} (hn : n ≤ 4096) : Ctr Try.prog 20 [.int .i64 n,.int .i64 k] [] [] (Sv U32 (limbs (binom n k))):=by
 refine Ctr_of_j' (F:=F_codewrightref01_Choose) rfl fun C=>?_
 have e1 : limbs (binom n 0) = [1]:=by rw [binom_zero,limbs_one]
 by_cases hk : n < k
 ·have hz : limbs (binom n k) = []:=by rw [binom_gt n k hk,limbs_zero]
  refine j_nf [_,_] rfl (j_run it 1 rfl (by simp) ?_)
  refine j_nf [_,_,_] rfl (j_run it 7 rfl (by simp) ?_)
  refine j_nf [_,_] rfl (j_if rfl rfl (fun h1=>?_) (fun h1=>by exfalso;omega))
  refine j_nf [_,_,_] rfl (j_step rfl (x_lit0 sl48 fun b1=>?_))
  refine j_run it 1 rfl (by simp) ?_
  refine j_nf [_,_] rfl ?_
  refine j_add (slF U32 (some ⟨b1,0,none⟩) 0 0 []) (fun w A _=>slF_nil _ _ _ _ _) ?_
  refine j_giv [0] rfl rfl rfl ⟨_,_,by rw [hz];rfl,by rw [hz];rfl,rfl⟩
 ·have hlen:=fun i=>binom_len hn i
  refine j_nf [_,_] rfl (j_run it 1 rfl (by simp) ?_)
  refine j_nf [_,_,_] rfl (j_run it 7 rfl (by simp) ?_)
  refine j_nf [_,_] rfl (j_if rfl rfl (fun h1=>by exfalso;omega) (fun h1=>?_))
  refine j_nf [_,_] rfl (j_step rfl (x_lit sl48 zo48e rfl rfl rfl rfl (by decide) (by decide) rfl fun b1=>?_))
  refine j_run it 1 rfl (by simp) ?_
  refine j_nf [_,_,_] rfl (j_run it 1 rfl (by simp) ?_)
  refine j_nf [_,_,_] rfl ?_
  refine j_pub_made (n:=1) (kd:=.u32) 4 [1] 0 rfl rfl (by simp [InR]) (by decide) (by decide) ?_
  refine j_loopN (X:=Nat × Option Addr × Nat) (fun x=>[(0,.int .i64 n),(1,.int .i64 k),(5,.slice x.2.1 (limbs (binom n x.1)).length x.2.2),(6,.int .i64 x.1)])
   (fun _=>[]) (fun x=>[slF U32 x.2.1 (limbs (binom n x.1)).length x.2.2 (limbs (binom n x.1))])
   (fun x=>x.1 ≤ k) (fun x=>k - x.1) (0,some ⟨b1,0,none⟩,1) [0] rfl (Nat.zero_le _) (by simp only [e1];repeat (first | exact Fr.sub_nil _ | refine Fr.sub_cons rfl ?_)) rfl (by simp only [e1];rfl) ?_
  rintro ⟨i,pa,ca⟩ hi ih
  simp only at hi ih ⊢
  have hl:=hlen i
  by_cases hik : i < k
  ·refine j_nf [_,_,_,_,_,_] rfl (j_run it 3 rfl (by simp) ?_)
   refine j_nf [_,_,_,_,_] rfl (j_if rfl rfl (fun h2=>?_) (fun h2=>by exfalso;omega))
   refine j_nf [_,_,_,_,_,_] rfl (j_run it 6 rfl ⟨⟨by omega,by omega⟩,trivial,⟨by omega,by omega⟩,trivial,trivial,trivial,trivial⟩ ?_)
   refine j_recast (t:=24) ((((n) - (i)) : Nat) : Int) rfl (by omega) ?_
   refine j_recast (t:=26) ((((i) + 1) : Nat) : Int) rfl (by omega) ?_
   refine j_step rfl (x_call [0] rfl (S_codewrightref01_small (by omega) (by omega) (by omega) (by omega)) rfl ?_)
   rintro _ _ _ ⟨pa1,ca1,rfl,rfl,rfl⟩
   simp only [List.cons_append,List.nil_append]
   refine j_run it 1 rfl (by simp) ?_
   refine j_nf [_,_,_,_] rfl (j_run it 3 rfl ⟨trivial,⟨by omega,by omega⟩,trivial,trivial⟩ ?_)
   refine j_nfn 1 [.lp (pL 244),.blk 0,.c [1,1,1,1]] rfl ?_ --ok
   rw [show ((n : Int) - i) = ((n - i : Nat) : Int) by omega,show ((i : Int) + 1) = ((i + 1 : Nat) : Int) by omega]
   skip
   simp only [val_limbs,binom_next (show i ≤ n by omega)]
   refine j_to [0] (by exact fra rfl) rfl rfl (ih (i + 1,pa1,ca1) (by simp only;omega) (by simp only;omega))
  ·refine j_nf [_,_,_,_,_,_] rfl (j_run it 3 rfl (by simp) ?_)
   refine j_nf [_,_,_,_,_] rfl (j_if rfl rfl (fun h2=>by exfalso;omega) (fun h2=>?_))
   refine j_nf [_,_] rfl (j_run it 2 rfl (by simp) ?_)
   refine j_nf [_] rfl ?_
   have e : i = k:=by omega
   rw [e]
   refine j_giv [0] rfl rfl rfl ⟨_,_,rfl,rfl,rfl⟩
set_option maxHeartbeats 2000000
theorem cmp_top {a b : List Nat} {k : Nat} (ha : ∀ x ∈ a,x < 4294967296) (hR : val a + val (b.take (k + 1)) = val b + val (a.take (k + 1))) (h : a.getD k 0 < b.getD k 0) : val a < val b:=by
 rw [val_take_getD,val_take_getD] at hR
 have h1 : val (a.take k) < 4294967296 ^ k:=by
  have:=val_lt (l:=a.take k) (fun x hx=>ha x (List.mem_of_mem_take hx))
  rw [List.length_take] at this
  exact Nat.lt_of_lt_of_le this (Nat.pow_le_pow_right (by decide) (Nat.min_le_left _ _))
 generalize 4294967296 ^ k = P at *
 have h2 : P * (a.getD k 0 + 1) ≤ P * b.getD k 0:=Nat.mul_le_mul_left _ h
 rw [Nat.mul_succ] at h2
 omega
theorem S_codewrightref01_Cmp {pa pb : Option Addr} {n m ca cb : Nat} {a b : List Nat} :
  Ctr Try.prog 19 [.slice pa n ca,.slice pb m cb] [] [slF U32 pa n ca a,slF U32 pb m cb b] (Rv (.int .i64 (cmpN (val a) (val b))) []):=by
 refine Ctr_of_j' (F:=F_codewrightref01_Cmp) rfl fun C=>?_
 refine j_len 0 rfl fun hn hba _=>?_
 refine j_len 1 rfl fun hm hbb _=>?_
 subst hn;subst hm
 have hba' : a.length * 4 ≤ 140737488355328:=hba
 have hbb' : b.length * 4 ≤ 140737488355328:=hbb
 refine j_range 0 rfl fun hra=>?_
 refine j_range 1 rfl fun hrb=>?_
 have ha : ∀ x ∈ a,x < 4294967296:=fun x hx=>by have:=hra x hx;simp only [InR] at this;omega
 have hb : ∀ x ∈ b,x < 4294967296:=fun x hx=>by have:=hrb x hx;simp only [InR] at this;omega
 obtain ⟨M,hM1,hM2,hM3,hM4⟩ : ∃ M : Nat,a.length ≤ M ∧ b.length ≤ M ∧ M ≤ 35184372088832 ∧ (if (a.length : Int) < b.length then (b.length : Int) else a.length) = M :=
  ⟨max a.length b.length,by omega,by omega,by omega,by split <;> omega⟩
 refine j_nf [_,_] rfl (j_run it 1 rfl (by simp) ?_)
 refine j_nf [_,_,_] rfl (j_run it 1 rfl (by simp) ?_)
 refine j_step rfl (x_len sl48 rfl ?_)
 refine j_run it 1 rfl (by simp) ?_
 refine j_step rfl (x_len sl48 rfl ?_)
 refine j_step rfl (x_max rfl rfl ?_) --ok
 rw [hM4]
 refine j_run it 2 rfl ⟨trivial,⟨by omega,by omega⟩,trivial⟩ ?_
 refine j_nf [_,_,_] rfl ?_
 refine j_loopG (X:=Nat) [0,1] [0,1] (fun k=>[(5,.int .i64 ((k : Int) - 1))]) (fun _=>[]) (fun _=>[]) (fun k=>k ≤ M ∧ val a + val (b.take k) = val b + val (a.take k)) (fun k=>k) M [] rfl rfl rfl ⟨Nat.le_refl _,by rw [List.take_of_length_le (by omega),List.take_of_length_le (by omega)];omega⟩ (by repeat (first | exact Fr.sub_nil _ | refine Fr.sub_cons rfl ?_)) rfl rfl ?_
 intro k ⟨hk,hR⟩ ih
 simp only [List.cons_append,List.nil_append] at ih ⊢
 by_cases hk0 : 0 < k
 ·obtain ⟨j,rfl⟩ : ∃ j,k = j + 1:=⟨k - 1,by omega⟩
  rw [show (((j + 1 : Nat) : Int) - 1) = (j : Int) by omega]
  by_cases h1 : a.getD j 0 < b.getD j 0
  ·rw [cmpN_lt (cmp_top ha hR h1)]
   refine j_nf [_,_,_,_,_,_] rfl (j_run it 2 rfl (by simp) ?_)
   refine j_nf [_,_,_,_,_] rfl (j_if rfl rfl (fun h2=>?_) (fun h2=>by exfalso;omega))
   refine j_nf [_,_,_,_,_,_,_,_] rfl (j_run it 2 rfl (by simp) ?_)
   refine j_step rfl (x_call [0] rfl (S_codewrightref01_limb) rfl ?_)
   rintro _ _ _ ⟨rfl,rfl,rfl⟩
   simp only [List.cons_append,List.nil_append]
   refine j_run it 2 rfl (by simp) ?_
   refine j_step rfl (x_call [1] rfl (S_codewrightref01_limb) rfl ?_)
   rintro _ _ _ ⟨rfl,rfl,rfl⟩
   simp only [List.cons_append,List.nil_append]
   refine j_run it 1 rfl (by simp) ?_
   refine j_nf [_,_,_,_,_,_,_] rfl (j_if rfl rfl (fun h3=>?_) (fun h3=>by exfalso;omega))
   refine j_nf [_,_,_,_,_,_,_,_] rfl (j_run it 1 rfl (by simp) ?_)
   refine j_nf [_,_,_,_,_,_,_] rfl ?_
   refine j_giv [] rfl rfl rfl ⟨rfl,rfl,rfl⟩
  by_cases h2 : b.getD j 0 < a.getD j 0
  ·rw [cmpN_gt (cmp_top hb hR.symm h2)]
   refine j_nf [_,_,_,_,_,_] rfl (j_run it 2 rfl (by simp) ?_)
   refine j_nf [_,_,_,_,_] rfl (j_if rfl rfl (fun h3=>?_) (fun h3=>by exfalso;omega))
   refine j_nf [_,_,_,_,_,_,_,_] rfl (j_run it 2 rfl (by simp) ?_)
   refine j_step rfl (x_call [0] rfl (S_codewrightref01_limb) rfl ?_)
   rintro _ _ _ ⟨rfl,rfl,rfl⟩
   simp only [List.cons_append,List.nil_append]
   refine j_run it 2 rfl (by simp) ?_
   refine j_step rfl (x_call [1] rfl (S_codewrightref01_limb) rfl ?_)
   rintro _ _ _ ⟨rfl,rfl,rfl⟩
   simp only [List.cons_append,List.nil_append]
   refine j_run it 1 rfl (by simp) ?_
   refine j_nf [_,_,_,_,_,_,_] rfl (j_if rfl rfl (fun h4=>by exfalso;omega) (fun h4=>?_))
   refine j_nf [_,_,_,_,_,_,_] rfl (j_run it 2 rfl (by simp) ?_)
   refine j_step rfl (x_call [0] rfl (S_codewrightref01_limb) rfl ?_)
   rintro _ _ _ ⟨rfl,rfl,rfl⟩
   simp only [List.cons_append,List.nil_append]
   refine j_run it 2 rfl (by simp) ?_
   refine j_step rfl (x_call [1] rfl (S_codewrightref01_limb) rfl ?_)
   rintro _ _ _ ⟨rfl,rfl,rfl⟩
   simp only [List.cons_append,List.nil_append]
   refine j_run it 1 rfl (by simp) ?_
   refine j_nf [_,_,_,_,_,_] rfl (j_if rfl rfl (fun h5=>?_) (fun h5=>by exfalso;omega))
   refine j_nf [_,_,_,_,_,_,_] rfl (j_run it 1 rfl (by simp) ?_)
   refine j_nf [_,_,_,_,_,_] rfl ?_
   refine j_giv [] rfl rfl rfl ⟨rfl,rfl,rfl⟩
  ·refine j_nf [_,_,_,_,_,_] rfl (j_run it 2 rfl (by simp) ?_)
   refine j_nf [_,_,_,_,_] rfl (j_if rfl rfl (fun h3=>?_) (fun h3=>by exfalso;omega))
   refine j_nf [_,_,_,_,_,_,_,_] rfl (j_run it 2 rfl (by simp) ?_)
   refine j_step rfl (x_call [0] rfl (S_codewrightref01_limb) rfl ?_)
   rintro _ _ _ ⟨rfl,rfl,rfl⟩
   simp only [List.cons_append,List.nil_append]
   refine j_run it 2 rfl (by simp) ?_
   refine j_step rfl (x_call [1] rfl (S_codewrightref01_limb) rfl ?_)
   rintro _ _ _ ⟨rfl,rfl,rfl⟩
   simp only [List.cons_append,List.nil_append]
   refine j_run it 1 rfl (by simp) ?_
   refine j_nf [_,_,_,_,_,_,_] rfl (j_if rfl rfl (fun h4=>by exfalso;omega) (fun h4=>?_))
   refine j_nf [_,_,_,_,_,_,_] rfl (j_run it 2 rfl (by simp) ?_)
   refine j_step rfl (x_call [0] rfl (S_codewrightref01_limb) rfl ?_)
   rintro _ _ _ ⟨rfl,rfl,rfl⟩
   simp only [List.cons_append,List.nil_append]
   refine j_run it 2 rfl (by simp) ?_
   refine j_step rfl (x_call [1] rfl (S_codewrightref01_limb) rfl ?_)
   rintro _ _ _ ⟨rfl,rfl,rfl⟩
   simp only [List.cons_append,List.nil_append]
   refine j_run it 1 rfl (by simp) ?_
   refine j_nf [_,_,_,_,_,_] rfl (j_if rfl rfl (fun h5=>by exfalso;omega) (fun h5=>?_))
   refine j_nf [_,_,_,_] rfl (j_run it 3 rfl ⟨trivial,⟨by omega,by omega⟩,trivial,trivial⟩ ?_)
   refine j_nfn 1 [.lp [1,0,1,0,0],.blk 0,.c [1,1]] rfl ?_
   refine j_to [0,1] (by exact fra rfl) rfl rfl (ih j (by omega) ⟨by omega,by
    rw [val_take_getD,val_take_getD] at hR
    have e : a.getD j 0 = b.getD j 0:=by omega
    rw [e] at hR
    omega⟩)
 ·have : k = 0:=by omega
  subst this
  have e : val a = val b:=by simp [val] at hR;exact hR
  rw [cmpN_eq e]
  refine j_nf [_,_,_,_,_,_] rfl (j_run it 2 rfl (by simp) ?_)
  refine j_nf [_,_,_,_,_] rfl (j_if rfl rfl (fun h1=>by exfalso;omega) (fun h1=>?_))
  refine j_nf [_,_] rfl (j_run it 1 rfl (by simp) ?_)
  refine j_nf [_] rfl ?_
  refine j_giv [] rfl rfl rfl ⟨rfl,rfl,rfl⟩
set_option maxHeartbeats 8000000
def blkS (n : Nat) : Int → List Int → Bool
 | _,[]=>true
 | last,p::l=>if p ≤ last ∨ (n : Int) ≤ p then false else blkS n p l
theorem blkS_eq (n : Nat) : ∀ (l : List Int) (last : Int) (m : Nat),(blkN n last m l).isSome = blkS n last l
 | [],_,_=>rfl
 | p::l,last,m=>by
  rw [blkN,blkS]
  by_cases h : p ≤ last ∨ (n : Int) ≤ p
  ·rw [if_pos h,if_pos h];rfl
  ·rw [if_neg h,if_neg h];exact blkS_eq n l _ _
theorem S_codewrightref24_Block {pa : Option Addr} {k n ca : Nat} {l : List Int} :
  Ctr Try.prog 10 [.int .i64 n,.slice pa k ca] [] [slF I64 pa k ca l] (Rv (.bool (blkS n (-1) l)) []):=by
 refine Ctr_of_j' (F:=F_codewrightref24_Block) rfl fun C=>?_
 refine j_len 0 rfl fun e1 hb1 _=>?_
 have hb1' : l.length * 8 ≤ 140737488355328:=hb1
 subst e1
 generalize hR : blkS n (-1) l = R
 refine j_nf [_,_] rfl ?_
 refine j_run it 1 rfl (by simp) ?_
 refine j_nf [_,_,_] rfl ?_
 refine j_run it 1 rfl (by simp) ?_
 refine j_nf [_,_,_] rfl ?_
 refine j_loopG (X:=Nat × Int) [0,1] [0] (fun x=>[(5,.int .i64 (x.1 : Int))]) (fun _=>[]) (fun _=>[]) (fun x=>x.1 ≤ l.length ∧ (x.1 = 0 ∧ x.2 = -1 ∨ 0 < x.1 ∧ x.2 = l.getD (x.1 - 1) default ∧ 0 ≤ x.2) ∧ blkS n x.2 (l.drop x.1) = R) (fun x=>l.length - x.1) (0,-1) [] rfl rfl rfl ⟨Nat.zero_le _,.inl ⟨rfl,rfl⟩,hR⟩ (by repeat (first | exact Fr.sub_nil _ | refine Fr.sub_cons rfl ?_)) rfl rfl ?_
 rintro ⟨i,last⟩ ⟨hi,hl,he⟩ ih
 simp only [List.cons_append,List.nil_append] at hi hl he ih ⊢
 by_cases hil : i < l.length
 ·obtain ⟨z,hz,ed⟩ : ∃ z,l[i]? = some z ∧ l.drop i = z::l.drop (i + 1):=⟨l[i],List.getElem?_eq_getElem hil,List.drop_eq_getElem_cons hil⟩
  have hzd : l.getD i default = z:=by rw [List.getD_eq_getElem?_getD,hz];rfl
  rw [ed,blkS] at he
  by_cases h1 : z < 0
  ·rw [if_pos (by omega)] at he
   subst he
   refine j_nf [_,_,_,_,_,_] rfl ?_
   refine j_run it 2 rfl (by simp) ?_
   refine j_step rfl (x_len sl29 rfl ?_)
   refine j_run it 1 rfl (by simp) ?_
   refine j_nf [_,_,_,_,_] rfl ?_
   refine j_if rfl rfl (fun h2=>?_) (fun h2=>by exfalso;omega)
   refine j_nf [_,_,_,_,_,_,_] rfl ?_
   (apply j_drawK it mx 29;(· rfl);(· rfl))
   (apply lxk_run 2;(· rfl);(· simp))
   (apply lxk_pt;(· rfl);(· exact d_x fun _=>x_idx 0 (i) rfl rfl rfl sl29 rfl (by omega) fun z1 hz1 b1 o1=>(dk_ptD default hz1 0 rfl));intro b1 o1)
   (apply lxk_eq;(· rfl);(· exact d_x fun _=>x_ld_int 0 rfl rfl ld3 fun ⟨r1,r2⟩=>dk_eq))
   (apply lxk_eq;(· rfl);(· exact d_x fun _=>x_true it rfl (by trivial) (by omega) dk_eq))
   (apply lxk_run 6;(· rfl);(· simp))
   (apply lxk_run 4;(· rfl);(· simp))
   (apply lxk_run 11;(· rfl);(· simp))
   (apply lxk_run 3;(· rfl);(· simp))
   refine lxk_end rfl ?_
   simp only [List.map_cons,List.map_nil,List.cons_append,List.nil_append]
   refine j_nf [_,_,_,_,_,_] rfl ?_
   refine j_true rfl rfl ?_
   refine j_nf [_,_,_,_,_,_,_] rfl ?_
   refine j_run it 1 rfl (by simp) ?_
   refine j_nf [_,_,_,_,_,_] rfl ?_
   refine j_giv [] rfl rfl rfl ⟨rfl,rfl,rfl⟩
  by_cases h2 : (n : Int) ≤ z
  ·rw [if_pos (by omega)] at he
   subst he
   refine j_nf [_,_,_,_,_,_] rfl ?_
   refine j_run it 2 rfl (by simp) ?_
   refine j_step rfl (x_len sl29 rfl ?_)
   refine j_run it 1 rfl (by simp) ?_
   refine j_nf [_,_,_,_,_] rfl ?_
   refine j_if rfl rfl (fun h3=>?_) (fun h3=>by exfalso;omega)
   refine j_nf [_,_,_,_,_,_,_] rfl ?_
   (apply j_drawK it mx 29;(· rfl);(· rfl))
   (apply lxk_run 2;(· rfl);(· simp))
   (apply lxk_pt;(· rfl);(· exact d_x fun _=>x_idx 0 (i) rfl rfl rfl sl29 rfl (by omega) fun z1 hz1 b1 o1=>(dk_ptD default hz1 0 rfl));intro b1 o1)
   (apply lxk_eq;(· rfl);(· exact d_x fun _=>x_ld_int 0 rfl rfl ld3 fun ⟨r1,r2⟩=>dk_eq))
   (apply lxk_eq;(· rfl);(· exact d_x fun _=>x_false it rfl (by trivial) (by omega) dk_eq))
   (apply lxk_run 3;(· rfl);(· simp))
   (apply lxk_pt;(· rfl);(· exact d_x fun _=>x_idx 1 (i) rfl rfl rfl sl29 rfl (by omega) fun z1 hz1 b2 o2=>(dk_ptD default hz1 0 rfl));intro b2 o2)
   (apply lxk_eq;(· rfl);(· exact d_x fun _=>x_ld_int 0 rfl rfl ld3 fun ⟨r1,r2⟩=>dk_eq))
   (apply lxk_run 1;(· rfl);(· simp))
   (apply lxk_eq;(· rfl);(· exact d_x fun _=>x_true it rfl (by trivial) (by omega) dk_eq))
   (apply lxk_run 3;(· rfl);(· simp))
   (apply lxk_run 11;(· rfl);(· simp))
   (apply lxk_run 3;(· rfl);(· simp))
   refine lxk_end rfl ?_
   simp only [List.map_cons,List.map_nil,List.cons_append,List.nil_append]
   refine j_nf [_,_,_,_,_,_] rfl ?_
   refine j_true rfl rfl ?_
   refine j_nf [_,_,_,_,_,_,_] rfl ?_
   refine j_run it 1 rfl (by simp) ?_
   refine j_nf [_,_,_,_,_,_] rfl ?_
   refine j_giv [] rfl rfl rfl ⟨rfl,rfl,rfl⟩
  rcases hl with ⟨rfl,rfl⟩ | ⟨h3,rfl,h4⟩
  ·rw [if_neg (by omega)] at he
   refine j_nf [_,_,_,_,_,_] rfl ?_
   refine j_run it 2 rfl (by simp) ?_
   refine j_step rfl (x_len sl29 rfl ?_)
   refine j_run it 1 rfl (by simp) ?_
   refine j_nf [_,_,_,_,_] rfl ?_
   refine j_if rfl rfl (fun h3=>?_) (fun h3=>by exfalso;omega)
   refine j_nf [_,_,_,_,_,_,_] rfl ?_
   (apply j_drawK it mx 29;(· rfl);(· rfl))
   (apply lxk_run 2;(· rfl);(· simp))
   (apply lxk_pt;(· rfl);(· exact d_x fun _=>x_idx 0 (0) rfl rfl rfl sl29 rfl (by omega) fun z1 hz1 b1 o1=>(dk_ptD default hz1 0 rfl));intro b1 o1)
   (apply lxk_eq;(· rfl);(· exact d_x fun _=>x_ld_int 0 rfl rfl ld3 fun ⟨r1,r2⟩=>dk_eq))
   (apply lxk_eq;(· rfl);(· exact d_x fun _=>x_false it rfl (by trivial) (by omega) dk_eq))
   (apply lxk_run 3;(· rfl);(· simp))
   (apply lxk_pt;(· rfl);(· exact d_x fun _=>x_idx 1 (0) rfl rfl rfl sl29 rfl (by omega) fun z1 hz1 b2 o2=>(dk_ptD default hz1 0 rfl));intro b2 o2)
   (apply lxk_eq;(· rfl);(· exact d_x fun _=>x_ld_int 0 rfl rfl ld3 fun ⟨r1,r2⟩=>dk_eq))
   (apply lxk_run 1;(· rfl);(· simp))
   (apply lxk_eq;(· rfl);(· exact d_x fun _=>x_false it rfl (by trivial) (by omega) dk_eq))
   (apply lxk_run 3;(· rfl);(· simp))
   (apply lxk_eq;(· rfl);(· exact d_x fun _=>x_false it rfl (by trivial) (by omega) dk_eq))
   (apply lxk_run 10;(· rfl);(· simp))
   (apply lxk_run 3;(· rfl);(· simp))
   refine lxk_end rfl ?_
   simp only [List.map_cons,List.map_nil,List.cons_append,List.nil_append]
   refine j_nf [_,_,_,_,_,_] rfl ?_
   refine j_false rfl rfl ?_
   refine j_nf [_,_,_,_] rfl ?_
   refine j_run it 3 rfl ⟨trivial,⟨by omega,by omega⟩,trivial,trivial⟩ ?_
   refine j_nfn 1 [.lp [1,0,1,0,0],.blk 0,.c [1,1]] rfl ?_
   refine j_to [2] (by exact fra rfl) rfl rfl (ih (1,z) (by show l.length - 1 < l.length - 0;omega) ⟨by show 1 ≤ l.length;omega,.inr ⟨Nat.zero_lt_one,hzd.symm,by show 0 ≤ z;omega⟩,he⟩)
  ·have hz2 : l[i - 1]? = some (l.getD (i - 1) default):=by rw [List.getD_eq_getElem?_getD,List.getElem?_eq_getElem (by omega)];rfl
   by_cases h5 : z ≤ l.getD (i - 1) default
   ·rw [if_pos (by omega)] at he
    subst he
    refine j_nf [_,_,_,_,_,_] rfl ?_
    refine j_run it 2 rfl (by simp) ?_
    refine j_step rfl (x_len sl29 rfl ?_)
    refine j_run it 1 rfl (by simp) ?_
    refine j_nf [_,_,_,_,_] rfl ?_
    refine j_if rfl rfl (fun h6=>?_) (fun h6=>by exfalso;omega)
    refine j_nf [_,_,_,_,_,_,_] rfl ?_
    (apply j_drawK it mx 29;(· rfl);(· rfl))
    (apply lxk_run 2;(· rfl);(· simp))
    (apply lxk_pt;(· rfl);(· exact d_x fun _=>x_idx 0 (i) rfl rfl rfl sl29 rfl (by omega) fun z1 hz1 b1 o1=>(dk_ptD default hz1 0 rfl));intro b1 o1)
    (apply lxk_eq;(· rfl);(· exact d_x fun _=>x_ld_int 0 rfl rfl ld3 fun ⟨r1,r2⟩=>dk_eq))
    (apply lxk_eq;(· rfl);(· exact d_x fun _=>x_false it rfl (by trivial) (by omega) dk_eq))
    (apply lxk_run 3;(· rfl);(· simp))
    (apply lxk_pt;(· rfl);(· exact d_x fun _=>x_idx 1 (i) rfl rfl rfl sl29 rfl (by omega) fun z1 hz1 b2 o2=>(dk_ptD default hz1 0 rfl));intro b2 o2)
    (apply lxk_eq;(· rfl);(· exact d_x fun _=>x_ld_int 0 rfl rfl ld3 fun ⟨r1,r2⟩=>dk_eq))
    (apply lxk_run 1;(· rfl);(· simp))
    (apply lxk_eq;(· rfl);(· exact d_x fun _=>x_false it rfl (by trivial) (by omega) dk_eq))
    (apply lxk_run 3;(· rfl);(· simp))
    (apply lxk_eq;(· rfl);(· exact d_x fun _=>x_true it rfl (by trivial) (by omega) dk_eq))
    (apply lxk_run 3;(· rfl);(· simp))
    (apply lxk_pt;(· rfl);(· exact d_x fun _=>x_idx 2 (i) rfl rfl rfl sl29 rfl (by omega) fun z1 hz1 b3 o3=>(dk_ptD default hz1 0 rfl));intro b3 o3)
    (apply lxk_eq;(· rfl);(· exact d_x fun _=>x_ld_int 0 rfl rfl ld3 fun ⟨r1,r2⟩=>dk_eq))
    (apply lxk_run 3;(· rfl);(· exact ⟨⟨by omega,by omega⟩,trivial,trivial,trivial⟩))
    (apply lxk_pt;(· rfl);(· exact d_x fun _=>x_idx 2 ((i) - 1) rfl rfl rfl sl29 (by omega) (by omega) fun z1 hz1 b4 o4=>(dk_ptD default hz1 0 rfl));intro b4 o4)
    (apply lxk_eq;(· rfl);(· exact d_x fun _=>x_ld_int 0 rfl rfl ld3 fun ⟨r1,r2⟩=>dk_eq))
    (apply lxk_eq;(· rfl);(· exact d_x fun _=>x_true it rfl (by trivial) (by omega) dk_eq))
    (apply lxk_run 2;(· rfl);(· simp))
    refine lxk_end rfl ?_
    simp only [List.map_cons,List.map_nil,List.cons_append,List.nil_append]
    refine j_nf [_,_,_,_,_,_] rfl ?_
    refine j_true rfl rfl ?_
    refine j_nf [_,_,_,_,_,_,_] rfl ?_
    refine j_run it 1 rfl (by simp) ?_
    refine j_nf [_,_,_,_,_,_] rfl ?_
    refine j_giv [] rfl rfl rfl ⟨rfl,rfl,rfl⟩
   ·rw [if_neg (by omega)] at he
    refine j_nf [_,_,_,_,_,_] rfl ?_
    refine j_run it 2 rfl (by simp) ?_
    refine j_step rfl (x_len sl29 rfl ?_)
    refine j_run it 1 rfl (by simp) ?_
    refine j_nf [_,_,_,_,_] rfl ?_
    refine j_if rfl rfl (fun h6=>?_) (fun h6=>by exfalso;omega)
    refine j_nf [_,_,_,_,_,_,_] rfl ?_
    (apply j_drawK it mx 29;(· rfl);(· rfl))
    (apply lxk_run 2;(· rfl);(· simp))
    (apply lxk_pt;(· rfl);(· exact d_x fun _=>x_idx 0 (i) rfl rfl rfl sl29 rfl (by omega) fun z1 hz1 b1 o1=>(dk_ptD default hz1 0 rfl));intro b1 o1)
    (apply lxk_eq;(· rfl);(· exact d_x fun _=>x_ld_int 0 rfl rfl ld3 fun ⟨r1,r2⟩=>dk_eq))
    (apply lxk_eq;(· rfl);(· exact d_x fun _=>x_false it rfl (by trivial) (by omega) dk_eq))
    (apply lxk_run 3;(· rfl);(· simp))
    (apply lxk_pt;(· rfl);(· exact d_x fun _=>x_idx 1 (i) rfl rfl rfl sl29 rfl (by omega) fun z1 hz1 b2 o2=>(dk_ptD default hz1 0 rfl));intro b2 o2)
    (apply lxk_eq;(· rfl);(· exact d_x fun _=>x_ld_int 0 rfl rfl ld3 fun ⟨r1,r2⟩=>dk_eq))
    (apply lxk_run 1;(· rfl);(· simp))
    (apply lxk_eq;(· rfl);(· exact d_x fun _=>x_false it rfl (by trivial) (by omega) dk_eq))
    (apply lxk_run 3;(· rfl);(· simp))
    (apply lxk_eq;(· rfl);(· exact d_x fun _=>x_true it rfl (by trivial) (by omega) dk_eq))
    (apply lxk_run 3;(· rfl);(· simp))
    (apply lxk_pt;(· rfl);(· exact d_x fun _=>x_idx 2 (i) rfl rfl rfl sl29 rfl (by omega) fun z1 hz1 b3 o3=>(dk_ptD default hz1 0 rfl));intro b3 o3)
    (apply lxk_eq;(· rfl);(· exact d_x fun _=>x_ld_int 0 rfl rfl ld3 fun ⟨r1,r2⟩=>dk_eq))
    (apply lxk_run 3;(· rfl);(· exact ⟨⟨by omega,by omega⟩,trivial,trivial,trivial⟩))
    (apply lxk_pt;(· rfl);(· exact d_x fun _=>x_idx 2 ((i) - 1) rfl rfl rfl sl29 (by omega) (by omega) fun z1 hz1 b4 o4=>(dk_ptD default hz1 0 rfl));intro b4 o4)
    (apply lxk_eq;(· rfl);(· exact d_x fun _=>x_ld_int 0 rfl rfl ld3 fun ⟨r1,r2⟩=>dk_eq))
    (apply lxk_eq;(· rfl);(· exact d_x fun _=>x_false it rfl (by trivial) (by omega) dk_eq))
    (apply lxk_run 2;(· rfl);(· simp))
    refine lxk_end rfl ?_
    simp only [List.map_cons,List.map_nil,List.cons_append,List.nil_append]
    refine j_nf [_,_,_,_,_,_] rfl ?_
    refine j_false rfl rfl ?_
    refine j_nf [_,_,_,_] rfl ?_
    refine j_run it 3 rfl ⟨trivial,⟨by omega,by omega⟩,trivial,trivial⟩ ?_
    refine j_nfn 1 [.lp [1,0,1,0,0],.blk 0,.c [1,1]] rfl ?_
    refine j_to [4] (by exact fra rfl) rfl rfl (ih (i + 1,z) (by dsimp only;omega) ⟨by dsimp only;omega,.inr ⟨by dsimp only;omega,hzd.symm,by dsimp only;omega⟩,he⟩)
 ·obtain rfl : i = l.length:=by omega
  rw [List.drop_length,blkS] at he
  subst he
  refine j_nf [_,_,_,_,_,_] rfl ?_
  refine j_run it 2 rfl (by simp) ?_
  refine j_step rfl (x_len sl29 rfl ?_)
  refine j_run it 1 rfl (by simp) ?_
  refine j_nf [_,_,_,_,_] rfl ?_
  refine j_if rfl rfl (fun h1=>by exfalso;omega) (fun h1=>?_)
  refine j_nf [_,_] rfl ?_
  refine j_run it 1 rfl (by simp) ?_
  refine j_nf [_] rfl ?_
  refine j_giv [] rfl rfl rfl ⟨rfl,rfl,rfl⟩
def insB (s t : List Int) : Bool:=s.all fun x=>t.any fun y=>y == x
theorem S_codewrightref24_Inside {pa pb : Option Addr} {n m ca cb : Nat} {s t : List Int} :
  Ctr Try.prog 28 [.slice pa n ca,.slice pb m cb] [] [slF I64 pa n ca s,slF I64 pb m cb t] (Rv (.bool (insB s t)) []):=by
 refine Ctr_of_j' (F:=F_codewrightref24_Inside) rfl fun C=>?_
 refine j_len 0 rfl fun e1 hb1 _=>?_
 have hb1' : s.length * 8 ≤ 140737488355328:=hb1
 subst e1
 refine j_len 1 rfl fun e1 hb2 _=>?_
 have hb2' : t.length * 8 ≤ 140737488355328:=hb2
 subst e1
 generalize hR : insB s t = R
 refine j_nf [_,_] rfl ?_
 refine j_run it 1 rfl (by simp) ?_
 refine j_nf [_,_,_] rfl ?_
 refine j_run it 1 rfl (by simp) ?_
 refine j_nf [_,_,_] rfl ?_
 refine j_loopG (X:=Nat) [0,1] [0,1] (fun i=>[(5,.int .i64 (i : Int))]) (fun _=>[]) (fun _=>[]) (fun i=>i ≤ s.length ∧ insB (s.drop i) t = R) (fun i=>s.length - i) 0 [] rfl rfl rfl ⟨Nat.zero_le _,hR⟩ (by repeat (first | exact Fr.sub_nil _ | refine Fr.sub_cons rfl ?_)) rfl rfl ?_
 rintro i ⟨hi,he⟩ ih
 simp only [List.cons_append,List.nil_append] at hi he ih ⊢
 by_cases hil : i < s.length
 ·obtain ⟨z,hz,ed⟩ : ∃ z,s[i]? = some z ∧ s.drop i = z::s.drop (i + 1):=⟨s[i],List.getElem?_eq_getElem hil,List.drop_eq_getElem_cons hil⟩
  have hzd : s.getD i default = z:=by rw [List.getD_eq_getElem?_getD,hz];rfl
  rw [ed,insB,List.all_cons] at he
  generalize hA : t.any (fun y=>y == z) = A at he
  refine j_nf [_,_,_,_,_,_] rfl ?_
  refine j_run it 2 rfl (by simp) ?_
  refine j_step rfl (x_len sl29 rfl ?_)
  refine j_run it 1 rfl (by simp) ?_
  refine j_nf [_,_,_,_,_] rfl ?_
  refine j_if rfl rfl (fun h1=>?_) (fun h1=>by exfalso;omega)
  refine j_nf [_,_,_,_,_,_,_] rfl ?_
  refine j_run it 1 rfl (by simp) ?_
  refine j_nf [_,_,_,_,_,_,_,_] rfl ?_
  refine j_run it 1 rfl (by simp) ?_
  refine j_nf [_,_,_,_,_,_,_,_] rfl ?_
  refine j_loopG (X:=Nat × Bool) [0,1,5,8,9,10,11] [0,1] (fun x=>[(7,.int .i64 (x.1 : Int)),(6,.bool x.2)]) (fun _=>[]) (fun _=>[]) (fun x=>x.1 ≤ t.length ∧ (x.2 || (t.drop x.1).any fun y=>y == z) = A) (fun x=>t.length - x.1) (0,false) [] rfl rfl rfl ⟨Nat.zero_le _,by rw [Bool.false_or];exact hA⟩ (by repeat (first | exact Fr.sub_nil _ | refine Fr.sub_cons rfl ?_)) rfl rfl ?_
  rintro ⟨j,b⟩ ⟨hj,hb⟩ ih2
  simp only [List.cons_append,List.nil_append] at hj hb ih2 ⊢
  by_cases hjl : j < t.length
  ·obtain ⟨y,hy,ey⟩ : ∃ y,t[j]? = some y ∧ t.drop j = y::t.drop (j + 1):=⟨t[j],List.getElem?_eq_getElem hjl,List.drop_eq_getElem_cons hjl⟩
   have hyd : t.getD j default = y:=by rw [List.getD_eq_getElem?_getD,hy];rfl
   rw [ey,List.any_cons] at hb
   cases b with
   | true =>
    rw [Bool.true_or] at hb
    refine j_nf [_,_,_,_,_,_,_,_,_,_,_] rfl ?_
    refine j_run it 2 rfl (by simp) ?_
    refine j_step rfl (x_len sl29 rfl ?_)
    refine j_run it 1 rfl (by simp) ?_
    refine j_nf [_,_,_,_,_,_,_,_,_,_] rfl ?_
    refine j_if rfl rfl (fun h2=>?_) (fun h2=>by exfalso;omega)
    refine j_nf [_,_,_,_,_,_,_,_,_,_,_] rfl ?_
    (apply j_drawK it mx 12;(· rfl);(· rfl))
    (apply lxk_run 10;(· rfl);(· simp))
    (apply lxk_run 2;(· rfl);(· simp))
    refine lxk_end rfl ?_
    simp only [List.map_cons,List.map_nil,List.cons_append,List.nil_append]
    refine j_run it 1 rfl (by simp) ?_
    refine j_nf [_,_,_,_,_,_,_,_,_] rfl ?_
    refine j_run it 3 rfl ⟨trivial,⟨by omega,by omega⟩,trivial,trivial⟩ ?_
    refine j_nfn 1 [.lp (pL 13460),.blk 2,.c (pL 1683),.blk 1,.c (pL 211),.lp [1,0,1,0,0],.blk 0,.c [1,1]] rfl ?_
    refine j_to [0,1] (by exact fra rfl) rfl rfl (ih2 (j + 1,true) (by dsimp only;omega) ⟨by dsimp only;omega,by rw [Bool.true_or];exact hb⟩)
   | false =>
    rw [Bool.false_or] at hb
    by_cases h : y = z
    ·refine j_nf [_,_,_,_,_,_,_,_,_,_,_] rfl ?_
     refine j_run it 2 rfl (by simp) ?_
     refine j_step rfl (x_len sl29 rfl ?_)
     refine j_run it 1 rfl (by simp) ?_
     refine j_nf [_,_,_,_,_,_,_,_,_,_] rfl ?_
     refine j_if rfl rfl (fun h2=>?_) (fun h2=>by exfalso;omega)
     refine j_nf [_,_,_,_,_,_,_,_,_,_,_] rfl ?_
     (apply j_drawK it mx 12;(· rfl);(· rfl))
     (apply lxk_run 4;(· rfl);(· simp))
     (apply lxk_pt;(· rfl);(· exact d_x fun _=>x_idx 1 (j) rfl rfl rfl sl29 rfl (by omega) fun z1 hz1 b1 o1=>(dk_ptD default hz1 0 rfl));intro b1 o1)
     (apply lxk_eq;(· rfl);(· exact d_x fun _=>x_ld_int 0 rfl rfl ld3 fun ⟨r1,r2⟩=>dk_eq))
     (apply lxk_run 2;(· rfl);(· simp))
     (apply lxk_pt;(· rfl);(· exact d_x fun _=>x_idx 0 (i) rfl rfl rfl sl29 rfl (by omega) fun z1 hz1 b2 o2=>(dk_ptD default hz1 0 rfl));intro b2 o2)
     (apply lxk_eq;(· rfl);(· exact d_x fun _=>x_ld_int 0 rfl rfl ld3 fun ⟨r1,r2⟩=>dk_eq))
     (apply lxk_eq;(· rfl);(· exact d_x fun _=>x_true it rfl (by trivial) (by omega) dk_eq))
     (apply lxk_run 1;(· rfl);(· simp))
     refine lxk_end rfl ?_
     simp only [List.map_cons,List.map_nil,List.cons_append,List.nil_append]
     refine j_run it 1 rfl (by simp) ?_
     refine j_nf [_,_,_,_,_,_,_,_,_] rfl ?_
     refine j_run it 3 rfl ⟨trivial,⟨by omega,by omega⟩,trivial,trivial⟩ ?_
     refine j_nfn 1 [.lp (pL 13460),.blk 2,.c (pL 1683),.blk 1,.c (pL 211),.lp [1,0,1,0,0],.blk 0,.c [1,1]] rfl ?_
     refine j_to [2,3] (by exact fra rfl) rfl rfl (ih2 (j + 1,true) (by dsimp only;omega) ⟨by dsimp only;omega,by rw [← hb,h];simp⟩)
    ·refine j_nf [_,_,_,_,_,_,_,_,_,_,_] rfl ?_
     refine j_run it 2 rfl (by simp) ?_
     refine j_step rfl (x_len sl29 rfl ?_)
     refine j_run it 1 rfl (by simp) ?_
     refine j_nf [_,_,_,_,_,_,_,_,_,_] rfl ?_
     refine j_if rfl rfl (fun h2=>?_) (fun h2=>by exfalso;omega)
     refine j_nf [_,_,_,_,_,_,_,_,_,_,_] rfl ?_
     (apply j_drawK it mx 12;(· rfl);(· rfl))
     (apply lxk_run 4;(· rfl);(· simp))
     (apply lxk_pt;(· rfl);(· exact d_x fun _=>x_idx 1 (j) rfl rfl rfl sl29 rfl (by omega) fun z1 hz1 b1 o1=>(dk_ptD default hz1 0 rfl));intro b1 o1)
     (apply lxk_eq;(· rfl);(· exact d_x fun _=>x_ld_int 0 rfl rfl ld3 fun ⟨r1,r2⟩=>dk_eq))
     (apply lxk_run 2;(· rfl);(· simp))
     (apply lxk_pt;(· rfl);(· exact d_x fun _=>x_idx 0 (i) rfl rfl rfl sl29 rfl (by omega) fun z1 hz1 b2 o2=>(dk_ptD default hz1 0 rfl));intro b2 o2)
     (apply lxk_eq;(· rfl);(· exact d_x fun _=>x_ld_int 0 rfl rfl ld3 fun ⟨r1,r2⟩=>dk_eq))
     (apply lxk_eq;(· rfl);(· exact d_x fun _=>x_false it rfl (by trivial) (by omega) dk_eq))
     (apply lxk_run 1;(· rfl);(· simp))
     refine lxk_end rfl ?_
     simp only [List.map_cons,List.map_nil,List.cons_append,List.nil_append]
     refine j_run it 1 rfl (by simp) ?_
     refine j_nf [_,_,_,_,_,_,_,_,_] rfl ?_
     refine j_run it 3 rfl ⟨trivial,⟨by omega,by omega⟩,trivial,trivial⟩ ?_
     refine j_nfn 1 [.lp (pL 13460),.blk 2,.c (pL 1683),.blk 1,.c (pL 211),.lp [1,0,1,0,0],.blk 0,.c [1,1]] rfl ?_
     refine j_to [2,3] (by exact fra rfl) rfl rfl (ih2 (j + 1,false) (by dsimp only;omega) ⟨by dsimp only;omega,by rw [← hb];simp [h]⟩)
  ·obtain rfl : j = t.length:=by omega
   rw [List.drop_length,List.any_nil,Bool.or_false] at hb
   subst hb
   cases b with
   | true =>
    refine j_nf [_,_,_,_,_,_,_,_,_,_,_] rfl ?_
    refine j_run it 2 rfl (by simp) ?_
    refine j_step rfl (x_len sl29 rfl ?_)
    refine j_run it 1 rfl (by simp) ?_
    refine j_nf [_,_,_,_,_,_,_,_,_,_] rfl ?_
    refine j_if rfl rfl (fun h2=>by exfalso;omega) (fun h2=>?_)
    refine j_nf [_,_,_,_,_,_,_] rfl ?_
    refine j_run it 2 rfl (by simp) ?_
    refine j_nf [_,_,_,_,_,_] rfl ?_
    refine j_false rfl rfl ?_
    refine j_nf [_,_,_,_] rfl ?_
    refine j_run it 3 rfl ⟨trivial,⟨by omega,by omega⟩,trivial,trivial⟩ ?_
    refine j_nfn 1 [.lp [1,0,1,0,0],.blk 0,.c [1,1]] rfl ?_
    refine j_to [0,1] (by exact fra rfl) rfl rfl (ih (i + 1) (by omega) ⟨by omega,by rw [Bool.true_and] at he;exact he⟩)
   | false =>
    rw [Bool.false_and] at he
    subst he
    refine j_nf [_,_,_,_,_,_,_,_,_,_,_] rfl ?_
    refine j_run it 2 rfl (by simp) ?_
    refine j_step rfl (x_len sl29 rfl ?_)
    refine j_run it 1 rfl (by simp) ?_
    refine j_nf [_,_,_,_,_,_,_,_,_,_] rfl ?_
    refine j_if rfl rfl (fun h2=>by exfalso;omega) (fun h2=>?_)
    refine j_nf [_,_,_,_,_,_,_] rfl ?_
    refine j_run it 2 rfl (by simp) ?_
    refine j_nf [_,_,_,_,_,_] rfl ?_
    refine j_true rfl rfl ?_
    refine j_nf [_,_,_,_,_,_,_] rfl ?_
    refine j_run it 1 rfl (by simp) ?_
    refine j_nf [_,_,_,_,_,_] rfl ?_
    refine j_giv [] rfl rfl rfl ⟨rfl,rfl,rfl⟩
 ·obtain rfl : i = s.length:=by omega
  rw [List.drop_length] at he
  subst he
  refine j_nf [_,_,_,_,_,_] rfl ?_
  refine j_run it 2 rfl (by simp) ?_
  refine j_step rfl (x_len sl29 rfl ?_)
  refine j_run it 1 rfl (by simp) ?_
  refine j_nf [_,_,_,_,_] rfl ?_
  refine j_if rfl rfl (fun h1=>by exfalso;omega) (fun h1=>?_)
  refine j_nf [_,_] rfl ?_
  refine j_run it 1 rfl (by simp) ?_
  refine j_nf [_] rfl ?_
  refine j_giv [] rfl rfl rfl ⟨rfl,rfl,rfl⟩
theorem S_codewrightref24_Many {n k : Nat} (hn : n ≤ 64) : Ctr Try.prog 7 [.int .i64 n,.int .i64 k] [] [] (Rv (.bool (decide (65536 < binom n k))) []):=by
 refine Ctr_of_j' (F:=F_codewrightref24_Many) rfl fun C=>?_
 by_cases h : 65536 < binom n k
 ·have hcm : cmpN (val (limbs (binom n k))) (val (limbs 65536)) = 1:=by rw [val_limbs,val_limbs];exact cmpN_gt h
  rw [decide_eq_true h]
  refine j_nf [_,_] rfl (j_run it 1 rfl (by simp) ?_)
  refine j_nf [_,_] rfl (j_run it 2 rfl (by simp) ?_)
  refine j_step rfl (x_call [] rfl (S_codewrightref01_Choose (by omega)) rfl ?_)
  rintro _ _ _ ⟨pa1,ca1,rfl,rfl,rfl⟩
  simp only [List.cons_append,List.nil_append]
  refine j_step rfl (x_call [] rfl (S_codewrightref01_Of (by simp)) rfl ?_)
  rintro _ _ _ ⟨pa2,ca2,rfl,rfl,rfl⟩
  simp only [List.cons_append,List.nil_append]
  refine j_step rfl (x_call [1,0] rfl (S_codewrightref01_Cmp) rfl ?_)
  rintro _ _ _ ⟨rfl,rfl,rfl⟩
  simp only [List.cons_append,List.nil_append]
  refine j_run it 2 rfl (by simp) ?_
  refine j_nf [_] rfl ?_
  rw [decide_eq_true (show 0 < cmpN (val (limbs (binom n k))) (val (limbs 65536)) by omega)]
  refine j_giv [] rfl rfl rfl ⟨rfl,rfl,rfl⟩
 ·have hcm : ¬ 0 < cmpN (val (limbs (binom n k))) (val (limbs 65536)):=by
   rw [val_limbs,val_limbs,cmpN,if_neg h];split <;> omega
  rw [decide_eq_false h]
  refine j_nf [_,_] rfl (j_run it 1 rfl (by simp) ?_)
  refine j_nf [_,_] rfl (j_run it 2 rfl (by simp) ?_)
  refine j_step rfl (x_call [] rfl (S_codewrightref01_Choose (by omega)) rfl ?_)
  rintro _ _ _ ⟨pa1,ca1,rfl,rfl,rfl⟩
  simp only [List.cons_append,List.nil_append]
  refine j_step rfl (x_call [] rfl (S_codewrightref01_Of (by simp)) rfl ?_)
  rintro _ _ _ ⟨pa2,ca2,rfl,rfl,rfl⟩
  simp only [List.cons_append,List.nil_append]
  refine j_step rfl (x_call [1,0] rfl (S_codewrightref01_Cmp) rfl ?_)
  rintro _ _ _ ⟨rfl,rfl,rfl⟩
  simp only [List.cons_append,List.nil_append]
  refine j_run it 2 rfl (by simp) ?_
  refine j_nf [_] rfl ?_
  rw [decide_eq_false hcm]
  refine j_giv [] rfl rfl rfl ⟨rfl,rfl,rfl⟩
theorem sum2 (n : Nat) : ∀ (k first : Nat),first + k ≤ n → ((List.range' first k).map fun i=>2 ^ (n - (i + 1))).sum ≤ 2 ^ (n - first)
 | 0,first,_=>by simp
 | k + 1,first,h=>by
  rw [List.range'_succ,List.map_cons,List.sum_cons]
  have h1:=sum2 n k (first + 1) (by omega)
  have h2 : 2 ^ (n - first) = 2 ^ (n - (first + 1)) + 2 ^ (n - (first + 1)):=by
   rw [show n - first = (n - (first + 1)) + 1 by omega,Nat.pow_succ];omega
  omega
theorem sum_le_sum {α : Type} (f g : α → Nat) : ∀ {l : List α},(∀ x ∈ l,f x ≤ g x) → (l.map f).sum ≤ (l.map g).sum
 | [],_=>Nat.le_refl _
 | x::l,h=>by
  rw [List.map_cons,List.map_cons,List.sum_cons,List.sum_cons]
  have h1:=h x (.head _)
  have h2:=sum_le_sum f g (l:=l) (fun y hy=>h y (.tail _ hy))
  omega
theorem setsL_len (n : Nat) : ∀ t first,(setsL n t first).length ≤ 2 ^ (n - first)
 | 0,first=>Nat.one_le_two_pow
 | t + 1,first=>by
  rw [setsL,List.length_flatMap]
  rcases Nat.lt_or_ge n first with h | h
  ·rw [show n - t - first = 0 by omega];simp
  ·refine Nat.le_trans ?_ (sum2 n (n - t - first) first (by omega))
   refine sum_le_sum _ _ fun i _=>?_
   rw [List.length_map]
   exact setsL_len n t (i + 1)
theorem setsL_mem {n : Nat} : ∀ {t first : Nat} {z : List Int},z ∈ setsL n t first → z.length = t
 | 0,first,z,h=>by
  rw [setsL,List.mem_singleton] at h
  rw [h];rfl
 | t + 1,first,z,h=>by
  rw [setsL,List.mem_flatMap] at h
  obtain ⟨i,_,h⟩:=h
  obtain ⟨r,hr,rfl⟩:=List.mem_map.1 h
  rw [List.length_cons,setsL_mem hr]
theorem S_codewrightref24_sets {n : Nat} (hn : n ≤ 14) : ∀ {t first : Nat},t ≤ 64 → first ≤ 64 →
  Ctr Try.prog 27 [.int .i64 first,.int .i64 n,.int .i64 t] [] [] (Sv (encSl I64) (setsL n t first)):=by
 intro t
 induction t with
 | zero =>
  intro first _ hf
  refine Ctr_of_j' (F:=F_codewrightref24_sets) rfl fun C=>?_
  rw [setsL]
  refine j_nf [_,_] rfl (j_run it 1 rfl (by simp) ?_)
  refine j_nf [_,_,_] rfl (j_run it 2 rfl (by simp) ?_)
  refine j_nf [_,_] rfl (j_if rfl rfl (fun h1=>?_) (fun h1=>by exfalso;omega))
  refine j_nf [_,_,_] rfl (j_step rfl (x_lit0 sl29 fun b1=>?_))
  refine j_step rfl (x_lit sl22 zo22e rfl rfl rfl rfl (by decide) (by decide) rfl fun b2=>?_)
  refine j_run it 1 rfl (by simp) ?_
  refine j_nf [_,_] rfl ?_
  refine j_pub_madei (kd:=.i64) (n:=0) 8 [] 1 rfl rfl (fun x hx=>by cases hx) (by decide) (by decide) ?_
  refine j_rowlit (E:=encSl I64) (n:=1) [[.slice (some ⟨b1,0,none⟩) 0 0]] [[]] 0 (fun w A hG=>allrd_cons (rd_of_slF (hG _ (fact_mem (n:=0) rfl))) allrd_nil) rfl rfl rfl rfl (by decide) ?_
  refine j_pubR 0 0 rfl rfl (by show 1 * 24 ≤ 140737488355328;decide) ?_
  refine j_giv [0] rfl rfl rfl ⟨_,_,rfl,rfl,rfl⟩
 | succ t ihr =>
  intro first ht hf
  refine Ctr_of_j' (F:=F_codewrightref24_sets) rfl fun C=>?_
  have hlen:=setsL_len n (t + 1) first
  have h14 : 2 ^ (n - first) ≤ 2 ^ 14:=Nat.pow_le_pow_right (by decide) (by omega)
  rw [show setsL n (t + 1) first = (List.range' first (n - t - first)).flatMap fun i=>(setsL n t (i + 1)).map fun r=>(i : Int)::r from rfl] at hlen ⊢
  generalize hR : ((List.range' first (n - t - first)).flatMap fun i=>(setsL n t (i + 1)).map fun r=>(i : Int)::r) = R at hlen ⊢
  have hRl : R.length ≤ 16384:=Nat.le_trans hlen h14
  clear hlen h14
  refine j_nf [_,_] rfl (j_run it 1 rfl (by simp) ?_)
  refine j_nf [_,_,_] rfl (j_run it 2 rfl (by simp) ?_)
  refine j_nf [_,_] rfl (j_if rfl rfl (fun h1=>by exfalso;omega) (fun h1=>?_))
  refine j_nf [_,_] rfl (j_run it 1 rfl (by simp) ?_)
  refine j_nf [_,_,_] rfl (j_run it 2 rfl (by simp) ?_)
  refine j_nf [_,_,_] rfl ?_
  refine j_row0 (encSl I64) 29 ?_
  refine j_loopG (X:=Nat × Row × List (List Int)) [1,2,6] [0] (fun x=>[(8,.int .i64 (x.1 : Int)),(7,.slice (ad x.2.1.bo) x.2.2.length x.2.1.cap)]) (fun x=>[(x.2.1.bo,29,x.2.1.cs)]) (fun x=>[rowF (encSl I64) x.2.1 x.2.2.length x.2.2])
   (fun x=>x.1 ≤ 64 ∧ x.2.2++((List.range' x.1 (n - t - x.1)).flatMap fun i=>(setsL n t (i + 1)).map fun r=>(i : Int)::r) = R) (fun x=>n - x.1) (first,⟨none,0,[]⟩,[]) [0] rfl rfl rfl ⟨hf,hR⟩ (by repeat (first | exact Fr.sub_nil _ | refine Fr.sub_cons rfl ?_)) rfl rfl ?_
  rintro ⟨i,r,out⟩ ⟨hi,he⟩ ih
  simp only [List.cons_append,List.nil_append] at hi he ih ⊢
  have hol : out.length ≤ 16384:=by
   have:=congrArg List.length he
   rw [List.length_append] at this;omega
  by_cases hil : i + (t + 1) ≤ n
  ·rw [show n - t - i = (n - t - (i + 1)) + 1 by omega,List.range'_succ,List.flatMap_cons,← List.append_assoc] at he
   have c_codewrightref24_sets:=ihr (first:=i + 1) (by omega) (by omega)
   generalize hS : setsL n t (i + 1) = S at *
   refine j_nf [_,_,_,_,_,_] rfl (j_run it 5 rfl ⟨trivial,trivial,⟨by omega,by omega⟩,trivial,trivial,trivial⟩ ?_)
   refine j_nf [_,_,_,_,_] rfl (j_if rfl rfl (fun h2=>?_) (fun h2=>by exfalso;omega))
   refine j_nf [_,_,_,_,_,_,_] rfl (j_run it 5 rfl ⟨⟨by omega,by omega⟩,trivial,trivial,⟨by omega,by omega⟩,trivial,trivial⟩ ?_)
   rw [show ((t + 1 : Nat) : Int) - 1 = (t : Int) by omega,show (i : Int) + 1 = ((i + 1 : Nat) : Int) by omega]
   have hSl : out.length + S.length ≤ 16384:=by
    have:=congrArg List.length he
    rw [List.length_append,List.length_append,List.length_map] at this;omega
   refine j_step rfl (x_call [] rfl (c_codewrightref24_sets) rfl ?_)
   rintro _ _ _ ⟨pa1,ca1,rfl,rfl,rfl⟩
   simp only [List.cons_append,List.nil_append]
   refine j_run it 1 rfl (by simp) ?_
   refine j_nf [_,_,_,_,_,_,_] rfl (j_run it 1 rfl (by simp) ?_)
   refine j_nf [_,_,_,_,_,_,_] rfl ?_
   refine j_loopG (X:=Nat × Row × List (List Int)) [1,2,6,8,9,16,17,18,19,20,23,24,25,26,27,28] [0,1,2] (fun x=>[(10,.int .i64 (x.1 : Int)),(7,.slice (ad x.2.1.bo) x.2.2.length x.2.1.cap)]) (fun x=>[(x.2.1.bo,29,x.2.1.cs)]) (fun x=>[rowF (encSl I64) x.2.1 x.2.2.length x.2.2])
    (fun x=>x.1 ≤ S.length ∧ x.2.2 = out++(S.take x.1).map fun r=>(i : Int)::r) (fun x=>S.length - x.1) (0,r,out) [1] rfl rfl rfl ⟨Nat.zero_le _,by simp⟩ (by repeat (first | exact Fr.sub_nil _ | refine Fr.sub_cons rfl ?_)) rfl rfl ?_
   rintro ⟨j,r2,o2⟩ ⟨hj,ho⟩ ih2
   simp only [List.cons_append,List.nil_append] at hj ho ih2 ⊢
   by_cases hjl : j < S.length
   ·obtain ⟨z,at_z,ez⟩ : ∃ z,S[j]? = some z ∧ S.take (j + 1) = S.take j++[z]:=⟨S[j],List.getElem?_eq_getElem hjl,List.take_succ_eq_append_getElem hjl⟩
    obtain ⟨x,hx⟩ : ∃ x : Int,x = (i : Int):=⟨_,rfl⟩
    have ih2':=fun r3=>ih2 (j + 1,r3,o2++[[x]++z]) (by dsimp only;omega) ⟨by dsimp only;omega,by dsimp only;rw [ez,ho,hx,List.map_append,← List.append_assoc];rfl⟩
    dsimp only at ih2'
    simp only [List.length_append,List.length_singleton] at ih2'
    have hol2 : o2.length ≤ 16384:=by rw [ho,List.length_append,List.length_map,List.length_take];omega
    have hzl : z.length = t:=setsL_mem (hS.symm ▸ List.mem_of_getElem? at_z)
    refine j_nf [_,_,_,_,_,_,_,_,_,_] rfl (j_run it 2 rfl (by simp) ?_)
    refine j_step rfl (x_len sl22 rfl ?_)
    refine j_run it 1 rfl (by simp) ?_
    refine j_nf [_,_,_,_,_,_,_,_,_] rfl (j_if rfl rfl (fun h3=>?_) (fun h3=>by exfalso;omega))
    refine j_nf [_,_,_,_,_,_,_,_,_,_] rfl (j_run it 2 rfl (by simp) ?_)
    refine j_step rfl (x_lit sl29 zo29e rfl rfl rfl rfl (by decide) (by decide) rfl fun b1=>?_)
    refine j_run it 2 rfl (by simp) ?_
    refine j_step rfl (x_idx 1 (j) rfl rfl rfl sl22 rfl (by omega) fun z1 hz1 b2 o1=>?_)
    obtain rfl : _ = z1:=Option.some.inj (at_z.symm.trans hz1)
    refine j_step rfl (x_ld_sl 0 rfl rfl ld29 fun pa2 ca2=>?_)
    refine j_rowlit (E:=I64) (n:=1) [[.int .i64 i]] [x] 0 (fun w A hG=>allrd_cons (by rw [hx];exact rd_int (by simp only [InR];omega)) allrd_nil) rfl rfl rfl rfl (by decide) ?_
    refine j_step rfl (x_appS 0 0 1 rfl rfl rfl rfl rfl sl29 zo29e rfl (by omega) _ by29e (by omega) fun r1=>?_)
    refine j_step rfl (x_lit sl22 zo22e rfl rfl rfl rfl (by decide) (by decide) rfl fun b3=>?_)
    refine j_pubR 1 0 rfl rfl (by show (1 + z.length) * 8 ≤ 140737488355328;omega) ?_
    refine j_step rfl (x_appR (z:=[x]++z) 1 0 5 rfl rfl rfl rfl rfl sl22 zo22e rfl (fun w A hG=>(rd_of_slF (hG _ (fact_mem (n:=0) rfl)))) (by omega) _ by22e (by omega) fun r3=>?_)
    refine j_run it 1 rfl (by simp) ?_
    refine j_nf [_,_,_,_,_,_,_,_] rfl (j_run it 3 rfl ⟨trivial,⟨by omega,by omega⟩,trivial,trivial⟩ ?_)
    refine j_nfn 1 [.lp (pL 31308),.blk 2,.blk 1,.c (pL 979),.lp (pL 244),.blk 0,.c [1,1,1,1]] rfl ?_
    refine j_toM [true,false] [0,7,8,9] (by exact fra rfl) rfl rfl (ih2' r3)
   ·obtain rfl : j = S.length:=by omega
    rw [List.take_length] at ho
    rw [← ho] at he
    refine j_nf [_,_,_,_,_,_,_,_,_,_] rfl (j_run it 2 rfl (by simp) ?_)
    refine j_step rfl (x_len sl22 rfl ?_)
    refine j_run it 1 rfl (by simp) ?_
    refine j_nf [_,_,_,_,_,_,_,_,_] rfl (j_if rfl rfl (fun h3=>by exfalso;omega) (fun h3=>?_))
    refine j_nf [_,_,_,_] rfl (j_run it 3 rfl ⟨trivial,⟨by omega,by omega⟩,trivial,trivial⟩ ?_)
    refine j_nfn 1 [.lp (pL 244),.blk 0,.c [1,1,1,1]] rfl ?_
    refine j_to [0,3] (by exact fra rfl) rfl rfl (ih (i + 1,r2,o2) (by dsimp only;omega) ⟨by dsimp only;omega,he⟩)
  ·rw [show n - t - i = 0 by omega,List.range'_zero,List.flatMap_nil,List.append_nil] at he
   subst he
   refine j_nf [_,_,_,_,_,_] rfl (j_run it 5 rfl ⟨trivial,trivial,⟨by omega,by omega⟩,trivial,trivial,trivial⟩ ?_)
   refine j_nf [_,_,_,_,_] rfl (j_if rfl rfl (fun h2=>by exfalso;omega) (fun h2=>?_))
   refine j_nf [_,_] rfl (j_run it 2 rfl (by simp) ?_)
   refine j_nf [_] rfl ?_
   refine j_pubR 0 0 rfl rfl (by show _ * 24 ≤ _;omega) ?_
   refine j_giv [0] rfl rfl rfl ⟨_,_,rfl,rfl,rfl⟩
def kS (L : List (List Int)) (s : List Int) : Nat:=(L.filter fun b=>insB s b).length
theorem kS_cons (y : List Int) (L : List (List Int)) (s : List Int) : kS (y::L) s = (if insB s y = true then 1 else 0) + kS L s:=by
 rw [kS,kS,List.filter_cons]
 split
 ·rw [List.length_cons,Nat.add_comm]
 ·rw [Nat.zero_add]
def cntS (L : List (List Int)) : List (List Int) → Int → Int × Int
 | [],out=>(out,0)
 | s::l,out=>if 0 ≤ out ∧ out ≠ kS L s then (0,11) else cntS L l (kS L s)
def desS (n : Int) (L : List (List Int)) (t : Int) : Int × Int :=
 if n < 0 ∨ 64 < n then (0,6) else
 if L.all (blkS n.toNat (-1)) = false then (0,5) else
 if t < 0 ∨ n < t then (0,6) else if 65536 < binom n.toNat t.toNat then (0,8) else cntS L (setsL n.toNat t.toNat 0) (-1)
theorem blksN_isSome (n : Nat) : ∀ L : List (List Int),(blksN n L).isSome = L.all (blkS n (-1))
 | []=>rfl
 | l::L=>by
  rw [blksN,List.all_cons,← blkS_eq n l (-1) 0,← blksN_isSome n L]
  cases blkN n (-1) 0 l <;> cases blksN n L <;> rfl
theorem kM_kS {n : Nat} : ∀ {L : List (List Int)} {ms : List Nat} {s : List Int},blksN n L = some ms → (∀ p ∈ s,0 ≤ p) → kM ms (mskF 0 s) = kS L s
 | [],ms,s,h,_=>by
  rw [blksN,Option.some.injEq] at h;subst h;rfl
 | l::L,ms,s,h,hs=>by
  rw [blksN] at h
  cases h1 : blkN n (-1) 0 l with
  | none=>rw [h1] at h;cases h
  | some a =>
   cases h2 : blksN n L with
   | none=>rw [h1,h2] at h;cases h
   | some bs =>
    rw [h1,h2] at h
    have e : a::bs = ms:=by simpa using h
    subst e
    have ih:=kM_kS h2 hs
    have key : (a &&& mskF 0 s = mskF 0 s) ↔ insB s l = true:=by
     rw [sub_bit,insB,List.all_eq_true]
     constructor
     ·intro hb x hx
      have h0:=hs x hx
      have:=hb x.toNat (by rw [mskF_bit hs,Nat.zero_testBit,Bool.false_or,decide_eq_true_eq,Int.toNat_of_nonneg h0];exact hx)
      rw [blkN_bit (by decide) h1,Nat.zero_testBit,Bool.false_or,decide_eq_true_eq,Int.toNat_of_nonneg h0] at this
      exact List.any_eq_true.2 ⟨x,this,by simp⟩
     ·intro hb i hi
      rw [mskF_bit hs,Nat.zero_testBit,Bool.false_or,decide_eq_true_eq] at hi
      obtain ⟨y,hy,e⟩:=List.any_eq_true.1 (hb _ hi)
      have e : y = (i : Int):=by simpa using e
      rw [blkN_bit (by decide) h1,Nat.zero_testBit,Bool.false_or,decide_eq_true_eq]
      rw [← e];exact hy
    rw [kM,kS,List.filter_cons,List.filter_cons]
    rw [kM,kS] at ih
    by_cases hk : a &&& mskF 0 s = mskF 0 s
    ·rw [if_pos (decide_eq_true hk),if_pos (key.1 hk),List.length_cons,List.length_cons,ih]
    ·rw [if_neg (by simp [hk]),if_neg (by rw [← key];exact hk),ih]
theorem setsL_nn {n : Nat} : ∀ {t first : Nat} {z : List Int},z ∈ setsL n t first → ∀ p ∈ z,0 ≤ p
 | 0,first,z,h,p,hp=>by
  rw [setsL,List.mem_singleton] at h
  rw [h] at hp;cases hp
 | t + 1,first,z,h,p,hp=>by
  rw [setsL,List.mem_flatMap] at h
  obtain ⟨i,_,h⟩:=h
  obtain ⟨r,hr,rfl⟩:=List.mem_map.1 h
  rcases List.mem_cons.1 hp with rfl | hp
  ·omega
  ·exact setsL_nn hr p hp
theorem vis_cnt {n : Nat} {L : List (List Int)} {ms : List Nat} (hb : blksN n L = some ms) : ∀ {S : List (List Int)} {c : Int},(∀ z ∈ S,∀ p ∈ z,0 ≤ p) →
  (if (visL ms (S.map (mskF 0)) c true).2.1 = true then ((visL ms (S.map (mskF 0)) c true).1,(0 : Int)) else (0,11)) = cntS L S c
 | [],c,_=>rfl
 | s::S,c,hS=>by
  rw [List.map_cons,visL,kM_kS hb (hS s (.head _)),cntS]
  by_cases h : c < 0 ∨ (kS L s : Int) = c
  ·rw [if_pos h,if_neg (show ¬ (0 ≤ c ∧ c ≠ kS L s) by omega)]
   exact vis_cnt hb (fun z hz=>hS z (.tail _ hz))
  ·rw [if_neg h,if_pos (show 0 ≤ c ∧ c ≠ kS L s by omega)];rfl
theorem des_eq (n : Int) (L : List (List Int)) (t : Int) : desR n L t = desS n L t:=by
 rw [desR,desS]
 by_cases h1 : n < 0 ∨ 64 < n
 ·rw [if_pos h1,if_pos h1]
 rw [if_neg h1,if_neg h1,← blksN_isSome]
 cases hb : blksN n.toNat L with
 | none=>rfl
 | some ms =>
  rw [if_neg (by simp)]
  dsimp only
  by_cases h2 : t < 0 ∨ n < t
  ·rw [if_pos h2,if_pos h2]
  rw [if_neg h2,if_neg h2]
  by_cases h3 : 65536 < binom n.toNat t.toNat
  ·rw [if_pos h3,if_pos h3]
  rw [if_neg h3,if_neg h3,subs_sets]
  exact vis_cnt hb fun z hz=>setsL_nn hz
theorem S_codewrightref24_Design {pa : Option Addr} {nb ca : Nat} {n t : Int} {L : List (List Int)} (hL : L.length ≤ 1000000) (hn : 0 ≤ n → n ≤ 64 → 0 ≤ t → t ≤ n → ¬ 65536 < binom n.toNat t.toNat → n ≤ 14) :
  Ctr Try.prog 9 [.int .i64 n,.slice pa nb ca,.int .i64 t] [] [slF (encSl I64) pa nb ca L] (Rv (.tuple #[.int .i64 (desS n L t).1,.int .i64 (desS n L t).2]) []):=by
 refine Ctr_of_j' (F:=F_codewrightref24_Design) rfl fun C=>?_
 refine j_len 0 rfl fun e1 hb1 _=>?_
 subst e1
 by_cases h1 : n < 0 ∨ 64 < n
 ·have e0 : desS n L t = (0,6):=by rw [desS,if_pos h1]
  rw [e0]
  by_cases h2 : n < 0
  ·refine j_nf [_,_] rfl ?_
   refine j_run it 2 rfl (by simp) ?_
   refine j_nf [_,_,_] rfl ?_
   refine j_run it 3 rfl (by simp) ?_
   refine j_split_dec (t:=16) rfl (fun h3=>?_) (fun h3=>by exfalso;omega)
   refine j_run it 3 rfl (by simp) ?_
   refine j_nf [_,_] rfl ?_
   refine j_true rfl rfl ?_
   refine j_nf [_,_,_] rfl ?_
   refine j_run it 2 rfl (by simp) ?_
   refine j_nf [_,_] rfl ?_
   refine j_giv [] rfl rfl rfl ⟨rfl,rfl,rfl⟩
  ·have h3 : 64 < n:=by omega
   refine j_nf [_,_] rfl ?_
   refine j_run it 2 rfl (by simp) ?_
   refine j_nf [_,_,_] rfl ?_
   refine j_run it 3 rfl (by simp) ?_
   refine j_split_dec (t:=16) rfl (fun h4=>by exfalso;omega) (fun h4=>?_)
   refine j_run it 3 rfl (by simp) ?_
   refine j_nf [_,_] rfl ?_
   refine j_if rfl rfl (fun h5=>?_) (fun h5=>by exfalso;omega)
   refine j_nf [_,_,_] rfl ?_
   refine j_run it 2 rfl (by simp) ?_
   refine j_nf [_,_] rfl ?_
   refine j_giv [] rfl rfl rfl ⟨rfl,rfl,rfl⟩
 obtain ⟨n,rfl⟩ : ∃ k : Nat,n = k:=⟨n.toNat,by omega⟩
 have hn64 : n ≤ 64:=by omega
 have e0 : desS n L t = if L.all (blkS n (-1)) = false then (0,5) else
   if t < 0 ∨ n < t then (0,6) else if 65536 < binom n t.toNat then (0,8) else cntS L (setsL n t.toNat 0) (-1):=by
  rw [desS,if_neg h1,Int.toNat_natCast]
 rw [Int.toNat_natCast] at hn
 rw [e0]
 clear e0
 generalize hA : L.all (blkS n (-1)) = A
 refine j_nf [_,_] rfl ?_
 refine j_run it 2 rfl (by simp) ?_
 refine j_nf [_,_,_] rfl ?_
 refine j_run it 6 rfl (by simp) ?_
 refine j_nf [_,_] rfl ?_
 refine j_if rfl rfl (fun h2=>by exfalso;omega) (fun h2=>?_)
 refine j_nf [_,_,_] rfl ?_
 refine j_run it 1 rfl (by simp) ?_
 refine j_nf [_,_,_] rfl ?_
 refine j_loopG (X:=Nat) [0,1,2] [0] (fun i=>[(8,.int .i64 (i : Int))]) (fun _=>[]) (fun _=>[]) (fun i=>i ≤ L.length ∧ (L.drop i).all (blkS n (-1)) = A) (fun i=>L.length - i) 0 [] rfl rfl rfl ⟨Nat.zero_le _,hA⟩ (by repeat (first | exact Fr.sub_nil _ | refine Fr.sub_cons rfl ?_)) rfl rfl ?_
 rintro i ⟨hi,he⟩ ih
 simp only [List.cons_append,List.nil_append] at hi he ih ⊢
 by_cases hil : i < L.length
 ·obtain ⟨z,at_z,ed⟩ : ∃ z,L[i]? = some z ∧ L.drop i = z::L.drop (i + 1):=⟨L[i],List.getElem?_eq_getElem hil,List.drop_eq_getElem_cons hil⟩
  rw [ed,List.all_cons] at he
  have c_codewrightref24_Block:=fun {pa : Option Addr} {k ca : Nat}=>S_codewrightref24_Block (pa:=pa) (k:=k) (n:=n) (ca:=ca) (l:=z)
  cases hb : blkS n (-1) z with
  | false =>
   rw [hb,Bool.false_and] at he
   subst he
   rw [if_pos rfl]
   simp only [hb] at c_codewrightref24_Block
   refine j_nf [_,_,_,_,_,_] rfl ?_
   refine j_run it 2 rfl (by simp) ?_
   refine j_step rfl (x_len sl22 rfl ?_)
   refine j_run it 1 rfl (by simp) ?_
   refine j_nf [_,_,_,_,_] rfl ?_
   refine j_if rfl rfl (fun h3=>?_) (fun h3=>by exfalso;omega)
   refine j_nf [_,_,_,_,_,_,_] rfl ?_
   refine j_run it 3 rfl (by simp) ?_
   refine j_step rfl (x_idx 0 (i) rfl rfl rfl sl22 rfl (by omega) fun z1 hz1 b1 o1=>?_)
   obtain rfl : _ = z1:=Option.some.inj (at_z.symm.trans hz1)
   refine j_step rfl (x_ld_sl 0 rfl rfl ld29 fun pa1 ca1=>?_)
   refine j_step rfl (x_call [0] rfl (c_codewrightref24_Block) rfl ?_)
   rintro _ _ _ ⟨rfl,rfl,rfl⟩
   simp only [List.cons_append,List.nil_append]
   refine j_run it 1 rfl (by simp) ?_
   refine j_nf [_,_,_,_,_,_] rfl ?_
   refine j_true rfl rfl ?_
   refine j_nf [_,_,_,_,_,_,_] rfl ?_
   refine j_run it 2 rfl (by simp) ?_
   refine j_nf [_,_,_,_,_,_] rfl ?_
   refine j_giv [] rfl rfl rfl ⟨rfl,rfl,rfl⟩
  | true =>
   simp only [hb] at c_codewrightref24_Block
   rw [hb,Bool.true_and] at he
   refine j_nf [_,_,_,_,_,_] rfl ?_
   refine j_run it 2 rfl (by simp) ?_
   refine j_step rfl (x_len sl22 rfl ?_)
   refine j_run it 1 rfl (by simp) ?_
   refine j_nf [_,_,_,_,_] rfl ?_
   refine j_if rfl rfl (fun h3=>?_) (fun h3=>by exfalso;omega)
   refine j_nf [_,_,_,_,_,_,_] rfl ?_
   refine j_run it 3 rfl (by simp) ?_
   refine j_step rfl (x_idx 0 (i) rfl rfl rfl sl22 rfl (by omega) fun z1 hz1 b1 o1=>?_)
   obtain rfl : _ = z1:=Option.some.inj (at_z.symm.trans hz1)
   refine j_step rfl (x_ld_sl 0 rfl rfl ld29 fun pa1 ca1=>?_)
   refine j_step rfl (x_call [0] rfl (c_codewrightref24_Block) rfl ?_)
   rintro _ _ _ ⟨rfl,rfl,rfl⟩
   simp only [List.cons_append,List.nil_append]
   refine j_run it 1 rfl (by simp) ?_
   refine j_nf [_,_,_,_,_,_] rfl ?_
   refine j_false rfl rfl ?_
   refine j_nf [_,_,_,_] rfl ?_
   refine j_run it 3 rfl ⟨trivial,⟨by omega,by omega⟩,trivial,trivial⟩ ?_
   refine j_nfn 1 [.lp (pL 116),.blk 0,.c [1,1,1]] rfl ?_
   refine j_to [2] (by exact fra rfl) rfl rfl (ih (i + 1) (by omega) ⟨by omega,he⟩)
 obtain rfl : i = L.length:=by omega
 rw [List.drop_length,List.all_nil] at he
 subst he
 rw [if_neg (by decide)]
 clear ih
 by_cases ht : t < 0 ∨ n < t
 ·rw [if_pos ht]
  by_cases ht1 : t < 0
  ·refine j_nf [_,_,_,_,_,_] rfl ?_
   refine j_run it 2 rfl (by simp) ?_
   refine j_step rfl (x_len sl22 rfl ?_)
   refine j_run it 1 rfl (by simp) ?_
   refine j_nf [_,_,_,_,_] rfl ?_
   refine j_if rfl rfl (fun h3=>by exfalso;omega) (fun h3=>?_)
   refine j_nf [_,_,_] rfl ?_
   refine j_run it 3 rfl (by simp) ?_
   refine j_split_dec (t:=35) rfl (fun h4=>?_) (fun h4=>by exfalso;omega)
   refine j_run it 4 rfl (by simp) ?_
   refine j_nf [_,_] rfl ?_
   refine j_true rfl rfl ?_
   refine j_nf [_,_,_] rfl ?_
   refine j_run it 2 rfl (by simp) ?_
   refine j_nf [_,_] rfl ?_
   refine j_giv [] rfl rfl rfl ⟨rfl,rfl,rfl⟩
  ·refine j_nf [_,_,_,_,_,_] rfl ?_
   refine j_run it 2 rfl (by simp) ?_
   refine j_step rfl (x_len sl22 rfl ?_)
   refine j_run it 1 rfl (by simp) ?_
   refine j_nf [_,_,_,_,_] rfl ?_
   refine j_if rfl rfl (fun h3=>by exfalso;omega) (fun h3=>?_)
   refine j_nf [_,_,_] rfl ?_
   refine j_run it 3 rfl (by simp) ?_
   refine j_split_dec (t:=35) rfl (fun h4=>by exfalso;omega) (fun h4=>?_)
   refine j_run it 4 rfl (by simp) ?_
   refine j_nf [_,_] rfl ?_
   refine j_if rfl rfl (fun h5=>?_) (fun h5=>by exfalso;omega)
   refine j_nf [_,_,_] rfl ?_
   refine j_run it 2 rfl (by simp) ?_
   refine j_nf [_,_] rfl ?_
   refine j_giv [] rfl rfl rfl ⟨rfl,rfl,rfl⟩
 rw [if_neg ht]
 obtain ⟨t,rfl⟩ : ∃ k : Nat,t = k:=⟨t.toNat,by omega⟩
 rw [Int.toNat_natCast] at hn ⊢
 by_cases hB : 65536 < binom n t
 ·rw [if_pos hB]
  have hd:=decide_eq_true hB
  refine j_nf [_,_,_,_,_,_] rfl ?_
  refine j_run it 2 rfl (by simp) ?_
  refine j_step rfl (x_len sl22 rfl ?_)
  refine j_run it 1 rfl (by simp) ?_
  refine j_nf [_,_,_,_,_] rfl ?_
  refine j_if rfl rfl (fun h3=>by exfalso;omega) (fun h3=>?_)
  refine j_nf [_,_,_] rfl ?_
  refine j_run it 7 rfl (by simp) ?_
  refine j_nf [_,_] rfl ?_
  refine j_if rfl rfl (fun h4=>by exfalso;omega) (fun h4=>?_)
  refine j_nf [_,_,_] rfl ?_
  refine j_run it 2 rfl (by simp) ?_
  refine j_step rfl (x_call [] rfl (S_codewrightref24_Many (by omega)) rfl ?_)
  rintro _ _ _ ⟨rfl,rfl,rfl⟩
  simp only [List.cons_append,List.nil_append]
  refine j_nf [_,_] rfl ?_
  refine j_if rfl rfl (fun h5=>?_) (fun h5=>by exfalso;omega)
  refine j_nf [_,_,_] rfl ?_
  refine j_run it 2 rfl (by simp) ?_
  refine j_nf [_,_] rfl ?_
  refine j_giv [] rfl rfl rfl ⟨rfl,rfl,rfl⟩
 rw [if_neg hB]
 have hd:=decide_eq_false hB
 have hn14 : n ≤ 14:=by have:=hn (by omega) (by omega) (by omega) (by omega) hB;omega
 have hSl:=setsL_len n t 0
 have h14 : 2 ^ (n - 0) ≤ 2 ^ 14:=Nat.pow_le_pow_right (by decide) (by omega)
 have hSl' : (setsL n t 0).length ≤ 16384:=Nat.le_trans hSl h14
 clear hSl h14 hn hd
 have c_codewrightref24_Many:=S_codewrightref24_Many (n:=n) (k:=t) hn64
 rw [decide_eq_false hB] at c_codewrightref24_Many
 have c_codewrightref24_sets:=S_codewrightref24_sets hn14 (t:=t) (first:=0) (by omega) (by omega)
 generalize hS : setsL n t 0 = S at *
 generalize hR : cntS L S (-1) = R
 refine j_nf [_,_,_,_,_,_] rfl ?_
 refine j_run it 2 rfl (by simp) ?_
 refine j_step rfl (x_len sl22 rfl ?_)
 refine j_run it 1 rfl (by simp) ?_
 refine j_nf [_,_,_,_,_] rfl ?_
 refine j_if rfl rfl (fun h3=>by exfalso;omega) (fun h3=>?_)
 refine j_nf [_,_,_] rfl ?_
 refine j_run it 7 rfl (by simp) ?_
 refine j_nf [_,_] rfl ?_
 refine j_if rfl rfl (fun h4=>by exfalso;omega) (fun h4=>?_)
 refine j_nf [_,_,_] rfl ?_
 refine j_run it 2 rfl (by simp) ?_
 refine j_step rfl (x_call [] rfl (c_codewrightref24_Many) rfl ?_)
 rintro _ _ _ ⟨rfl,rfl,rfl⟩
 simp only [List.cons_append,List.nil_append]
 refine j_nf [_,_] rfl ?_
 refine j_false rfl rfl ?_
 refine j_nf [_,_] rfl ?_
 refine j_run it 2 rfl (by simp) ?_
 refine j_step rfl (x_call [] rfl (c_codewrightref24_sets) rfl ?_)
 rintro _ _ _ ⟨pa1,ca1,rfl,rfl,rfl⟩
 simp only [List.cons_append,List.nil_append]
 refine j_run it 1 rfl (by simp) ?_
 refine j_nf [_,_] rfl ?_
 refine j_run it 1 rfl (by simp) ?_
 refine j_nf [_,_,_] rfl ?_
 refine j_run it 1 rfl (by simp) ?_
 refine j_nf [_,_,_] rfl ?_
 refine j_loopG (X:=Nat × Int) [1,9] [0,1] (fun x=>[(11,.int .i64 (x.1 : Int)),(10,.int .i64 x.2)]) (fun _=>[]) (fun _=>[]) (fun x=>x.1 ≤ S.length ∧ -1 ≤ x.2 ∧ x.2 ≤ 1000000 ∧ cntS L (S.drop x.1) x.2 = R) (fun x=>S.length - x.1) (0,-1) [] rfl rfl rfl ⟨Nat.zero_le _,by decide,by decide,hR⟩ (by repeat (first | exact Fr.sub_nil _ | refine Fr.sub_cons rfl ?_)) rfl rfl ?_
 rintro ⟨i,c⟩ ⟨hi,hc1,hc2,he⟩ ih
 simp only [List.cons_append,List.nil_append] at hi hc1 hc2 he ih ⊢
 by_cases hil : i < S.length
 ·obtain ⟨z,hz,ed⟩ : ∃ z,S[i]? = some z ∧ S.drop i = z::S.drop (i + 1):=⟨S[i],List.getElem?_eq_getElem hil,List.drop_eq_getElem_cons hil⟩
  obtain rfl : S.getD i default = z:=by rw [List.getD_eq_getElem?_getD,hz];rfl
  rw [ed,cntS] at he
  have hkl : kS L (S.getD i default) ≤ L.length:=List.length_filter_le _ _
  refine j_nf [_,_,_,_,_,_] rfl ?_
  refine j_run it 2 rfl (by simp) ?_
  refine j_step rfl (x_len sl22 rfl ?_)
  refine j_run it 1 rfl (by simp) ?_
  refine j_nf [_,_,_,_,_] rfl ?_
  refine j_if rfl rfl (fun h5=>?_) (fun h5=>by exfalso;omega)
  refine j_nf [_,_,_,_,_,_,_] rfl ?_
  refine j_run it 1 rfl (by simp) ?_
  refine j_nf [_,_,_,_,_,_,_,_] rfl ?_
  refine j_run it 1 rfl (by simp) ?_
  refine j_nf [_,_,_,_,_,_,_,_] rfl ?_
  refine j_loopG (X:=Nat × Nat) [1,9,10,11,46,47,48,49] [0,1] (fun x=>[(13,.int .i64 (x.1 : Int)),(12,.int .i64 (x.2 : Int))]) (fun _=>[]) (fun _=>[]) (fun x=>x.1 ≤ L.length ∧ x.2 ≤ x.1 ∧ x.2 + kS (L.drop x.1) (S.getD i default) = kS L (S.getD i default)) (fun x=>L.length - x.1) (0,0) [] rfl rfl rfl ⟨Nat.zero_le _,Nat.le_refl _,Nat.zero_add _⟩ (by repeat (first | exact Fr.sub_nil _ | refine Fr.sub_cons rfl ?_)) rfl rfl ?_
  rintro ⟨j,k⟩ ⟨hj,hk,hkk⟩ ih2
  simp only [List.cons_append,List.nil_append] at hj hk hkk ih2 ⊢
  by_cases hjl : j < L.length
  ·obtain ⟨y,hy,ey⟩ : ∃ y,L[j]? = some y ∧ L.drop j = y::L.drop (j + 1):=⟨L[j],List.getElem?_eq_getElem hjl,List.drop_eq_getElem_cons hjl⟩
   obtain rfl : L.getD j default = y:=by rw [List.getD_eq_getElem?_getD,hy];rfl
   rw [ey,kS_cons] at hkk
   have c_codewrightref24_Inside:=fun {pa pb : Option Addr} {n m ca cb : Nat}=>S_codewrightref24_Inside (pa:=pa) (pb:=pb) (n:=n) (m:=m) (ca:=ca) (cb:=cb) (s:=S.getD i default) (t:=L.getD j default)
   cases hb : insB (S.getD i default) (L.getD j default) with
   | false =>
    rw [hb] at hkk
    simp only [hb] at c_codewrightref24_Inside
    refine j_nf [_,_,_,_,_,_,_,_,_,_,_] rfl ?_
    refine j_run it 2 rfl (by simp) ?_
    refine j_step rfl (x_len sl22 rfl ?_)
    refine j_run it 1 rfl (by simp) ?_
    refine j_nf [_,_,_,_,_,_,_,_,_,_] rfl ?_
    refine j_if rfl rfl (fun h6=>?_) (fun h6=>by exfalso;omega)
    refine j_nf [_,_,_,_,_,_,_,_,_,_,_,_] rfl ?_
    (apply j_drawK it mx 9;(· rfl);(· rfl))
    (apply lxk_run 2;(· rfl);(· simp))
    (apply lxk_pt;(· rfl);(· exact d_x fun _=>x_idx 0 (i) rfl rfl rfl sl22 rfl (by omega) fun z1 hz1 b1 o1=>(dk_ptD default hz1 0 rfl));intro b1 o1)
    (apply lxk_sl;(· rfl);(· exact d_x fun _=>x_ld_sl 0 rfl rfl ld29 fun pa2 ca2=>(dk_sl 0 rfl));intro pa2 ca2)
    (apply lxk_run 2;(· rfl);(· simp))
    (apply lxk_pt;(· rfl);(· exact d_x fun _=>x_idx 1 (j) rfl rfl rfl sl22 rfl (by omega) fun z1 hz1 b2 o2=>(dk_ptD default hz1 0 rfl));intro b2 o2)
    (apply lxk_sl;(· rfl);(· exact d_x fun _=>x_ld_sl 0 rfl rfl ld29 fun pa3 ca3=>(dk_sl 0 rfl));intro pa3 ca3)
    (apply lxk_eq;(· rfl);(· exact d_x fun _=>x_call [2,0] rfl (c_codewrightref24_Inside) rfl (by rintro _ _ _ ⟨rfl,rfl,rfl⟩;exact dk_eq)))
    refine lxk_end rfl ?_
    simp only [List.map_cons,List.map_nil,List.cons_append,List.nil_append]
    refine j_nf [_,_,_,_,_,_,_,_,_,_,_] rfl ?_
    refine j_false rfl rfl ?_
    refine j_nf [_,_,_,_,_,_,_,_,_] rfl ?_
    refine j_run it 3 rfl ⟨trivial,⟨by omega,by omega⟩,trivial,trivial⟩ ?_
    refine j_nfn 1 [.lp (pL 1045652),.blk 4,.c (pL 130707),.blk 3,.c (pL 16339),.lp (pL 4084),.blk 2,.c (pL 511)] rfl ?_
    refine j_to [4,5] (by exact fra rfl) rfl rfl (ih2 (j + 1,k) (by dsimp only;omega) ⟨by dsimp only;omega,by dsimp only;omega,by rw [if_neg (by decide)] at hkk;dsimp only;omega⟩)
   | true =>
    rw [hb] at hkk
    simp only [hb] at c_codewrightref24_Inside
    refine j_nf [_,_,_,_,_,_,_,_,_,_,_] rfl ?_
    refine j_run it 2 rfl (by simp) ?_
    refine j_step rfl (x_len sl22 rfl ?_)
    refine j_run it 1 rfl (by simp) ?_
    refine j_nf [_,_,_,_,_,_,_,_,_,_] rfl ?_
    refine j_if rfl rfl (fun h6=>?_) (fun h6=>by exfalso;omega)
    refine j_nf [_,_,_,_,_,_,_,_,_,_,_,_] rfl ?_
    (apply j_drawK it mx 9;(· rfl);(· rfl))
    (apply lxk_run 2;(· rfl);(· simp))
    (apply lxk_pt;(· rfl);(· exact d_x fun _=>x_idx 0 (i) rfl rfl rfl sl22 rfl (by omega) fun z1 hz1 b1 o1=>(dk_ptD default hz1 0 rfl));intro b1 o1)
    (apply lxk_sl;(· rfl);(· exact d_x fun _=>x_ld_sl 0 rfl rfl ld29 fun pa2 ca2=>(dk_sl 0 rfl));intro pa2 ca2)
    (apply lxk_run 2;(· rfl);(· simp))
    (apply lxk_pt;(· rfl);(· exact d_x fun _=>x_idx 1 (j) rfl rfl rfl sl22 rfl (by omega) fun z1 hz1 b2 o2=>(dk_ptD default hz1 0 rfl));intro b2 o2)
    (apply lxk_sl;(· rfl);(· exact d_x fun _=>x_ld_sl 0 rfl rfl ld29 fun pa3 ca3=>(dk_sl 0 rfl));intro pa3 ca3)
    (apply lxk_eq;(· rfl);(· exact d_x fun _=>x_call [2,0] rfl (c_codewrightref24_Inside) rfl (by rintro _ _ _ ⟨rfl,rfl,rfl⟩;exact dk_eq)))
    refine lxk_end rfl ?_
    simp only [List.map_cons,List.map_nil,List.cons_append,List.nil_append]
    refine j_nf [_,_,_,_,_,_,_,_,_,_,_] rfl ?_
    refine j_true rfl rfl ?_
    refine j_nf [_,_,_,_,_,_,_,_,_,_,_] rfl ?_
    refine j_run it 3 rfl ⟨trivial,⟨by omega,by omega⟩,trivial,trivial⟩ ?_
    refine j_nf [_,_,_,_,_,_,_,_,_] rfl ?_
    refine j_run it 3 rfl ⟨trivial,⟨by omega,by omega⟩,trivial,trivial⟩ ?_
    refine j_nfn 1 [.lp (pL 1045652),.blk 4,.c (pL 130707),.blk 3,.c (pL 16339),.lp (pL 4084),.blk 2,.c (pL 511)] rfl ?_
    refine j_to [4,5] (by exact fra rfl) rfl rfl (ih2 (j + 1,k + 1) (by dsimp only;omega) ⟨by dsimp only;omega,by dsimp only;omega,by rw [if_pos rfl] at hkk;dsimp only;omega⟩)
  ·obtain rfl : j = L.length:=by omega
   rw [List.drop_length,kS,List.filter_nil,List.length_nil,Nat.add_zero] at hkk
   subst hkk
   by_cases h0 : 0 ≤ c
   ·by_cases h3 : c = kS L (S.getD i default)
    ·rw [if_neg (by omega)] at he
     refine j_nf [_,_,_,_,_,_,_,_,_,_,_] rfl ?_
     refine j_run it 2 rfl (by simp) ?_
     refine j_step rfl (x_len sl22 rfl ?_)
     refine j_run it 1 rfl (by simp) ?_
     refine j_nf [_,_,_,_,_,_,_,_,_,_] rfl ?_
     refine j_if rfl rfl (fun h6=>by exfalso;omega) (fun h6=>?_)
     refine j_nf [_,_,_,_,_,_,_,_] rfl ?_
     refine j_run it 3 rfl (by simp) ?_
     refine j_split_dec (t:=71) rfl (fun h7=>?_) (fun h7=>by exfalso;omega)
     refine j_run it 4 rfl (by simp) ?_
     refine j_nf [_,_,_,_,_,_,_] rfl ?_
     refine j_ifn rfl rfl (fun h8=>by exfalso;omega) (fun h8=>?_)
     refine j_nf [_,_,_,_,_,_] rfl ?_
     refine j_run it 2 rfl (by simp) ?_
     refine j_nf [_,_,_,_] rfl ?_
     refine j_run it 3 rfl ⟨trivial,⟨by omega,by omega⟩,trivial,trivial⟩ ?_
     refine j_nfn 1 [.lp (pL 4084),.blk 2,.c (pL 511)] rfl ?_
     refine j_to [0,1] (by exact fra rfl) rfl rfl (ih (i + 1,(kS L (S.getD i default) : Int)) (by dsimp only;omega) ⟨by dsimp only;omega,by dsimp only;omega,by dsimp only;omega,he⟩)
    ·rw [if_pos ⟨h0,h3⟩] at he
     subst he
     refine j_nf [_,_,_,_,_,_,_,_,_,_,_] rfl ?_
     refine j_run it 2 rfl (by simp) ?_
     refine j_step rfl (x_len sl22 rfl ?_)
     refine j_run it 1 rfl (by simp) ?_
     refine j_nf [_,_,_,_,_,_,_,_,_,_] rfl ?_
     refine j_if rfl rfl (fun h6=>by exfalso;omega) (fun h6=>?_)
     refine j_nf [_,_,_,_,_,_,_,_] rfl ?_
     refine j_run it 3 rfl (by simp) ?_
     refine j_split_dec (t:=71) rfl (fun h7=>?_) (fun h7=>by exfalso;omega)
     refine j_run it 4 rfl (by simp) ?_
     refine j_nf [_,_,_,_,_,_,_] rfl ?_
     refine j_ifn rfl rfl (fun h8=>?_) (fun h8=>by exfalso;omega)
     refine j_nf [_,_,_,_,_,_,_,_] rfl ?_
     refine j_run it 2 rfl (by simp) ?_
     refine j_nf [_,_,_,_,_,_,_] rfl ?_
     refine j_giv [] rfl rfl rfl ⟨rfl,rfl,rfl⟩
   ·rw [if_neg (by omega)] at he
    refine j_nf [_,_,_,_,_,_,_,_,_,_,_] rfl ?_
    refine j_run it 2 rfl (by simp) ?_
    refine j_step rfl (x_len sl22 rfl ?_)
    refine j_run it 1 rfl (by simp) ?_
    refine j_nf [_,_,_,_,_,_,_,_,_,_] rfl ?_
    refine j_if rfl rfl (fun h6=>by exfalso;omega) (fun h6=>?_)
    refine j_nf [_,_,_,_,_,_,_,_] rfl ?_
    refine j_run it 3 rfl (by simp) ?_
    refine j_split_dec (t:=71) rfl (fun h7=>by exfalso;omega) (fun h7=>?_)
    refine j_run it 4 rfl (by simp) ?_
    refine j_nf [_,_,_,_,_,_,_] rfl ?_
    refine j_false rfl rfl ?_
    refine j_nf [_,_,_,_,_,_] rfl ?_
    refine j_run it 2 rfl (by simp) ?_
    refine j_nf [_,_,_,_] rfl ?_
    refine j_run it 3 rfl ⟨trivial,⟨by omega,by omega⟩,trivial,trivial⟩ ?_
    refine j_nfn 1 [.lp (pL 4084),.blk 2,.c (pL 511)] rfl ?_
    refine j_to [0,1] (by exact fra rfl) rfl rfl (ih (i + 1,(kS L (S.getD i default) : Int)) (by dsimp only;omega) ⟨by dsimp only;omega,by dsimp only;omega,by dsimp only;omega,he⟩)
 ·obtain rfl : i = S.length:=by omega
  rw [List.drop_length,cntS] at he
  subst he
  refine j_nf [_,_,_,_,_,_] rfl ?_
  refine j_run it 2 rfl (by simp) ?_
  refine j_step rfl (x_len sl22 rfl ?_)
  refine j_run it 1 rfl (by simp) ?_
  refine j_nf [_,_,_,_,_] rfl ?_
  refine j_if rfl rfl (fun h5=>by exfalso;omega) (fun h5=>?_)
  refine j_nf [_,_] rfl ?_
  refine j_run it 3 rfl (by simp) ?_
  refine j_nf [_] rfl ?_
  refine j_giv [] rfl rfl rfl ⟨rfl,rfl,rfl⟩
def crB (L : List (List Int)) : Bool:=L.any (fun b=>decide (100 < b.length)) || decide (300 < L.length)
theorem S_codewrightlaw24_crowded {pa : Option Addr} {n ca : Nat} {L : List (List Int)} : Ctr Try.prog 6 [.slice pa n ca] [] [slF (encSl I64) pa n ca L] (Rv (.bool (crB L)) []):=by
 refine Ctr_of_j' (F:=F_codewrightlaw24_crowded) rfl fun C=>?_
 refine j_len 0 rfl fun e1 hb1 _=>?_
 have hb1' : L.length * 24 ≤ 140737488355328:=hb1
 subst e1
 rw [crB]
 generalize hA : L.any (fun b=>decide (100 < b.length)) = A
 refine j_nf [_,_] rfl (j_run it 1 rfl (by simp) ?_)
 refine j_nf [_,_,_] rfl (j_run it 1 rfl (by simp) ?_)
 refine j_nf [_,_,_] rfl ?_
 refine j_loopG (X:=Nat) [0] [0] (fun i=>[(3,.int .i64 (i : Int))]) (fun _=>[]) (fun _=>[]) (fun i=>i ≤ L.length ∧ (L.drop i).any (fun b=>decide (100 < b.length)) = A) (fun i=>L.length - i) 0 [] rfl rfl rfl ⟨Nat.zero_le _,hA⟩ (by repeat (first | exact Fr.sub_nil _ | refine Fr.sub_cons rfl ?_)) rfl rfl ?_
 rintro i ⟨hi,he⟩ ih
 simp only [List.cons_append,List.nil_append] at hi he ih ⊢
 by_cases hil : i < L.length
 ·obtain ⟨z,at_z,ed⟩ : ∃ z,L[i]? = some z ∧ L.drop i = z::L.drop (i + 1):=⟨L[i],List.getElem?_eq_getElem hil,List.drop_eq_getElem_cons hil⟩
  rw [ed,List.any_cons] at he
  by_cases h : 100 < z.length
  ·rw [decide_eq_true h,Bool.true_or] at he
   subst he
   rw [Bool.true_or]
   refine j_nf [_,_,_,_,_,_] rfl (j_run it 2 rfl (by simp) ?_)
   refine j_step rfl (x_len sl22 rfl ?_)
   refine j_run it 1 rfl (by simp) ?_
   refine j_nf [_,_,_,_,_] rfl (j_if rfl rfl (fun h1=>?_) (fun h1=>by exfalso;omega))
   refine j_nf [_,_,_,_,_,_,_] rfl (j_run it 2 rfl (by simp) ?_)
   refine j_step rfl (x_idx 0 (i) rfl rfl rfl sl22 rfl (by omega) fun z1 hz1 b1 o1=>?_)
   obtain rfl : _ = z1:=Option.some.inj (at_z.symm.trans hz1)
   refine j_step rfl (x_ld_sl 0 rfl rfl ld29 fun pa1 ca1=>?_)
   refine j_step rfl (x_len sl29 rfl ?_)
   refine j_run it 1 rfl (by simp) ?_
   refine j_nf [_,_,_,_,_,_] rfl (j_if rfl rfl (fun h2=>?_) (fun h2=>by exfalso;omega))
   refine j_nf [_,_,_,_,_,_,_] rfl (j_run it 1 rfl (by simp) ?_)
   refine j_nf [_,_,_,_,_,_] rfl ?_
   refine j_giv [] rfl rfl rfl ⟨rfl,rfl,rfl⟩
  ·rw [decide_eq_false h,Bool.false_or] at he
   refine j_nf [_,_,_,_,_,_] rfl (j_run it 2 rfl (by simp) ?_)
   refine j_step rfl (x_len sl22 rfl ?_)
   refine j_run it 1 rfl (by simp) ?_
   refine j_nf [_,_,_,_,_] rfl (j_if rfl rfl (fun h1=>?_) (fun h1=>by exfalso;omega))
   refine j_nf [_,_,_,_,_,_,_] rfl (j_run it 2 rfl (by simp) ?_)
   refine j_step rfl (x_idx 0 (i) rfl rfl rfl sl22 rfl (by omega) fun z1 hz1 b1 o1=>?_)
   obtain rfl : _ = z1:=Option.some.inj (at_z.symm.trans hz1)
   refine j_step rfl (x_ld_sl 0 rfl rfl ld29 fun pa1 ca1=>?_)
   refine j_step rfl (x_len sl29 rfl ?_)
   refine j_run it 1 rfl (by simp) ?_
   refine j_nf [_,_,_,_,_,_] rfl (j_if rfl rfl (fun h2=>by exfalso;omega) (fun h2=>?_))
   refine j_nf [_,_,_,_] rfl (j_run it 3 rfl ⟨trivial,⟨by omega,by omega⟩,trivial,trivial⟩ ?_)
   refine j_nfn 1 [.lp [1,0,1,0,0],.blk 0,.c [1,1]] rfl ?_
   refine j_to [2] (by exact fra rfl) rfl rfl (ih (i + 1) (by omega) ⟨by omega,he⟩)
 ·obtain rfl : i = L.length:=by omega
  rw [List.drop_length,List.any_nil] at he
  subst he
  rw [Bool.false_or]
  by_cases h : 300 < L.length
  ·rw [decide_eq_true h]
   refine j_nf [_,_,_,_,_,_] rfl (j_run it 2 rfl (by simp) ?_)
   refine j_step rfl (x_len sl22 rfl ?_)
   refine j_run it 1 rfl (by simp) ?_
   refine j_nf [_,_,_,_,_] rfl (j_if rfl rfl (fun h1=>by exfalso;omega) (fun h1=>?_))
   refine j_nf [_,_] rfl (j_run it 1 rfl (by simp) ?_)
   refine j_step rfl (x_len sl22 rfl ?_)
   refine j_run it 2 rfl (by simp) ?_
   refine j_nf [_] rfl ?_
   rw [decide_eq_true (show (300 : Int) < (L.length : Int) by omega)]
   refine j_giv [] rfl rfl rfl ⟨rfl,rfl,rfl⟩
  ·rw [decide_eq_false h]
   refine j_nf [_,_,_,_,_,_] rfl (j_run it 2 rfl (by simp) ?_)
   refine j_step rfl (x_len sl22 rfl ?_)
   refine j_run it 1 rfl (by simp) ?_
   refine j_nf [_,_,_,_,_] rfl (j_if rfl rfl (fun h1=>by exfalso;omega) (fun h1=>?_))
   refine j_nf [_,_] rfl (j_run it 1 rfl (by simp) ?_)
   refine j_step rfl (x_len sl22 rfl ?_)
   refine j_run it 2 rfl (by simp) ?_
   refine j_nf [_] rfl ?_
   rw [decide_eq_false (show ¬ (300 : Int) < (L.length : Int) by omega)]
   refine j_giv [] rfl rfl rfl ⟨rfl,rfl,rfl⟩
theorem crB_len {L : List (List Int)} (h : crB L = false) : L.length ≤ 300:=by
 rw [crB,Bool.or_eq_false_iff,decide_eq_false_iff_not] at h
 omega
theorem S_MacwilliamsDesigns {pa : Option Addr} {nb ca : Nat} {n t : Int} {L : List (List Int)} (hn0 : InR .i64 n) (ht0 : InR .i64 t) :
  Ctr Try.prog 3 [.int .i64 n,.slice pa nb ca,.int .i64 t] [] [slF (encSl I64) pa nb ca L] (Rv (.bool true) []):=by
 refine Ctr_of_j' (F:=F_codewrightlaw24_MacwilliamsDesigns) rfl fun C=>?_
 have c_codewrightlaw24_crowded:=fun {pa : Option Addr} {n ca : Nat}=>S_codewrightlaw24_crowded (pa:=pa) (n:=n) (ca:=ca) (L:=L)
 cases hc : crB L with
 | true =>
  simp only [hc] at c_codewrightlaw24_crowded
  refine j_nf [_,_] rfl (j_run it 1 rfl (by simp) ?_)
  refine j_nf [_,_,_] rfl (j_run it 1 rfl (by simp) ?_)
  refine j_step rfl (x_call [0] rfl (c_codewrightlaw24_crowded) rfl ?_)
  rintro _ _ _ ⟨rfl,rfl,rfl⟩
  simp only [List.cons_append,List.nil_append]
  refine j_nf [_,_] rfl ?_
  refine j_true rfl rfl ?_
  refine j_nf [_,_,_] rfl (j_run it 1 rfl (by simp) ?_)
  refine j_nf [_,_] rfl ?_
  refine j_giv [] rfl rfl rfl ⟨rfl,rfl,rfl⟩
 | false =>
  simp only [hc] at c_codewrightlaw24_crowded
  have hL:=crB_len hc
  have c_macwilliams_Design:=fun {pa : Option Addr} {nb ca : Nat}=>S_macwilliams_Design (pa:=pa) (nb:=nb) (ca:=ca) (n:=n) (t:=t) (L:=L) (by omega)
  have c_codewrightref24_Design:=fun {pa : Option Addr} {nb ca : Nat} (h : 0 ≤ n → n ≤ 64 → 0 ≤ t → t ≤ n → ¬ 65536 < binom n.toNat t.toNat → n ≤ 14)=>S_codewrightref24_Design (pa:=pa) (nb:=nb) (ca:=ca) (n:=n) (t:=t) (L:=L) (by omega) h
  rw [des_eq] at c_macwilliams_Design
  generalize desS n L t = d at *
  obtain ⟨d1,d2⟩:=d
  dsimp only at c_macwilliams_Design c_codewrightref24_Design
  by_cases h1 : n < 0
  ·have c_codewrightref24_Design:=fun {pa : Option Addr} {nb ca : Nat}=>c_codewrightref24_Design (pa:=pa) (nb:=nb) (ca:=ca) (by omega)
   refine j_nf [_,_] rfl (j_run it 1 rfl (by simp) ?_)
   refine j_nf [_,_,_] rfl (j_run it 1 rfl (by simp) ?_)
   refine j_step rfl (x_call [0] rfl (c_codewrightlaw24_crowded) rfl ?_)
   rintro _ _ _ ⟨rfl,rfl,rfl⟩
   simp only [List.cons_append,List.nil_append]
   refine j_nf [_,_] rfl ?_
   refine j_false rfl rfl ?_
   refine j_nf [_,_,_] rfl (j_run it 3 rfl (by simp) ?_)
   refine j_split_dec (t:=15) rfl (fun h2=>by exfalso;omega) (fun h2=>?_)
   refine j_run it 22 rfl (by simp) ?_
   refine j_nf [_,_] rfl ?_
   refine j_false rfl rfl ?_
   refine j_nf [_,_] rfl (j_run it 3 rfl (by simp) ?_)
   refine j_step rfl (x_call [0] rfl (c_macwilliams_Design) rfl ?_)
   rintro _ _ _ ⟨rfl,rfl,rfl⟩
   simp only [List.cons_append,List.nil_append]
   refine j_run it 5 rfl (by simp) ?_
   refine j_nf [_,_] rfl (j_run it 3 rfl (by simp) ?_)
   refine j_step rfl (x_call [0] rfl (c_codewrightref24_Design) rfl ?_)
   rintro _ _ _ ⟨rfl,rfl,rfl⟩
   simp only [List.cons_append,List.nil_append]
   refine j_run it 5 rfl (by simp) ?_
   refine j_nf [_,_] rfl (j_run it 4 rfl (by simp) ?_)
   refine j_split_dec (t:=55) rfl (fun h3=>?_) (fun h3=>by exfalso;omega)
   refine j_run it 5 rfl (by simp) ?_
   refine j_nf [_] rfl ?_
   rw [decide_eq_true (show d2 = d2 from rfl)]
   refine j_giv [] rfl rfl rfl ⟨rfl,rfl,rfl⟩
  by_cases h2 : 64 < n
  ·have c_codewrightref24_Design:=fun {pa : Option Addr} {nb ca : Nat}=>c_codewrightref24_Design (pa:=pa) (nb:=nb) (ca:=ca) (by omega)
   refine j_nf [_,_] rfl (j_run it 1 rfl (by simp) ?_)
   refine j_nf [_,_,_] rfl (j_run it 1 rfl (by simp) ?_)
   refine j_step rfl (x_call [0] rfl (c_codewrightlaw24_crowded) rfl ?_)
   rintro _ _ _ ⟨rfl,rfl,rfl⟩
   simp only [List.cons_append,List.nil_append]
   refine j_nf [_,_] rfl ?_
   refine j_false rfl rfl ?_
   refine j_nf [_,_,_] rfl (j_run it 3 rfl (by simp) ?_)
   refine j_split_dec (t:=15) rfl (fun h3=>?_) (fun h3=>by exfalso;omega)
   refine j_run it 4 rfl (by simp) ?_
   refine j_split_dec (t:=19) rfl (fun h4=>by exfalso;omega) (fun h4=>?_)
   refine j_run it 18 rfl (by simp) ?_
   refine j_nf [_,_] rfl ?_
   refine j_false rfl rfl ?_
   refine j_nf [_,_] rfl (j_run it 3 rfl (by simp) ?_)
   refine j_step rfl (x_call [0] rfl (c_macwilliams_Design) rfl ?_)
   rintro _ _ _ ⟨rfl,rfl,rfl⟩
   simp only [List.cons_append,List.nil_append]
   refine j_run it 5 rfl (by simp) ?_
   refine j_nf [_,_] rfl (j_run it 3 rfl (by simp) ?_)
   refine j_step rfl (x_call [0] rfl (c_codewrightref24_Design) rfl ?_)
   rintro _ _ _ ⟨rfl,rfl,rfl⟩
   simp only [List.cons_append,List.nil_append]
   refine j_run it 5 rfl (by simp) ?_
   refine j_nf [_,_] rfl (j_run it 4 rfl (by simp) ?_)
   refine j_split_dec (t:=55) rfl (fun h5=>?_) (fun h5=>by exfalso;omega)
   refine j_run it 5 rfl (by simp) ?_
   refine j_nf [_] rfl ?_
   rw [decide_eq_true (show d2 = d2 from rfl)]
   refine j_giv [] rfl rfl rfl ⟨rfl,rfl,rfl⟩
  by_cases h3 : t < 0
  ·have c_codewrightref24_Design:=fun {pa : Option Addr} {nb ca : Nat}=>c_codewrightref24_Design (pa:=pa) (nb:=nb) (ca:=ca) (by omega)
   refine j_nf [_,_] rfl (j_run it 1 rfl (by simp) ?_)
   refine j_nf [_,_,_] rfl (j_run it 1 rfl (by simp) ?_)
   refine j_step rfl (x_call [0] rfl (c_codewrightlaw24_crowded) rfl ?_)
   rintro _ _ _ ⟨rfl,rfl,rfl⟩
   simp only [List.cons_append,List.nil_append]
   refine j_nf [_,_] rfl ?_
   refine j_false rfl rfl ?_
   refine j_nf [_,_,_] rfl (j_run it 3 rfl (by simp) ?_)
   refine j_split_dec (t:=15) rfl (fun h4=>?_) (fun h4=>by exfalso;omega)
   refine j_run it 4 rfl (by simp) ?_
   refine j_split_dec (t:=19) rfl (fun h5=>?_) (fun h5=>by exfalso;omega)
   refine j_run it 4 rfl (by simp) ?_
   refine j_split_dec (t:=23) rfl (fun h6=>by exfalso;omega) (fun h6=>?_)
   refine j_run it 14 rfl (by simp) ?_
   refine j_nf [_,_] rfl ?_
   refine j_false rfl rfl ?_
   refine j_nf [_,_] rfl (j_run it 3 rfl (by simp) ?_)
   refine j_step rfl (x_call [0] rfl (c_macwilliams_Design) rfl ?_)
   rintro _ _ _ ⟨rfl,rfl,rfl⟩
   simp only [List.cons_append,List.nil_append]
   refine j_run it 5 rfl (by simp) ?_
   refine j_nf [_,_] rfl (j_run it 3 rfl (by simp) ?_)
   refine j_step rfl (x_call [0] rfl (c_codewrightref24_Design) rfl ?_)
   rintro _ _ _ ⟨rfl,rfl,rfl⟩
   simp only [List.cons_append,List.nil_append]
   refine j_run it 5 rfl (by simp) ?_
   refine j_nf [_,_] rfl (j_run it 4 rfl (by simp) ?_)
   refine j_split_dec (t:=55) rfl (fun h7=>?_) (fun h7=>by exfalso;omega)
   refine j_run it 5 rfl (by simp) ?_
   refine j_nf [_] rfl ?_
   rw [decide_eq_true (show d2 = d2 from rfl)]
   refine j_giv [] rfl rfl rfl ⟨rfl,rfl,rfl⟩
  by_cases h4 : n < t
  ·have c_codewrightref24_Design:=fun {pa : Option Addr} {nb ca : Nat}=>c_codewrightref24_Design (pa:=pa) (nb:=nb) (ca:=ca) (by omega)
   refine j_nf [_,_] rfl (j_run it 1 rfl (by simp) ?_)
   refine j_nf [_,_,_] rfl (j_run it 1 rfl (by simp) ?_)
   refine j_step rfl (x_call [0] rfl (c_codewrightlaw24_crowded) rfl ?_)
   rintro _ _ _ ⟨rfl,rfl,rfl⟩
   simp only [List.cons_append,List.nil_append]
   refine j_nf [_,_] rfl ?_
   refine j_false rfl rfl ?_
   refine j_nf [_,_,_] rfl (j_run it 3 rfl (by simp) ?_)
   refine j_split_dec (t:=15) rfl (fun h5=>?_) (fun h5=>by exfalso;omega)
   refine j_run it 4 rfl (by simp) ?_
   refine j_split_dec (t:=19) rfl (fun h6=>?_) (fun h6=>by exfalso;omega)
   refine j_run it 4 rfl (by simp) ?_
   refine j_split_dec (t:=23) rfl (fun h7=>?_) (fun h7=>by exfalso;omega)
   refine j_run it 5 rfl (by simp) ?_
   refine j_split_dec (t:=28) rfl (fun h8=>by exfalso;omega) (fun h8=>?_)
   refine j_run it 9 rfl (by simp) ?_
   refine j_nf [_,_] rfl ?_
   refine j_false rfl rfl ?_
   refine j_nf [_,_] rfl (j_run it 3 rfl (by simp) ?_)
   refine j_step rfl (x_call [0] rfl (c_macwilliams_Design) rfl ?_)
   rintro _ _ _ ⟨rfl,rfl,rfl⟩
   simp only [List.cons_append,List.nil_append]
   refine j_run it 5 rfl (by simp) ?_
   refine j_nf [_,_] rfl (j_run it 3 rfl (by simp) ?_)
   refine j_step rfl (x_call [0] rfl (c_codewrightref24_Design) rfl ?_)
   rintro _ _ _ ⟨rfl,rfl,rfl⟩
   simp only [List.cons_append,List.nil_append]
   refine j_run it 5 rfl (by simp) ?_
   refine j_nf [_,_] rfl (j_run it 4 rfl (by simp) ?_)
   refine j_split_dec (t:=55) rfl (fun h9=>?_) (fun h9=>by exfalso;omega)
   refine j_run it 5 rfl (by simp) ?_
   refine j_nf [_] rfl ?_
   rw [decide_eq_true (show d2 = d2 from rfl)]
   refine j_giv [] rfl rfl rfl ⟨rfl,rfl,rfl⟩
  obtain ⟨n,rfl⟩ : ∃ k : Nat,n = k:=⟨n.toNat,by omega⟩
  obtain ⟨t,rfl⟩ : ∃ k : Nat,t = k:=⟨t.toNat,by omega⟩
  rw [Int.toNat_natCast,Int.toNat_natCast] at c_codewrightref24_Design
  have c_codewrightref24_Many:=S_codewrightref24_Many (n:=n) (k:=t) (by omega)
  by_cases h5 : 65536 < binom n t
  ·rw [decide_eq_true h5] at c_codewrightref24_Many
   have c_codewrightref24_Design:=fun {pa : Option Addr} {nb ca : Nat}=>c_codewrightref24_Design (pa:=pa) (nb:=nb) (ca:=ca) (fun _ _ _ _ h=>absurd h5 h)
   refine j_nf [_,_] rfl (j_run it 1 rfl (by simp) ?_)
   refine j_nf [_,_,_] rfl (j_run it 1 rfl (by simp) ?_)
   refine j_step rfl (x_call [0] rfl (c_codewrightlaw24_crowded) rfl ?_)
   rintro _ _ _ ⟨rfl,rfl,rfl⟩
   simp only [List.cons_append,List.nil_append]
   refine j_nf [_,_] rfl ?_
   refine j_false rfl rfl ?_
   refine j_nf [_,_,_] rfl (j_run it 7 rfl (by simp) ?_)
   refine j_split_dec (t:=19) rfl (fun h6=>?_) (fun h6=>by exfalso;omega)
   refine j_run it 9 rfl (by simp) ?_
   refine j_split_dec (t:=28) rfl (fun h7=>?_) (fun h7=>by exfalso;omega)
   refine j_run it 2 rfl (by simp) ?_
   refine j_gstep rfl rfl (x_call [] rfl (c_codewrightref24_Many) rfl ?_)
   rintro _ _ _ ⟨rfl,rfl,rfl⟩
   simp only [List.cons_append,List.nil_append]
   refine j_run it 6 rfl (by simp) ?_
   refine j_nf [_,_] rfl ?_
   refine j_false rfl rfl ?_
   refine j_nf [_,_] rfl (j_run it 3 rfl (by simp) ?_)
   refine j_step rfl (x_call [0] rfl (c_macwilliams_Design) rfl ?_)
   rintro _ _ _ ⟨rfl,rfl,rfl⟩
   simp only [List.cons_append,List.nil_append]
   refine j_run it 5 rfl (by simp) ?_
   refine j_nf [_,_] rfl (j_run it 3 rfl (by simp) ?_)
   refine j_step rfl (x_call [0] rfl (c_codewrightref24_Design) rfl ?_)
   rintro _ _ _ ⟨rfl,rfl,rfl⟩
   simp only [List.cons_append,List.nil_append]
   refine j_run it 5 rfl (by simp) ?_
   refine j_nf [_,_] rfl (j_run it 4 rfl (by simp) ?_)
   refine j_split_dec (t:=55) rfl (fun h8=>?_) (fun h8=>by exfalso;omega)
   refine j_run it 5 rfl (by simp) ?_
   refine j_nf [_] rfl ?_
   rw [decide_eq_true (show d2 = d2 from rfl)]
   refine j_giv [] rfl rfl rfl ⟨rfl,rfl,rfl⟩
  rw [decide_eq_false h5] at c_codewrightref24_Many
  by_cases h6 : 14 < n
  ·refine j_nf [_,_] rfl (j_run it 1 rfl (by simp) ?_)
   refine j_nf [_,_,_] rfl (j_run it 1 rfl (by simp) ?_)
   refine j_step rfl (x_call [0] rfl (c_codewrightlaw24_crowded) rfl ?_)
   rintro _ _ _ ⟨rfl,rfl,rfl⟩
   simp only [List.cons_append,List.nil_append]
   refine j_nf [_,_] rfl ?_
   refine j_false rfl rfl ?_
   refine j_nf [_,_,_] rfl (j_run it 7 rfl (by simp) ?_)
   refine j_split_dec (t:=19) rfl (fun h7=>?_) (fun h7=>by exfalso;omega)
   refine j_run it 9 rfl (by simp) ?_
   refine j_split_dec (t:=28) rfl (fun h8=>?_) (fun h8=>by exfalso;omega)
   refine j_run it 2 rfl (by simp) ?_
   refine j_gstep rfl rfl (x_call [] rfl (c_codewrightref24_Many) rfl ?_)
   rintro _ _ _ ⟨rfl,rfl,rfl⟩
   simp only [List.cons_append,List.nil_append]
   refine j_run it 6 rfl (by simp) ?_
   refine j_nf [_,_] rfl (j_if rfl rfl (fun h9=>?_) (fun h9=>by exfalso;omega))
   refine j_nf [_,_,_] rfl (j_run it 1 rfl (by simp) ?_)
   refine j_nf [_,_] rfl ?_
   refine j_giv [] rfl rfl rfl ⟨rfl,rfl,rfl⟩
  ·have c_codewrightref24_Design:=fun {pa : Option Addr} {nb ca : Nat}=>c_codewrightref24_Design (pa:=pa) (nb:=nb) (ca:=ca) (fun _ _ _ _ _=>by omega)
   refine j_nf [_,_] rfl (j_run it 1 rfl (by simp) ?_)
   refine j_nf [_,_,_] rfl (j_run it 1 rfl (by simp) ?_)
   refine j_step rfl (x_call [0] rfl (c_codewrightlaw24_crowded) rfl ?_)
   rintro _ _ _ ⟨rfl,rfl,rfl⟩
   simp only [List.cons_append,List.nil_append]
   refine j_nf [_,_] rfl ?_
   refine j_false rfl rfl ?_
   refine j_nf [_,_,_] rfl (j_run it 7 rfl (by simp) ?_)
   refine j_split_dec (t:=19) rfl (fun h7=>?_) (fun h7=>by exfalso;omega)
   refine j_run it 9 rfl (by simp) ?_
   refine j_split_dec (t:=28) rfl (fun h8=>?_) (fun h8=>by exfalso;omega)
   refine j_run it 2 rfl (by simp) ?_
   refine j_gstep rfl rfl (x_call [] rfl (c_codewrightref24_Many) rfl ?_)
   rintro _ _ _ ⟨rfl,rfl,rfl⟩
   simp only [List.cons_append,List.nil_append]
   refine j_run it 6 rfl (by simp) ?_
   refine j_nf [_,_] rfl (j_if rfl rfl (fun h9=>by exfalso;omega) (fun h9=>?_))
   refine j_nf [_,_] rfl (j_run it 3 rfl (by simp) ?_)
   refine j_step rfl (x_call [0] rfl (c_macwilliams_Design) rfl ?_)
   rintro _ _ _ ⟨rfl,rfl,rfl⟩
   simp only [List.cons_append,List.nil_append]
   refine j_run it 5 rfl (by simp) ?_
   refine j_nf [_,_] rfl (j_run it 3 rfl (by simp) ?_)
   refine j_step rfl (x_call [0] rfl (c_codewrightref24_Design) rfl ?_)
   rintro _ _ _ ⟨rfl,rfl,rfl⟩
   simp only [List.cons_append,List.nil_append]
   refine j_run it 5 rfl (by simp) ?_
   refine j_nf [_,_] rfl (j_run it 4 rfl (by simp) ?_)
   refine j_split_dec (t:=55) rfl (fun h10=>?_) (fun h10=>by exfalso;omega)
   refine j_run it 5 rfl (by simp) ?_
   refine j_nf [_] rfl ?_
   rw [decide_eq_true (show d2 = d2 from rfl)]
   refine j_giv [] rfl rfl rfl ⟨rfl,rfl,rfl⟩
end Go.Proofs.Ytmhcfhddmkhaiaa
