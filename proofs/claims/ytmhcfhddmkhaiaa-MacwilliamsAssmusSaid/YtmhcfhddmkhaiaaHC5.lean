/-
The document's DivMod and Gcd. The document's fractions: Make, Trim, Sign, Neg, Mul. The document's integers among the fractions: abs, Of, Int, Nat, Nil; Order. The program's sums of products with Krawtchouk numbers; wrong. The program's Transform. The program's Dual, some. Numbers of entries that are not zero; External and Strength of both sides. The document's fractions: Add, Sub, Cmp. The document's binomial coefficient. The document's binomial coefficient; the program's for all places. The document's power. Krawtchouk, the program's and the document's. The document's Transform; the program's with its errors; the law's large. The document's Total, Whole and Dual. Ranges of the layer delsarte; the document's Range and Words; distances of words. The document's fields: orders, primes, digits, values. The document's test for divisors of polynomials.
-/
import Derived.Test.YtmhcfhddmkhaiaaHC4
set_option linter.unusedVariables false
set_option linter.unusedSimpArgs false
namespace Go.Proofs.Ytmhcfhddmkhaiaa
open Go Go.Fw
set_option maxRecDepth 100000
set_option linter.unusedVariables false
set_option linter.unusedSimpArgs false
set_option maxHeartbeats 2000000
abbrev DivR (A B : Nat) : Value → List Fact → List Blk → Prop:=fun v Φ β=>∃ p1 c1 p2 c2,v = .tuple #[.slice p1 (limbs (A / B)).length c1,.slice p2 (limbs (A % B)).length c2] ∧ Φ = [slF U32 p1 (limbs (A / B)).length c1 (limbs (A / B)),slF U32 p2 (limbs (A % B)).length c2 (limbs (A % B))] ∧ β = []
theorem bitsL_blen {l : List Nat} (h : ∀ x ∈ l,x < 4294967296) : bitsL l = blen (val l):=by
 have ht:=trim_eq h
 rcases Nat.eq_zero_or_pos (trim l).length with h1 | h1
 ·rw [bitsL_nil h1]
  have:=List.eq_nil_of_length_eq_zero h1
  rw [ht,limbs_nil] at this
  rw [this,blen_zero]
 ·obtain ⟨k,hk⟩ : ∃ k,(trim l).length = k + 1:=⟨(trim l).length - 1,by omega⟩
  obtain ⟨t,hz,hz0⟩:=limbs_top (n:=val l) (k:=k) (by rw [← ht];exact hk)
  have hs:=top_split (by rw [← ht];exact hk) hz
  rw [val_limbs] at hs
  rw [← ht] at hz hs
  rw [bitsL_top (z:=t) (by rw [hk];exact hz),hk,Nat.add_sub_cancel]
  have hlow:=take_lt (l:=trim l) (k:=k) (by rw [ht];exact limbs_lt _) (by omega)
  have e : (4294967296 : Nat) ^ k = 2 ^ (32 * k):=by rw [Nat.pow_mul]
  rw [e] at hs hlow
  rw [hs,blen_div (32 * k) (val ((trim l).take k) + 2 ^ (32 * k) * t) (Nat.le_trans (Nat.le_mul_of_pos_right _ (Nat.pos_of_ne_zero hz0)) (Nat.le_add_left _ _)),Nat.add_mul_div_left _ _ (Nat.pow_pos (by decide)),Nat.div_eq_of_lt hlow,Nat.zero_add,Nat.add_comm]
theorem bits_le {l : List Nat} (h : ∀ x ∈ l,x < 4294967296) : bitsL l ≤ 32 * l.length:=by
 rw [bitsL_blen h]
 have:=val_lt h
 exact blen_le (by rw [Nat.pow_mul];exact this)
theorem bit_step {A B Q R s i : Nat} (h : A = Q * B + R) (hR : R < B * 2 ^ (i + 1)) (hs : s = 2 ^ i) (hge : B * s ≤ R) : A = (Q + s) * B + (R - B * s) ∧ R - B * s < B * 2 ^ i:=by
 subst hs
 rw [Nat.pow_succ,← Nat.mul_assoc] at hR
 constructor
 ·rw [Nat.add_mul,Nat.mul_comm (2 ^ i) B];omega
 ·omega
theorem S_codewrightref01_DivMod {pa pb : Option Addr} {n m ca cb : Nat} {a b : List Nat} (hal : a.length ≤ 1073741824) (hbl : b.length ≤ 1073741824) (hb0 : val b ≠ 0) :
  Ctr Try.prog 67 [.slice pa n ca,.slice pb m cb] [] [slF U32 pa n ca a,slF U32 pb m cb b] (DivR (val a) (val b)):=by
 refine Ctr_of_j' (F:=F_codewrightref01_DivMod) rfl fun C=>?_
 refine j_len 0 rfl fun hn hba _=>?_
 refine j_len 1 rfl fun hm hbb _=>?_
 subst hn;subst hm
 refine j_range 0 rfl fun hra=>?_
 refine j_range 1 rfl fun hrb=>?_
 have ha : ∀ x ∈ a,x < 4294967296:=fun x hx=>by have:=hra x hx;simp only [InR] at this;omega
 have hb : ∀ x ∈ b,x < 4294967296:=fun x hx=>by have:=hrb x hx;simp only [InR] at this;omega
 have ea:=trim_eq ha
 have lla:=trim_length_le a
 have ba:=bits_le ha
 have bb:=bits_le hb
 have eba:=bitsL_blen ha
 have ebb:=bitsL_blen hb
 have hst : val a < val b * 2 ^ ((bitsL a : Int) - bitsL b + 1).toNat:=by
  have h1:=blen_lt (val a)
  have h2:=blen_ge hb0
  rw [eba,ebb]
  have h3 : 2 ^ (blen (val b) - 1) * 2 ^ ((blen (val a) : Int) - blen (val b) + 1).toNat ≤ val b * 2 ^ ((blen (val a) : Int) - blen (val b) + 1).toNat:=Nat.mul_le_mul_right _ h2
  rw [← Nat.pow_add] at h3
  have h4 : 2 ^ blen (val a) ≤ 2 ^ (blen (val b) - 1 + ((blen (val a) : Int) - blen (val b) + 1).toNat):=Nat.pow_le_pow_right (by decide) (by omega)
  omega
 refine j_nf [_,_] rfl (j_run it 2 rfl (by simp) ?_)
 refine j_nf [_,_] rfl (j_run it 1 rfl (by simp) ?_)
 refine j_step rfl (x_call [0] rfl (S_codewrightref01_Trim) rfl ?_)
 rintro _ _ _ ⟨pa1,ca1,rfl,rfl,rfl⟩
 simp only [List.cons_append,List.nil_append]
 refine j_run it 1 rfl (by simp) ?_
 refine j_nf [_,_] rfl (j_run it 1 rfl (by simp) ?_)
 refine j_step rfl (x_call [1] rfl (S_codewrightref01_Bits) rfl ?_)
 rintro _ _ _ ⟨rfl,rfl,rfl⟩
 simp only [List.cons_append,List.nil_append]
 refine j_run it 1 rfl (by simp) ?_
 refine j_step rfl (x_call [2] rfl (S_codewrightref01_Bits) rfl ?_)
 rintro _ _ _ ⟨rfl,rfl,rfl⟩
 simp only [List.cons_append,List.nil_append]
 refine j_run it 2 rfl ⟨trivial,⟨by omega,by omega⟩,trivial⟩ ?_
 refine j_nf [_,_,_] rfl (j_run it 2 rfl (by simp) ?_)
 refine j_nf [_,_,_] rfl ?_
 rw [ea]
 rw [ea] at lla
 refine j_add (slF U32 none (limbs 0).length 0 (limbs 0)) (fun w A _=>by rw [limbs_zero];exact slF_nil _ _ _ _ _) ?_
 refine j_loopG (X:=Int × Nat × Nat × (Option Addr × Nat) × (Option Addr × Nat)) [1] [3] (fun x=>[(4,.slice x.2.2.2.1.1 (limbs x.2.1).length x.2.2.2.1.2),(5,.slice x.2.2.2.2.1 (limbs x.2.2.1).length x.2.2.2.2.2),(7,.int .i64 (x.1 - 1))]) (fun _=>[])
  (fun x=>[slF U32 x.2.2.2.1.1 (limbs x.2.1).length x.2.2.2.1.2 (limbs x.2.1),slF U32 x.2.2.2.2.1 (limbs x.2.2.1).length x.2.2.2.2.2 (limbs x.2.2.1)])
  (fun x=>x.1 ≤ (bitsL a : Int) - bitsL b + 1 ∧ val a = x.2.1 * val b + x.2.2.1 ∧ x.2.2.1 < val b * 2 ^ x.1.toNat ∧ -34359738368 ≤ x.1)
  (fun x=>x.1.toNat) ((bitsL a : Int) - bitsL b + 1,0,val a,(none,0),(pa1,ca1)) [0,1] rfl rfl rfl ⟨Int.le_refl _,by simp,hst,by dsimp only;omega⟩ (by rw [limbs_zero];repeat (first | exact Fr.sub_nil _ | refine Fr.sub_cons rfl ?_ | refine Fr.sub_consI rfl (by dsimp only;omega) ?_)) rfl rfl ?_
 rintro ⟨i,Q,R,⟨pq,cq⟩,⟨pr,cr⟩⟩ ⟨hi,hA,hR,hi2⟩ ih
 simp only [List.cons_append,List.nil_append] at hi hA hR hi2 ih ⊢
 by_cases hi0 : 0 < i
 ·obtain ⟨j,rfl⟩ : ∃ j : Nat,i = (j : Int) + 1:=⟨(i - 1).toNat,by omega⟩
  rw [show ((j : Int) + 1 - 1) = (j : Int) by omega]
  rw [show ((j : Int) + 1).toNat = j + 1 by omega] at hR
  have hjn : j ≤ 1099511627776:=by omega
  have hRa : R ≤ val a:=by rw [hA];exact Nat.le_add_left _ _
  have hQa : Q ≤ val a:=by
   have : Q * 1 ≤ Q * val b:=Nat.mul_le_mul_left _ (Nat.pos_of_ne_zero hb0)
   omega
  have lQ:=limbs_mono lla hQa
  by_cases hc : val b * 2 ^ j ≤ R
  ·have hcc : 0 ≤ cmpN (val (limbs R)) (val (limbs (val b * 2 ^ j))):=by rw [val_limbs,val_limbs];unfold cmpN;split <;> (try split) <;> omega
   have hle : val (limbs (val b * 2 ^ j)) ≤ val (limbs R):=by rw [val_limbs,val_limbs];exact hc
   obtain ⟨hA',hR'⟩:=bit_step hA hR rfl hc
   have lQ2 : (limbs (2 ^ j)).length ≤ 1073741824:=limbs_mono (Nat.le_trans lla hal) (by
    have : 1 * 2 ^ j ≤ val b * 2 ^ j:=Nat.mul_le_mul_right _ (Nat.pos_of_ne_zero hb0)
    omega)
   have e1 : val [1] * 2 ^ j = 2 ^ j:=by simp [val]
   refine j_nf [_,_,_,_,_,_] rfl (j_run it 2 rfl (by simp) ?_)
   refine j_nf [_,_,_,_,_] rfl (j_if rfl rfl (fun h1=>?_) (fun h1=>by exfalso;omega))
   refine j_nf [_,_,_,_,_,_,_] rfl (j_run it 2 rfl (by simp) ?_)
   refine j_step rfl (x_call [2] rfl (S_codewrightref01_shift (by omega) (by omega)) rfl ?_)
   rintro _ _ _ ⟨pa2,ca2,rfl,rfl,rfl⟩
   simp only [List.cons_append,List.nil_append]
   refine j_run it 1 rfl (by simp) ?_
   refine j_nf [_,_,_,_,_,_,_] rfl (j_run it 2 rfl (by simp) ?_)
   refine j_step rfl (x_call [2,0] rfl (S_codewrightref01_Cmp) rfl ?_)
   rintro _ _ _ ⟨rfl,rfl,rfl⟩
   simp only [List.cons_append,List.nil_append]
   refine j_run it 1 rfl (by simp) ?_
   refine j_nf [_,_,_,_,_,_] rfl (j_if rfl rfl (fun h2=>?_) (fun h2=>by exfalso;omega))
   refine j_nf [_,_,_,_,_,_,_] rfl (j_run it 2 rfl (by simp) ?_)
   refine j_step rfl (x_call [2,0] rfl (S_codewrightref01_Sub (by omega)) rfl ?_)
   rintro _ _ _ ⟨pa3,ca3,rfl,rfl,rfl⟩
   simp only [List.cons_append,List.nil_append]
   refine j_run it 1 rfl (by simp) ?_
   refine j_nf [_,_,_,_,_,_] rfl (j_run it 1 rfl (by simp) ?_)
   refine j_step rfl (x_lit sl48 zo48e rfl rfl rfl rfl (by decide) (by decide) rfl fun b1=>?_)
   refine j_run it 1 rfl (by simp) ?_
   refine j_pub_made (n:=1) (kd:=IntKind.u32) 4 [1] 0 rfl rfl (by first | (simp [InR];done) | (simp only [InR,List.mem_cons,List.not_mem_nil,or_false,forall_eq_or_imp,forall_eq];omega)) (by decide) (by decide) ?_
   refine j_step rfl (x_call [0] rfl (S_codewrightref01_shift (by simp) (by omega)) rfl ?_)
   rintro _ _ _ ⟨pa4,ca4,rfl,rfl,rfl⟩
   simp only [List.cons_append,List.nil_append] --ok
   rw [e1]
   refine j_step rfl (x_call [4,0] rfl (S_codewrightref01_Add (by omega) (by omega)) rfl ?_)
   rintro _ _ _ ⟨pa5,ca5,rfl,rfl,rfl⟩
   simp only [List.cons_append,List.nil_append]
   refine j_run it 1 rfl (by simp) ?_
   refine j_nf [_,_,_,_] rfl (j_run it 3 rfl ⟨trivial,⟨by omega,by omega⟩,trivial,trivial⟩ ?_)
   refine j_nfn 1 [.lp (pL 244),.blk 0,.c [1,1,1,1]] rfl ?_
   simp only [val_limbs]
   refine j_to [0,3,7] (by exact fra rfl) rfl rfl (ih ((j : Int),Q + 2 ^ j,R - val b * 2 ^ j,(pa5,ca5),(pa3,ca3)) (by dsimp only;omega) ⟨by dsimp only;omega,hA',by dsimp only;rw [Int.toNat_natCast];exact hR',by dsimp only;omega⟩)
  ·have hcc : ¬ 0 ≤ cmpN (val (limbs R)) (val (limbs (val b * 2 ^ j))):=by rw [val_limbs,val_limbs,cmpN_lt (by omega)];decide
   refine j_nf [_,_,_,_,_,_] rfl (j_run it 2 rfl (by simp) ?_)
   refine j_nf [_,_,_,_,_] rfl (j_if rfl rfl (fun h1=>?_) (fun h1=>by exfalso;omega))
   refine j_nf [_,_,_,_,_,_,_] rfl (j_run it 2 rfl (by simp) ?_)
   refine j_step rfl (x_call [2] rfl (S_codewrightref01_shift (by omega) (by omega)) rfl ?_)
   rintro _ _ _ ⟨pa2,ca2,rfl,rfl,rfl⟩
   simp only [List.cons_append,List.nil_append]
   refine j_run it 1 rfl (by simp) ?_
   refine j_nf [_,_,_,_,_,_,_] rfl (j_run it 2 rfl (by simp) ?_)
   refine j_step rfl (x_call [2,0] rfl (S_codewrightref01_Cmp) rfl ?_)
   rintro _ _ _ ⟨rfl,rfl,rfl⟩
   simp only [List.cons_append,List.nil_append]
   refine j_run it 1 rfl (by simp) ?_
   refine j_nf [_,_,_,_,_,_] rfl (j_if rfl rfl (fun h2=>by exfalso;omega) (fun h2=>?_))
   refine j_nf [_,_,_,_] rfl (j_run it 3 rfl ⟨trivial,⟨by omega,by omega⟩,trivial,trivial⟩ ?_)
   refine j_nfn 1 [.lp (pL 244),.blk 0,.c [1,1,1,1]] rfl ?_
   refine j_to [1,2,3] (by exact fra rfl) rfl rfl (ih ((j : Int),Q,R,(pq,cq),(pr,cr)) (by dsimp only;omega) ⟨by dsimp only;omega,hA,by dsimp only;rw [Int.toNat_natCast];omega,by dsimp only;omega⟩)
 ·have e0 : i.toNat = 0:=by omega
  rw [e0,Nat.pow_zero,Nat.mul_one] at hR
  have hQ : Q = val a / val b:=by
   rw [hA,Nat.mul_comm,Nat.mul_add_div (Nat.pos_of_ne_zero hb0),Nat.div_eq_of_lt hR,Nat.add_zero]
  have hRR : R = val a % val b:=by
   rw [hA,Nat.mul_comm,Nat.mul_add_mod,Nat.mod_eq_of_lt hR]
  refine j_nf [_,_,_,_,_,_] rfl (j_run it 2 rfl (by simp) ?_)
  refine j_nf [_,_,_,_,_] rfl (j_if rfl rfl (fun h1=>by exfalso;omega) (fun h1=>?_))
  refine j_nf [_,_] rfl (j_run it 1 rfl (by simp) ?_)
  refine j_step rfl (x_call [0] rfl (S_codewrightref01_Trim) rfl ?_)
  rintro _ _ _ ⟨pa2,ca2,rfl,rfl,rfl⟩
  simp only [List.cons_append,List.nil_append]
  refine j_run it 3 rfl (by simp) ?_
  refine j_nf [_] rfl ?_
  rw [trim_limbs,hQ,hRR]
  refine j_giv [0,2] rfl rfl rfl ⟨_,_,_,_,rfl,rfl,rfl⟩
theorem S_codewrightref01_Gcd {pa pb : Option Addr} {n m ca cb : Nat} {a b : List Nat} (hal : a.length ≤ 1073741824) (hbl : b.length ≤ 1073741824) :
  Ctr Try.prog 66 [.slice pa n ca,.slice pb m cb] [] [slF U32 pa n ca a,slF U32 pb m cb b] (Sv U32 (limbs (Nat.gcd (val a) (val b)))):=by
 refine Ctr_of_j' (F:=F_codewrightref01_Gcd) rfl fun C=>?_
 refine j_len 0 rfl fun hn hba _=>?_
 refine j_len 1 rfl fun hm hbb _=>?_
 subst hn;subst hm
 refine j_nf [_,_] rfl (j_run it 1 rfl (by simp) ?_)
 refine j_nf [_,_,_] rfl ?_
 refine j_loopG (X:=List Nat × List Nat × (Option Addr × Nat) × (Option Addr × Nat)) [4] [] (fun x=>[(0,.slice x.2.2.1.1 x.1.length x.2.2.1.2),(1,.slice x.2.2.2.1 x.2.1.length x.2.2.2.2)]) (fun _=>[]) (fun x=>[slF U32 x.2.2.1.1 x.1.length x.2.2.1.2 x.1,slF U32 x.2.2.2.1 x.2.1.length x.2.2.2.2 x.2.1])
  (fun x=>x.1.length ≤ 1073741824 ∧ x.2.1.length ≤ 1073741824 ∧ Nat.gcd (val x.1) (val x.2.1) = Nat.gcd (val a) (val b)) (fun x=>val x.2.1) (a,b,(pa,ca),(pb,cb)) [0,1] rfl rfl rfl ⟨hal,hbl,rfl⟩ (by repeat (first | exact Fr.sub_nil _ | refine Fr.sub_cons rfl ?_)) rfl rfl ?_
 rintro ⟨x,y,⟨px,cx⟩,⟨py,cy⟩⟩ ⟨hx,hy,hg⟩ ih
 simp only [List.cons_append,List.nil_append] at hx hy hg ih ⊢
 refine j_range 0 rfl fun hrx=>?_
 refine j_range 1 rfl fun hry=>?_
 have hxB : ∀ z ∈ x,z < 4294967296:=fun z hz=>by have:=hrx z hz;simp only [InR] at this;omega
 have hyB : ∀ z ∈ y,z < 4294967296:=fun z hz=>by have:=hry z hz;simp only [InR] at this;omega
 have ey:=trim_eq hyB
 have ex:=trim_eq hxB
 have ly:=trim_length_le y
 by_cases hy0 : val y = 0
 ·have e0 : (trim y).length = 0:=by rw [ey,hy0,limbs_zero];rfl
  refine j_nf [_,_,_,_,_,_] rfl (j_run it 1 rfl (by simp) ?_)
  refine j_step rfl (x_call [1] rfl (S_codewrightref01_Zero) rfl ?_)
  rintro _ _ _ ⟨rfl,rfl,rfl⟩
  simp only [List.cons_append,List.nil_append]
  refine j_run it 1 rfl (by simp) ?_
  refine j_nf [_,_,_,_,_] rfl (j_ifn rfl rfl (fun h1=>by exfalso;omega) (fun h1=>?_))
  refine j_nf [_,_] rfl (j_run it 1 rfl (by simp) ?_)
  refine j_step rfl (x_call [0] rfl (S_codewrightref01_Trim) rfl ?_)
  rintro _ _ _ ⟨pa1,ca1,rfl,rfl,rfl⟩
  simp only [List.cons_append,List.nil_append]
  refine j_run it 1 rfl (by simp) ?_
  refine j_nf [_] rfl ?_
  rw [ex,show val x = Nat.gcd (val a) (val b) by rw [← hg,hy0,Nat.gcd_zero_right]]
  refine j_giv [0] rfl rfl rfl ⟨_,_,rfl,rfl,rfl⟩
 ·have e0 : 0 < (trim y).length:=by rw [ey];exact List.length_pos_iff.2 (fun h=>hy0 (limbs_nil.1 h))
  have hm : val x % val y < val y:=Nat.mod_lt _ (Nat.pos_of_ne_zero hy0)
  refine j_nf [_,_,_,_,_,_] rfl (j_run it 1 rfl (by simp) ?_)
  refine j_step rfl (x_call [1] rfl (S_codewrightref01_Zero) rfl ?_)
  rintro _ _ _ ⟨rfl,rfl,rfl⟩
  simp only [List.cons_append,List.nil_append]
  refine j_run it 1 rfl (by simp) ?_
  refine j_nf [_,_,_,_,_] rfl (j_ifn rfl rfl (fun h1=>?_) (fun h1=>by exfalso;omega))
  refine j_nf [_,_,_,_,_,_] rfl (j_run it 2 rfl (by simp) ?_)
  refine j_step rfl (x_call [0,1] rfl (S_codewrightref01_DivMod (by omega) (by omega) (by omega)) rfl ?_)
  rintro _ _ _ ⟨p11,c11,p21,c21,rfl,rfl,rfl⟩
  simp only [List.cons_append,List.nil_append]
  refine j_run it 5 rfl (by simp) ?_
  refine j_nf [_,_,_,_,_,_] rfl (j_run it 2 rfl (by simp) ?_)
  refine j_nf [_,_,_,_,_] rfl (j_run it 2 rfl (by simp) ?_)
  refine j_nfn 2 [.lp [1,0,0,0],.blk 0,.c [1,1]] rfl ?_
  refine j_to [3,1] (by exact fra rfl) rfl rfl (ih (y,limbs (val x % val y),(py,cy),(p21,c21)) (by dsimp only;rw [val_limbs];exact hm) ⟨hy,by
   dsimp only
   rw [ey] at ly
   exact limbs_mono (Nat.le_trans ly hy) (Nat.le_of_lt hm),by dsimp only;rw [val_limbs,← hg];exact (Nat.gcd_comm _ _).trans ((Nat.gcd_rec (val y) (val x)).symm.trans (Nat.gcd_comm _ _))⟩)
theorem S_codewrightref02_Make {neg : Bool} {pn pd : Option Addr} {n m cn cd : Nat} {N D : List Nat} (hN : N.length ≤ 1073741824) (hD : D.length ≤ 1073741824) :
  Ctr Try.prog 42 [.bool neg,.slice pn n cn,.slice pd m cd] [] [slF U32 pn n cn N,slF U32 pd m cd D] (RtV (rt (vq (neg,N,D)))):=by
 refine Ctr_of_j' (F:=F_codewrightref02_Make) rfl fun C=>?_
 refine j_len 0 rfl fun hn hba _=>?_
 refine j_len 1 rfl fun hm hbb _=>?_
 subst hn;subst hm
 refine j_range 0 rfl fun hra=>?_
 refine j_range 1 rfl fun hrb=>?_
 have ha:=lim hra
 have hb:=lim hrb
 have ea:=trim_eq ha
 have eb:=trim_eq hb
 have za : (trim N).length = 0 ↔ val N = 0:=by rw [ea];exact ⟨fun h=>limbs_nil.1 (List.eq_nil_of_length_eq_zero h),fun h=>by rw [h,limbs_zero];rfl⟩
 have zb : (trim D).length = 0 ↔ val D = 0:=by rw [eb];exact ⟨fun h=>limbs_nil.1 (List.eq_nil_of_length_eq_zero h),fun h=>by rw [h,limbs_zero];rfl⟩
 have zero : val N = 0 ∨ val D = 0 → rt (vq (neg,N,D)) = (false,[],[1]):=fun h=>by rw [vq_eq,mk_zero h,rt_zero]
 by_cases h1 : (trim N).length = 0
 ·have e:=zero (.inl (za.1 h1))
  refine j_nf [_,_] rfl (j_step rfl (x_alloc zo72 fun b1=>?_))
  refine j_nf [_,_,_] rfl (j_run it 1 rfl (by simp) ?_)
  refine j_step rfl (x_call [0] rfl (S_codewrightref01_Zero) rfl ?_)
  rintro _ _ _ ⟨rfl,rfl,rfl⟩
  simp only [List.cons_append,List.nil_append]
  refine j_run it 1 rfl (by simp) ?_
  refine j_split_dec (t:=14) rfl (fun h2=>?_) (fun h2=>by exfalso;omega)
  refine j_run it 3 rfl (by simp) ?_
  refine j_nf [_,_] rfl ?_
  refine j_true rfl rfl ?_
  refine j_nf [_,_,_] rfl (j_step rfl (x_lit0 sl48 fun b2=>?_))
  refine j_step rfl (x_lit sl48 zo48e rfl rfl rfl rfl (by decide) (by decide) rfl fun b3=>?_)
  refine j_step rfl (x_build (cs:=[Value.bool false,Value.slice (some { block:=b2,off:=0 }) 0 0,Value.slice (some { block:=b3,off:=0 }) 1 1]) st72 zo72 rfl rfl ?_)
  refine j_step rfl (x_bst_all 2 rfl rfl rfl ld72 rfl rfl (by simp [Value.oneCell']) ?_)
  refine j_nf [_,_] rfl ?_
  refine j_pub_made (n:=1) (kd:=.u32) 4 [1] 0 rfl rfl (by simp [InR]) (by decide) (by decide) ?_
  refine j_add (slF U32 (some ⟨b2,0,none⟩) 0 0 []) (fun w A _=>slF_nil _ _ _ _ _) ?_
  refine j_givC [0,1] rfl (.agg 1 rfl rfl ld72 rfl .nil) rfl ⟨_,_,_,_,by rw [e];rfl,by rw [e];rfl,rfl⟩
 by_cases h2 : (trim D).length = 0
 ·have e:=zero (.inr (zb.1 h2))
  refine j_nf [_,_] rfl (j_step rfl (x_alloc zo72 fun b1=>?_))
  refine j_nf [_,_,_] rfl (j_run it 1 rfl (by simp) ?_)
  refine j_step rfl (x_call [0] rfl (S_codewrightref01_Zero) rfl ?_)
  rintro _ _ _ ⟨rfl,rfl,rfl⟩
  simp only [List.cons_append,List.nil_append]
  refine j_run it 1 rfl (by simp) ?_
  refine j_split_dec (t:=14) rfl (fun h3=>by exfalso;omega) (fun h3=>?_)
  refine j_run it 1 rfl (by simp) ?_
  refine j_gstep rfl rfl (x_call [1] rfl (S_codewrightref01_Zero) rfl ?_)
  rintro _ _ _ ⟨rfl,rfl,rfl⟩
  simp only [List.cons_append,List.nil_append]
  refine j_run it 1 rfl (by simp) ?_
  refine j_nf [_,_] rfl (j_if rfl rfl (fun h4=>?_) (fun h4=>by exfalso;omega))
  refine j_nf [_,_,_] rfl (j_step rfl (x_lit0 sl48 fun b2=>?_))
  refine j_step rfl (x_lit sl48 zo48e rfl rfl rfl rfl (by decide) (by decide) rfl fun b3=>?_)
  refine j_step rfl (x_build (cs:=[Value.bool false,Value.slice (some { block:=b2,off:=0 }) 0 0,Value.slice (some { block:=b3,off:=0 }) 1 1]) st72 zo72 rfl rfl ?_)
  refine j_step rfl (x_bst_all 2 rfl rfl rfl ld72 rfl rfl (by simp [Value.oneCell']) ?_)
  refine j_nf [_,_] rfl ?_
  refine j_pub_made (n:=1) (kd:=.u32) 4 [1] 0 rfl rfl (by simp [InR]) (by decide) (by decide) ?_
  refine j_add (slF U32 (some ⟨b2,0,none⟩) 0 0 []) (fun w A _=>slF_nil _ _ _ _ _) ?_
  refine j_givC [0,1] rfl (.agg 1 rfl rfl ld72 rfl .nil) rfl ⟨_,_,_,_,by rw [e];rfl,by rw [e];rfl,rfl⟩
 ·have v1 : val N ≠ 0:=fun h=>h1 (za.2 h)
  have v2 : val D ≠ 0:=fun h=>h2 (zb.2 h)
  have hg : val (limbs (Nat.gcd (val N) (val D))) ≠ 0:=by
   rw [val_limbs]
   have:=Nat.gcd_pos_of_pos_left (val D) (Nat.pos_of_ne_zero v1)
   omega
  have e : rt (vq (neg,N,D)) = (neg,limbs (val N / val (limbs (Nat.gcd (val N) (val D)))),limbs (val D / val (limbs (Nat.gcd (val N) (val D))))):=by
   rw [vq_eq,rt_mk v1 v2,val_limbs]
  have hgl : (limbs (Nat.gcd (val N) (val D))).length ≤ 1073741824:=limbs_mono (Nat.le_trans (by rw [← ea];exact trim_length_le N) hN) (Nat.gcd_le_left _ (Nat.pos_of_ne_zero v1))
  refine j_nf [_,_] rfl (j_step rfl (x_alloc zo72 fun b1=>?_))
  refine j_nf [_,_,_] rfl (j_run it 1 rfl (by simp) ?_)
  refine j_step rfl (x_call [0] rfl (S_codewrightref01_Zero) rfl ?_)
  rintro _ _ _ ⟨rfl,rfl,rfl⟩
  simp only [List.cons_append,List.nil_append]
  refine j_run it 1 rfl (by simp) ?_
  refine j_split_dec (t:=14) rfl (fun h3=>by exfalso;omega) (fun h3=>?_)
  refine j_run it 1 rfl (by simp) ?_
  refine j_gstep rfl rfl (x_call [1] rfl (S_codewrightref01_Zero) rfl ?_)
  rintro _ _ _ ⟨rfl,rfl,rfl⟩
  simp only [List.cons_append,List.nil_append]
  refine j_run it 1 rfl (by simp) ?_
  refine j_nf [_,_] rfl (j_if rfl rfl (fun h4=>by exfalso;omega) (fun h4=>?_))
  refine j_nf [_,_] rfl (j_run it 2 rfl (by simp) ?_)
  refine j_step rfl (x_call [0,1] rfl (S_codewrightref01_Gcd (by omega) (by omega)) rfl ?_)
  rintro _ _ _ ⟨pa1,ca1,rfl,rfl,rfl⟩
  simp only [List.cons_append,List.nil_append]
  refine j_run it 1 rfl (by simp) ?_
  refine j_nf [_,_] rfl (j_run it 2 rfl (by simp) ?_)
  refine j_step rfl (x_call [1,0] rfl (S_codewrightref01_DivMod (by omega) (by omega) (by omega)) rfl ?_)
  rintro _ _ _ ⟨p11,c11,p21,c21,rfl,rfl,rfl⟩
  simp only [List.cons_append,List.nil_append]
  refine j_run it 5 rfl (by simp) ?_
  refine j_nf [_,_] rfl (j_run it 2 rfl (by simp) ?_)
  refine j_step rfl (x_call [4,2] rfl (S_codewrightref01_DivMod (by omega) (by omega) (by omega)) rfl ?_)
  rintro _ _ _ ⟨p12,c12,p22,c22,rfl,rfl,rfl⟩
  simp only [List.cons_append,List.nil_append]
  refine j_run it 5 rfl (by simp) ?_
  refine j_nf [_,_] rfl (j_run it 3 rfl (by simp) ?_)
  refine j_step rfl (x_build (cs:=[Value.bool neg,Value.slice p11 (limbs (val N / val (limbs ((val N).gcd (val D))))).length c11,Value.slice p12 (limbs (val D / val (limbs ((val N).gcd (val D))))).length c12]) st72 zo72 rfl rfl ?_)
  refine j_step rfl (x_bst_all 0 rfl rfl rfl ld72 rfl rfl (by simp [Value.oneCell']) ?_)
  refine j_nf [_] rfl ?_
  refine j_givC [2,0] rfl (.agg 0 rfl rfl ld72 rfl .nil) rfl ⟨p11,c11,p12,c12,by rw [e];rfl,by rw [e],rfl⟩
theorem S_codewrightref02_Trim {neg : Bool} {pn pd : Option Addr} {n m cn cd : Nat} {N D : List Nat} (hN : N.length ≤ 1073741824) (hD : D.length ≤ 1073741824) :
  Ctr Try.prog 72 [.agg #[.bool neg,.slice pn n cn,.slice pd m cd]] [] [slF U32 pn n cn N,slF U32 pd m cd D] (RtV (rt (vq (neg,N,D)))):=by
 refine Ctr_of_j' (F:=F_codewrightref02_Trim) rfl fun C=>?_
 refine j_nf [_,_] rfl (j_step rfl (x_box_agg rfl fun b1=>?_))
 refine j_step rfl (x_alloc zo72 fun b2=>?_)
 refine j_nf [_,_] rfl (j_step rfl (x_field rfl fd72_0 ?_))
 refine j_step rfl (x_bld 1 rfl rfl ld4 rfl ?_)
 refine j_step rfl (x_field rfl fd72_1 ?_)
 refine j_step rfl (x_bld 1 rfl rfl ld48 rfl ?_)
 refine j_step rfl (x_field rfl fd72_2 ?_)
 refine j_step rfl (x_bld 1 rfl rfl ld48 rfl ?_)
 refine j_step rfl (x_call [0,1] rfl (S_codewrightref02_Make (by omega) (by omega)) rfl ?_)
 rintro _ _ _ ⟨pn1,cn1,pd1,cd1,rfl,rfl,rfl⟩
 simp only [List.cons_append,List.nil_append]
 refine j_step rfl (x_bst_all 0 rfl rfl rfl ld72 rfl rfl (by simp [Value.oneCell']) ?_)
 refine j_nf [_] rfl ?_
 refine j_givC [0,1] rfl (.agg 0 rfl rfl ld72 rfl .nil) rfl ⟨_,_,_,_,rfl,rfl,rfl⟩
theorem S_codewrightref02_Neg {neg : Bool} {pn pd : Option Addr} {n m cn cd : Nat} {N D : List Nat} (hN : N.length ≤ 1073741824) (hD : D.length ≤ 1073741824) :
  Ctr Try.prog 92 [.agg #[.bool neg,.slice pn n cn,.slice pd m cd]] [] [slF U32 pn n cn N,slF U32 pd m cd D] (RtV (rt (-vq (neg,N,D)))):=by
 refine Ctr_of_j' (F:=F_codewrightref02_Neg) rfl fun C=>?_
 refine j_len 0 rfl fun hn _ _=>?_
 refine j_len 1 rfl fun hm _ _=>?_
 subst hn;subst hm
 refine j_range 0 rfl fun hra=>?_
 refine j_range 1 rfl fun hrb=>?_
 obtain ⟨k1,k2⟩:=rt_len (g:=neg) (lim hra) (lim hrb) hN hD (by decide)
 have e : vq (!(rt (vq (neg,N,D))).1,(rt (vq (neg,N,D))).2.1,(rt (vq (neg,N,D))).2.2) = -vq (neg,N,D):=by
  rw [vq_eq,neg_mk];congr 1;exact vq_rt _
 refine j_nf [_,_] rfl (j_step rfl (x_box_agg rfl fun b1=>?_))
 refine j_step rfl (x_alloc zo72 fun b2=>?_)
 refine j_nf [_,_] rfl (j_step rfl (x_bld_all 1 rfl rfl ld72 rfl ?_))
 refine j_step rfl (x_call [0,1] rfl (S_codewrightref02_Trim (by omega) (by omega)) rfl ?_)
 rintro _ _ _ ⟨pn1,cn1,pd1,cd1,rfl,rfl,rfl⟩
 simp only [List.cons_append,List.nil_append]
 refine j_step rfl (x_bst_all 1 rfl rfl rfl ld72 rfl rfl (by simp [Value.oneCell']) ?_)
 refine j_nf [_,_] rfl (j_step rfl (x_field rfl fd72_0 ?_))
 refine j_step rfl (x_bld 1 rfl rfl ld4 rfl ?_)
 refine j_run it 1 rfl (by simp) ?_
 refine j_step rfl (x_field rfl fd72_1 ?_)
 refine j_step rfl (x_bld 1 rfl rfl ld48 rfl ?_)
 refine j_step rfl (x_field rfl fd72_2 ?_)
 refine j_step rfl (x_bld 1 rfl rfl ld48 rfl ?_)
 refine j_step rfl (x_call [0,1] rfl (S_codewrightref02_Make (by omega) (by omega)) rfl ?_)
 rintro _ _ _ ⟨pn2,cn2,pd2,cd2,rfl,rfl,rfl⟩
 simp only [List.cons_append,List.nil_append]
 refine j_step rfl (x_bst_all 0 rfl rfl rfl ld72 rfl rfl (by simp [Value.oneCell']) ?_)
 refine j_nf [_] rfl ?_
 rw [e]
 refine j_givC [0,1] rfl (.agg 0 rfl rfl ld72 rfl .nil) rfl ⟨_,_,_,_,rfl,rfl,rfl⟩
theorem mul_rt (p q : Rat) : vq ((rt p).1 != (rt q).1,limbs (val (rt p).2.1 * val (rt q).2.1),limbs (val (rt p).2.2 * val (rt q).2.2)) = p * q:=by
 rw [vq_eq]
 simp only [val_limbs,num_rt,den_rt,neg_rt]
 exact mul_mk _ _
theorem limbs_of {l : List Nat} {k : Nat} {x : Nat} (h : l = limbs x) (hl : l.length ≤ k) : (limbs (val l)).length ≤ k:=by subst h;rw [val_limbs];exact hl
theorem S_codewrightref02_Mul {g1 g2 : Bool} {pn1 pd1 pn2 pd2 : Option Addr} {n1 m1 n2 m2 cn1 cd1 cn2 cd2 : Nat} {N1 D1 N2 D2 : List Nat}
  (l1 : N1.length ≤ 134217728) (l2 : D1.length ≤ 134217728) (l3 : N2.length ≤ 134217728) (l4 : D2.length ≤ 134217728) :
  Ctr Try.prog 70 [.agg #[.bool g1,.slice pn1 n1 cn1,.slice pd1 m1 cd1],.agg #[.bool g2,.slice pn2 n2 cn2,.slice pd2 m2 cd2]] [] [slF U32 pn1 n1 cn1 N1,slF U32 pd1 m1 cd1 D1,slF U32 pn2 n2 cn2 N2,slF U32 pd2 m2 cd2 D2] (RtV (rt (vq (g1,N1,D1) * vq (g2,N2,D2)))):=by
 refine Ctr_of_j' (F:=F_codewrightref02_Mul) rfl fun C=>?_
 refine j_range 0 rfl fun r1=>?_
 refine j_range 1 rfl fun r2=>?_
 refine j_range 2 rfl fun r3=>?_
 refine j_range 3 rfl fun r4=>?_
 obtain ⟨k1,k2⟩:=rt_len (g:=g1) (lim r1) (lim r2) l1 l2 (by decide)
 obtain ⟨k3,k4⟩:=rt_len (g:=g2) (lim r3) (lim r4) l3 l4 (by decide)
 have LX : (limbs (val (rt (vq (g1,N1,D1))).2.1 * val (rt (vq (g2,N2,D2))).2.1)).length ≤ 1073741824:=Nat.le_trans (prod_lim (limbs_of rfl k1) (limbs_of rfl k3)) (by decide)
 have LY : (limbs (val (rt (vq (g1,N1,D1))).2.2 * val (rt (vq (g2,N2,D2))).2.2)).length ≤ 1073741824:=Nat.le_trans (prod_lim (limbs_of rfl k2) (limbs_of rfl k4)) (by decide)
 refine j_nf [_,_] rfl ?_
 refine j_step rfl (x_box_agg rfl fun b1=>?_)
 refine j_step rfl (x_box_agg rfl fun b2=>?_)
 refine j_step rfl (x_alloc zo72 fun b3=>?_)
 refine j_nf [_,_] rfl ?_
 refine j_step rfl (x_bld_all 2 rfl rfl ld72 rfl ?_)
 refine j_step rfl (x_call [0,1] rfl (S_codewrightref02_Trim (by omega) (by omega)) rfl ?_)
 rintro _ _ _ ⟨pn3,cn3,pd3,cd3,rfl,rfl,rfl⟩
 simp only [List.cons_append,List.nil_append]
 refine j_step rfl (x_bst_all 2 rfl rfl rfl ld72 rfl rfl (by simp [Value.oneCell']) ?_)
 refine j_nf [_,_] rfl ?_
 refine j_step rfl (x_bld_all 1 rfl rfl ld72 rfl ?_)
 refine j_step rfl (x_call [4,5] rfl (S_codewrightref02_Trim (by omega) (by omega)) rfl ?_)
 rintro _ _ _ ⟨pn4,cn4,pd4,cd4,rfl,rfl,rfl⟩
 simp only [List.cons_append,List.nil_append]
 refine j_step rfl (x_bst_all 1 rfl rfl rfl ld72 rfl rfl (by simp [Value.oneCell']) ?_)
 refine j_nf [_,_] rfl ?_
 (apply j_drawK it mx 16;(· rfl);(· rfl))
 (apply lxk_eq;(· rfl);(· exact d_x fun _=>x_field rfl fd72_0 dk_eq))
 (apply lxk_eq;(· rfl);(· exact d_bld 2 rfl rfl ld4 rfl))
 (apply lxk_eq;(· rfl);(· exact d_x fun _=>x_field rfl fd72_0 dk_eq))
 (apply lxk_eq;(· rfl);(· exact d_bld 1 rfl rfl ld4 rfl))
 (apply lxk_eq;(· rfl);(· exact d_x fun _=>x_neb ub rfl rfl dk_eq))
 (apply lxk_eq;(· rfl);(· exact d_x fun _=>x_field rfl fd72_1 dk_eq))
 (apply lxk_eq;(· rfl);(· exact d_bld 2 rfl rfl ld48 rfl))
 (apply lxk_eq;(· rfl);(· exact d_x fun _=>x_field rfl fd72_1 dk_eq))
 (apply lxk_eq;(· rfl);(· exact d_bld 1 rfl rfl ld48 rfl))
 (apply lxk_sl;(· rfl);(· exact d_x fun _=>x_call [2,0] rfl (S_codewrightref01_Mul (by omega) (by omega)) rfl (by rintro _ _ _ ⟨pa1,ca1,rfl,rfl,rfl⟩;exact (dk_sl 0 rfl)));intro pa1 ca1)
 (apply lxk_eq;(· rfl);(· exact d_x fun _=>x_field rfl fd72_2 dk_eq))
 (apply lxk_eq;(· rfl);(· exact d_bld 2 rfl rfl ld48 rfl))
 (apply lxk_eq;(· rfl);(· exact d_x fun _=>x_field rfl fd72_2 dk_eq))
 (apply lxk_eq;(· rfl);(· exact d_bld 1 rfl rfl ld48 rfl))
 (apply lxk_sl;(· rfl);(· exact d_x fun _=>x_call [4,2] rfl (S_codewrightref01_Mul (by omega) (by omega)) rfl (by rintro _ _ _ ⟨pa2,ca2,rfl,rfl,rfl⟩;exact (dk_sl 0 rfl)));intro pa2 ca2)
 (apply lxk_rq;(· rfl);(· exact d_x fun _=>x_call [1,0] rfl (S_codewrightref02_Make (by omega) (by omega)) rfl (by rintro _ _ _ ⟨pn5,cn5,pd5,cd5,rfl,rfl,rfl⟩;exact (dk_rq 0 1 rfl rfl)));intro pn5 cn5 pd5 cd5)
 simp only [vq_rt']
 refine lxk_end rfl ?_
 simp only [List.map_cons,List.map_nil,List.cons_append,List.nil_append]
 refine j_step rfl (x_bst_all 0 rfl rfl rfl ld72 rfl rfl (by simp [Value.oneCell']) ?_)
 refine j_nf [_] rfl ?_
 rw [mul_rt]
 refine j_givC [0,1] rfl (.agg 0 rfl rfl ld72 rfl .nil) rfl ⟨_,_,_,_,rfl,rfl,rfl⟩
theorem S_codewrightref02_abs {n : Int} (hn : InR .i64 n) : Ctr Try.prog 101 [.int .i64 n] [] [] (Sv U32 (limbs n.natAbs)):=by
 refine Ctr_of_j' (F:=F_codewrightref02_abs) rfl fun C=>?_
 simp only [InR] at hn
 by_cases h : n < 0
 ·have hl : (limbs (-(n + 1)).toNat).length ≤ 2:=limbs_length_le (by omega)
  refine j_nf [_,_] rfl (j_run it 1 rfl (by simp) ?_)
  refine j_nf [_,_,_] rfl (j_run it 2 rfl (by simp) ?_)
  refine j_nf [_,_] rfl (j_if rfl rfl (fun h1=>?_) (fun h1=>by exfalso;omega))
  refine j_nf [_,_,_] rfl (j_run it 4 rfl ⟨⟨by omega,by omega⟩,⟨by omega,by omega⟩,⟨by omega,by omega⟩,trivial,trivial⟩ ?_)
  refine j_recast (t:=8) ((((-(n + 1) : Int).toNat) : Nat) : Int) rfl (by omega) ?_
  refine j_step rfl (x_call [] rfl (S_codewrightref01_Of (by omega)) rfl ?_)
  rintro _ _ _ ⟨pa1,ca1,rfl,rfl,rfl⟩
  simp only [List.cons_append,List.nil_append]
  refine j_step rfl (x_lit sl48 zo48e rfl rfl rfl rfl (by decide) (by decide) rfl fun b1=>?_)
  refine j_pub_made (n:=1) (kd:=IntKind.u32) 4 [1] 0 rfl rfl (by first | (simp [InR];done) | (simp only [InR,List.mem_cons,List.not_mem_nil,or_false,forall_eq_or_imp,forall_eq];omega)) (by decide) (by decide) ?_
  refine j_step rfl (x_call [1,0] rfl (S_codewrightref01_Add (by omega) (by simp)) rfl ?_)
  rintro _ _ _ ⟨pa2,ca2,rfl,rfl,rfl⟩
  simp only [List.cons_append,List.nil_append]
  refine j_run it 1 rfl (by simp) ?_
  refine j_nf [_,_] rfl ?_
  have e : val (limbs (-(n + 1)).toNat) + val [1] = n.natAbs:=by rw [val_limbs];simp [val];omega
  rw [e]
  refine j_giv [0] rfl rfl rfl ⟨_,_,rfl,rfl,rfl⟩
 ·refine j_nf [_,_] rfl (j_run it 1 rfl (by simp) ?_)
  refine j_nf [_,_,_] rfl (j_run it 2 rfl (by simp) ?_)
  refine j_nf [_,_] rfl (j_if rfl rfl (fun h1=>by exfalso;omega) (fun h1=>?_))
  refine j_nf [_,_] rfl (j_run it 2 rfl ⟨⟨by omega,by omega⟩,trivial,trivial⟩ ?_)
  refine j_recast (t:=13) ((((n : Int).toNat) : Nat) : Int) rfl (by omega) ?_
  refine j_step rfl (x_call [] rfl (S_codewrightref01_Of (by omega)) rfl ?_)
  rintro _ _ _ ⟨pa1,ca1,rfl,rfl,rfl⟩
  simp only [List.cons_append,List.nil_append]
  refine j_run it 1 rfl (by simp) ?_
  refine j_nf [_] rfl ?_
  have e : n.toNat = n.natAbs:=by omega
  rw [e]
  refine j_giv [0] rfl rfl rfl ⟨_,_,rfl,rfl,rfl⟩
theorem S_codewrightref02_Of {n : Int} {d : Nat} (hn : InR .i64 n) (hd : 0 < d) (hd2 : d < 9223372036854775808) : Ctr Try.prog 89 [.int .i64 n,.int .i64 d] [] [] (RtV (rt (mkRat n d))):=by
 refine Ctr_of_j' (F:=F_codewrightref02_Of) rfl fun C=>?_
 have hi : InR .i64 (d : Int):=by simp only [InR];omega
 have hl : (limbs n.natAbs).length ≤ 2:=limbs_length_le (by simp only [InR] at hn;omega)
 have hl2 : (limbs d).length ≤ 2:=limbs_length_le (by omega)
 have e : vq (decide (n < 0) != decide ((d : Int) < 0),limbs n.natAbs,limbs (d : Int).natAbs) = mkRat n d:=by
  rw [vq_eq,decide_eq_false (by omega : ¬ (d : Int) < 0)]
  simp only [val_limbs,Int.natAbs_natCast,Bool.bne_false,sg_int]
 refine j_nf [_,_] rfl (j_step rfl (x_alloc zo72 fun b1=>?_))
 refine j_nf [_,_] rfl (j_run it 4 rfl (by simp) ?_)
 refine j_step rfl (x_neb ub rfl rfl ?_)
 refine j_run it 1 rfl (by simp) ?_
 refine j_step rfl (x_call [] rfl (S_codewrightref02_abs (by omega)) rfl ?_)
 rintro _ _ _ ⟨pa1,ca1,rfl,rfl,rfl⟩
 simp only [List.cons_append,List.nil_append]
 refine j_run it 1 rfl (by simp) ?_
 refine j_step rfl (x_call [] rfl (S_codewrightref02_abs (by omega)) rfl ?_)
 rintro _ _ _ ⟨pa2,ca2,rfl,rfl,rfl⟩
 simp only [List.cons_append,List.nil_append]
 refine j_step rfl (x_call [1,0] rfl (S_codewrightref02_Make (by omega) (by simp;omega)) rfl ?_)
 rintro _ _ _ ⟨pn1,cn1,pd1,cd1,rfl,rfl,rfl⟩
 simp only [List.cons_append,List.nil_append]
 refine j_step rfl (x_bst_all 0 rfl rfl rfl ld72 rfl rfl (by simp [Value.oneCell']) ?_)
 refine j_nf [_] rfl ?_
 rw [e]
 refine j_givC [0,1] rfl (.agg 0 rfl rfl ld72 rfl .nil) rfl ⟨_,_,_,_,rfl,rfl,rfl⟩
theorem S_codewrightref02_Int {n : Int} (hn : InR .i64 n) : Ctr Try.prog 68 [.int .i64 n] [] [] (RtV (rt (n : Rat))):=by
 refine Ctr_of_j' (F:=F_codewrightref02_Int) rfl fun C=>?_
 refine j_nf [_,_] rfl (j_step rfl (x_alloc zo72 fun b1=>?_))
 refine j_nf [_,_] rfl (j_run it 1 rfl (by simp) ?_)
 refine j_step rfl (x_call [] rfl (S_codewrightref02_Of (by omega) (by simp) (by simp)) rfl ?_)
 rintro _ _ _ ⟨pn1,cn1,pd1,cd1,rfl,rfl,rfl⟩
 simp only [List.cons_append,List.nil_append]
 refine j_step rfl (x_bst_all 0 rfl rfl rfl ld72 rfl rfl (by simp [Value.oneCell']) ?_)
 refine j_nf [_] rfl ?_
 rw [Rat.mkRat_one]
 refine j_givC [0,1] rfl (.agg 0 rfl rfl ld72 rfl .nil) rfl ⟨_,_,_,_,rfl,rfl,rfl⟩
theorem S_codewrightref02_Nat {pn : Option Addr} {n cn : Nat} {N : List Nat} (hN : N.length ≤ 1073741824) : Ctr Try.prog 91 [.slice pn n cn] [] [slF U32 pn n cn N] (RtV (rt ((val N : Int) : Rat))):=by
 refine Ctr_of_j' (F:=F_codewrightref02_Nat) rfl fun C=>?_
 have e : vq (false,N,[1]) = ((val N : Int) : Rat):=vq_one _ _
 refine j_nf [_,_] rfl (j_step rfl (x_alloc zo72 fun b1=>?_))
 refine j_nf [_,_] rfl (j_run it 1 rfl (by simp) ?_)
 refine j_step rfl (x_lit sl48 zo48e rfl rfl rfl rfl (by decide) (by decide) rfl fun b2=>?_)
 refine j_pub_made (n:=1) (kd:=IntKind.u32) 4 [1] 0 rfl rfl (by first | (simp [InR];done) | (simp only [InR,List.mem_cons,List.not_mem_nil,or_false,forall_eq_or_imp,forall_eq];omega)) (by decide) (by decide) ?_
 refine j_step rfl (x_call [1,0] rfl (S_codewrightref02_Make (by omega) (by simp)) rfl ?_)
 rintro _ _ _ ⟨pn1,cn1,pd1,cd1,rfl,rfl,rfl⟩
 simp only [List.cons_append,List.nil_append]
 refine j_step rfl (x_bst_all 0 rfl rfl rfl ld72 rfl rfl (by simp [Value.oneCell']) ?_)
 refine j_nf [_] rfl ?_
 rw [e]
 refine j_givC [0,1] rfl (.agg 0 rfl rfl ld72 rfl .nil) rfl ⟨_,_,_,_,rfl,rfl,rfl⟩
def orderOf (q : Int) : Int:=if q < 2 ∨ 256 < q then 6 else 0
theorem S_codewrightref24_Order {q : Int} : Ctr Try.prog 39 [.int .i64 q] [] [] (Rv (.int .i64 (orderOf q)) []):=by
 refine Ctr_of_j' (F:=F_codewrightref24_Order) rfl fun C=>?_
 by_cases h1 : q < 2
 ·rw [orderOf,if_pos (.inl h1)]
  refine j_nf [_,_] rfl (j_run it 1 rfl (by simp) ?_)
  refine j_nf [_,_,_] rfl (j_run it 3 rfl (by simp) ?_)
  refine j_split_dec (t:=5) rfl (fun h2=>?_) (fun h2=>by exfalso;omega)
  refine j_run it 3 rfl (by simp) ?_
  refine j_nf [_,_] rfl ?_
  refine j_true rfl rfl ?_
  refine j_nf [_,_,_] rfl (j_run it 1 rfl (by simp) ?_)
  refine j_nf [_,_] rfl ?_
  refine j_giv [] rfl rfl rfl ⟨rfl,rfl,rfl⟩
 by_cases h2 : 256 < q
 ·rw [orderOf,if_pos (.inr h2)]
  refine j_nf [_,_] rfl (j_run it 1 rfl (by simp) ?_)
  refine j_nf [_,_,_] rfl (j_run it 3 rfl (by simp) ?_)
  refine j_split_dec (t:=5) rfl (fun h3=>by exfalso;omega) (fun h3=>?_)
  refine j_run it 3 rfl (by simp) ?_
  refine j_nf [_,_] rfl (j_if rfl rfl (fun h4=>?_) (fun h4=>by exfalso;omega))
  refine j_nf [_,_,_] rfl (j_run it 1 rfl (by simp) ?_)
  refine j_nf [_,_] rfl ?_
  refine j_giv [] rfl rfl rfl ⟨rfl,rfl,rfl⟩
 ·rw [orderOf,if_neg (by omega)]
  refine j_nf [_,_] rfl (j_run it 1 rfl (by simp) ?_)
  refine j_nf [_,_,_] rfl (j_run it 3 rfl (by simp) ?_)
  refine j_split_dec (t:=5) rfl (fun h3=>by exfalso;omega) (fun h3=>?_)
  refine j_run it 3 rfl (by simp) ?_
  refine j_nf [_,_] rfl (j_if rfl rfl (fun h4=>by exfalso;omega) (fun h4=>?_))
  refine j_nf [_,_] rfl (j_run it 1 rfl (by simp) ?_)
  refine j_nf [_] rfl ?_
  refine j_giv [] rfl rfl rfl ⟨rfl,rfl,rfl⟩
set_option maxHeartbeats 4000000
abbrev SvN {α : Type} (E : Enc α) (n : Nat) (l : List α) : Value → List Fact → List Blk → Prop:=fun v Φ β=>∃ pa ca,v = .slice pa n ca ∧ Φ = [slF E pa n ca l] ∧ β = []
theorem enz_eq (a : Zs) : (a.1,limbs a.2) = enz a:=rfl
def wrongOf (q : Int) (n : Nat) : Int:=if q < 2 ∨ 256 < q then 6 else shapeOf n
theorem S_macwilliams_wrong {q : Int} {n : Nat} : Ctr Try.prog 60 [.int .i64 q,.int .i64 n] [] [] (Rv (.int .i64 (wrongOf q n)) []):=by
 refine Ctr_of_j' (F:=F_macwilliams_wrong) rfl fun C=>?_
 by_cases h1 : q < 2
 ·rw [wrongOf,if_pos (.inl h1)]
  refine j_nf [_,_] rfl (j_run it 1 rfl (by simp) ?_)
  refine j_nf [_,_,_] rfl (j_run it 3 rfl (by simp) ?_)
  refine j_split_dec (t:=7) rfl (fun h2=>?_) (fun h2=>by exfalso;omega)
  refine j_run it 3 rfl (by simp) ?_
  refine j_nf [_,_] rfl ?_
  refine j_true rfl rfl ?_
  refine j_nf [_,_,_] rfl (j_run it 1 rfl (by simp) ?_)
  refine j_nf [_,_] rfl ?_
  refine j_giv [] rfl rfl rfl ⟨rfl,rfl,rfl⟩
 by_cases h2 : 256 < q
 ·rw [wrongOf,if_pos (.inr h2)]
  refine j_nf [_,_] rfl (j_run it 1 rfl (by simp) ?_)
  refine j_nf [_,_,_] rfl (j_run it 3 rfl (by simp) ?_)
  refine j_split_dec (t:=7) rfl (fun h3=>by exfalso;omega) (fun h3=>?_)
  refine j_run it 3 rfl (by simp) ?_
  refine j_nf [_,_] rfl (j_if rfl rfl (fun h4=>?_) (fun h4=>by exfalso;omega))
  refine j_nf [_,_,_] rfl (j_run it 1 rfl (by simp) ?_)
  refine j_nf [_,_] rfl ?_
  refine j_giv [] rfl rfl rfl ⟨rfl,rfl,rfl⟩
 ·rw [wrongOf,if_neg (by omega)]
  refine j_nf [_,_] rfl (j_run it 1 rfl (by simp) ?_)
  refine j_nf [_,_,_] rfl (j_run it 3 rfl (by simp) ?_)
  refine j_split_dec (t:=7) rfl (fun h3=>by exfalso;omega) (fun h3=>?_)
  refine j_run it 3 rfl (by simp) ?_
  refine j_nf [_,_] rfl (j_if rfl rfl (fun h4=>by exfalso;omega) (fun h4=>?_))
  refine j_nf [_,_] rfl (j_run it 1 rfl (by simp) ?_)
  refine j_step rfl (x_call [] rfl (S_macwilliams_shape) rfl ?_)
  rintro _ _ _ ⟨rfl,rfl,rfl⟩
  simp only [List.cons_append,List.nil_append]
  refine j_run it 1 rfl (by simp) ?_
  refine j_nf [_] rfl ?_
  refine j_giv [] rfl rfl rfl ⟨rfl,rfl,rfl⟩
theorem S_macwilliams_sums {q n m : Nat} {pa : Option Addr} {ca : Nat} {f : Nat → Zs} (hq : 2 ≤ q) (hq2 : q ≤ 256) (hn : n ≤ 64) (hm : m ≤ 10000000) (hf : ∀ i,i < n + 1 → (f i).2 < 4294967296 ^ m) :
  Ctr Try.prog 62 [.int .i64 q,.slice pa (n + 1) ca] [] [slF IntE pa (n + 1) ca ((List.range (n + 1)).map fun i=>enz (f i))] (SvN IntE (n + 1) ((List.range (n + 1)).map fun j=>enz (szP f (fun i=>tz q n i j) (n + 1)))):=by
 refine Ctr_of_j' (F:=F_macwilliams_sums) rfl fun C=>?_
 have ht:=tabT_len q n
 have hW : ((List.range (n + 1)).map fun i=>enz (f i)).length = n + 1:=by simp
 refine j_nf [_,_] rfl ?_
 refine j_run it 1 rfl (by simp) ?_
 refine j_nf [_,_] rfl ?_
 refine j_run it 2 rfl (by simp) ?_
 refine j_step rfl (x_len sl93 rfl ?_)
 refine j_run it 1 rfl ⟨⟨by omega,by omega⟩,trivial⟩ ?_
 refine j_recast (t:=13) ((((n + 1) - 1) : Nat) : Int) rfl (by omega) ?_
 refine j_step rfl (x_call [] rfl (S_macwilliams_table (by omega) (by omega) (by omega)) rfl ?_)
 rintro _ _ _ ⟨pa1,ca1,rfl,rfl,rfl⟩
 simp only [List.cons_append,List.nil_append]
 refine j_run it 1 rfl (by simp) ?_
 refine j_nf [_,_] rfl ?_
 refine j_run it 1 rfl (by simp) ?_
 refine j_step rfl (x_len sl93 rfl ?_)
 refine j_step rfl (x_makeR IntE default (n + 1) _ rfl rfl sl93 zo93e rfl rfl by93e (by omega) (by omega) (by omega) rz95 fun b1 cs1=>?_)
 refine j_run it 1 rfl (by simp) ?_
 refine j_nf [_,_,_] rfl ?_
 refine j_run it 1 rfl (by simp) ?_
 refine j_step rfl (x_len sl93 rfl ?_)
 refine j_run it 1 rfl (by simp) ?_
 refine j_nf [_,_,_] rfl ?_
 rw [Nat.add_sub_cancel]
 rw [← mapTo_zero (fun j=>enz (szP f (fun i=>tz q n i j) (n + 1)))]
 refine j_loopG (X:=Nat × List Value) [1,4,5,6,19] [2,1] (fun x=>[(20,.int .i64 x.1)]) (fun x=>[(some b1,95,x.2)]) (fun x=>[rowF IntE ⟨some b1,n + 1,x.2⟩ (n + 1) (mapTo (fun j=>enz (szP f (fun i=>tz q n i j) (n + 1))) default (n + 1) x.1)])
  (fun x=>x.1 ≤ n + 1) (fun x=>n + 1 - x.1) (0,cs1) [0] rfl rfl rfl (Nat.zero_le _) (by repeat (first | exact Fr.sub_nil _ | refine Fr.sub_cons rfl ?_)) rfl rfl ?_
 rintro ⟨j,cs⟩ hj ih
 simp only [List.cons_append,List.nil_append] at hj ih ⊢
 by_cases hjl : j < n + 1
 ·refine j_nf [_,_,_,_,_] rfl ?_
  refine j_run it 1 rfl (by simp) ?_
  refine j_nf [_,_,_,_,_] rfl ?_
  refine j_if rfl rfl (fun h1=>?_) (fun h1=>by exfalso;omega)
  refine j_nf [_,_,_,_,_,_,_] rfl ?_
  refine j_run it 2 rfl (by simp) ?_
  refine j_nf [_,_,_,_,_,_,_] rfl ?_
  refine j_run it 1 rfl (by simp) ?_
  refine j_step rfl (x_len sl93 rfl ?_)
  refine j_run it 1 rfl (by simp) ?_
  refine j_nf [_,_,_,_,_,_,_] rfl ?_
  have e0 : enz (szP f (fun i=>tz q n i j) 0) = default:=by simp only [szP,enz,limbs_zero];rfl
  rw [show mapTo (fun j=>enz (szP f (fun i=>tz q n i j) (n + 1))) default (n + 1) j = (mapTo (fun j=>enz (szP f (fun i=>tz q n i j) (n + 1))) default (n + 1) j).set j (enz (szP f (fun i=>tz q n i j) 0)) by rw [e0,mapTo_keep]]
  refine j_loopG (X:=Nat × List Value) [1,4,5,6,7,19,20,21,22,23,24] [1,2] (fun x=>[(25,.int .i64 x.1)]) (fun x=>[(some b1,95,x.2)])
   (fun x=>[rowF IntE ⟨some b1,n + 1,x.2⟩ (n + 1) ((mapTo (fun j=>enz (szP f (fun i=>tz q n i j) (n + 1))) default (n + 1) j).set j (enz (szP f (fun i=>tz q n i j) x.1)))])
   (fun x=>x.1 ≤ n + 1) (fun x=>n + 1 - x.1) (0,cs) [0] rfl rfl rfl (Nat.zero_le _) (by repeat (first | exact Fr.sub_nil _ | refine Fr.sub_cons rfl ?_)) rfl rfl ?_
  rintro ⟨i,cs⟩ hi ihi
  simp only [List.cons_append,List.nil_append] at hi ihi ⊢
  by_cases hil : i < n + 1
  ·refine j_nf [_,_,_,_,_,_,_,_,_] rfl ?_
   refine j_run it 1 rfl (by simp) ?_
   refine j_nf [_,_,_,_,_,_,_,_,_] rfl ?_
   refine j_if rfl rfl (fun h2=>?_) (fun h2=>by exfalso;omega)
   refine j_nf [_,_,_,_,_,_,_,_,_,_,_] rfl ?_
   refine j_run it 1 rfl (by simp) ?_
   refine j_step rfl (x_idx 1 (i) rfl rfl rfl sl93 rfl (by omega) fun z1 hz1 b2 o1=>?_)
   refine j_step rfl (x_ld_vw vw_IntE 0 rfl rfl ld95 fun g1=>?_)
   dsimp only [vw_IntE,List.cons_append,List.nil_append,List.map_cons,List.map_nil]
   refine j_step rfl (x_alloc zo95 fun b3=>?_)
   refine j_run it 1 rfl (by simp) ?_
   refine j_step rfl (x_bst_all 0 rfl rfl rfl ld95 rfl rfl (by simp [Value.oneCell']) ?_)
   refine j_nf [_,_,_,_,_,_,_,_,_,_,_] rfl ?_
   refine j_step rfl (x_field rfl fd95_1 ?_)
   refine j_step rfl (x_bld 0 rfl rfl ld48 rfl ?_)
   refine j_step rfl (x_len sl48 rfl ?_)
   refine j_run it 1 rfl (by simp) ?_
   refine j_nf [_,_,_,_,_,_,_,_,_,_] rfl ?_
   refine j_if rfl rfl (fun h3=>?_) (fun h3=>?_)
   ·rw [range_get _ hil] at hz1
    obtain rfl:=Option.some.inj hz1
    have hne : ¬ (f i).2 = 0:=fun h=>by
     have h2 : (0 : Int) < ((limbs (f i).2).length : Int):=by assumption
     rw [h,limbs_zero] at h2
     simp at h2
    have eS : szP f (fun i=>tz q n i j) (i + 1) = plusZ (szP f (fun i=>tz q n i j) i) (timesZ (f i) (tz q n i j)):=by rw [szP,if_neg hne]
    have hrow:=mapTo_setget (fun j=>enz (szP f (fun i=>tz q n i j) (n + 1))) default (enz (szP f (fun i=>tz q n i j) i)) hjl
    have eT1 : (tabT q n).getD i default = rowT q n i:=range_getD _ _ hil
    have hTl : ((tabT q n).getD i default).length = n + 1:=by rw [eT1,rowT_len]
    have eT2 : ((tabT q n).getD i default).getD j default = enz (tz q n i j):=by rw [eT1];exact range_getD _ _ hjl
    have k1 : (enz (f i)).2.length ≤ m:=limbs_length_le (hf i hil)
    have k2 : (((tabT q n).getD i default).getD j default).2.length ≤ 17:=by rw [eT2];exact tz_len hq hq2 hn (by omega) j
    have k3 : (enz (szP f (fun i=>tz q n i j) i)).2.length ≤ m + 18:=limbs_length_le (szP_lt (show n + 1 ≤ 65 by omega) (by omega) hf fun i hi=>tz_lt hq hq2 hn (by omega) j (Nat.le_refl 17))
    have k4 : (limbs (timesZ ((enz (f i)).1,val (enz (f i)).2) ((((tabT q n).getD i default).getD j default).1,val (((tabT q n).getD i default).getD j default).2)).2).length ≤ m + 17:=by
     rw [eT2,val_enz,val_enz]
     exact limbs_length_le (mul_pow (hf i hil) (tz_lt hq hq2 hn (by omega) j (Nat.le_refl 17)))
    (apply j_drawK it mx 16;(· rfl);(· rfl))
    (apply lxk_run 4;(· rfl);(· simp))
    (apply lxk_eq;(· rfl);(· exact d_x fun _=>x_idx_own (j) _ rfl rfl sl93 rfl (by omega) rfl dk_eq))
    (apply lxk_vw vw_IntE;(· rfl);(· exact d_ldR_vw vw_IntE 1 2 (j) rfl rfl rfl ld95 rfl (by assumption));intro g2)
    dsimp only [vw_IntE,List.cons_append,List.nil_append,List.map_cons,List.map_nil]
    (apply lxk_eq;(· rfl);(· exact d_bld_all 0 rfl rfl ld95 rfl))
    (apply lxk_run 2;(· rfl);(· simp))
    (apply lxk_pt;(· rfl);(· exact d_x fun _=>x_idx 4 (i) rfl rfl rfl sl112 rfl (by omega) fun z1 hz2 b4 o2=>(dk_ptD default hz2 0 rfl));intro b4 o2)
    (apply lxk_sl;(· rfl);(· exact d_x fun _=>x_ld_sl 0 rfl rfl ld93 fun pa2 ca2=>(dk_sl 0 rfl));intro pa2 ca2)
    (apply lxk_run 1;(· rfl);(· simp))
    (apply lxk_pt;(· rfl);(· exact d_x fun _=>x_idx 0 (j) rfl rfl rfl sl93 rfl (by omega) fun z1 hz2 b5 o3=>(dk_ptD default hz2 0 rfl));intro b5 o3)
    (apply lxk_vw vw_IntE;(· rfl);(· exact d_x fun _=>x_ld_vw vw_IntE 0 rfl rfl ld95 fun _=>dk_vw _);intro g3)
    dsimp only [vw_IntE,List.cons_append,List.nil_append,List.map_cons,List.map_nil]
    (apply lxk_fa (val:=(fun g=>Value.agg #[Value.bool (timesZ ((enz (f i)).fst,val (enz (f i)).snd) ((((tabT q n).getD i default).getD j default).fst,val (((tabT q n).getD i default).getD j default).snd)).fst,Value.slice (g 0).fst (limbs (timesZ ((enz (f i)).fst,val (enz (f i)).snd) ((((tabT q n).getD i default).getD j default).fst,val (((tabT q n).getD i default).getD j default).snd)).snd).length (g 1).snd.fst])) (f:=(fun g=>[slF U32 (g 0).fst (limbs (timesZ ((enz (f i)).fst,val (enz (f i)).snd) ((((tabT q n).getD i default).getD j default).fst,val (((tabT q n).getD i default).getD j default).snd)).snd).length (g 1).snd.fst (limbs (timesZ ((enz (f i)).fst,val (enz (f i)).snd) ((((tabT q n).getD i default).getD j default).fst,val (((tabT q n).getD i default).getD j default).snd)).snd)]));(· rfl);(· exact d_x fun _=>x_call [4,0] rfl (S_macwilliams_times (by omega) (by omega)) rfl (by rintro _ _ _ ⟨pag0,cag1,rfl,rfl,rfl⟩;exact fun _ _ _ hG=>⟨(fun | 0=>(pag0,0,0,[]) | 1=>(none,cag1,0,[]) | _=>default),rfl,fun g hg=>drop_own (hG _ (List.mem_append_left _ hg))⟩));intro g4;dsimp only [List.map_cons,List.map_nil])
    (apply lxk_fa (val:=(fun g=>Value.agg #[Value.bool (plusZ ((enz (szP f (fun i=>tz q n i j) i)).fst,val (enz (szP f (fun i=>tz q n i j) i)).snd) ((timesZ ((enz (f i)).fst,val (enz (f i)).snd) ((((tabT q n).getD i default).getD j default).fst,val (((tabT q n).getD i default).getD j default).snd)).fst,val (limbs (timesZ ((enz (f i)).fst,val (enz (f i)).snd) ((((tabT q n).getD i default).getD j default).fst,val (((tabT q n).getD i default).getD j default).snd)).snd))).fst,Value.slice (g 0).fst (limbs (plusZ ((enz (szP f (fun i=>tz q n i j) i)).fst,val (enz (szP f (fun i=>tz q n i j) i)).snd) ((timesZ ((enz (f i)).fst,val (enz (f i)).snd) ((((tabT q n).getD i default).getD j default).fst,val (((tabT q n).getD i default).getD j default).snd)).fst,val (limbs (timesZ ((enz (f i)).fst,val (enz (f i)).snd) ((((tabT q n).getD i default).getD j default).fst,val (((tabT q n).getD i default).getD j default).snd)).snd))).snd).length (g 1).snd.fst])) (f:=(fun g=>[slF U32 (g 0).fst (limbs (plusZ ((enz (szP f (fun i=>tz q n i j) i)).fst,val (enz (szP f (fun i=>tz q n i j) i)).snd) ((timesZ ((enz (f i)).fst,val (enz (f i)).snd) ((((tabT q n).getD i default).getD j default).fst,val (((tabT q n).getD i default).getD j default).snd)).fst,val (limbs (timesZ ((enz (f i)).fst,val (enz (f i)).snd) ((((tabT q n).getD i default).getD j default).fst,val (((tabT q n).getD i default).getD j default).snd)).snd))).snd).length (g 1).snd.fst (limbs (plusZ ((enz (szP f (fun i=>tz q n i j) i)).fst,val (enz (szP f (fun i=>tz q n i j) i)).snd) ((timesZ ((enz (f i)).fst,val (enz (f i)).snd) ((((tabT q n).getD i default).getD j default).fst,val (((tabT q n).getD i default).getD j default).snd)).fst,val (limbs (timesZ ((enz (f i)).fst,val (enz (f i)).snd) ((((tabT q n).getD i default).getD j default).fst,val (((tabT q n).getD i default).getD j default).snd)).snd))).snd)]));(· rfl);(· exact d_x fun _=>x_call [5,0] rfl (S_macwilliams_plus (by omega) (by omega)) rfl (by rintro _ _ _ ⟨pag0,cag1,rfl,rfl,rfl⟩;exact fun _ _ _ hG=>⟨(fun | 0=>(pag0,0,0,[]) | 1=>(none,cag1,0,[]) | _=>default),rfl,fun g hg=>drop_own (hG _ (List.mem_append_left _ hg))⟩));intro g5;dsimp only [List.map_cons,List.map_nil])
    refine lxk_end rfl ?_
    simp only [List.map_cons,List.map_nil,List.cons_append,List.nil_append]
    refine j_step rfl (x_idx_own (j) _ rfl rfl sl93 rfl (by omega) rfl ?_)
    refine j_step rfl (x_stR (vs:=[Value.bool (plusZ ((enz (szP f (fun i=>tz q n i j) i)).fst,val (enz (szP f (fun i=>tz q n i j) i)).snd) ((timesZ ((enz (f i)).fst,val (enz (f i)).snd) ((((tabT q n).getD i default).getD j default).fst,val (((tabT q n).getD i default).getD j default).snd)).fst,val (limbs (timesZ ((enz (f i)).fst,val (enz (f i)).snd) ((((tabT q n).getD i default).getD j default).fst,val (((tabT q n).getD i default).getD j default).snd)).snd))).fst,Value.slice (g5 0).fst (limbs (plusZ ((enz (szP f (fun i=>tz q n i j) i)).fst,val (enz (szP f (fun i=>tz q n i j) i)).snd) ((timesZ ((enz (f i)).fst,val (enz (f i)).snd) ((((tabT q n).getD i default).getD j default).fst,val (((tabT q n).getD i default).getD j default).snd)).fst,val (limbs (timesZ ((enz (f i)).fst,val (enz (f i)).snd) ((((tabT q n).getD i default).getD j default).fst,val (((tabT q n).getD i default).getD j default).snd)).snd))).snd).length (g5 1).snd.fst]) (z:=((plusZ ((enz (szP f (fun i=>tz q n i j) i)).fst,val (enz (szP f (fun i=>tz q n i j) i)).snd) ((timesZ ((enz (f i)).fst,val (enz (f i)).snd) ((((tabT q n).getD i default).getD j default).fst,val (((tabT q n).getD i default).getD j default).snd)).fst,val (limbs (timesZ ((enz (f i)).fst,val (enz (f i)).snd) ((((tabT q n).getD i default).getD j default).fst,val (((tabT q n).getD i default).getD j default).snd)).snd))).fst,limbs (plusZ ((enz (szP f (fun i=>tz q n i j) i)).fst,val (enz (szP f (fun i=>tz q n i j) i)).snd) ((timesZ ((enz (f i)).fst,val (enz (f i)).snd) ((((tabT q n).getD i default).getD j default).fst,val (((tabT q n).getD i default).getD j default).snd)).fst,val (limbs (timesZ ((enz (f i)).fst,val (enz (f i)).snd) ((((tabT q n).getD i default).getD j default).fst,val (((tabT q n).getD i default).getD j default).snd)).snd))).snd)) 1 9 (j) rfl rfl rfl rfl rfl ld95 rfl (by omega) (fun w A hG=>(rd_pair (v1:=[Value.bool (plusZ ((enz (szP f (fun i=>tz q n i j) i)).fst,val (enz (szP f (fun i=>tz q n i j) i)).snd) ((timesZ ((enz (f i)).fst,val (enz (f i)).snd) ((((tabT q n).getD i default).getD j default).fst,val (((tabT q n).getD i default).getD j default).snd)).fst,val (limbs (timesZ ((enz (f i)).fst,val (enz (f i)).snd) ((((tabT q n).getD i default).getD j default).fst,val (((tabT q n).getD i default).getD j default).snd)).snd))).fst]) (rd_bool _) (rd_of_slF (hG _ (fact_mem (n:=0) rfl))))) fun cs2=>?_)
    refine j_nf [_,_,_,_,_,_,_,_] rfl ?_
    refine j_run it 2 rfl ⟨trivial,⟨by omega,by omega⟩,trivial⟩ ?_
    refine j_nfn 1 [.lp (pL 62668),.blk 2,.blk 1,.c (pL 1959),.lp (pL 244),.blk 0,.c [1,1,1,1]] rfl ?_
    simp only [eT2,val_enz,val_limbs,zs_eta,List.set_set]
    rw [← eS,enz_eq]
    refine j_toM [false,true] [0,11,12] (by exact fra rfl) rfl rfl (ihi (i + 1,cs2) (by dsimp only;omega) (by dsimp only;omega))
   ·rw [range_get _ hil] at hz1
    obtain rfl:=Option.some.inj hz1
    have hze : (f i).2 = 0:=by
     have h2 : ¬ (0 : Int) < ((limbs (f i).2).length : Int):=by assumption
     exact limbs_nil.1 (List.eq_nil_of_length_eq_zero (by omega))
    have eS : szP f (fun i=>tz q n i j) (i + 1) = szP f (fun i=>tz q n i j) i:=by rw [szP,if_pos hze]
    refine j_nf [_,_,_,_,_,_,_,_] rfl ?_
    refine j_run it 2 rfl ⟨trivial,⟨by omega,by omega⟩,trivial⟩ ?_
    refine j_nfn 1 [.lp (pL 62668),.blk 2,.blk 1,.c (pL 1959),.lp (pL 244),.blk 0,.c [1,1,1,1]] rfl ?_
    have ih':=ihi (i + 1,cs) (by dsimp only;omega) (by dsimp only;omega)
    rw [eS] at ih'
    refine j_toM [false,true] [2,3,4] (by exact fra rfl) rfl rfl (ih')
  ·obtain rfl : n + 1 = i:=by omega
   rw [mapTo_set (fun j=>enz (szP f (fun i=>tz q n i j) (n + 1)))]
   refine j_nf [_,_,_,_,_,_,_,_,_] rfl ?_
   refine j_run it 1 rfl (by simp) ?_
   refine j_nf [_,_,_,_,_,_,_,_,_] rfl ?_
   refine j_if rfl rfl (fun h2=>by exfalso;omega) (fun h2=>?_)
   refine j_nf [_,_,_,_] rfl ?_
   refine j_run it 2 rfl ⟨trivial,⟨by omega,by omega⟩,trivial⟩ ?_
   refine j_nfn 1 [.lp (pL 244),.blk 0,.c [1,1,1,1]] rfl ?_
   refine j_to [0,1,2] (by exact fra rfl) rfl rfl (ih (j + 1,cs) (by dsimp only;omega) (by dsimp only;omega))
 ·obtain rfl : n + 1 = j:=by omega
  rw [mapTo_all]
  refine j_nf [_,_,_,_,_] rfl ?_
  refine j_run it 1 rfl (by simp) ?_
  refine j_nf [_,_,_,_,_] rfl ?_
  refine j_if rfl rfl (fun h1=>by exfalso;omega) (fun h1=>?_)
  refine j_nf [_,_] rfl ?_
  refine j_run it 2 rfl (by simp) ?_
  refine j_nf [_] rfl ?_
  refine j_pubR 0 0 rfl rfl (by show (n + 1) * 32 ≤ 140737488355328;omega) ?_
  refine j_giv [0] rfl rfl rfl ⟨_,_,rfl,rfl,rfl⟩
abbrev SvE {α : Type} (E : Enc α) (n : Nat) (l : List α) (e : Int) : Value → List Fact → List Blk → Prop:=fun v Φ β=>∃ pa ca,v = .tuple #[.slice pa n ca,.int .i64 e] ∧ Φ = [slF E pa n ca l] ∧ β = []
def trL (q n : Nat) (L : List Rt) : List Rt:=(List.range (n + 1)).map fun j=>rt (trP L (fun i=>kr ((q : Int) - 1) n j i) (n + 1))
theorem Ctr_len {P : Program} {F : Fun P} {args : List Value} {β : List Blk} {Γ : List Fact} {Q : Value → List Fact → List Blk → Prop} {α : Type} {E : Enc α} {pa : Option Addr} {m ca : Nat} {l : List α} (n : Nat) (hn : nth Γ n = some (slF E pa m ca l)) (h : m = l.length → Ctr P F.f args β Γ Q) : Ctr P F.f args β Γ Q :=
 ⟨F.plain,fun w A h1 h2 h3 hG=>(h (hG _ (fact_mem hn)).1).2 w A h1 h2 h3 hG⟩
def duAll (q n : Nat) (L : List (List Nat)) : Prop:=∀ j,j < n + 1 → duOk q n L j
instance (q n : Nat) (L : List (List Nat)) : Decidable (duAll q n L):=by unfold duAll;infer_instance
def duR (q n : Nat) (L : List (List Nat)) : List (List Nat):=if duAll q n L then (List.range (n + 1)).map fun j=>limbs (duV q n L j) else []
def duE (q n : Nat) (L : List (List Nat)) : Int:=if duAll q n L then 0 else 5
def okN (K : Nat) (l : List Nat) : Prop:=(∀ x ∈ l,x < 4294967296) ∧ l.length ≤ K
theorem okN_lt {K : Nat} {l : List Nat} (h : okN K l) : val l < 4294967296 ^ K:=Nat.lt_of_lt_of_le (val_lt h.1) (Nat.pow_le_pow_right (by decide) h.2)
theorem limbs_length_pos {n : Nat} (h : 0 < n) : 0 < (limbs n).length:=by rw [limbs_pos (by omega)];simp
def duF (L : List (List Nat)) (i : Nat) : Zs:=(false,val (L.getD i default))
theorem duF_z (q n : Nat) (L : List (List Nat)) (j : Nat) : szP (duF L) (fun i=>tz q n i j) (n + 1) = duZ q n L j:=rfl
theorem U_macwilliams_Dual {q n K : Nat} {pa : Option Addr} {ca : Nat} {L : List (List Nat)} (hq : 2 ≤ q) (hq2 : q ≤ 256) (hn : n ≤ 64) (hl : L.length = n + 1) (hK : K ≤ 10000) (hL : ∀ l ∈ L,okN K l) (h0 : toP L (n + 1) ≠ 0) :
  Ctr Try.prog 35 [.int .i64 q,.slice pa (n + 1) ca] [] [slF NatE pa (n + 1) ca L] (SvE NatE (duR q n L).length (duR q n L) (duE q n L)):=by
 refine Ctr_of_j' (F:=F_macwilliams_Dual) rfl fun C=>?_
 have hw : wrongOf (q : Int) (n + 1) = 0:=by rw [wrongOf,if_neg (by omega),shapeOf,if_neg (by omega)]
 have hg : ∀ i,i < n + 1 → okN K (L.getD i default):=fun i hi=>hL _ (by rw [List.getD,List.getElem?_eq_getElem (by omega)];exact List.getElem_mem _)
 have hlen : L.length ≤ 65536:=by omega
 have hLl : ∀ l ∈ L,l.length ≤ 1073741824:=fun l h=>by have:=(hL l h).2;omega
 have eT : sumV L = toP L (n + 1):=by rw [← toP_all,hl]
 have hT0 : ¬ (limbs (sumV L)).length = 0:=by
  rw [eT]
  intro h
  exact h0 (limbs_nil.1 (List.eq_nil_of_length_eq_zero h))
 have hv0 : val (limbs (sumV L)) ≠ 0:=by rw [val_limbs,eT];exact h0
 refine j_nf [_,_] rfl (j_run it 2 rfl (by simp) ?_)
 refine j_nf [_,_,_] rfl (j_run it 2 rfl (by simp) ?_)
 refine j_step rfl (x_len sl36 rfl ?_)
 refine j_step rfl (x_call [] rfl (S_macwilliams_wrong) rfl ?_)
 rintro _ _ _ ⟨rfl,rfl,rfl⟩
 simp only [List.cons_append,List.nil_append]
 refine j_run it 1 rfl (by simp) ?_
 refine j_nf [_,_,_] rfl (j_run it 2 rfl (by simp) ?_)
 refine j_nf [_,_] rfl (j_ifn rfl rfl (fun h1=>by exfalso;omega) (fun h1=>?_))
 refine j_nf [_,_] rfl (j_run it 1 rfl (by simp) ?_)
 refine j_step rfl (x_call [0] rfl (S_nat_Add (by omega) (by omega)) rfl ?_)
 rintro _ _ _ ⟨pa1,ca1,rfl,rfl,rfl⟩
 simp only [List.cons_append,List.nil_append]
 refine j_run it 1 rfl (by simp) ?_
 refine j_nf [_,_,_] rfl (j_run it 1 rfl (by simp) ?_)
 refine j_step rfl (x_len sl48 rfl ?_)
 refine j_run it 1 rfl (by simp) ?_
 refine j_nf [_,_] rfl (j_if rfl rfl (fun h2=>by exfalso;omega) (fun h2=>?_))
 refine j_nf [_,_] rfl (j_run it 1 rfl (by simp) ?_)
 refine j_nf [_,_,_] rfl (j_run it 1 rfl (by simp) ?_)
 refine j_step rfl (x_len sl36 rfl ?_)
 refine j_run it 1 rfl (by simp) ?_
 refine j_nf [_,_,_] rfl ?_
 refine j_row0 IntE 95 ?_
 refine j_loopG (X:=Nat × Row) [0,4,5,7,29,30] [0,1,2] (fun x=>[(31,.int .i64 x.1),(8,.slice (ad x.2.bo) x.1 x.2.cap)])
  (fun x=>[(x.2.bo,95,x.2.cs)])
  (fun x=>[rowF IntE x.2 x.1 ((List.range x.1).map fun i=>enz (duF L i))])
  (fun x=>x.1 ≤ n + 1) (fun x=>n + 1 - x.1) (0,⟨none,0,[]⟩) [0] rfl rfl rfl (Nat.zero_le _) (by repeat (first | exact Fr.sub_nil _ | refine Fr.sub_cons rfl ?_)) rfl rfl ?_
 rintro ⟨i,r⟩ hi ih
 simp only [List.cons_append,List.nil_append] at hi ih ⊢
 by_cases hil : i < n + 1
 ·refine j_nf [_,_,_,_,_] rfl (j_run it 1 rfl (by simp) ?_)
  refine j_nf [_,_,_,_,_] rfl (j_if rfl rfl (fun h3=>?_) (fun h3=>by exfalso;omega))
  refine j_nf [_,_,_,_,_,_,_] rfl (j_step rfl (x_idx 3 (i) rfl rfl rfl sl36 rfl (by omega) fun z1 hz1 b1 o1=>?_))
  refine j_step rfl (x_ld_sl 0 rfl rfl ld48 fun pa2 ca2=>?_)
  refine j_run it 1 rfl (by simp) ?_
  refine j_nf [_,_,_,_,_,_] rfl (j_run it 2 rfl (by simp) ?_)
  refine j_step rfl (x_call [0] rfl (S_nat_Trim) rfl ?_)
  rintro _ _ _ ⟨pa3,ca3,rfl,rfl,rfl⟩
  simp only [List.cons_append,List.nil_append]
  refine j_step rfl (x_build (cs:=[Value.bool false,Value.slice pa3 (trim z1).length ca3]) st95 zo95 rfl rfl ?_)
  refine j_step rfl (x_lit sl93 zo93e rfl rfl rfl rfl (by decide) (by decide) rfl fun b2=>?_)
  refine j_step rfl (x_appR (z:=(false,trim z1)) 1 0 3 rfl rfl rfl rfl rfl sl93 zo93e rfl (fun w A hG=>(rd_pair (v1:=[Value.bool false]) (rd_bool _) (rd_of_slF (hG _ (fact_mem (n:=0) rfl))))) (by omega) _ by93e (by omega) fun r1=>?_)
  refine j_run it 1 rfl (by simp) ?_
  refine j_nf [_,_,_,_] rfl (j_run it 2 rfl ⟨trivial,⟨by omega,by omega⟩,trivial⟩ ?_)
  refine j_nfn 1 [.lp (pL 1012),.blk 0,.c (pL 127)] rfl ?_
  have hz : L.getD i default = z1:=by rw [List.getD,hz1];rfl
  have hzo:=hg i hil
  rw [hz] at hzo
  have e1 : ((false,trim z1) : Bool × List Nat) = enz (duF L i):=by rw [enz,duF,hz,trim_eq hzo.1]
  rw [e1,← range_snoc fun i=>enz (duF L i)]
  refine j_toM [true,false] [0,5,6,7] (by exact fra rfl) rfl rfl (ih (i + 1,r1) (by dsimp only;omega) (by dsimp only;omega))
 ·obtain rfl : n + 1 = i:=by omega
  have hf : ∀ i,i < n + 1 → (duF L i).2 < 4294967296 ^ K:=fun i hi=>okN_lt (hg i hi)
  have hK7 : K ≤ 10000000:=by omega
  refine j_nf [_,_,_,_,_] rfl (j_run it 1 rfl (by simp) ?_)
  refine j_nf [_,_,_,_,_] rfl (j_if rfl rfl (fun h3=>by exfalso;omega) (fun h3=>?_))
  refine j_nf [_,_] rfl (j_run it 1 rfl (by simp) ?_)
  refine j_nf [_,_,_] rfl (j_run it 2 rfl (by simp) ?_)
  refine j_pubR 0 0 rfl rfl (by show (n + 1) * 32 ≤ 140737488355328;omega) ?_
  refine j_step rfl (x_call [0] rfl (S_macwilliams_sums (by omega) (by omega) (by omega) (by omega) (by omega)) rfl ?_)
  rintro _ _ _ ⟨pa2,ca2,rfl,rfl,rfl⟩
  simp only [List.cons_append,List.nil_append]
  refine j_step rfl (x_len sl93 rfl ?_)
  refine j_run it 1 rfl (by simp) ?_
  refine j_nf [_,_,_] rfl ?_
  simp only [duF_z]
  refine j_row0 NatE 48 ?_
  refine j_loopG (X:=Nat × Row) [7,44,45] [0,1,2,3,4,5,6] (fun x=>[(46,.int .i64 x.1),(11,.slice (ad x.2.bo) x.1 x.2.cap)])
   (fun x=>[(x.2.bo,48,x.2.cs)])
   (fun x=>[rowF NatE x.2 x.1 ((List.range x.1).map fun j=>limbs (duV q n L j))])
   (fun x=>x.1 ≤ n + 1 ∧ ∀ j,j < x.1 → duOk q n L j) (fun x=>n + 1 - x.1) (0,⟨none,0,[]⟩) [0] rfl rfl rfl ⟨Nat.zero_le _,fun j hj=>absurd hj (Nat.not_lt_zero _)⟩ (by repeat (first | exact Fr.sub_nil _ | refine Fr.sub_cons rfl ?_)) rfl rfl ?_
  rintro ⟨j,r2⟩ ⟨hj,hjo⟩ ih2
  simp only [List.cons_append,List.nil_append] at hj hjo ih2 ⊢
  by_cases hjl : j < n + 1
  ·refine j_nf [_,_,_,_,_] rfl (j_run it 1 rfl (by simp) ?_)
   refine j_nf [_,_,_,_,_] rfl (j_if rfl rfl (fun h4=>?_) (fun h4=>by exfalso;omega))
   refine j_nf [_,_,_,_,_,_,_] rfl (j_step rfl (x_idx 2 (j) rfl rfl rfl sl93 rfl (by omega) fun z1 hz1 b1 o1=>?_))
   refine j_step rfl (x_ld_vw vw_IntE 0 rfl rfl ld95 fun g1=>?_)
   dsimp only [vw_IntE,List.cons_append,List.nil_append,List.map_cons,List.map_nil]
   refine j_step rfl (x_alloc zo95 fun b2=>?_)
   refine j_step rfl (x_bst_all 0 rfl rfl rfl ld95 rfl rfl (by simp [Value.oneCell']) ?_)
   refine j_nf [_,_,_,_,_,_,_] rfl (j_step rfl (x_field rfl fd95_1 ?_))
   refine j_step rfl (x_bld 0 rfl rfl ld48 rfl ?_)
   refine j_run it 1 rfl (by simp) ?_ --ok
   rw [range_get _ hjl] at hz1
   obtain rfl:=Option.some.inj hz1
   have m6 : (enz (duZ q n L j)).2.length ≤ 1073741824:=Nat.le_trans (limbs_length_le (szP_lt (show n + 1 ≤ 65 by omega) (Nat.le_refl _) hf fun i hi=>tz_lt hq hq2 hn (by omega) j (Nat.le_refl 17))) (by omega)
   have eD : val (enz (duZ q n L j)).2 = (duS q n L j).natAbs:=(val_limbs _).trans (duZ_abs (by omega) L j)
   have eS : val (limbs (sumV L)) = toP L (n + 1):=by rw [val_limbs,eT]
   by_cases hr : (duS q n L j).natAbs % toP L (n + 1) = 0
   ·have k1 : (limbs (val (enz (duZ q n L j)).2 % val (limbs (sumV L)))).length = 0:=by rw [eD,eS,hr,limbs_zero];rfl
    by_cases hs : duS q n L j < 0
    ·obtain ⟨s1,s2⟩:=(duZ_neg (by omega) L j).2 hs
     have k2 : (enz (duZ q n L j)).1 = true:=s1
     have k3 : 0 < (enz (duZ q n L j)).2.length:=limbs_length_pos s2
     have e1 : ¬ duAll q n L:=fun h=>by have:=(h j hjl).1;omega
     rw [duR,duE,if_neg e1,if_neg e1,k2]
     refine j_step rfl (x_call [0,8] rfl (S_nat_DivMod (by omega) (by omega)) rfl ?_)
     rintro _ _ _ ⟨p11,c11,p21,c21,rfl,rfl,rfl⟩
     simp only [List.cons_append,List.nil_append]
     refine j_run it 7 rfl (by simp) ?_
     refine j_nf [_,_,_,_,_,_,_,_] rfl (j_run it 1 rfl (by simp) ?_)
     refine j_step rfl (x_len sl48 rfl ?_)
     refine j_run it 2 rfl (by simp) ?_
     refine j_split_dec (t:=61) rfl (fun h5=>by exfalso;omega) (fun h5=>?_)
     refine j_gstep rfl rfl (x_field rfl fd95_0 ?_)
     refine j_gstep rfl rfl (x_bld 0 rfl rfl ld4 rfl ?_)
     refine j_run it 1 rfl (by simp) ?_
     refine j_gstep rfl rfl (x_field rfl fd95_1 ?_)
     refine j_gstep rfl rfl (x_bld 0 rfl rfl ld48 rfl ?_)
     refine j_gstep rfl rfl (x_len sl48 rfl ?_)
     refine j_run it 3 rfl (by simp) ?_
     refine j_nf [_,_,_,_,_,_,_] rfl (j_if rfl rfl (fun h6=>?_) (fun h6=>by exfalso;omega))
     refine j_nf [_,_,_,_,_,_,_,_] rfl (j_run it 2 rfl (by simp) ?_)
     refine j_nf [_,_,_,_,_,_,_] rfl ?_
     refine j_add (slF NatE none 0 0 []) (fun w A _=>slF_nil _ _ _ _ _) ?_
     refine j_giv [0] rfl rfl rfl ⟨_,_,rfl,rfl,rfl⟩
    ·have e1 : duOk q n L j:=⟨by omega,hr⟩
     have e2 : limbs (val (enz (duZ q n L j)).2 / val (limbs (sumV L))) = limbs (duV q n L j):=by rw [eD,eS,duV]
     by_cases k2 : (enz (duZ q n L j)).1 = true
     ·have k3 : (enz (duZ q n L j)).2.length = 0:=by
       rcases Nat.eq_zero_or_pos (duZ q n L j).2 with h | h
       ·rw [enz,h,limbs_zero];rfl
       ·exact absurd ((duZ_neg (by omega) L j).1 ⟨k2,h⟩) hs
      rw [k2]
      refine j_step rfl (x_call [0,8] rfl (S_nat_DivMod (by omega) (by omega)) rfl ?_)
      rintro _ _ _ ⟨p11,c11,p21,c21,rfl,rfl,rfl⟩
      simp only [List.cons_append,List.nil_append]
      refine j_run it 7 rfl (by simp) ?_
      refine j_nf [_,_,_,_,_,_,_,_] rfl (j_run it 1 rfl (by simp) ?_)
      refine j_step rfl (x_len sl48 rfl ?_)
      refine j_run it 2 rfl (by simp) ?_
      refine j_split_dec (t:=61) rfl (fun h5=>by exfalso;omega) (fun h5=>?_)
      refine j_gstep rfl rfl (x_field rfl fd95_0 ?_)
      refine j_gstep rfl rfl (x_bld 0 rfl rfl ld4 rfl ?_)
      refine j_run it 1 rfl (by simp) ?_
      refine j_gstep rfl rfl (x_field rfl fd95_1 ?_)
      refine j_gstep rfl rfl (x_bld 0 rfl rfl ld48 rfl ?_)
      refine j_gstep rfl rfl (x_len sl48 rfl ?_)
      refine j_run it 3 rfl (by simp) ?_
      refine j_nf [_,_,_,_,_,_,_] rfl (j_if rfl rfl (fun h6=>by exfalso;omega) (fun h6=>?_))
      refine j_nf [_,_,_,_,_,_] rfl (j_run it 2 rfl (by simp) ?_)
      refine j_step rfl (x_lit sl36 zo36e rfl rfl rfl rfl (by decide) (by decide) rfl fun b3=>?_)
      refine j_step rfl (x_appR (z:=limbs (val (enz (duZ q n L j)).snd / val (limbs (sumV L)))) 2 0 4 rfl rfl rfl rfl rfl sl36 zo36e rfl (fun w A hG=>(rd_of_slF (hG _ (fact_mem (n:=0) rfl)))) (by omega) _ by36e (by omega) fun r1=>?_)
      refine j_run it 1 rfl (by simp) ?_
      refine j_nf [_,_,_,_] rfl (j_run it 2 rfl ⟨trivial,⟨by omega,by omega⟩,trivial⟩ ?_)
      refine j_nfn 1 [.lp (pL 4084),.blk 2,.c (pL 511)] rfl ?_
      rw [e2,← range_snoc fun j=>limbs (duV q n L j)]
      refine j_toM [true,false,false] [0,6,7,8,9,10,11,12] (by exact fra rfl) rfl rfl (ih2 (j + 1,r1) (by dsimp only;omega) ⟨by dsimp only;omega,fun i hi=>by
       rcases Nat.lt_succ_iff_lt_or_eq.1 hi with h | rfl
       ·exact hjo i h
       ·exact e1⟩)
     ·rw [Bool.not_eq_true] at k2
      rw [k2]
      refine j_step rfl (x_call [0,8] rfl (S_nat_DivMod (by omega) (by omega)) rfl ?_)
      rintro _ _ _ ⟨p11,c11,p21,c21,rfl,rfl,rfl⟩
      simp only [List.cons_append,List.nil_append]
      refine j_run it 7 rfl (by simp) ?_
      refine j_nf [_,_,_,_,_,_,_,_] rfl (j_run it 1 rfl (by simp) ?_)
      refine j_step rfl (x_len sl48 rfl ?_)
      refine j_run it 2 rfl (by simp) ?_
      refine j_split_dec (t:=61) rfl (fun h5=>by exfalso;omega) (fun h5=>?_)
      refine j_gstep rfl rfl (x_field rfl fd95_0 ?_)
      refine j_gstep rfl rfl (x_bld 0 rfl rfl ld4 rfl ?_)
      refine j_run it 7 rfl (by simp) ?_
      refine j_nf [_,_,_,_,_,_,_] rfl ?_
      refine j_false rfl rfl ?_
      refine j_nf [_,_,_,_,_,_] rfl (j_run it 2 rfl (by simp) ?_)
      refine j_step rfl (x_lit sl36 zo36e rfl rfl rfl rfl (by decide) (by decide) rfl fun b3=>?_)
      refine j_step rfl (x_appR (z:=limbs (val (enz (duZ q n L j)).snd / val (limbs (sumV L)))) 2 0 4 rfl rfl rfl rfl rfl sl36 zo36e rfl (fun w A hG=>(rd_of_slF (hG _ (fact_mem (n:=0) rfl)))) (by omega) _ by36e (by omega) fun r1=>?_)
      refine j_run it 1 rfl (by simp) ?_
      refine j_nf [_,_,_,_] rfl (j_run it 2 rfl ⟨trivial,⟨by omega,by omega⟩,trivial⟩ ?_)
      refine j_nfn 1 [.lp (pL 4084),.blk 2,.c (pL 511)] rfl ?_
      rw [e2,← range_snoc fun j=>limbs (duV q n L j)]
      refine j_toM [true,false,false] [0,6,7,8,9,10,11,12] (by exact fra rfl) rfl rfl (ih2 (j + 1,r1) (by dsimp only;omega) ⟨by dsimp only;omega,fun i hi=>by
       rcases Nat.lt_succ_iff_lt_or_eq.1 hi with h | rfl
       ·exact hjo i h
       ·exact e1⟩)
   ·have k1 : 0 < (limbs (val (enz (duZ q n L j)).2 % val (limbs (sumV L)))).length:=by rw [eD,eS];exact limbs_length_pos (Nat.pos_of_ne_zero hr)
    have e1 : ¬ duAll q n L:=fun h=>hr (h j hjl).2
    rw [duR,duE,if_neg e1,if_neg e1]
    refine j_step rfl (x_call [0,8] rfl (S_nat_DivMod (by omega) (by omega)) rfl ?_)
    rintro _ _ _ ⟨p11,c11,p21,c21,rfl,rfl,rfl⟩
    simp only [List.cons_append,List.nil_append]
    refine j_run it 7 rfl (by simp) ?_
    refine j_nf [_,_,_,_,_,_,_,_] rfl (j_run it 1 rfl (by simp) ?_)
    refine j_step rfl (x_len sl48 rfl ?_)
    refine j_run it 2 rfl (by simp) ?_
    refine j_split_dec (t:=61) rfl (fun h5=>?_) (fun h5=>by exfalso;omega)
    refine j_run it 3 rfl (by simp) ?_
    refine j_gskipU rfl rfl ?_
    refine j_gskipU rfl rfl ?_
    refine j_gskipU rfl rfl ?_
    refine j_gskipU rfl rfl ?_
    refine j_run it 2 rfl (by simp) ?_
    refine j_nf [_,_,_,_,_,_,_] rfl ?_
    refine j_true rfl rfl ?_
    refine j_nf [_,_,_,_,_,_,_,_] rfl (j_run it 2 rfl (by simp) ?_)
    refine j_nf [_,_,_,_,_,_,_] rfl ?_
    refine j_add (slF NatE none 0 0 []) (fun w A _=>slF_nil _ _ _ _ _) ?_
    refine j_giv [0] rfl rfl rfl ⟨_,_,rfl,rfl,rfl⟩
  ·obtain rfl : n + 1 = j:=by omega
   have e1 : duAll q n L:=hjo
   rw [duR,duE,if_pos e1,if_pos e1,show ((List.range (n + 1)).map fun j=>limbs (duV q n L j)).length = n + 1 by simp]
   refine j_nf [_,_,_,_,_] rfl (j_run it 1 rfl (by simp) ?_)
   refine j_nf [_,_,_,_,_] rfl (j_if rfl rfl (fun h4=>by exfalso;omega) (fun h4=>?_))
   refine j_nf [_,_] rfl (j_run it 3 rfl (by simp) ?_)
   refine j_nf [_] rfl ?_
   refine j_pubR 0 0 rfl rfl (by show (n + 1) * 24 ≤ 140737488355328;omega) ?_
   refine j_giv [0] rfl rfl rfl ⟨_,_,rfl,rfl,rfl⟩
theorem zeroN {l : List Nat} (h : ∀ x ∈ l,x < 4294967296) : (trim l).length = 0 ↔ val l = 0:=by
 rw [trim_eq h,List.length_eq_zero_iff,limbs_nil]
theorem bitsN {l : List Nat} (h : ∀ x ∈ l,x < 4294967296) : bitsL l = 0 ↔ val l = 0:=bitsL_zero h
def cntP (L : List (List Nat)) : Nat → Nat
 | 0=>0
 | k + 1=>cntP L k + (if val (L.getD (k + 1) default) = 0 then 0 else 1)
theorem cntP_le (L : List (List Nat)) : ∀ k,cntP L k ≤ k
 | 0=>Nat.le_refl 0
 | k + 1=>by have:=cntP_le L k;rw [cntP];split <;> omega
def leP (L : List (List Nat)) : Nat → Nat
 | 0=>0
 | k + 1=>if leP L k ≠ 0 then leP L k else if val (L.getD (k + 1) default) = 0 then 0 else k + 1
theorem leP_le (L : List (List Nat)) : ∀ k,leP L k ≤ k
 | 0=>Nat.le_refl 0
 | k + 1=>by have:=leP_le L k;rw [leP];split <;> (try split) <;> omega
theorem leP_stay (L : List (List Nat)) {k : Nat} (h : leP L k ≠ 0) : ∀ m,k ≤ m → leP L m = leP L k:=by
 intro m hm
 induction m with
 | zero => obtain rfl : k = 0 := by omega
           rfl
 | succ m ih =>
  rcases Nat.lt_succ_iff_lt_or_eq.1 (Nat.lt_succ_of_le hm) with h1 | rfl
  ·rw [leP,ih (by omega),if_pos h]
  ·rfl
def stP (B : List (List Nat)) (n d : Nat) : Nat → Nat
 | 0=>0
 | t + 1=>if cntP B (n - (t + 1)) ≤ d - (t + 1) then t + 1 else stP B n d t
theorem stP_le (B : List (List Nat)) (n d : Nat) : ∀ k,stP B n d k ≤ k
 | 0=>Nat.le_refl 0
 | k + 1=>by have:=stP_le B n d k;rw [stP];split <;> omega
theorem S_macwilliams_some {m : Nat} {pa : Option Addr} {n ca : Nat} {L : List (List Nat)} (hm : m < n) (hr : ∀ l ∈ L,∀ x ∈ l,x < 4294967296) :
  Ctr Try.prog 37 [.slice pa n ca,.int .i64 m] [] [slF NatE pa n ca L] (Rv (.int .i64 (cntP L m)) []):=by
 refine Ctr_of_j' (F:=F_macwilliams_some) rfl fun C=>?_
 refine j_len 0 rfl fun hn hb _=>?_
 have hb' : L.length * 24 ≤ 140737488355328:=hb
 refine j_nf [_,_] rfl (j_run it 1 rfl (by simp) ?_)
 refine j_nf [_,_] rfl (j_run it 1 rfl (by simp) ?_)
 refine j_nf [_,_,_] rfl (j_run it 1 rfl (by simp) ?_)
 refine j_nf [_,_,_] rfl ?_
 refine j_loopG (X:=Nat) [0,1,4] [0] (fun k=>[(6,.int .i64 ((k + 1 : Nat) : Int)),(5,.int .i64 ((cntP L k : Nat) : Int))]) (fun _=>[]) (fun _=>[])
  (fun k=>k ≤ m) (fun k=>m - k) 0 [] rfl rfl rfl (Nat.zero_le _) (by repeat (first | exact Fr.sub_nil _ | refine Fr.sub_cons rfl ?_)) rfl rfl ?_
 intro k hk ih
 simp only [List.cons_append,List.nil_append] at ih ⊢
 have hc:=cntP_le L k
 by_cases hkl : k < m
 ·have hz:=get_some (l:=L) (i:=k + 1) (dflt:=default) (by omega)
  have hb0:=bitsN (hr _ (List.mem_of_getElem? hz))
  refine j_nf [_,_,_,_,_,_] rfl (j_run it 3 rfl (by simp) ?_)
  refine j_nf [_,_,_,_,_] rfl (j_if rfl rfl (fun h1=>?_) (fun h1=>by exfalso;omega))
  refine j_nf [_,_,_,_,_,_,_] rfl (j_run it 2 rfl (by simp) ?_)
  refine j_step rfl (x_idx 0 (k + 1) rfl rfl rfl sl36 rfl (by omega) fun z1 hz1 b1 o1=>?_)
  refine j_step rfl (x_ld_sl 0 rfl rfl ld48 fun pa1 ca1=>?_)
  refine j_step rfl (x_call [0] rfl (S_nat_Bits) rfl ?_)
  rintro _ _ _ ⟨rfl,rfl,rfl⟩
  simp only [List.cons_append,List.nil_append]
  refine j_run it 1 rfl (by simp) ?_
  refine j_nf [_,_,_,_,_,_] rfl (j_if rfl rfl (fun h2=>?_) (fun h2=>?_))
  ·have hzz : L.getD (k + 1) default = z1:=by rw [List.getD,hz1];rfl
   rw [hzz] at hb0
   have e : cntP L (k + 1) = cntP L k + 1:=by rw [cntP,hzz,if_neg (fun h=>by have:=hb0.2 h;omega)]
   refine j_nf [_,_,_,_,_,_] rfl (j_run it 3 rfl ⟨trivial,⟨by omega,by omega⟩,trivial,trivial⟩ ?_)
   refine j_nf [_,_,_,_] rfl (j_run it 3 rfl ⟨trivial,⟨by omega,by omega⟩,trivial,trivial⟩ ?_)
   refine j_nfn 1 [.lp (pL 116),.blk 0,.c [1,1,1]] rfl ?_
   have ih':=ih (k + 1) (by omega) (by omega)
   rw [e] at ih'
   refine j_to [2] (by exact fra rfl) rfl rfl (ih')
  ·have hzz : L.getD (k + 1) default = z1:=by rw [List.getD,hz1];rfl
   rw [hzz] at hb0
   have e : cntP L (k + 1) = cntP L k:=by rw [cntP,hzz,if_pos (hb0.1 (by omega))];rfl
   refine j_nf [_,_,_,_] rfl (j_run it 3 rfl ⟨trivial,⟨by omega,by omega⟩,trivial,trivial⟩ ?_)
   refine j_nfn 1 [.lp (pL 116),.blk 0,.c [1,1,1]] rfl ?_
   have ih':=ih (k + 1) (by omega) (by omega)
   rw [e] at ih'
   refine j_to [2] (by exact fra rfl) rfl rfl (ih')
 ·obtain rfl : m = k:=by omega
  refine j_nf [_,_,_,_,_,_] rfl (j_run it 3 rfl (by simp) ?_)
  refine j_nf [_,_,_,_,_] rfl (j_if rfl rfl (fun h1=>by exfalso;omega) (fun h1=>?_))
  refine j_nf [_,_] rfl (j_run it 2 rfl (by simp) ?_)
  refine j_nf [_] rfl ?_
  refine j_giv [] rfl rfl rfl ⟨rfl,rfl,rfl⟩
def DE (q : Int) (n : Nat) (L : List (List Nat)) : Int:=if wrongOf q n ≠ 0 then wrongOf q n else if sumV L = 0 then 7 else duE q.toNat (n - 1) L
def DR (q : Int) (n : Nat) (L : List (List Nat)) : List (List Nat):=if wrongOf q n ≠ 0 then [] else if sumV L = 0 then [] else duR q.toNat (n - 1) L
theorem wrong_zero {q : Int} {n : Nat} (h : wrongOf q n = 0) : ∃ (p m : Nat),q = p ∧ n = m + 1 ∧ 2 ≤ p ∧ p ≤ 256 ∧ m ≤ 64:=by
 unfold wrongOf at h
 by_cases h1 : q < 2 ∨ 256 < q
 ·rw [if_pos h1] at h;cases h
 ·rw [if_neg h1,shapeOf] at h
  by_cases h2 : n < 1 ∨ 65 < n
  ·rw [if_pos h2] at h;cases h
  ·exact ⟨q.toNat,n - 1,by omega,by omega,by omega,by omega,by omega⟩
theorem DE_zero {q : Int} {n : Nat} {L : List (List Nat)} (h : DE q n L = 0) : 1 ≤ n ∧ n ≤ 65 ∧ (DR q n L).length = n ∧ ∀ l ∈ DR q n L,∀ x ∈ l,x < 4294967296:=by
 unfold DE at h
 by_cases h1 : wrongOf q n = 0
 ·rw [if_neg (not_not_intro h1)] at h
  obtain ⟨p,m,rfl,rfl,h2,h3,h4⟩:=wrong_zero h1
  by_cases h5 : sumV L = 0
  ·rw [if_pos h5] at h;cases h
  ·rw [if_neg h5,duE] at h
   by_cases h6 : duAll (p : Int).toNat (m + 1 - 1) L
   ·refine ⟨by omega,by omega,?_,?_⟩
    ·rw [DR,if_neg (not_not_intro h1),if_neg h5,duR,if_pos h6];simp
    ·rw [DR,if_neg (not_not_intro h1),if_neg h5,duR,if_pos h6]
     intro l hl
     obtain ⟨i,_,rfl⟩:=List.mem_map.1 hl
     exact limbs_lt _
   ·rw [if_neg h6] at h;cases h
 ·rw [if_pos h1] at h;exact absurd h h1
theorem sum_toP {n : Nat} {L : List (List Nat)} (h : L.length = n + 1) : sumV L = toP L (n + 1):=by rw [← toP_all,h]
theorem S_macwilliams_Dual {q : Int} {n K : Nat} {pa : Option Addr} {ca : Nat} {L : List (List Nat)} (hK : K ≤ 10000) (hL : ∀ l ∈ L,okN K l) :
  Ctr Try.prog 35 [.int .i64 q,.slice pa n ca] [] [slF NatE pa n ca L] (SvE NatE (DR q n L).length (DR q n L) (DE q n L)):=by
 by_cases h1 : wrongOf q n = 0
 ·obtain ⟨p,m,rfl,rfl,h2,h3,h4⟩:=wrong_zero h1
  by_cases h5 : sumV L = 0
  ·rw [DR,DE,if_neg (not_not_intro h1),if_neg (not_not_intro h1),if_pos h5,if_pos h5]
   refine Ctr_of_j' (F:=F_macwilliams_Dual) rfl fun C=>?_
   refine j_len 0 rfl fun hn _ _=>?_
   have hlen : L.length ≤ 65536:=by omega
   have hLl : ∀ l ∈ L,l.length ≤ 1073741824:=fun l h=>by have:=(hL l h).2;omega
   have hT0 : (limbs (sumV L)).length = 0:=by rw [h5,limbs_zero];rfl
   refine j_nf [_,_] rfl (j_run it 2 rfl (by simp) ?_)
   refine j_nf [_,_,_] rfl (j_run it 2 rfl (by simp) ?_)
   refine j_step rfl (x_len sl36 rfl ?_)
   refine j_step rfl (x_call [] rfl (S_macwilliams_wrong) rfl ?_)
   rintro _ _ _ ⟨rfl,rfl,rfl⟩
   simp only [List.cons_append,List.nil_append]
   refine j_run it 1 rfl (by simp) ?_
   refine j_nf [_,_,_] rfl (j_run it 2 rfl (by simp) ?_)
   refine j_nf [_,_] rfl (j_ifn rfl rfl (fun h6=>by exfalso;omega) (fun h6=>?_))
   refine j_nf [_,_] rfl (j_run it 1 rfl (by simp) ?_)
   refine j_step rfl (x_call [0] rfl (S_nat_Add (by omega) (by omega)) rfl ?_)
   rintro _ _ _ ⟨pa1,ca1,rfl,rfl,rfl⟩
   simp only [List.cons_append,List.nil_append]
   refine j_run it 1 rfl (by simp) ?_
   refine j_nf [_,_,_] rfl (j_run it 1 rfl (by simp) ?_)
   refine j_step rfl (x_len sl48 rfl ?_)
   refine j_run it 1 rfl (by simp) ?_
   refine j_nf [_,_] rfl (j_if rfl rfl (fun h7=>?_) (fun h7=>by exfalso;omega))
   refine j_nf [_,_,_] rfl (j_run it 2 rfl (by simp) ?_)
   refine j_nf [_,_] rfl ?_
   refine j_add (slF NatE none 0 0 []) (fun w A _=>slF_nil _ _ _ _ _) ?_
   refine j_giv [0] rfl rfl rfl ⟨_,_,rfl,rfl,rfl⟩
  ·rw [DR,DE,if_neg (not_not_intro h1),if_neg (not_not_intro h1),if_neg h5,if_neg h5,show ((p : Nat) : Int).toNat = p by omega,Nat.add_sub_cancel]
   refine Ctr_len (F:=F_macwilliams_Dual) 0 rfl fun hn=>?_
   exact U_macwilliams_Dual h2 h3 h4 hn.symm hK hL (by rw [← sum_toP hn.symm];exact h5)
 ·rw [DR,DE,if_pos h1,if_pos h1]
  refine Ctr_of_j' (F:=F_macwilliams_Dual) rfl fun C=>?_
  refine j_nf [_,_] rfl (j_run it 2 rfl (by simp) ?_)
  refine j_nf [_,_,_] rfl (j_run it 2 rfl (by simp) ?_)
  refine j_step rfl (x_len sl36 rfl ?_)
  refine j_step rfl (x_call [] rfl (S_macwilliams_wrong) rfl ?_)
  rintro _ _ _ ⟨rfl,rfl,rfl⟩
  simp only [List.cons_append,List.nil_append]
  refine j_run it 1 rfl (by simp) ?_
  refine j_nf [_,_,_] rfl (j_run it 2 rfl (by simp) ?_)
  refine j_nf [_,_] rfl (j_ifn rfl rfl (fun h2=>?_) (fun h2=>by exfalso;omega))
  refine j_nf [_,_,_] rfl (j_run it 3 rfl (by simp) ?_)
  refine j_nf [_,_] rfl ?_
  refine j_add (slF NatE none 0 0 []) (fun w A _=>slF_nil _ _ _ _ _) ?_
  refine j_giv [0] rfl rfl rfl ⟨_,_,rfl,rfl,rfl⟩
def stV (q : Int) (n : Nat) (L : List (List Nat)) : Nat:=if DE q n L ≠ 0 then 0 else if leP L (n - 1) = 0 then 0 else stP (DR q n L) (n - 1) (leP L (n - 1)) (leP L (n - 1) - 1)
def stE (q : Int) (n : Nat) (L : List (List Nat)) : Int:=if DE q n L ≠ 0 then DE q n L else if leP L (n - 1) = 0 then 11 else 0
theorem S_macwilliams_Strength {q : Int} {n K : Nat} {pa : Option Addr} {ca : Nat} {L : List (List Nat)} (hK : K ≤ 10000) (hL : ∀ l ∈ L,okN K l) :
  Ctr Try.prog 13 [.int .i64 q,.slice pa n ca] [] [slF NatE pa n ca L] (Rv (.tuple #[.int .i64 ((stV q n L : Nat) : Int),.int .i64 (stE q n L)]) []):=by
 refine Ctr_of_j' (F:=F_macwilliams_Strength) rfl fun C=>?_
 refine j_len 0 rfl fun hln _ _=>?_
 by_cases h : DE q n L = 0
 ·obtain ⟨d1,d2,d3,d4⟩:=DE_zero h
  obtain ⟨m,rfl⟩ : ∃ a : Nat,n = a + 1:=⟨n - 1,by omega⟩
  rw [stV,stE,if_neg (not_not_intro h),if_neg (not_not_intro h),Nat.add_sub_cancel]
  have hle:=leP_le L m
  refine j_nf [_,_] rfl (j_run it 2 rfl (by simp) ?_)
  refine j_nf [_,_] rfl (j_run it 2 rfl (by simp) ?_)
  refine j_step rfl (x_call [0] rfl (S_macwilliams_Dual (by omega) (by omega)) rfl ?_)
  rintro _ _ _ ⟨pa1,ca1,rfl,rfl,rfl⟩
  simp only [List.cons_append,List.nil_append]
  refine j_run it 5 rfl (by simp) ?_
  refine j_nf [_,_,_] rfl (j_run it 2 rfl (by simp) ?_)
  refine j_nf [_,_] rfl (j_ifn rfl rfl (fun h1=>by exfalso;omega) (fun h1=>?_))
  refine j_nf [_,_] rfl (j_run it 1 rfl (by simp) ?_)
  refine j_step rfl (x_len sl36 rfl ?_)
  refine j_run it 3 rfl ⟨trivial,trivial,⟨by omega,by omega⟩,trivial⟩ ?_
  refine j_nf [_,_,_] rfl ?_ --ok
  refine j_loopG (X:=Nat) [1,4,5,6,8] [0,1] (fun k=>[(9,.int .i64 ((k + 1 : Nat) : Int))]) (fun _=>[]) (fun _=>[])
   (fun k=>k ≤ m ∧ leP L k = 0) (fun k=>m - k) 0 [] rfl rfl rfl ⟨Nat.zero_le _,rfl⟩ (by repeat (first | exact Fr.sub_nil _ | refine Fr.sub_cons rfl ?_)) rfl rfl ?_
  rintro k ⟨hk,hk0⟩ ih
  simp only [List.cons_append,List.nil_append] at ih ⊢
  by_cases hkm : k < m
  ·have hz:=get_some (l:=L) (i:=k + 1) (dflt:=default) (by omega)
   have hb0:=bitsN (hL _ (List.mem_of_getElem? hz)).1
   refine j_nf [_,_,_,_,_,_] rfl (j_run it 4 rfl (by simp) ?_)
   refine j_split_dec (t:=26) rfl (fun h2=>?_) (fun h2=>by exfalso;omega)
   refine j_run it 2 rfl (by simp) ?_
   refine j_gstep rfl rfl (x_idx 1 (k + 1) rfl rfl rfl sl36 rfl (by omega) fun z1 hz1 b1 o1=>?_)
   refine j_gstep rfl rfl (x_ld_sl 0 rfl rfl ld48 fun pa2 ca2=>?_)
   refine j_gstep rfl rfl (x_call [0] rfl (S_nat_Bits) rfl ?_)
   rintro _ _ _ ⟨rfl,rfl,rfl⟩
   simp only [List.cons_append,List.nil_append]
   refine j_run it 2 rfl (by simp) ?_
   refine j_nf [_,_,_,_,_] rfl (j_if rfl rfl (fun h3=>?_) (fun h3=>?_))
   ·have hzz : L.getD (k + 1) default = z1:=by rw [List.getD,hz1];rfl
    rw [hzz] at hb0
    have e : leP L (k + 1) = 0:=by rw [leP,hk0,if_neg (not_not_intro rfl),hzz,if_pos (hb0.1 (by omega))]
    refine j_nf [_,_,_,_,_] rfl (j_run it 3 rfl ⟨trivial,⟨by omega,by omega⟩,trivial,trivial⟩ ?_)
    refine j_nfn 2 [.lp (pL 248),.blk 0,.c [1,1,1,1,1]] rfl ?_
    refine j_to [2,3] (by exact fra rfl) rfl rfl (ih (k + 1) (by omega) ⟨by omega,e⟩)
   ·have hzz : L.getD (k + 1) default = z1:=by rw [List.getD,hz1];rfl
    rw [hzz] at hb0
    have h0 : ¬ val (L.getD (k + 1) default) = 0:=fun h=>by
     rw [hzz] at h
     have:=hb0.2 h
     omega
    have e : leP L (k + 1) = k + 1:=by rw [leP,hk0,if_neg (not_not_intro rfl),if_neg h0]
    have e2 : leP L m = k + 1:=by rw [leP_stay L (k:=k + 1) (by omega) m (by omega),e]
    rw [e2,if_neg (by omega),if_neg (by omega),Nat.add_sub_cancel]
    refine j_nf [_,_,_] rfl (j_run it 3 rfl (by simp) ?_)
    refine j_nf [_,_] rfl (j_if rfl rfl (fun h4=>by exfalso;omega) (fun h4=>?_))
    refine j_nf [_,_,_] rfl (j_run it 3 rfl ⟨trivial,⟨by omega,by omega⟩,trivial,trivial⟩ ?_)
    refine j_nf [_,_,_] rfl ?_ --ok
    rw [show ((k + 1 : Nat) : Int) - 1 = (k : Int) by omega]
    refine j_loopG (X:=Nat) [6,8,9] [0,1,2,3] (fun t=>[(10,.int .i64 t)]) (fun _=>[]) (fun _=>[])
     (fun t=>t ≤ k ∧ stP (DR q (m + 1) L) m (k + 1) k = stP (DR q (m + 1) L) m (k + 1) t) (fun t=>t) k [] rfl rfl rfl ⟨Nat.le_refl _,rfl⟩ (by repeat (first | exact Fr.sub_nil _ | refine Fr.sub_cons rfl ?_)) rfl rfl ?_
    rintro t ⟨ht,hts⟩ iht
    simp only [List.cons_append,List.nil_append] at iht ⊢
    cases t with
    | zero =>
     rw [hts,stP]
     refine j_nf [_,_,_,_,_,_] rfl (j_run it 2 rfl (by simp) ?_)
     refine j_nf [_,_,_,_,_] rfl (j_if rfl rfl (fun h5=>by exfalso;omega) (fun h5=>?_))
     refine j_nf [_,_] rfl (j_run it 2 rfl (by simp) ?_)
     refine j_nf [_] rfl ?_
     refine j_giv [] rfl rfl rfl ⟨rfl,rfl,rfl⟩
    | succ t =>
     by_cases hc : cntP (DR q (m + 1) L) (m - (t + 1)) ≤ k + 1 - (t + 1)
     ·have hc2 : cntP (DR q (m + 1) L) (m + 1 - 1 - (t + 1)) ≤ k + 1 - (t + 1):=hc
      rw [hts,stP,if_pos hc]
      refine j_nf [_,_,_,_,_,_] rfl (j_run it 2 rfl (by simp) ?_)
      refine j_nf [_,_,_,_,_] rfl (j_if rfl rfl (fun h5=>?_) (fun h5=>by exfalso;omega))
      refine j_nf [_,_,_,_,_,_,_] rfl (j_run it 4 rfl ⟨⟨by omega,by omega⟩,trivial,trivial,trivial,trivial⟩ ?_)
      refine j_recast (t:=48) (((((m + 1) - 1) - (t + 1)) : Nat) : Int) rfl (by omega) ?_
      refine j_step rfl (x_call [2] rfl (S_macwilliams_some (by omega) (by omega)) rfl ?_)
      rintro _ _ _ ⟨rfl,rfl,rfl⟩
      simp only [List.cons_append,List.nil_append]
      refine j_run it 4 rfl ⟨trivial,⟨by omega,by omega⟩,trivial,trivial,trivial⟩ ?_
      refine j_nf [_,_,_,_,_,_] rfl (j_if rfl rfl (fun h6=>?_) (fun h6=>by exfalso;omega))
      refine j_nf [_,_,_,_,_,_,_] rfl (j_run it 3 rfl (by simp) ?_)
      refine j_nf [_,_,_,_,_,_] rfl ?_
      refine j_giv [] rfl rfl rfl ⟨rfl,rfl,rfl⟩
     ·have hc2 : ¬ cntP (DR q (m + 1) L) (m + 1 - 1 - (t + 1)) ≤ k + 1 - (t + 1):=hc
      have hts2:=hts
      rw [stP,if_neg hc] at hts
      refine j_nf [_,_,_,_,_,_] rfl (j_run it 2 rfl (by simp) ?_)
      refine j_nf [_,_,_,_,_] rfl (j_if rfl rfl (fun h5=>?_) (fun h5=>by exfalso;omega))
      refine j_nf [_,_,_,_,_,_,_] rfl (j_run it 4 rfl ⟨⟨by omega,by omega⟩,trivial,trivial,trivial,trivial⟩ ?_)
      refine j_recast (t:=48) (((((m + 1) - 1) - (t + 1)) : Nat) : Int) rfl (by omega) ?_
      refine j_step rfl (x_call [2] rfl (S_macwilliams_some (by omega) (by omega)) rfl ?_)
      rintro _ _ _ ⟨rfl,rfl,rfl⟩
      simp only [List.cons_append,List.nil_append]
      refine j_run it 4 rfl ⟨trivial,⟨by omega,by omega⟩,trivial,trivial,trivial⟩ ?_
      refine j_nf [_,_,_,_,_,_] rfl (j_if rfl rfl (fun h6=>by exfalso;omega) (fun h6=>?_))
      refine j_nf [_,_,_,_] rfl (j_run it 3 rfl ⟨trivial,⟨by omega,by omega⟩,trivial,trivial⟩ ?_)
      refine j_nfn 1 [.lp (pL 2036),.blk 2,.c (pL 255)] rfl ?_
      refine j_to [0,1,2,3] (by exact fii rfl (by omega) (fcc rfl (fcc rfl (fcc rfl (fzz _))))) rfl rfl (iht t (by omega) ⟨by omega,hts⟩)
  ·obtain rfl : m = k:=by omega
   rw [hk0,if_pos rfl,if_pos rfl]
   refine j_nf [_,_,_,_,_,_] rfl (j_run it 4 rfl (by simp) ?_)
   refine j_split_dec (t:=26) rfl (fun h2=>by exfalso;omega) (fun h2=>?_)
   refine j_run it 7 rfl (by simp) ?_
   refine j_nf [_,_,_,_,_] rfl ?_
   refine j_false rfl rfl ?_
   refine j_nf [_,_,_] rfl (j_run it 3 rfl (by simp) ?_)
   refine j_nf [_,_] rfl (j_if rfl rfl (fun h3=>?_) (fun h3=>by exfalso;omega))
   refine j_nf [_,_,_] rfl (j_run it 2 rfl (by simp) ?_)
   refine j_nf [_,_] rfl ?_
   refine j_giv [] rfl rfl rfl ⟨rfl,rfl,rfl⟩
 ·rw [stV,stE,if_pos h,if_pos h]
  refine j_nf [_,_] rfl (j_run it 2 rfl (by simp) ?_)
  refine j_nf [_,_] rfl (j_run it 2 rfl (by simp) ?_)
  refine j_step rfl (x_call [0] rfl (S_macwilliams_Dual (by omega) (by omega)) rfl ?_)
  rintro _ _ _ ⟨pa1,ca1,rfl,rfl,rfl⟩
  simp only [List.cons_append,List.nil_append]
  refine j_run it 5 rfl (by simp) ?_
  refine j_nf [_,_,_] rfl (j_run it 2 rfl (by simp) ?_)
  refine j_nf [_,_] rfl (j_ifn rfl rfl (fun h1=>?_) (fun h1=>by exfalso;omega))
  refine j_nf [_,_,_] rfl (j_run it 3 rfl (by simp) ?_)
  refine j_nf [_,_] rfl ?_
  refine j_giv [] rfl rfl rfl ⟨rfl,rfl,rfl⟩
theorem S_codewrightref24_nonzero {m : Nat} {pa : Option Addr} {n ca : Nat} {L : List (List Nat)} (hm : m < n) (hr : ∀ l ∈ L,∀ x ∈ l,x < 4294967296) :
  Ctr Try.prog 45 [.slice pa n ca,.int .i64 m] [] [slF NatE pa n ca L] (Rv (.int .i64 (cntP L m)) []):=by
 refine Ctr_of_j' (F:=F_codewrightref24_nonzero) rfl fun C=>?_
 refine j_len 0 rfl fun hn hb _=>?_
 have hb' : L.length * 24 ≤ 140737488355328:=hb
 refine j_nf [_,_] rfl (j_run it 1 rfl (by simp) ?_)
 refine j_nf [_,_] rfl (j_run it 1 rfl (by simp) ?_)
 refine j_nf [_,_,_] rfl (j_run it 1 rfl (by simp) ?_)
 refine j_nf [_,_,_] rfl ?_
 refine j_loopG (X:=Nat) [0,1,4] [0] (fun k=>[(6,.int .i64 ((k + 1 : Nat) : Int)),(5,.int .i64 ((cntP L k : Nat) : Int))]) (fun _=>[]) (fun _=>[])
  (fun k=>k ≤ m) (fun k=>m - k) 0 [] rfl rfl rfl (Nat.zero_le _) (by repeat (first | exact Fr.sub_nil _ | refine Fr.sub_cons rfl ?_)) rfl rfl ?_
 intro k hk ih
 simp only [List.cons_append,List.nil_append] at ih ⊢
 have hc:=cntP_le L k
 by_cases hkl : k < m
 ·have hz:=get_some (l:=L) (i:=k + 1) (dflt:=default) (by omega)
  have hb0:=zeroN (hr _ (List.mem_of_getElem? hz))
  refine j_nf [_,_,_,_,_,_] rfl (j_run it 3 rfl (by simp) ?_)
  refine j_nf [_,_,_,_,_] rfl (j_if rfl rfl (fun h1=>?_) (fun h1=>by exfalso;omega))
  refine j_nf [_,_,_,_,_,_,_] rfl (j_run it 2 rfl (by simp) ?_)
  refine j_step rfl (x_idx 0 (k + 1) rfl rfl rfl sl36 rfl (by omega) fun z1 hz1 b1 o1=>?_)
  refine j_step rfl (x_ld_sl 0 rfl rfl ld48 fun pa1 ca1=>?_)
  refine j_step rfl (x_call [0] rfl (S_codewrightref01_Zero) rfl ?_)
  rintro _ _ _ ⟨rfl,rfl,rfl⟩
  simp only [List.cons_append,List.nil_append]
  refine j_run it 1 rfl (by simp) ?_
  refine j_nf [_,_,_,_,_,_] rfl (j_ifn rfl rfl (fun h2=>?_) (fun h2=>?_))
  ·have hzz : L.getD (k + 1) default = z1:=by rw [List.getD,hz1];rfl
   rw [hzz] at hb0
   have e : cntP L (k + 1) = cntP L k + 1:=by rw [cntP,hzz,if_neg (fun h=>by have:=hb0.2 h;omega)]
   refine j_nf [_,_,_,_,_,_] rfl (j_run it 3 rfl ⟨trivial,⟨by omega,by omega⟩,trivial,trivial⟩ ?_)
   refine j_nf [_,_,_,_] rfl (j_run it 3 rfl ⟨trivial,⟨by omega,by omega⟩,trivial,trivial⟩ ?_)
   refine j_nfn 1 [.lp (pL 116),.blk 0,.c [1,1,1]] rfl ?_
   have ih':=ih (k + 1) (by omega) (by omega)
   rw [e] at ih'
   refine j_to [2] (by exact fra rfl) rfl rfl (ih')
  ·have hzz : L.getD (k + 1) default = z1:=by rw [List.getD,hz1];rfl
   rw [hzz] at hb0
   have e : cntP L (k + 1) = cntP L k:=by rw [cntP,hzz,if_pos (hb0.1 (by omega))];rfl
   refine j_nf [_,_,_,_] rfl (j_run it 3 rfl ⟨trivial,⟨by omega,by omega⟩,trivial,trivial⟩ ?_)
   refine j_nfn 1 [.lp (pL 116),.blk 0,.c [1,1,1]] rfl ?_
   have ih':=ih (k + 1) (by omega) (by omega)
   rw [e] at ih'
   refine j_to [2] (by exact fra rfl) rfl rfl (ih')
 ·obtain rfl : m = k:=by omega
  refine j_nf [_,_,_,_,_,_] rfl (j_run it 3 rfl (by simp) ?_)
  refine j_nf [_,_,_,_,_] rfl (j_if rfl rfl (fun h1=>by exfalso;omega) (fun h1=>?_))
  refine j_nf [_,_] rfl (j_run it 2 rfl (by simp) ?_)
  refine j_nf [_] rfl ?_
  refine j_giv [] rfl rfl rfl ⟨rfl,rfl,rfl⟩
theorem S_codewrightref24_Least {pa : Option Addr} {n ca : Nat} {L : List (List Nat)} (hr : ∀ l ∈ L,∀ x ∈ l,x < 4294967296) :
  Ctr Try.prog 15 [.slice pa n ca] [] [slF NatE pa n ca L] (Rv (.int .i64 (leP L (n - 1))) []):=by
 refine Ctr_of_j' (F:=F_codewrightref24_Least) rfl fun C=>?_
 refine j_len 0 rfl fun hn hb _=>?_
 have hb' : L.length * 24 ≤ 140737488355328:=hb
 refine j_nf [_,_] rfl (j_run it 1 rfl (by simp) ?_)
 refine j_nf [_,_,_] rfl (j_run it 1 rfl (by simp) ?_)
 refine j_nf [_,_,_] rfl ?_
 refine j_loopG (X:=Nat) [0] [0] (fun k=>[(3,.int .i64 ((k + 1 : Nat) : Int))]) (fun _=>[]) (fun _=>[])
  (fun k=>k ≤ n ∧ leP L k = 0) (fun k=>n - k) 0 [] rfl rfl rfl ⟨Nat.zero_le _,rfl⟩ (by repeat (first | exact Fr.sub_nil _ | refine Fr.sub_cons rfl ?_)) rfl rfl ?_
 rintro k ⟨hk,hk0⟩ ih
 simp only [List.cons_append,List.nil_append] at ih ⊢
 by_cases hkl : k + 1 < n
 ·have hz:=get_some (l:=L) (i:=k + 1) (dflt:=default) (by omega)
  have hb0:=zeroN (hr _ (List.mem_of_getElem? hz))
  refine j_nf [_,_,_,_,_,_] rfl (j_run it 2 rfl (by simp) ?_)
  refine j_step rfl (x_len sl36 rfl ?_)
  refine j_run it 1 rfl (by simp) ?_
  refine j_nf [_,_,_,_,_] rfl (j_if rfl rfl (fun h1=>?_) (fun h1=>by exfalso;omega))
  refine j_nf [_,_,_,_,_,_,_] rfl (j_run it 2 rfl (by simp) ?_)
  refine j_step rfl (x_idx 0 (k + 1) rfl rfl rfl sl36 rfl (by omega) fun z1 hz1 b1 o1=>?_)
  refine j_step rfl (x_ld_sl 0 rfl rfl ld48 fun pa1 ca1=>?_)
  refine j_step rfl (x_call [0] rfl (S_codewrightref01_Zero) rfl ?_)
  rintro _ _ _ ⟨rfl,rfl,rfl⟩
  simp only [List.cons_append,List.nil_append]
  refine j_run it 1 rfl (by simp) ?_
  refine j_nf [_,_,_,_,_,_] rfl (j_ifn rfl rfl (fun h2=>?_) (fun h2=>?_))
  ·have hzz : L.getD (k + 1) default = z1:=by rw [List.getD,hz1];rfl
   rw [hzz] at hb0
   have e : leP L (k + 1) = k + 1:=by rw [leP,hk0,if_neg (not_not_intro rfl),hzz,if_neg (fun h=>by have:=hb0.2 h;omega)]
   have e2 : leP L (n - 1) = k + 1:=by rw [leP_stay L (k:=k + 1) (by omega) (n - 1) (by omega),e]
   rw [e2]
   refine j_nf [_,_,_,_,_,_,_] rfl (j_run it 2 rfl (by simp) ?_)
   refine j_nf [_,_,_,_,_,_] rfl ?_
   refine j_giv [] rfl rfl rfl ⟨rfl,rfl,rfl⟩
  ·have hzz : L.getD (k + 1) default = z1:=by rw [List.getD,hz1];rfl
   rw [hzz] at hb0
   have e : leP L (k + 1) = 0:=by rw [leP,hk0,if_neg (not_not_intro rfl),hzz,if_pos (hb0.1 (by omega))]
   refine j_nf [_,_,_,_] rfl (j_run it 3 rfl ⟨trivial,⟨by omega,by omega⟩,trivial,trivial⟩ ?_)
   refine j_nfn 1 [.lp [1,0,1,0,0],.blk 0,.c [1,1]] rfl ?_
   refine j_to [2] (by exact fra rfl) rfl rfl (ih (k + 1) (by omega) ⟨by omega,e⟩)
 ·have e : leP L (n - 1) = 0:=by
   by_cases h0 : leP L (n - 1) = 0
   ·exact h0
   ·exact absurd ((leP_stay L h0 k (by omega)).symm.trans hk0) h0
  rw [e]
  refine j_nf [_,_,_,_,_,_] rfl (j_run it 2 rfl (by simp) ?_)
  refine j_step rfl (x_len sl36 rfl ?_)
  refine j_run it 1 rfl (by simp) ?_
  refine j_nf [_,_,_,_,_] rfl (j_if rfl rfl (fun h1=>by exfalso;omega) (fun h1=>?_))
  refine j_nf [_,_] rfl (j_run it 1 rfl (by simp) ?_)
  refine j_nf [_] rfl ?_
  refine j_giv [] rfl rfl rfl ⟨rfl,rfl,rfl⟩
theorem S_codewrightref24_Strength {d : Nat} {pa : Option Addr} {n ca : Nat} {L : List (List Nat)} (h0 : 1 ≤ d) (hd : d < n) (hr : ∀ l ∈ L,∀ x ∈ l,x < 4294967296) :
  Ctr Try.prog 17 [.int .i64 d,.slice pa n ca] [] [slF NatE pa n ca L] (Rv (.int .i64 (stP L (n - 1) d (d - 1))) []):=by
 refine Ctr_of_j' (F:=F_codewrightref24_Strength) rfl fun C=>?_
 refine j_len 0 rfl fun hn hb _=>?_
 have hb' : L.length * 24 ≤ 140737488355328:=hb
 refine j_nf [_,_] rfl (j_run it 1 rfl (by simp) ?_)
 refine j_nf [_,_] rfl (j_run it 1 rfl (by simp) ?_)
 refine j_nf [_,_,_] rfl (j_run it 1 rfl (by simp) ?_)
 refine j_nf [_,_,_] rfl ?_
 refine j_loopG (X:=Nat) [0,1,4] [0] (fun k=>[(6,.int .i64 ((k + 1 : Nat) : Int)),(5,.int .i64 ((stP L (n - 1) d k : Nat) : Int))]) (fun _=>[]) (fun _=>[])
  (fun k=>k ≤ d - 1) (fun k=>d - 1 - k) 0 [] rfl rfl rfl (Nat.zero_le _) (by repeat (first | exact Fr.sub_nil _ | refine Fr.sub_cons rfl ?_)) rfl rfl ?_
 intro k hk ih
 simp only [List.cons_append,List.nil_append] at ih ⊢
 have hs:=stP_le L (n - 1) d k
 by_cases hkl : k < d - 1
 ·by_cases hc : cntP L (n - 1 - (k + 1)) ≤ d - (k + 1)
  ·have e : stP L (n - 1) d (k + 1) = k + 1:=by rw [stP,if_pos hc]
   refine j_nf [_,_,_,_,_,_] rfl (j_run it 3 rfl (by simp) ?_)
   refine j_nf [_,_,_,_,_] rfl (j_if rfl rfl (fun h1=>?_) (fun h1=>by exfalso;omega))
   refine j_nf [_,_,_,_,_,_,_] rfl (j_run it 2 rfl (by simp) ?_)
   refine j_step rfl (x_len sl36 rfl ?_)
   refine j_run it 3 rfl ⟨⟨by omega,by omega⟩,trivial,⟨by omega,by omega⟩,trivial⟩ ?_
   refine j_recast (t:=17) (((((n) - 1) - (k + 1)) : Nat) : Int) rfl (by omega) ?_
   refine j_step rfl (x_call [0] rfl (S_codewrightref24_nonzero (by omega) (by omega)) rfl ?_)
   rintro _ _ _ ⟨rfl,rfl,rfl⟩
   simp only [List.cons_append,List.nil_append]
   refine j_run it 4 rfl ⟨trivial,⟨by omega,by omega⟩,trivial,trivial,trivial⟩ ?_
   refine j_nf [_,_,_,_,_,_] rfl (j_if rfl rfl (fun h2=>?_) (fun h2=>by exfalso;omega))
   refine j_nf [_,_,_,_,_,_] rfl (j_run it 2 rfl (by simp) ?_)
   refine j_nf [_,_,_,_] rfl (j_run it 3 rfl ⟨trivial,⟨by omega,by omega⟩,trivial,trivial⟩ ?_)
   refine j_nfn 1 [.lp (pL 116),.blk 0,.c [1,1,1]] rfl ?_
   have ih':=ih (k + 1) (by omega) (by omega)
   rw [e] at ih'
   refine j_to [0] (by exact fra rfl) rfl rfl (ih')
  ·have e : stP L (n - 1) d (k + 1) = stP L (n - 1) d k:=by rw [stP,if_neg hc]
   refine j_nf [_,_,_,_,_,_] rfl (j_run it 3 rfl (by simp) ?_)
   refine j_nf [_,_,_,_,_] rfl (j_if rfl rfl (fun h1=>?_) (fun h1=>by exfalso;omega))
   refine j_nf [_,_,_,_,_,_,_] rfl (j_run it 2 rfl (by simp) ?_)
   refine j_step rfl (x_len sl36 rfl ?_)
   refine j_run it 3 rfl ⟨⟨by omega,by omega⟩,trivial,⟨by omega,by omega⟩,trivial⟩ ?_
   refine j_recast (t:=17) (((((n) - 1) - (k + 1)) : Nat) : Int) rfl (by omega) ?_
   refine j_step rfl (x_call [0] rfl (S_codewrightref24_nonzero (by omega) (by omega)) rfl ?_)
   rintro _ _ _ ⟨rfl,rfl,rfl⟩
   simp only [List.cons_append,List.nil_append]
   refine j_run it 4 rfl ⟨trivial,⟨by omega,by omega⟩,trivial,trivial,trivial⟩ ?_
   refine j_nf [_,_,_,_,_,_] rfl (j_if rfl rfl (fun h2=>by exfalso;omega) (fun h2=>?_))
   refine j_nf [_,_,_,_] rfl (j_run it 3 rfl ⟨trivial,⟨by omega,by omega⟩,trivial,trivial⟩ ?_)
   refine j_nfn 1 [.lp (pL 116),.blk 0,.c [1,1,1]] rfl ?_
   have ih':=ih (k + 1) (by omega) (by omega)
   rw [e] at ih'
   refine j_to [0] (by exact fra rfl) rfl rfl (ih')
 ·obtain rfl : d - 1 = k:=by omega
  refine j_nf [_,_,_,_,_,_] rfl (j_run it 3 rfl (by simp) ?_)
  refine j_nf [_,_,_,_,_] rfl (j_if rfl rfl (fun h1=>by exfalso;omega) (fun h1=>?_))
  refine j_nf [_,_] rfl (j_run it 2 rfl (by simp) ?_)
  refine j_nf [_] rfl ?_
  refine j_giv [] rfl rfl rfl ⟨rfl,rfl,rfl⟩
set_option maxHeartbeats 2000000
theorem lenN {p : Rat} {k : Nat} (h : (rt p).2.1.length ≤ k) : (limbs (val (rt p).2.1)).length ≤ k:=limbs_of (l:=(rt p).2.1) rfl h
theorem lenD {p : Rat} {k : Nat} (h : (rt p).2.2.length ≤ k) : (limbs (val (rt p).2.2)).length ≤ k:=limbs_of (l:=(rt p).2.2) rfl h
theorem S_codewrightref02_Add {g1 g2 : Bool} {pn1 pd1 pn2 pd2 : Option Addr} {n1 m1 n2 m2 cn1 cd1 cn2 cd2 : Nat} {N1 D1 N2 D2 : List Nat}
  (l1 : N1.length ≤ 134217728) (l2 : D1.length ≤ 134217728) (l3 : N2.length ≤ 134217728) (l4 : D2.length ≤ 134217728) :
  Ctr Try.prog 69 [.agg #[.bool g1,.slice pn1 n1 cn1,.slice pd1 m1 cd1],.agg #[.bool g2,.slice pn2 n2 cn2,.slice pd2 m2 cd2]] [] [slF U32 pn1 n1 cn1 N1,slF U32 pd1 m1 cd1 D1,slF U32 pn2 n2 cn2 N2,slF U32 pd2 m2 cd2 D2] (RtV (rt (vq (g1,N1,D1) + vq (g2,N2,D2)))):=by
 refine Ctr_of_j' (F:=F_codewrightref02_Add) rfl fun C=>?_
 refine j_range 0 rfl fun r1=>?_
 refine j_range 1 rfl fun r2=>?_
 refine j_range 2 rfl fun r3=>?_
 refine j_range 3 rfl fun r4=>?_
 obtain ⟨k1,k2⟩:=rt_len (g:=g1) (lim r1) (lim r2) l1 l2 (by decide)
 obtain ⟨k3,k4⟩:=rt_len (g:=g2) (lim r3) (lim r4) l3 l4 (by decide)
 have LX:=prod_lim (lenN k1) (lenD k4)
 have LY:=prod_lim (lenN k3) (lenD k2)
 have LD:=prod_lim (lenD k2) (lenD k4)
 have LS:=sum_lim LX LY
 have hR : ∀ p q : Rat,(rt p).1 = (rt q).1 → vq ((rt p).1,limbs (val (limbs (val (rt p).2.1 * val (rt q).2.2)) + val (limbs (val (rt q).2.1 * val (rt p).2.2))),limbs (val (rt p).2.2 * val (rt q).2.2)) = p + q:=by
  intro p q h
  rw [vq_eq]
  simp only [val_limbs,num_rt,den_rt,neg_rt] at h ⊢
  exact add_same h
 have hG : ∀ p q : Rat,(rt p).1 ≠ (rt q).1 → val (limbs (val (rt q).2.1 * val (rt p).2.2)) ≤ val (limbs (val (rt p).2.1 * val (rt q).2.2)) → vq ((rt p).1,limbs (val (limbs (val (rt p).2.1 * val (rt q).2.2)) - val (limbs (val (rt q).2.1 * val (rt p).2.2))),limbs (val (rt p).2.2 * val (rt q).2.2)) = p + q:=by
  intro p q h hle
  rw [vq_eq]
  simp only [val_limbs,num_rt,den_rt,neg_rt] at h hle ⊢
  exact add_diff h hle
 refine j_nf [_,_] rfl ?_
 refine j_step rfl (x_box_agg rfl fun b1=>?_)
 refine j_step rfl (x_box_agg rfl fun b2=>?_)
 refine j_step rfl (x_alloc zo72 fun b3=>?_)
 refine j_nf [_,_] rfl ?_
 refine j_step rfl (x_bld_all 2 rfl rfl ld72 rfl ?_)
 refine j_step rfl (x_call [0,1] rfl (S_codewrightref02_Trim (by omega) (by omega)) rfl ?_)
 rintro _ _ _ ⟨pn3,cn3,pd3,cd3,rfl,rfl,rfl⟩
 simp only [List.cons_append,List.nil_append]
 refine j_step rfl (x_bst_all 2 rfl rfl rfl ld72 rfl rfl (by simp [Value.oneCell']) ?_)
 refine j_nf [_,_] rfl ?_
 refine j_step rfl (x_bld_all 1 rfl rfl ld72 rfl ?_)
 refine j_step rfl (x_call [4,5] rfl (S_codewrightref02_Trim (by omega) (by omega)) rfl ?_)
 rintro _ _ _ ⟨pn4,cn4,pd4,cd4,rfl,rfl,rfl⟩
 simp only [List.cons_append,List.nil_append]
 refine j_step rfl (x_bst_all 1 rfl rfl rfl ld72 rfl rfl (by simp [Value.oneCell']) ?_)
 refine j_nf [_,_] rfl ?_
 refine j_step rfl (x_field rfl fd72_1 ?_)
 refine j_step rfl (x_bld 2 rfl rfl ld48 rfl ?_)
 refine j_step rfl (x_field rfl fd72_2 ?_)
 refine j_step rfl (x_bld 1 rfl rfl ld48 rfl ?_)
 refine j_step rfl (x_call [2,1] rfl (S_codewrightref01_Mul (by omega) (by omega)) rfl ?_)
 rintro _ _ _ ⟨pa1,ca1,rfl,rfl,rfl⟩
 simp only [List.cons_append,List.nil_append]
 refine j_run it 1 rfl (by simp) ?_
 refine j_nf [_,_] rfl ?_
 refine j_step rfl (x_field rfl fd72_1 ?_)
 refine j_step rfl (x_bld 1 rfl rfl ld48 rfl ?_)
 refine j_step rfl (x_field rfl fd72_2 ?_)
 refine j_step rfl (x_bld 2 rfl rfl ld48 rfl ?_)
 refine j_step rfl (x_call [1,4] rfl (S_codewrightref01_Mul (by omega) (by omega)) rfl ?_)
 rintro _ _ _ ⟨pa2,ca2,rfl,rfl,rfl⟩
 simp only [List.cons_append,List.nil_append]
 refine j_run it 1 rfl (by simp) ?_
 refine j_nf [_,_] rfl ?_
 refine j_step rfl (x_field rfl fd72_2 ?_)
 refine j_step rfl (x_bld 2 rfl rfl ld48 rfl ?_)
 refine j_step rfl (x_field rfl fd72_2 ?_)
 refine j_step rfl (x_bld 1 rfl rfl ld48 rfl ?_)
 refine j_step rfl (x_call [5,3] rfl (S_codewrightref01_Mul (by omega) (by omega)) rfl ?_)
 rintro _ _ _ ⟨pa3,ca3,rfl,rfl,rfl⟩
 simp only [List.cons_append,List.nil_append]
 refine j_run it 1 rfl (by simp) ?_
 refine j_nf [_,_,_] rfl ?_
 refine j_step rfl (x_field rfl fd72_0 ?_)
 refine j_step rfl (x_bld 2 rfl rfl ld4 rfl ?_)
 refine j_step rfl (x_field rfl fd72_0 ?_)
 refine j_step rfl (x_bld 1 rfl rfl ld4 rfl ?_)
 refine j_step rfl (x_eqb ub rfl rfl ?_)
 refine j_nf [_,_] rfl ?_
 refine j_cond rfl rfl (fun h1=>?_) (fun h1=>?_)
 ·have hs : (rt (vq (g1,N1,D1))).1 = (rt (vq (g2,N2,D2))).1:=by simpa using h1
  have LS' : (limbs (val (limbs (val (rt (vq (g1,N1,D1))).2.1 * val (rt (vq (g2,N2,D2))).2.2)) + val (limbs (val (rt (vq (g2,N2,D2))).2.1 * val (rt (vq (g1,N1,D1))).2.2)))).length ≤ 1073741824:=by
   rw [val_limbs,val_limbs];exact Nat.le_trans LS (by decide)
  refine j_nf [_,_,_] rfl ?_
  (apply j_drawK it mx 7;(· rfl);(· rfl))
  (apply lxk_eq;(· rfl);(· exact d_x fun _=>x_field rfl fd72_0 dk_eq))
  (apply lxk_eq;(· rfl);(· exact d_bld 2 rfl rfl ld4 rfl))
  (apply lxk_run 2;(· rfl);(· simp))
  (apply lxk_sl;(· rfl);(· exact d_x fun _=>x_call [2,1] rfl (S_codewrightref01_Add (by omega) (by omega)) rfl (by rintro _ _ _ ⟨pa4,ca4,rfl,rfl,rfl⟩;exact (dk_sl 0 rfl)));intro pa4 ca4)
  (apply lxk_run 1;(· rfl);(· simp))
  (apply lxk_rq;(· rfl);(· exact d_x fun _=>x_call [0,1] rfl (S_codewrightref02_Make (by omega) (by omega)) rfl (by rintro _ _ _ ⟨pn5,cn5,pd5,cd5,rfl,rfl,rfl⟩;exact (dk_rq 0 1 rfl rfl)));intro pn5 cn5 pd5 cd5)
  simp only [vq_rt']
  refine lxk_end rfl ?_
  simp only [List.map_cons,List.map_nil,List.cons_append,List.nil_append]
  refine j_step rfl (x_bst_all 0 rfl rfl rfl ld72 rfl rfl (by simp [Value.oneCell']) ?_)
  refine j_nf [_,_] rfl ?_
  rw [hR _ _ hs]
  refine j_givC [0,1] rfl (.agg 0 rfl rfl ld72 rfl .nil) rfl ⟨_,_,_,_,rfl,rfl,rfl⟩
 ·have hs : (rt (vq (g1,N1,D1))).1 ≠ (rt (vq (g2,N2,D2))).1:=by simpa using h1
  by_cases hle : val (limbs (val (rt (vq (g2,N2,D2))).2.1 * val (rt (vq (g1,N1,D1))).2.2)) ≤ val (limbs (val (rt (vq (g1,N1,D1))).2.1 * val (rt (vq (g2,N2,D2))).2.2))
  ·have hc : 0 ≤ cmpN (val (limbs (val (rt (vq (g1,N1,D1))).2.1 * val (rt (vq (g2,N2,D2))).2.2))) (val (limbs (val (rt (vq (g2,N2,D2))).2.1 * val (rt (vq (g1,N1,D1))).2.2))):=by unfold cmpN;split <;> (try split) <;> omega
   have LB : (limbs (val (limbs (val (rt (vq (g1,N1,D1))).2.1 * val (rt (vq (g2,N2,D2))).2.2)) - val (limbs (val (rt (vq (g2,N2,D2))).2.1 * val (rt (vq (g1,N1,D1))).2.2)))).length ≤ 1073741824:=limbs_mono (Nat.le_trans LX (by decide)) (by rw [val_limbs];exact Nat.sub_le _ _)
   refine j_nf [_,_,_] rfl ?_
   refine j_run it 2 rfl (by simp) ?_
   refine j_step rfl (x_call [2,1] rfl (S_codewrightref01_Cmp) rfl ?_)
   rintro _ _ _ ⟨rfl,rfl,rfl⟩
   simp only [List.cons_append,List.nil_append]
   refine j_run it 1 rfl (by simp) ?_
   refine j_nf [_,_] rfl ?_
   refine j_if rfl rfl (fun h2=>?_) (fun h2=>by exfalso;omega)
   refine j_nf [_,_,_] rfl ?_
   (apply j_drawK it mx 7;(· rfl);(· rfl))
   (apply lxk_eq;(· rfl);(· exact d_x fun _=>x_field rfl fd72_0 dk_eq))
   (apply lxk_eq;(· rfl);(· exact d_bld 2 rfl rfl ld4 rfl))
   (apply lxk_run 2;(· rfl);(· simp))
   (apply lxk_sl;(· rfl);(· exact d_x fun _=>x_call [2,1] rfl (S_codewrightref01_Sub (by omega)) rfl (by rintro _ _ _ ⟨pa4,ca4,rfl,rfl,rfl⟩;exact (dk_sl 0 rfl)));intro pa4 ca4)
   (apply lxk_run 1;(· rfl);(· simp))
   (apply lxk_rq;(· rfl);(· exact d_x fun _=>x_call [0,1] rfl (S_codewrightref02_Make (by omega) (by omega)) rfl (by rintro _ _ _ ⟨pn5,cn5,pd5,cd5,rfl,rfl,rfl⟩;exact (dk_rq 0 1 rfl rfl)));intro pn5 cn5 pd5 cd5)
   simp only [vq_rt']
   refine lxk_end rfl ?_
   simp only [List.map_cons,List.map_nil,List.cons_append,List.nil_append]
   refine j_step rfl (x_bst_all 0 rfl rfl rfl ld72 rfl rfl (by simp [Value.oneCell']) ?_)
   refine j_nf [_,_] rfl ?_
   rw [hG _ _ hs hle]
   refine j_givC [0,1] rfl (.agg 0 rfl rfl ld72 rfl .nil) rfl ⟨_,_,_,_,rfl,rfl,rfl⟩
  ·have hc : ¬ 0 ≤ cmpN (val (limbs (val (rt (vq (g1,N1,D1))).2.1 * val (rt (vq (g2,N2,D2))).2.2))) (val (limbs (val (rt (vq (g2,N2,D2))).2.1 * val (rt (vq (g1,N1,D1))).2.2))):=by rw [cmpN_lt (by omega)];decide
   have hle2 : val (limbs (val (rt (vq (g1,N1,D1))).2.1 * val (rt (vq (g2,N2,D2))).2.2)) ≤ val (limbs (val (rt (vq (g2,N2,D2))).2.1 * val (rt (vq (g1,N1,D1))).2.2)):=by omega
   have LB : (limbs (val (limbs (val (rt (vq (g2,N2,D2))).2.1 * val (rt (vq (g1,N1,D1))).2.2)) - val (limbs (val (rt (vq (g1,N1,D1))).2.1 * val (rt (vq (g2,N2,D2))).2.2)))).length ≤ 1073741824:=limbs_mono (Nat.le_trans LY (by decide)) (by rw [val_limbs];exact Nat.sub_le _ _)
   refine j_nf [_,_,_] rfl ?_
   refine j_run it 2 rfl (by simp) ?_
   refine j_step rfl (x_call [2,1] rfl (S_codewrightref01_Cmp) rfl ?_)
   rintro _ _ _ ⟨rfl,rfl,rfl⟩
   simp only [List.cons_append,List.nil_append]
   refine j_run it 1 rfl (by simp) ?_
   refine j_nf [_,_] rfl ?_
   refine j_if rfl rfl (fun h2=>by exfalso;omega) (fun h2=>?_)
   refine j_nf [_,_] rfl ?_
   (apply j_drawK it mx 7;(· rfl);(· rfl))
   (apply lxk_eq;(· rfl);(· exact d_x fun _=>x_field rfl fd72_0 dk_eq))
   (apply lxk_eq;(· rfl);(· exact d_bld 1 rfl rfl ld4 rfl))
   (apply lxk_run 2;(· rfl);(· simp))
   (apply lxk_sl;(· rfl);(· exact d_x fun _=>x_call [1,2] rfl (S_codewrightref01_Sub (by omega)) rfl (by rintro _ _ _ ⟨pa4,ca4,rfl,rfl,rfl⟩;exact (dk_sl 0 rfl)));intro pa4 ca4)
   (apply lxk_run 1;(· rfl);(· simp))
   (apply lxk_rq;(· rfl);(· exact d_x fun _=>x_call [0,1] rfl (S_codewrightref02_Make (by omega) (by omega)) rfl (by rintro _ _ _ ⟨pn5,cn5,pd5,cd5,rfl,rfl,rfl⟩;exact (dk_rq 0 1 rfl rfl)));intro pn5 cn5 pd5 cd5)
   simp only [vq_rt']
   refine lxk_end rfl ?_
   simp only [List.map_cons,List.map_nil,List.cons_append,List.nil_append]
   refine j_step rfl (x_bst_all 0 rfl rfl rfl ld72 rfl rfl (by simp [Value.oneCell']) ?_)
   refine j_nf [_] rfl ?_
   rw [Nat.mul_comm (val (rt (vq (g1,N1,D1))).2.2) (val (rt (vq (g2,N2,D2))).2.2),hG _ _ (fun h=>hs h.symm) hle2,Rat.add_comm]
   refine j_givC [0,1] rfl (.agg 0 rfl rfl ld72 rfl .nil) rfl ⟨_,_,_,_,rfl,rfl,rfl⟩
set_option maxHeartbeats 400000
theorem limbs_two {n : Nat} (h : n < 18446744073709551616) : (limbs n).length ≤ 2:=limbs_length_le (by simpa using h)
theorem mul_len {x y L K : Nat} (hx : x < 4294967296 ^ L) (hy : y < 4294967296 ^ K) : (limbs (x * y)).length ≤ L + K:=by
 refine limbs_length_le ?_
 rw [Nat.pow_add]
 rcases Nat.eq_zero_or_pos y with h0 | h0
 ·subst h0;rw [Nat.mul_zero];exact Nat.mul_pos (Nat.pow_pos (by decide)) (Nat.pow_pos (by decide))
 ·exact Nat.lt_of_lt_of_le (Nat.mul_lt_mul_of_pos_right hx h0) (Nat.mul_le_mul_left _ (Nat.le_of_lt hy))
theorem S_codewrightref01_small {pa : Option Addr} {m ca : Nat} {a : List Nat} {n d : Nat} (ha : a.length ≤ 1073741824) (hn : n < 4294967296) (hd : 0 < d) (hdB : d < 4294967296) :
  Ctr Try.prog 47 [.slice pa m ca,.int .i64 n,.int .i64 d] [] [slF U32 pa m ca a] (Sv U32 (limbs (val a * n / d))):=by
 refine Ctr_of_j' (F:=F_codewrightref01_small) rfl fun C=>?_
 refine j_len 0 rfl fun hm _ _=>?_
 subst hm
 refine j_range 0 rfl fun hra=>?_
 have hra' : ∀ x ∈ a,x < 4294967296:=fun x hx=>by have:=hra x hx;simp only [InR] at this;omega
 have h2:=limbs_two (show n < 18446744073709551616 by omega)
 have hlen : (limbs (val a * val (limbs n))).length ≤ a.length + 2:=mul_len (val_lt hra') (limbs_le_length (by rw [val_limbs];exact h2))
 have hpr:=limbs_lt (val a * val (limbs n))
 have hpv : val (limbs (val a * val (limbs n))) = val a * n:=by rw [val_limbs,val_limbs]
 clear hra
 refine j_nf [_,_] rfl (j_run it 1 rfl (by simp) ?_)
 refine j_nf [_,_] rfl (j_run it 3 rfl ⟨⟨by omega,by omega⟩,trivial,trivial,trivial⟩ ?_)
 refine j_step rfl (x_call [] rfl (S_codewrightref01_Of (by omega)) rfl ?_)
 rintro _ _ _ ⟨pa1,ca1,rfl,rfl,rfl⟩
 simp only [List.cons_append,List.nil_append]
 refine j_step rfl (x_call [1,0] rfl (S_codewrightref01_Mul (by omega) (by omega)) rfl ?_)
 rintro _ _ _ ⟨pa2,ca2,rfl,rfl,rfl⟩
 simp only [List.cons_append,List.nil_append]
 refine j_run it 1 rfl (by simp) ?_
 refine j_nf [_,_] rfl (j_run it 1 rfl (by simp) ?_)
 refine j_step rfl (x_len sl48 rfl ?_)
 refine j_step rfl (x_make_nat ((limbs (val a * val (limbs n))).length) _ rfl rfl sl48 zo48e by48e (by omega) (by omega) (by omega) fun b1=>?_)
 refine j_run it 1 rfl (by simp) ?_
 refine j_nf [_,_] rfl (j_run it 1 rfl (by simp) ?_)
 refine j_nf [_,_,_] rfl (j_run it 1 rfl (by simp) ?_)
 refine j_step rfl (x_len sl48 rfl ?_)
 refine j_run it 2 rfl ⟨trivial,⟨by omega,by omega⟩,trivial⟩ ?_
 refine j_nf [_,_,_] rfl ?_
 generalize limbs (val a * val (limbs n)) = p at hlen hpr hpv ⊢
 refine j_loopN (X:=Nat × Nat × List Nat) (fun x=>[(0,.slice pa2 p.length ca2),(2,.int .i64 d),(7,.slice (some ⟨b1,0,none⟩) p.length p.length),(8,.int .u64 x.2.1),(9,.int .i64 ((x.1 : Int) - 1))])
  (fun x=>[(some b1,78,natCells .u32 x.2.2)]) (fun _=>[slF U32 pa2 p.length ca2 p])
  (fun x=>x.1 ≤ p.length ∧ x.2.2.length = p.length ∧ x.2.1 < d ∧ (∀ y ∈ x.2.2,y < 4294967296) ∧ val (p.drop x.1) = val (x.2.2.drop x.1) * d + x.2.1)
  (fun x=>x.1) (p.length,0,List.replicate p.length 0) [0] rfl ⟨Nat.le_refl _,by simp,hd,rep_lt (by decide),by simp [val]⟩ (by repeat (first | exact Fr.sub_nil _ | refine Fr.sub_cons rfl ?_)) rfl rfl ?_
 rintro ⟨k,r,out⟩ ⟨hk,hl,hr,ho,hv⟩ ih
 simp only at hk hl hr ho hv ih ⊢
 by_cases hk0 : 0 < k
 ·refine j_nf [_,_,_,_,_,_] rfl (j_run it 2 rfl (by simp) ?_)
  refine j_nf [_,_,_,_,_] rfl (j_if rfl rfl (fun h1=>?_) (fun h1=>by exfalso;omega))
  refine j_nf [_,_,_,_,_,_,_] rfl (j_run it 4 rfl ⟨trivial,trivial,⟨by omega,by omega⟩,trivial,trivial⟩ ?_)
  refine j_step rfl (x_idx 0 ((k) - 1) rfl rfl rfl sl48 (by omega) (by omega) fun z1 hz1 b2 o1=>?_)
  refine j_step rfl (x_ld_nat 0 rfl rfl ld78 fun ⟨r1,r2⟩=>?_)
  refine j_run it 3 rfl ⟨trivial,⟨by omega,by omega⟩,⟨by omega,by omega⟩,trivial⟩ ?_
  refine j_nf [_,_,_,_,_,_,_] rfl (j_run it 6 rfl ⟨⟨by omega,by omega,by omega,by omega⟩,⟨by omega,by omega⟩,trivial,trivial,trivial,trivial,trivial⟩ ?_)
  refine j_step rfl (x_conv_u32 it rfl rfl rfl ?_)
  refine j_step rfl (x_idx_own ((k) - 1) ((k) - 1) rfl rfl sl48 (by omega) (by omega) (Nat.mul_one _) ?_)
  refine j_step rfl (x_bst_nat 0 (((((r) * 4294967296) + (z1)) / (d)) % 4294967296) rfl rfl rfl ld78 (by first | rfl | omega) (by first | omega | (simp;omega)) ?_)
  refine j_nf [_,_,_,_,_,_] rfl (j_run it 5 rfl ⟨trivial,⟨by omega,by omega⟩,⟨by omega,by omega⟩,trivial,trivial,trivial⟩ ?_)
  refine j_nf [_,_,_,_] rfl (j_run it 3 rfl ⟨trivial,⟨by omega,by omega⟩,trivial,trivial⟩ ?_)
  refine j_nfn 1 [.lp (pL 500),.blk 0,.c [1,1,1,1,1]] rfl ?_
  have hz : z1 < 4294967296:=hpr z1 (List.mem_of_getElem? hz1)
  have hq:=div_lt' (x:=z1) hr hz
  refine j_to [1] (by exact fcc rfl (fcc rfl (fcc rfl (fcc rfl (fii rfl (by omega) (fzz _)))))) rfl rfl (ih (k - 1,(r * 4294967296 + z1) % d,out.set (k - 1) ((r * 4294967296 + z1) / d % 4294967296)) (by simp only;omega) ⟨by simp only;omega,by simpa using hl,Nat.mod_lt _ hd,set_lt ho (by omega),by
   simp only
   rw [Nat.mod_eq_of_lt hq]
   have e : k - 1 + 1 = k:=by omega
   have hz1' : p[k - 1]? = some z1:=by first | exact hz1 | simpa using hz1
   rw [val_drop hz1',val_set_drop (by omega),e]
   exact div_step hv hd⟩)
 ·refine j_nf [_,_,_,_,_,_] rfl (j_run it 2 rfl (by simp) ?_)
  refine j_nf [_,_,_,_,_] rfl (j_if rfl rfl (fun h1=>by exfalso;omega) (fun h1=>?_))
  refine j_nf [_,_] rfl (j_run it 1 rfl (by simp) ?_)
  refine j_pub32 (n:=p.length) 0 rfl (by simp [*]) (by first | assumption | exact set_all (by assumption) (by omega) | (simp;omega)) (by omega) ?_
  refine j_step rfl (x_call [0] rfl (S_codewrightref01_Trim) rfl ?_)
  rintro _ _ _ ⟨pa3,ca3,rfl,rfl,rfl⟩
  simp only [List.cons_append,List.nil_append]
  refine j_run it 1 rfl (by simp) ?_
  refine j_nf [_] rfl ?_
  have e : k = 0:=by omega
  subst e
  simp only [List.drop_zero] at hv
  have h1 : val p / d = val out:=by rw [hv,Nat.mul_comm,Nat.mul_add_div hd,Nat.div_eq_of_lt hr,Nat.add_zero]
  rw [trim_eq ho,← h1,hpv]
  refine j_giv [0] rfl rfl rfl ⟨_,_,rfl,rfl,rfl⟩
theorem S_codewrightref01_Choose {n k : Nat} (hn : n ≤ 4096) : Ctr Try.prog 20 [.int .i64 n,.int .i64 k] [] [] (Sv U32 (limbs (binom n k))):=by
 refine Ctr_of_j' (F:=F_codewrightref01_Choose) rfl fun C=>?_
 have e1 : limbs (binom n 0) = [1]:=by rw [binom_zero,limbs_one]
 by_cases hk : n < k
 ·have hz : limbs (binom n k) = []:=by rw [binom_gt n k hk,limbs_zero]
  refine j_nf [_,_] rfl (j_run it 1 rfl (by simp) ?_)
  refine j_nf [_,_,_] rfl (j_run it 7 rfl (by simp) ?_)
  refine j_nf [_,_] rfl (j_if rfl rfl (fun h1=>?_) (fun h1=>by exfalso;omega))
  refine j_nf [_,_,_] rfl (j_step rfl (x_lit0 sl48 fun b1=>?_))
  refine j_run it 1 rfl (by simp) ?_
  refine j_nf [_,_] rfl ?_
  refine j_add (slF U32 (some ⟨b1,0,none⟩) 0 0 []) (fun w A _=>slF_nil _ _ _ _ _) ?_
  refine j_giv [0] rfl rfl rfl ⟨_,_,by rw [hz];rfl,by rw [hz];rfl,rfl⟩
 ·have hlen:=fun i=>binom_len hn i
  refine j_nf [_,_] rfl (j_run it 1 rfl (by simp) ?_)
  refine j_nf [_,_,_] rfl (j_run it 7 rfl (by simp) ?_)
  refine j_nf [_,_] rfl (j_if rfl rfl (fun h1=>by exfalso;omega) (fun h1=>?_))
  refine j_nf [_,_] rfl (j_step rfl (x_lit sl48 zo48e rfl rfl rfl rfl (by decide) (by decide) rfl fun b1=>?_))
  refine j_run it 1 rfl (by simp) ?_
  refine j_nf [_,_,_] rfl (j_run it 1 rfl (by simp) ?_)
  refine j_nf [_,_,_] rfl ?_
  refine j_pub_made (n:=1) (kd:=.u32) 4 [1] 0 rfl rfl (by simp [InR]) (by decide) (by decide) ?_
  refine j_loopN (X:=Nat × Option Addr × Nat) (fun x=>[(0,.int .i64 n),(1,.int .i64 k),(5,.slice x.2.1 (limbs (binom n x.1)).length x.2.2),(6,.int .i64 x.1)])
   (fun _=>[]) (fun x=>[slF U32 x.2.1 (limbs (binom n x.1)).length x.2.2 (limbs (binom n x.1))])
   (fun x=>x.1 ≤ k) (fun x=>k - x.1) (0,some ⟨b1,0,none⟩,1) [0] rfl (Nat.zero_le _) (by simp only [e1];repeat (first | exact Fr.sub_nil _ | refine Fr.sub_cons rfl ?_)) rfl (by simp only [e1];rfl) ?_
  rintro ⟨i,pa,ca⟩ hi ih
  simp only at hi ih ⊢
  have hl:=hlen i
  by_cases hik : i < k
  ·refine j_nf [_,_,_,_,_,_] rfl (j_run it 3 rfl (by simp) ?_)
   refine j_nf [_,_,_,_,_] rfl (j_if rfl rfl (fun h2=>?_) (fun h2=>by exfalso;omega))
   refine j_nf [_,_,_,_,_,_] rfl (j_run it 6 rfl ⟨⟨by omega,by omega⟩,trivial,⟨by omega,by omega⟩,trivial,trivial,trivial,trivial⟩ ?_)
   refine j_recast (t:=24) ((((n) - (i)) : Nat) : Int) rfl (by omega) ?_
   refine j_recast (t:=26) ((((i) + 1) : Nat) : Int) rfl (by omega) ?_
   refine j_step rfl (x_call [0] rfl (S_codewrightref01_small (by omega) (by omega) (by omega) (by omega)) rfl ?_)
   rintro _ _ _ ⟨pa1,ca1,rfl,rfl,rfl⟩
   simp only [List.cons_append,List.nil_append]
   refine j_run it 1 rfl (by simp) ?_
   refine j_nf [_,_,_,_] rfl (j_run it 3 rfl ⟨trivial,⟨by omega,by omega⟩,trivial,trivial⟩ ?_)
   refine j_nfn 1 [.lp (pL 244),.blk 0,.c [1,1,1,1]] rfl ?_ --ok
   rw [show ((n : Int) - i) = ((n - i : Nat) : Int) by omega,show ((i : Int) + 1) = ((i + 1 : Nat) : Int) by omega]
   skip
   simp only [val_limbs,binom_next (show i ≤ n by omega)]
   refine j_to [0] (by exact fra rfl) rfl rfl (ih (i + 1,pa1,ca1) (by simp only;omega) (by simp only;omega))
  ·refine j_nf [_,_,_,_,_,_] rfl (j_run it 3 rfl (by simp) ?_)
   refine j_nf [_,_,_,_,_] rfl (j_if rfl rfl (fun h2=>by exfalso;omega) (fun h2=>?_))
   refine j_nf [_,_] rfl (j_run it 2 rfl (by simp) ?_)
   refine j_nf [_] rfl ?_
   have e : i = k:=by omega
   rw [e]
   refine j_giv [0] rfl rfl rfl ⟨_,_,rfl,rfl,rfl⟩
theorem S_codewrightref01_Pow {pa : Option Addr} {m ca n : Nat} {l : List Nat} (hl : val l < 4294967296) (hn : n ≤ 4000) : Ctr Try.prog 90 [.slice pa m ca,.int .i64 n] [] [slF U32 pa m ca l] (S2 U32 (limbs (val l ^ n)) 0):=by
 refine Ctr_of_j' (F:=F_codewrightref01_Pow) rfl fun C=>?_
 refine j_len 0 rfl fun hm _ _=>?_
 subst hm
 refine j_range 0 rfl fun hr=>?_
 have hrr : ∀ x ∈ l,x < 4294967296:=fun x hx=>by have:=hr x hx;simp only [InR] at this;omega
 have ht : trim l = limbs (val l):=trim_eq hrr
 have hbl : bitsL (limbs (val l)) = blen (val l):=bitsL_small (trim_limbs _) hl
 have hone : (limbs (val l ^ 0)) = [1]:=by rw [Nat.pow_zero,limbs_one]
 by_cases h0 : n = 0
 ·subst h0
  refine j_nf [_,_] rfl (j_run it 2 rfl (by simp) ?_)
  refine j_nf [_,_,_] rfl (j_run it 2 rfl (by simp) ?_)
  refine j_nf [_,_] rfl (j_if rfl rfl (fun h1=>by exfalso;omega) (fun h1=>?_))
  refine j_nf [_,_] rfl (j_run it 1 rfl (by simp) ?_)
  refine j_step rfl (x_call [0] rfl (S_codewrightref01_Trim) rfl ?_)
  rintro _ _ _ ⟨pa1,ca1,rfl,rfl,rfl⟩
  simp only [List.cons_append,List.nil_append]
  refine j_run it 1 rfl (by simp) ?_
  refine j_nf [_,_,_] rfl (j_run it 2 rfl (by simp) ?_)
  refine j_nf [_,_] rfl (j_if rfl rfl (fun h2=>?_) (fun h2=>by exfalso;omega))
  refine j_nf [_,_,_] rfl (j_step rfl (x_lit sl48 zo48e rfl rfl rfl rfl (by decide) (by decide) rfl fun b1=>?_))
  refine j_run it 2 rfl (by simp) ?_
  refine j_nf [_,_] rfl ?_
  refine j_pub_made (n:=1) (kd:=.u32) 4 [1] 0 rfl rfl (by simp [InR]) (by decide) (by decide) ?_
  refine j_giv [0] rfl rfl rfl ⟨_,_,by rw [hone];rfl,by rw [hone];rfl,rfl⟩
 by_cases h1 : val l ≤ 1
 ·have hp : val l ^ n = val l:=by
   rcases Nat.lt_or_ge (val l) 1 with h | h
   ·rw [show val l = 0 by omega,Nat.zero_pow (by omega)]
   ·rw [show val l = 1 by omega,Nat.one_pow]
  have hb1 : bitsL (trim l) ≤ 1:=by
   rw [ht,hbl];exact blen_le (by omega)
  refine j_nf [_,_] rfl (j_run it 2 rfl (by simp) ?_)
  refine j_nf [_,_,_] rfl (j_run it 2 rfl (by simp) ?_)
  refine j_nf [_,_] rfl (j_if rfl rfl (fun h2=>by exfalso;omega) (fun h2=>?_))
  refine j_nf [_,_] rfl (j_run it 1 rfl (by simp) ?_)
  refine j_step rfl (x_call [0] rfl (S_codewrightref01_Trim) rfl ?_)
  rintro _ _ _ ⟨pa1,ca1,rfl,rfl,rfl⟩
  simp only [List.cons_append,List.nil_append]
  refine j_run it 1 rfl (by simp) ?_
  refine j_nf [_,_,_] rfl (j_run it 2 rfl (by simp) ?_)
  refine j_nf [_,_] rfl (j_if rfl rfl (fun h3=>by exfalso;omega) (fun h3=>?_))
  refine j_nf [_,_,_] rfl (j_run it 1 rfl (by simp) ?_)
  refine j_step rfl (x_call [0] rfl (S_codewrightref01_Bits) rfl ?_)
  rintro _ _ _ ⟨rfl,rfl,rfl⟩
  simp only [List.cons_append,List.nil_append]
  refine j_run it 1 rfl (by simp) ?_
  refine j_nf [_,_] rfl (j_if rfl rfl (fun h4=>?_) (fun h4=>by exfalso;omega))
  refine j_nf [_,_,_] rfl (j_run it 3 rfl (by simp) ?_)
  refine j_nf [_,_] rfl ?_
  rw [ht]
  refine j_giv [0] rfl rfl rfl ⟨_,_,by rw [hp];rfl,by rw [hp],rfl⟩
 have hb1 : 1 < bitsL (trim l):=by
  rw [ht,hbl]
  have h2 : blen (val l) ≠ 0:=fun h=>by have:=blen_eq_zero.1 h;omega
  have h3 : blen (val l) ≠ 1:=fun h=>by have:=blen_eq_one.1 h;omega
  omega
 have hW:=pow_len hl (show n ≤ 4000 from hn)
 refine j_nf [_,_] rfl (j_run it 2 rfl (by simp) ?_)
 refine j_nf [_,_,_] rfl (j_run it 2 rfl (by simp) ?_)
 refine j_nf [_,_] rfl (j_if rfl rfl (fun h2=>by exfalso;omega) (fun h2=>?_))
 refine j_nf [_,_] rfl (j_run it 1 rfl (by simp) ?_)
 refine j_step rfl (x_call [0] rfl (S_codewrightref01_Trim) rfl ?_)
 rintro _ _ _ ⟨pa1,ca1,rfl,rfl,rfl⟩
 simp only [List.cons_append,List.nil_append]
 refine j_run it 1 rfl (by simp) ?_
 refine j_nf [_,_,_] rfl (j_run it 2 rfl (by simp) ?_)
 refine j_nf [_,_] rfl (j_if rfl rfl (fun h3=>by exfalso;omega) (fun h3=>?_))
 refine j_nf [_,_,_] rfl (j_run it 1 rfl (by simp) ?_)
 refine j_step rfl (x_call [0] rfl (S_codewrightref01_Bits) rfl ?_)
 rintro _ _ _ ⟨rfl,rfl,rfl⟩
 simp only [List.cons_append,List.nil_append]
 refine j_run it 1 rfl (by simp) ?_
 refine j_nf [_,_] rfl (j_if rfl rfl (fun h4=>by exfalso;omega) (fun h4=>?_))
 refine j_nf [_,_,_] rfl (j_run it 2 rfl (by simp) ?_)
 refine j_nf [_,_] rfl (j_if rfl rfl (fun h5=>by exfalso;omega) (fun h5=>?_))
 refine j_nf [_,_] rfl (j_step rfl (x_lit sl48 zo48e rfl rfl rfl rfl (by decide) (by decide) rfl fun b1=>?_))
 refine j_run it 1 rfl (by simp) ?_
 refine j_nf [_,_,_] rfl (j_run it 1 rfl (by simp) ?_)
 refine j_nf [_,_,_] rfl ?_
 rw [ht]
 refine j_pub_made (n:=1) (kd:=.u32) 4 [1] 0 rfl rfl (by simp [InR]) (by decide) (by decide) ?_
 have e0 : n / 2 ^ 19 = 0:=Nat.div_eq_of_lt (by omega)
 have e1 : limbs (val l ^ (n / 2 ^ 19)) = [1]:=by rw [e0];exact hone
 have d19 : 2 ^ 19 / 2 = 262144:=by decide
 refine j_loopN (X:=Nat × Option Addr × Nat) (fun x=>[(0,.slice pa1 (limbs (val l)).length ca1),(1,.int .i64 n),(6,.slice x.2.1 (limbs (val l ^ (n / 2 ^ x.1))).length x.2.2),(7,.int .i64 ((2 ^ x.1 / 2 : Nat) : Int))])
  (fun _=>[]) (fun x=>[slF U32 x.2.1 (limbs (val l ^ (n / 2 ^ x.1))).length x.2.2 (limbs (val l ^ (n / 2 ^ x.1))),slF U32 pa1 (limbs (val l)).length ca1 (limbs (val l))])
  (fun x=>x.1 ≤ 19) (fun x=>x.1) (19,some ⟨b1,0,none⟩,1) [0,1] rfl (Nat.le_refl _) (by simp only [e1,d19];repeat (first | exact Fr.sub_nil _ | refine Fr.sub_cons rfl ?_)) rfl (by simp only [e1];rfl) ?_
 rintro ⟨e,po,co⟩ he ih
 simp only at he ih ⊢
 cases e with
 | zero =>
  rw [show (2 : Nat) ^ 0 / 2 = 0 from rfl,show n / 2 ^ 0 = n by simp]
  refine j_nf [_,_,_,_,_,_] rfl (j_run it 2 rfl (by simp) ?_)
  refine j_nf [_,_,_,_,_] rfl (j_if rfl rfl (fun h6=>by exfalso;omega) (fun h6=>?_))
  refine j_nf [_,_] rfl (j_run it 3 rfl (by simp) ?_)
  refine j_nf [_] rfl ?_
  refine j_giv [0] rfl rfl rfl ⟨_,_,rfl,rfl,rfl⟩
 | succ e =>
  have hd2 : 2 ^ (e + 1) = 2 * 2 ^ e:=by rw [Nat.pow_succ,Nat.mul_comm]
  have hd1 : 2 ^ (e + 1) / 2 = 2 ^ e:=by rw [hd2];omega
  have hq : n / 2 ^ (e + 1) = n / 2 ^ e / 2:=by rw [Nat.div_div_eq_div_mul,Nat.mul_comm,hd2]
  have hpos : 0 < 2 ^ e:=Nat.pow_pos (by decide)
  have hle : 2 ^ e ≤ 2 ^ 18:=Nat.pow_le_pow_right (by decide) (by omega)
  have hQn : n / 2 ^ e ≤ n:=Nat.div_le_self _ _
  have ih:=fun p=>ih (e,p)
  simp only at ih
  rw [hd1,hq]
  generalize hd : 2 ^ e = d at hpos hle hQn ih ⊢
  generalize hQ : n / d = Q at hQn ih ⊢
  have hoo : val l ^ (Q / 2) * val l ^ (Q / 2) = val l ^ (2 * (Q / 2)):=by rw [← Nat.pow_add,Nat.two_mul]
  have lW : ∀ x,x ≤ n → (limbs (val l ^ x)).length ≤ 4001:=fun x hx=>limbs_mono hW (Nat.pow_le_pow_right (by omega) hx)
  have l1:=lW (Q / 2) (by omega)
  have l2:=lW (2 * (Q / 2)) (by omega)
  have l3:=lW Q hQn
  have lv:=limbs_two (show val l < 18446744073709551616 by omega)
  have lx1 : (limbs (val (limbs (val l ^ (Q / 2))) * val (limbs (val l ^ (Q / 2))))).length ≤ 4001:=by rw [val_limbs,hoo];exact l2
  by_cases hodd : Q % 2 = 1
  ·have hov : val l ^ (2 * (Q / 2)) * val l = val l ^ Q:=by rw [← Nat.pow_succ];congr 1;omega
   have lx2 : (limbs (val (limbs (val (limbs (val l ^ (Q / 2))) * val (limbs (val l ^ (Q / 2))))) * val (limbs (val l)))).length ≤ 4001:=by rw [val_limbs,val_limbs,val_limbs,hoo,hov];exact l3
   have hoddI : ((n : Int) / d) % 2 = 1:=by rw [show ((n : Int) / d) = ((n / d : Nat) : Int) from rfl,hQ];omega
   refine j_nf [_,_,_,_,_,_] rfl (j_run it 2 rfl (by simp) ?_)
   refine j_nf [_,_,_,_,_] rfl (j_if rfl rfl (fun h6=>?_) (fun h6=>by exfalso;omega))
   refine j_nf [_,_,_,_,_,_,_] rfl (j_run it 2 rfl (by simp) ?_)
   refine j_step rfl (x_call [0,0] rfl (S_codewrightref01_Mul (by omega) (by omega)) rfl ?_)
   rintro _ _ _ ⟨pa2,ca2,rfl,rfl,rfl⟩
   simp only [List.cons_append,List.nil_append]
   refine j_run it 1 rfl (by simp) ?_
   refine j_nf [_,_,_,_,_,_,_,_] rfl (j_run it 5 rfl ⟨trivial,⟨by omega,by omega⟩,⟨by omega,by omega,by omega,by omega⟩,trivial,trivial,trivial⟩ ?_)
   refine j_nf [_,_,_,_,_,_,_] rfl (j_if rfl rfl (fun h7=>?_) (fun h7=>by exfalso;omega))
   refine j_nf [_,_,_,_,_,_,_] rfl (j_run it 2 rfl (by simp) ?_)
   refine j_step rfl (x_call [0,2] rfl (S_codewrightref01_Mul (by omega) (by omega)) rfl ?_)
   rintro _ _ _ ⟨pa3,ca3,rfl,rfl,rfl⟩
   simp only [List.cons_append,List.nil_append]
   refine j_run it 1 rfl (by simp) ?_
   refine j_nf [_,_,_,_,_,_,_] rfl (j_run it 1 rfl (by simp) ?_)
   refine j_step rfl (x_len sl48 rfl ?_)
   refine j_run it 1 rfl (by simp) ?_
   refine j_nf [_,_,_,_,_,_] rfl (j_if rfl rfl (fun h8=>by exfalso;omega) (fun h8=>?_))
   refine j_nf [_,_,_,_] rfl (j_run it 3 rfl ⟨trivial,⟨by omega,by omega,by omega,by omega⟩,trivial,trivial⟩ ?_)
   refine j_nfn 1 [.lp (pL 4084),.blk 0,.c (pL 511)] rfl ?_
   simp only [val_limbs,hoo,hov]
   refine j_to [0,3] (by exact fra rfl) rfl rfl (ih (pa3,ca3) (by omega) (by omega))
  ·have hoddI : ¬ ((n : Int) / d) % 2 = 1:=by rw [show ((n : Int) / d) = ((n / d : Nat) : Int) from rfl,hQ];omega
   have hev : val l ^ (2 * (Q / 2)) = val l ^ Q:=by congr 1;omega
   refine j_nf [_,_,_,_,_,_] rfl (j_run it 2 rfl (by simp) ?_)
   refine j_nf [_,_,_,_,_] rfl (j_if rfl rfl (fun h6=>?_) (fun h6=>by exfalso;omega))
   refine j_nf [_,_,_,_,_,_,_] rfl (j_run it 2 rfl (by simp) ?_)
   refine j_step rfl (x_call [0,0] rfl (S_codewrightref01_Mul (by omega) (by omega)) rfl ?_)
   rintro _ _ _ ⟨pa2,ca2,rfl,rfl,rfl⟩
   simp only [List.cons_append,List.nil_append]
   refine j_run it 1 rfl (by simp) ?_
   refine j_nf [_,_,_,_,_,_,_,_] rfl (j_run it 5 rfl ⟨trivial,⟨by omega,by omega⟩,⟨by omega,by omega,by omega,by omega⟩,trivial,trivial,trivial⟩ ?_)
   refine j_nf [_,_,_,_,_,_,_] rfl (j_if rfl rfl (fun h7=>by exfalso;omega) (fun h7=>?_))
   refine j_nf [_,_,_,_,_,_,_] rfl (j_run it 1 rfl (by simp) ?_)
   refine j_step rfl (x_len sl48 rfl ?_)
   refine j_run it 1 rfl (by simp) ?_
   refine j_nf [_,_,_,_,_,_] rfl (j_if rfl rfl (fun h8=>by exfalso;omega) (fun h8=>?_))
   refine j_nf [_,_,_,_] rfl (j_run it 3 rfl ⟨trivial,⟨by omega,by omega,by omega,by omega⟩,trivial,trivial⟩ ?_)
   refine j_nfn 1 [.lp (pL 4084),.blk 0,.c (pL 511)] rfl ?_
   simp only [val_limbs,hoo,hev]
   refine j_to [0,2] (by exact fra rfl) rfl rfl (ih (pa2,ca2) (by omega) (by omega))
set_option maxHeartbeats 4000000
theorem S_codewrightref24_Krawtchouk {q n k x : Nat} (hq : 2 ≤ q) (hq2 : q ≤ 256) (hn : n ≤ 64) (hk : k ≤ n) (hx : x ≤ n) :
  Ctr Try.prog 71 [.int .i64 q,.int .i64 n,.int .i64 k,.int .i64 x] [] [] (RtV (rt ((kr ((q : Int) - 1) n k x : Int) : Rat))):=by
 refine Ctr_of_j' (F:=F_codewrightref24_Krawtchouk) rfl fun C=>?_
 have hi0 : InR .i64 0:=by simp [InR]
 refine j_nf [_,_] rfl (j_step rfl (x_alloc zo72 fun b1=>?_))
 refine j_nf [_,_] rfl (j_step rfl (x_call [] rfl (S_codewrightref02_Int (by omega)) rfl ?_))
 rintro _ _ _ ⟨pn1,cn1,pd1,cd1,rfl,rfl,rfl⟩
 simp only [List.cons_append,List.nil_append]
 refine j_step rfl (x_alloc zo72 fun b2=>?_)
 refine j_step rfl (x_bst_all 0 rfl rfl rfl ld72 rfl rfl (by simp [Value.oneCell']) ?_)
 refine j_nf [_,_,_] rfl (j_run it 1 rfl (by simp) ?_)
 refine j_nf [_,_,_] rfl ?_
 rw [show (((0 : Int) : Rat)) = ((sm 0 (krTerm q n k x) : Int) : Rat) from rfl]
 refine j_loopG (X:=Nat × (Option Addr × Nat) × (Option Addr × Nat)) [0,1,2,3,8,9] [] (fun y=>[(10,.int .i64 y.1)])
  (fun y=>[(some b2,72,[.bool (rt ((sm y.1 (krTerm q n k x) : Int) : Rat)).1,.slice y.2.1.1 (rt ((sm y.1 (krTerm q n k x) : Int) : Rat)).2.1.length y.2.1.2,.slice y.2.2.1 (rt ((sm y.1 (krTerm q n k x) : Int) : Rat)).2.2.length y.2.2.2]),(some b1,72,[.bool false,.slice none 0 0,.slice none 0 0])])
  (fun y=>[slF U32 y.2.1.1 (rt ((sm y.1 (krTerm q n k x) : Int) : Rat)).2.1.length y.2.1.2 (rt ((sm y.1 (krTerm q n k x) : Int) : Rat)).2.1,slF U32 y.2.2.1 (rt ((sm y.1 (krTerm q n k x) : Int) : Rat)).2.2.length y.2.2.2 (rt ((sm y.1 (krTerm q n k x) : Int) : Rat)).2.2])
  (fun y=>y.1 ≤ k + 1) (fun y=>k + 1 - y.1) (0,(pn1,cn1),(pd1,cd1)) [0,1] rfl rfl rfl (Nat.zero_le _) (by repeat (first | exact Fr.sub_nil _ | refine Fr.sub_cons rfl ?_)) rfl rfl ?_
 rintro ⟨j,⟨pn,cn⟩,⟨pd,cd⟩⟩ hj ih
 simp only [List.cons_append,List.nil_append] at hj ih ⊢
 by_cases hjl : j ≤ k
 ·have hq1 : val (limbs (q - 1)) = q - 1:=val_limbs _
  have hq3 : val (limbs (q - 1)) < 4294967296:=by omega
  have hp:=pow_len hq3 (show k - j ≤ 64 by omega)
  have hb1:=binom_len (show x ≤ 4096 by omega) j
  have hb2:=binom_len (show n - x ≤ 4096 by omega) (k - j)
  have hM : (limbs (val (limbs (binom x j)) * val (limbs (binom (n - x) (k - j))))).length ≤ 129 + 129:=by rw [val_limbs,val_limbs];exact prod_lim hb1 hb2
  have eS : val (limbs (val (limbs (q - 1)) ^ (k - j))) * val (limbs (val (limbs (binom x j)) * val (limbs (binom (n - x) (k - j))))) = krSize q n k x j:=by
   simp only [val_limbs,krSize]
  have hS : (limbs (krSize q n k x j)).length ≤ 23:=limbs_length_le (krSize_lt hq2 hn hk hx)
  have hR:=rt_int_len (z:=(krSize q n k x j : Int)) (m:=23) (by rw [Int.natAbs_natCast];exact krSize_lt hq2 hn hk hx)
  have hT:=rt_int_len (z:=krTerm q n k x j) (m:=23) (by rw [krTerm_abs (by omega)];exact krSize_lt hq2 hn hk hx)
  obtain ⟨hR1,hR2⟩:=hR
  obtain ⟨hT1,hT2⟩:=hT
  obtain ⟨hO1,hO2⟩:=rt_int_len (krPart_lt (by omega) hq2 hn hk hx (show j ≤ 65 by omega))
  have eA : ((sm j (krTerm q n k x) : Int) : Rat) + ((krTerm q n k x j : Int) : Rat) = ((sm (j + 1) (krTerm q n k x) : Int) : Rat):=by rw [sm,Rat.intCast_add]
  refine j_nf [_,_,_,_,_,_] rfl (j_run it 3 rfl (by simp) ?_)
  refine j_nf [_,_,_,_,_] rfl (j_if rfl rfl (fun h1=>?_) (fun h1=>by exfalso;omega))
  refine j_nf [_,_,_,_,_,_,_] rfl (j_run it 3 rfl ⟨⟨by omega,by omega⟩,⟨by omega,by omega⟩,trivial,trivial⟩ ?_)
  refine j_recast (t:=23) ((((q) - 1) : Nat) : Int) rfl (by omega) ?_
  refine j_step rfl (x_call [] rfl (S_codewrightref01_Of (by omega)) rfl ?_)
  rintro _ _ _ ⟨pa1,ca1,rfl,rfl,rfl⟩
  simp only [List.cons_append,List.nil_append]
  refine j_run it 3 rfl ⟨⟨by omega,by omega⟩,trivial,trivial,trivial⟩ ?_
  refine j_recast (t:=27) ((((k) - (j)) : Nat) : Int) rfl (by omega) ?_
  refine j_step rfl (x_call [0] rfl (S_codewrightref01_Pow (by omega) (by omega)) rfl ?_)
  rintro _ _ _ ⟨pa2,ca2,rfl,rfl,rfl⟩
  simp only [List.cons_append,List.nil_append]
  refine j_run it 5 rfl (by simp) ?_
  refine j_nf [_,_,_,_,_,_,_] rfl (j_run it 3 rfl (by simp) ?_)
  refine j_step rfl (x_call [] rfl (S_codewrightref01_Choose (by omega)) rfl ?_)
  rintro _ _ _ ⟨pa3,ca3,rfl,rfl,rfl⟩
  simp only [List.cons_append,List.nil_append]
  refine j_run it 6 rfl ⟨⟨by omega,by omega⟩,trivial,trivial,⟨by omega,by omega⟩,trivial,trivial,trivial⟩ ?_
  refine j_recast (t:=37) ((((n) - (x)) : Nat) : Int) rfl (by omega) ?_
  refine j_recast (t:=40) ((((k) - (j)) : Nat) : Int) rfl (by omega) ?_
  refine j_step rfl (x_call [] rfl (S_codewrightref01_Choose (by omega)) rfl ?_)
  rintro _ _ _ ⟨pa4,ca4,rfl,rfl,rfl⟩
  simp only [List.cons_append,List.nil_append]
  refine j_step rfl (x_call [1,0] rfl (S_codewrightref01_Mul (by omega) (by omega)) rfl ?_)
  rintro _ _ _ ⟨pa5,ca5,rfl,rfl,rfl⟩
  simp only [List.cons_append,List.nil_append]
  refine j_step rfl (x_call [3,0] rfl (S_codewrightref01_Mul (by omega) (by omega)) rfl ?_)
  rintro _ _ _ ⟨pa6,ca6,rfl,rfl,rfl⟩
  simp only [List.cons_append,List.nil_append]
  rw [eS]
  have ho : j % 2 = 1 → -(((val (limbs (krSize q n k x j)) : Nat) : Int) : Rat) = ((krTerm q n k x j : Int) : Rat):=fun h=>by rw [val_limbs,krTerm_odd (by omega) h,Rat.intCast_neg]
  have he : ¬ j % 2 = 1 → (((val (limbs (krSize q n k x j)) : Nat) : Int) : Rat) = ((krTerm q n k x j : Int) : Rat):=fun h=>by rw [val_limbs,krTerm_even (by omega) h]
  rw [← val_limbs (krSize q n k x j)] at hR1 hR2
  refine j_step rfl (x_call [0] rfl (S_codewrightref02_Nat (by omega)) rfl ?_)
  rintro _ _ _ ⟨pn2,cn2,pd2,cd2,rfl,rfl,rfl⟩
  simp only [List.cons_append,List.nil_append]
  refine j_step rfl (x_alloc zo72 fun b3=>?_)
  refine j_step rfl (x_bst_all 0 rfl rfl rfl ld72 rfl rfl (by simp [Value.oneCell']) ?_)
  refine j_nf [_,_,_,_,_,_,_,_] rfl (j_run it 3 rfl (by simp) ?_)
  refine j_nf [_,_,_,_,_,_,_] rfl (j_if rfl rfl (fun h2=>?_) (fun h2=>?_))
  ·refine j_nf [_,_,_,_,_,_,_] rfl (j_step rfl (x_bld_all 0 rfl rfl ld72 rfl ?_))
   refine j_step rfl (x_call [0,1] rfl (S_codewrightref02_Neg (by omega) (by omega)) rfl ?_)
   rintro _ _ _ ⟨pn3,cn3,pd3,cd3,rfl,rfl,rfl⟩
   simp only [List.cons_append,List.nil_append]
   simp only [vq_rt']
   refine j_step rfl (x_bst_all 0 rfl rfl rfl ld72 rfl rfl (by simp [Value.oneCell']) ?_)
   refine j_nf [_,_,_,_,_,_] rfl (j_step rfl (x_bld_all 1 rfl rfl ld72 rfl ?_))
   refine j_step rfl (x_bld_all 0 rfl rfl ld72 rfl ?_)
   rw [ho (by omega)]
   refine j_step rfl (x_call [10,11,0,1] rfl (S_codewrightref02_Add (by omega) (by omega) (by omega) (by omega)) rfl ?_)
   rintro _ _ _ ⟨pn4,cn4,pd4,cd4,rfl,rfl,rfl⟩
   simp only [List.cons_append,List.nil_append]
   simp only [vq_rt']
   refine j_step rfl (x_bst_all 1 rfl rfl rfl ld72 rfl rfl (by simp [Value.oneCell']) ?_)
   refine j_nf [_,_,_,_] rfl (j_run it 3 rfl ⟨trivial,⟨by omega,by omega⟩,trivial,trivial⟩ ?_)
   refine j_nfn 1 [.lp (pL 116),.blk 0,.c [1,1,1]] rfl ?_
   rw [eA]
   refine j_toM [false,true,true] [0,1] (by exact fra rfl) rfl rfl (ih (j + 1,(pn4,cn4),(pd4,cd4)) (by dsimp only;omega) (by dsimp only;omega))
  ·refine j_nf [_,_,_,_,_,_] rfl (j_step rfl (x_bld_all 1 rfl rfl ld72 rfl ?_))
   refine j_step rfl (x_bld_all 0 rfl rfl ld72 rfl ?_)
   rw [he (by omega)]
   refine j_step rfl (x_call [8,9,0,1] rfl (S_codewrightref02_Add (by omega) (by omega) (by omega) (by omega)) rfl ?_)
   rintro _ _ _ ⟨pn3,cn3,pd3,cd3,rfl,rfl,rfl⟩
   simp only [List.cons_append,List.nil_append]
   simp only [vq_rt']
   refine j_step rfl (x_bst_all 1 rfl rfl rfl ld72 rfl rfl (by simp [Value.oneCell']) ?_)
   refine j_nf [_,_,_,_] rfl (j_run it 3 rfl ⟨trivial,⟨by omega,by omega⟩,trivial,trivial⟩ ?_)
   refine j_nfn 1 [.lp (pL 116),.blk 0,.c [1,1,1]] rfl ?_
   rw [eA]
   refine j_toM [false,true,true] [0,1] (by exact fra rfl) rfl rfl (ih (j + 1,(pn3,cn3),(pd3,cd3)) (by dsimp only;omega) (by dsimp only;omega))
 ·obtain rfl : j = k + 1:=by omega
  refine j_nf [_,_,_,_,_,_] rfl (j_run it 3 rfl (by simp) ?_)
  refine j_nf [_,_,_,_,_] rfl (j_if rfl rfl (fun h1=>by exfalso;omega) (fun h1=>?_))
  refine j_nf [_,_] rfl (j_step rfl (x_bld_all 0 rfl rfl ld72 rfl ?_))
  refine j_step rfl (x_bst_all 1 rfl rfl rfl ld72 rfl rfl (by simp [Value.oneCell']) ?_)
  refine j_nf [_] rfl ?_
  rw [← krTerm_sum]
  refine j_givC [0,1] rfl (.agg 1 rfl rfl ld72 rfl .nil) rfl ⟨_,_,_,_,rfl,rfl,rfl⟩
theorem S_codewrightref24_Transform {q n K : Nat} {pa : Option Addr} {ca : Nat} {L : List Rt} (hq : 2 ≤ q) (hq2 : q ≤ 256) (hn : n ≤ 64) (hl : L.length = n + 1) (hK1 : 1 ≤ K) (hK : K ≤ 10000) (hL : ∀ r ∈ L,okR K r) :
  Ctr Try.prog 43 [.int .i64 q,.slice pa (n + 1) ca] [] [slF RatE pa (n + 1) ca L] (SvN RatE (n + 1) (trL q n L)):=by
 refine Ctr_of_j' (F:=F_codewrightref24_Transform) rfl fun C=>?_
 have hg : ∀ i,i < n + 1 → okR K (L.getD i default):=fun i hi=>hL _ (by rw [List.getD,List.getElem?_eq_getElem (by omega)];exact List.getElem_mem _)
 have hb : ∀ i,i < n + 1 → bd K (qAt L i):=fun i hi=>okR_bd (hg i hi) hK1
 have hm0 : InR .i64 0:=by simp [InR]
 refine j_nf [_,_] rfl ?_
 refine j_run it 1 rfl (by simp) ?_
 refine j_nf [_,_] rfl ?_
 refine j_run it 1 rfl (by simp) ?_
 refine j_nf [_,_,_] rfl ?_
 refine j_run it 1 rfl (by simp) ?_
 refine j_nf [_,_,_] rfl ?_
 refine j_row0 RatE 72 ?_
 refine j_loopG (X:=Nat × Row) [0,1,4] [1] (fun x=>[(6,.int .i64 x.1),(5,.slice (ad x.2.bo) x.1 x.2.cap)])
  (fun x=>[(x.2.bo,72,x.2.cs)])
  (fun x=>[rowF RatE x.2 x.1 ((List.range x.1).map fun j=>rt (trP L (fun i=>kr ((q : Int) - 1) n j i) (n + 1)))])
  (fun x=>x.1 ≤ n + 1) (fun x=>n + 1 - x.1) (0,⟨none,0,[]⟩) [0] rfl rfl rfl (Nat.zero_le _) (by repeat (first | exact Fr.sub_nil _ | refine Fr.sub_cons rfl ?_)) rfl rfl ?_
 rintro ⟨j,r⟩ hj ih
 simp only [List.cons_append,List.nil_append] at hj ih ⊢
 by_cases hjl : j < n + 1
 ·refine j_nf [_,_,_,_,_,_] rfl ?_
  refine j_run it 2 rfl (by simp) ?_
  refine j_step rfl (x_len sl70 rfl ?_)
  refine j_run it 1 rfl (by simp) ?_
  refine j_nf [_,_,_,_,_] rfl ?_
  refine j_if rfl rfl (fun h1=>?_) (fun h1=>by exfalso;omega)
  refine j_nf [_,_,_,_,_,_,_] rfl ?_
  refine j_step rfl (x_call [] rfl (S_codewrightref02_Int (by omega)) rfl ?_)
  rintro _ _ _ ⟨pn1,cn1,pd1,cd1,rfl,rfl,rfl⟩
  simp only [List.cons_append,List.nil_append]
  refine j_step rfl (x_alloc zo72 fun b1=>?_)
  refine j_step rfl (x_bst_all 0 rfl rfl rfl ld72 rfl rfl (by simp [Value.oneCell']) ?_)
  refine j_nf [_,_,_,_,_,_,_,_] rfl ?_
  refine j_run it 1 rfl (by simp) ?_
  refine j_nf [_,_,_,_,_,_,_,_] rfl ?_
  rw [show (((0 : Int) : Rat)) = trP L (fun i=>kr ((q : Int) - 1) n j i) 0 from rfl]
  refine j_loopG (X:=Nat × (Option Addr × Nat) × (Option Addr × Nat)) [0,1,4,5,6,7,9,10,11,12,15] [2,3] (fun y=>[(8,.int .i64 y.1)])
   (fun y=>[(some b1,72,[.bool (rt (trP L (fun i=>kr ((q : Int) - 1) n j i) y.1)).1,.slice y.2.1.1 (rt (trP L (fun i=>kr ((q : Int) - 1) n j i) y.1)).2.1.length y.2.1.2,.slice y.2.2.1 (rt (trP L (fun i=>kr ((q : Int) - 1) n j i) y.1)).2.2.length y.2.2.2]),(r.bo,72,r.cs)])
   (fun y=>[slF U32 y.2.1.1 (rt (trP L (fun i=>kr ((q : Int) - 1) n j i) y.1)).2.1.length y.2.1.2 (rt (trP L (fun i=>kr ((q : Int) - 1) n j i) y.1)).2.1,slF U32 y.2.2.1 (rt (trP L (fun i=>kr ((q : Int) - 1) n j i) y.1)).2.2.length y.2.2.2 (rt (trP L (fun i=>kr ((q : Int) - 1) n j i) y.1)).2.2])
   (fun y=>y.1 ≤ n + 1) (fun y=>n + 1 - y.1) (0,(pn1,cn1),(pd1,cd1)) [0,1] rfl rfl rfl (Nat.zero_le _) (by repeat (first | exact Fr.sub_nil _ | refine Fr.sub_cons rfl ?_)) rfl rfl ?_
  rintro ⟨i,⟨pn,cn⟩,⟨pd,cd⟩⟩ hi ihi
  simp only [List.cons_append,List.nil_append] at hi ihi ⊢
  by_cases hil : i < n + 1
  ·have hKi : (K + 18) * i ≤ (10000 + 18) * 65:=Nat.mul_le_mul (by omega) (by omega)
   obtain ⟨l1,l2⟩:=bd_len (trP_bd (j:=j) hq hq2 hn (fun i hi=>hb i (by omega)) i hi)
   obtain ⟨l3,l4⟩:=rt_int_len (kr_lt hq hq2 hn (show i ≤ n by omega) (k:=j))
   have bk : bd 17 (((kr ((q : Int) - 1) n j i : Int)) : Rat):=by
    refine ⟨by rw [Rat.num_intCast];exact kr_lt hq hq2 hn (by omega),?_⟩
    rw [Rat.den_intCast]
    exact Nat.one_lt_pow (by decide) (by decide)
   have hbm : (rt (vq ((L.getD i default).1,(L.getD i default).2.1,(L.getD i default).2.2) * ((kr ((q : Int) - 1) n j i : Int) : Rat))).2.1.length ≤ K + 17 ∧ (rt (vq ((L.getD i default).1,(L.getD i default).2.1,(L.getD i default).2.2) * ((kr ((q : Int) - 1) n j i : Int) : Rat))).2.2.length ≤ K + 17:=bd_len (bd_mul (hb i hil) bk (by omega))
   obtain ⟨l5,l6⟩:=hbm
   obtain ⟨_,_,l7,l8⟩:=hg i hil
   have eA : trP L (fun i=>kr ((q : Int) - 1) n j i) i + vq ((L.getD i default).1,(L.getD i default).2.1,(L.getD i default).2.2) * ((kr ((q : Int) - 1) n j i : Int) : Rat) = trP L (fun i=>kr ((q : Int) - 1) n j i) (i + 1):=rfl
   refine j_nf [_,_,_,_,_,_,_,_,_,_,_] rfl ?_
   refine j_run it 2 rfl (by simp) ?_
   refine j_step rfl (x_len sl70 rfl ?_)
   refine j_run it 1 rfl (by simp) ?_
   refine j_nf [_,_,_,_,_,_,_,_,_,_] rfl ?_
   refine j_if rfl rfl (fun h2=>?_) (fun h2=>by exfalso;omega)
   refine j_nf [_,_,_,_,_,_,_,_,_,_,_] rfl ?_
   (apply j_drawK it mx 14;(· rfl);(· rfl))
   (apply lxk_eq;(· rfl);(· exact d_bld_all 0 rfl rfl ld72 rfl))
   (apply lxk_run 2;(· rfl);(· simp))
   (apply lxk_pt;(· rfl);(· exact d_x fun _=>x_idx 3 (i) rfl rfl rfl sl70 rfl (by omega) fun z1 hz1 b2 o1=>(dk_ptD default hz1 0 rfl));intro b2 o1)
   (apply lxk_rq;(· rfl);(· exact d_x fun _=>x_ld_rt 0 rfl rfl ld72 fun pa1 ca1 pa2 ca2=>(dk_rq 0 1 rfl rfl));intro pn2 cn2 pd2 cd2)
   (apply lxk_run 2;(· rfl);(· simp))
   (apply lxk_eq;(· rfl);(· exact d_x fun _=>x_len sl70 rfl dk_eq))
   (apply lxk_eq (v:=Value.int IntKind.i64 ((((n + 1) - 1 : Nat)) : Int));(· rfl);(· exact d_x fun _=>x_asN it _ rfl ⟨by omega,by omega⟩ (by omega) dk_eq))
   simp only [Nat.add_sub_cancel]
   (apply lxk_run 2;(· rfl);(· simp))
   (apply lxk_rq;(· rfl);(· exact d_x fun _=>x_call [] rfl (S_codewrightref24_Krawtchouk (by omega) (by omega) (by omega) (by omega) (by omega)) rfl (by rintro _ _ _ ⟨pn3,cn3,pd3,cd3,rfl,rfl,rfl⟩;exact (dk_rq 0 1 rfl rfl)));intro pn3 cn3 pd3 cd3)
   (apply lxk_rq;(· rfl);(· exact d_x fun _=>x_call [2,3,0,1] rfl (S_codewrightref02_Mul (by omega) (by omega) (by omega) (by omega)) rfl (by rintro _ _ _ ⟨pn4,cn4,pd4,cd4,rfl,rfl,rfl⟩;exact (dk_rq 0 1 rfl rfl)));intro pn4 cn4 pd4 cd4)
   simp only [vq_rt']
   (apply lxk_rq;(· rfl);(· exact d_x fun _=>x_call [7,8,0,1] rfl (S_codewrightref02_Add (by omega) (by omega) (by omega) (by omega)) rfl (by rintro _ _ _ ⟨pn5,cn5,pd5,cd5,rfl,rfl,rfl⟩;exact (dk_rq 0 1 rfl rfl)));intro pn5 cn5 pd5 cd5)
   simp only [vq_rt']
   refine lxk_end rfl ?_
   simp only [List.map_cons,List.map_nil,List.cons_append,List.nil_append]
   refine j_step rfl (x_bst_all 0 rfl rfl rfl ld72 rfl rfl (by simp [Value.oneCell']) ?_)
   refine j_nf [_,_,_,_,_,_,_,_,_] rfl ?_
   refine j_run it 3 rfl ⟨trivial,⟨by omega,by omega⟩,trivial,trivial⟩ ?_
   refine j_nfn 1 [.lp (pL 29844),.blk 2,.c (pL 3731),.blk 1,.c (pL 467),.lp (pL 116),.blk 0,.c [1,1,1]] rfl ?_
   rw [eA]
   refine j_to [0,1,11,12] (by exact fra rfl) rfl rfl (ihi (i + 1,(pn5,cn5),(pd5,cd5)) (by dsimp only;omega) (by dsimp only;omega))
  ·obtain rfl : n + 1 = i:=by omega
   refine j_nf [_,_,_,_,_,_,_,_,_,_,_] rfl ?_
   refine j_run it 2 rfl (by simp) ?_
   refine j_step rfl (x_len sl70 rfl ?_)
   refine j_run it 1 rfl (by simp) ?_
   refine j_nf [_,_,_,_,_,_,_,_,_,_] rfl ?_
   refine j_if rfl rfl (fun h2=>by exfalso;omega) (fun h2=>?_)
   refine j_nf [_,_,_,_,_,_] rfl ?_
   refine j_run it 1 rfl (by simp) ?_
   refine j_step rfl (x_bld_all 0 rfl rfl ld72 rfl ?_)
   refine j_step rfl (x_lit sl70 zo70e rfl rfl rfl rfl (by decide) (by decide) rfl fun b2=>?_)
   refine j_step rfl (x_appR (z:=((rt (trP L (fun i=>kr (↑q - 1) n j i) (n + 1))).fst,((rt (trP L (fun i=>kr (↑q - 1) n j i) (n + 1))).snd.fst,(rt (trP L (fun i=>kr (↑q - 1) n j i) (n + 1))).snd.snd))) 2 0 2 rfl rfl rfl rfl rfl sl70 zo70e rfl (fun w A hG=>(rd_pair (v1:=[Value.bool (rt (trP L (fun i=>kr (↑q - 1) n j i) (n + 1))).fst]) (rd_bool _) (rd_pair (v1:=[Value.slice pn (rt (trP L (fun i=>kr (↑q - 1) n j i) (n + 1))).snd.fst.length cn]) (rd_of_slF (hG _ (fact_mem (n:=0) rfl))) (rd_of_slF (hG _ (fact_mem (n:=1) rfl)))))) (by omega) _ by70e (by omega) fun r1=>?_)
   refine j_run it 1 rfl (by simp) ?_
   refine j_nf [_,_,_,_] rfl ?_
   refine j_run it 3 rfl ⟨trivial,⟨by omega,by omega⟩,trivial,trivial⟩ ?_
   refine j_nfn 1 [.lp (pL 116),.blk 0,.c [1,1,1]] rfl ?_
   rw [show ((rt (trP L (fun i=>kr ((q : Int) - 1) n j i) (n + 1))).1,(rt (trP L (fun i=>kr ((q : Int) - 1) n j i) (n + 1))).2.1,(rt (trP L (fun i=>kr ((q : Int) - 1) n j i) (n + 1))).2.2) = rt (trP L (fun i=>kr ((q : Int) - 1) n j i) (n + 1)) from rfl,← range_snoc fun j=>rt (trP L (fun i=>kr ((q : Int) - 1) n j i) (n + 1))]
   refine j_toM [true,false,false] [0,4] (by exact fra rfl) rfl rfl (ih (j + 1,r1) (by dsimp only;omega) (by dsimp only;omega))
 ·obtain rfl : n + 1 = j:=by omega
  refine j_nf [_,_,_,_,_,_] rfl ?_
  refine j_run it 2 rfl (by simp) ?_
  refine j_step rfl (x_len sl70 rfl ?_)
  refine j_run it 1 rfl (by simp) ?_
  refine j_nf [_,_,_,_,_] rfl ?_
  refine j_if rfl rfl (fun h1=>by exfalso;omega) (fun h1=>?_)
  refine j_nf [_,_] rfl ?_
  refine j_run it 2 rfl (by simp) ?_
  refine j_nf [_] rfl ?_
  refine j_pubR 0 0 rfl rfl (by show (n + 1) * 56 ≤ 140737488355328;omega) ?_
  refine j_giv [0] rfl rfl rfl ⟨_,_,rfl,rfl,rfl⟩
def whR (v : Rat) : List Nat:=if ¬ v.num < 0 ∧ v.den = 1 then limbs v.num.natAbs else []
def whB (v : Rat) : Bool:=decide (¬ v.num < 0 ∧ v.den = 1)
theorem S_codewrightref02_Whole {neg : Bool} {pn pd : Option Addr} {n m cn cd : Nat} {N D : List Nat} (hN : N.length ≤ 1073741824) (hD : D.length ≤ 1073741824) :
  Ctr Try.prog 44 [.agg #[.bool neg,.slice pn n cn,.slice pd m cd]] [] [slF U32 pn n cn N,slF U32 pd m cd D] (fun v Φ β=>∃ pa ca,v = .tuple #[.slice pa (whR (vq (neg,N,D))).length ca,.bool (whB (vq (neg,N,D)))] ∧ Φ = [slF U32 pa (whR (vq (neg,N,D))).length ca (whR (vq (neg,N,D)))] ∧ β = []):=by
 refine Ctr_of_j' (F:=F_codewrightref02_Whole) rfl fun C=>?_
 have en:=neg_rt (vq (neg,N,D))
 by_cases h1 : (vq (neg,N,D)).num < 0
 ·rw [decide_eq_true h1] at en
  have hw : ¬ (¬ (vq (neg,N,D)).num < 0 ∧ (vq (neg,N,D)).den = 1):=fun h=>h.1 h1
  rw [whR,whB,if_neg hw,decide_eq_false hw]
  refine j_nf [_,_] rfl (j_step rfl (x_box_agg rfl fun b1=>?_))
  refine j_run it 2 rfl (by simp) ?_
  refine j_nf [_,_] rfl (j_step rfl (x_bld_all 0 rfl rfl ld72 rfl ?_))
  refine j_step rfl (x_call [0,1] rfl (S_codewrightref02_Trim (by omega) (by omega)) rfl ?_)
  rintro _ _ _ ⟨pn1,cn1,pd1,cd1,rfl,rfl,rfl⟩
  simp only [List.cons_append,List.nil_append]
  rw [en]
  refine j_step rfl (x_bst_all 0 rfl rfl rfl ld72 rfl rfl (by simp [Value.oneCell']) ?_)
  refine j_nf [_,_,_] rfl (j_step rfl (x_field rfl fd72_0 ?_))
  refine j_step rfl (x_bld 0 rfl rfl ld4 rfl ?_)
  refine j_run it 7 rfl (by simp) ?_
  refine j_nf [_,_] rfl ?_
  refine j_true rfl rfl ?_
  refine j_nf [_,_,_] rfl (j_run it 2 rfl (by simp) ?_)
  refine j_nf [_,_] rfl ?_
  refine j_add (slF U32 none 0 0 []) (fun w A _=>slF_nil _ _ _ _ _) ?_
  refine j_giv [0] rfl rfl rfl ⟨_,_,rfl,rfl,rfl⟩
 ·rw [decide_eq_false h1] at en
  by_cases h2 : (vq (neg,N,D)).den = 1
  ·have hw : ¬ (vq (neg,N,D)).num < 0 ∧ (vq (neg,N,D)).den = 1:=⟨h1,h2⟩
   have e2 : (rt (vq (neg,N,D))).2.2 = [1]:=by
    rw [← limbs_one,← h2];rfl
   rw [whR,whB,if_pos hw,decide_eq_true hw]
   refine j_nf [_,_] rfl (j_step rfl (x_box_agg rfl fun b1=>?_))
   refine j_run it 2 rfl (by simp) ?_
   refine j_nf [_,_] rfl (j_step rfl (x_bld_all 0 rfl rfl ld72 rfl ?_))
   refine j_step rfl (x_call [0,1] rfl (S_codewrightref02_Trim (by omega) (by omega)) rfl ?_)
   rintro _ _ _ ⟨pn1,cn1,pd1,cd1,rfl,rfl,rfl⟩
   simp only [List.cons_append,List.nil_append]
   rw [en]
   refine j_step rfl (x_bst_all 0 rfl rfl rfl ld72 rfl rfl (by simp [Value.oneCell']) ?_)
   refine j_nf [_,_,_] rfl (j_step rfl (x_field rfl fd72_0 ?_))
   refine j_step rfl (x_bld 0 rfl rfl ld4 rfl ?_)
   refine j_run it 1 rfl (by simp) ?_
   refine j_gstep rfl rfl (x_field rfl fd72_2 ?_)
   refine j_gstep rfl rfl (x_bld 0 rfl rfl ld48 rfl ?_)
   refine j_gstep rfl rfl (x_lit sl48 zo48e rfl rfl rfl rfl (by decide) (by decide) rfl fun b2=>?_)
   refine j_pub_made (n:=1) (kd:=IntKind.u32) 4 [1] 0 rfl rfl (by first | (simp [InR];done) | (simp only [InR,List.mem_cons,List.not_mem_nil,or_false,forall_eq_or_imp,forall_eq];omega)) (by decide) (by decide) ?_
   refine j_gstep rfl rfl (x_call [2,0] rfl (S_codewrightref01_Same) rfl ?_)
   rintro _ _ _ ⟨rfl,rfl,rfl⟩
   simp only [List.cons_append,List.nil_append]
   refine j_run it 2 rfl (by simp) ?_
   refine j_nf [_,_] rfl (j_ifn rfl rfl (fun h3=>?_) (fun h3=>?_))
   ·exact absurd e2 (by assumption)
   ·refine j_nf [_,_] rfl (j_step rfl (x_field rfl fd72_1 ?_))
    refine j_step rfl (x_bld 0 rfl rfl ld48 rfl ?_)
    refine j_run it 2 rfl (by simp) ?_
    refine j_nf [_] rfl ?_
    refine j_giv [1] rfl rfl rfl ⟨_,_,rfl,rfl,rfl⟩
  ·have hw : ¬ (¬ (vq (neg,N,D)).num < 0 ∧ (vq (neg,N,D)).den = 1):=fun h=>h2 h.2
   have e2 : ¬ (rt (vq (neg,N,D))).2.2 = [1]:=by
    rw [← limbs_one];exact fun h=>h2 (limbs_inj h)
   rw [whR,whB,if_neg hw,decide_eq_false hw]
   refine j_nf [_,_] rfl (j_step rfl (x_box_agg rfl fun b1=>?_))
   refine j_run it 2 rfl (by simp) ?_
   refine j_nf [_,_] rfl (j_step rfl (x_bld_all 0 rfl rfl ld72 rfl ?_))
   refine j_step rfl (x_call [0,1] rfl (S_codewrightref02_Trim (by omega) (by omega)) rfl ?_)
   rintro _ _ _ ⟨pn1,cn1,pd1,cd1,rfl,rfl,rfl⟩
   simp only [List.cons_append,List.nil_append]
   rw [en]
   refine j_step rfl (x_bst_all 0 rfl rfl rfl ld72 rfl rfl (by simp [Value.oneCell']) ?_)
   refine j_nf [_,_,_] rfl (j_step rfl (x_field rfl fd72_0 ?_))
   refine j_step rfl (x_bld 0 rfl rfl ld4 rfl ?_)
   refine j_run it 1 rfl (by simp) ?_
   refine j_gstep rfl rfl (x_field rfl fd72_2 ?_)
   refine j_gstep rfl rfl (x_bld 0 rfl rfl ld48 rfl ?_)
   refine j_gstep rfl rfl (x_lit sl48 zo48e rfl rfl rfl rfl (by decide) (by decide) rfl fun b2=>?_)
   refine j_pub_made (n:=1) (kd:=IntKind.u32) 4 [1] 0 rfl rfl (by first | (simp [InR];done) | (simp only [InR,List.mem_cons,List.not_mem_nil,or_false,forall_eq_or_imp,forall_eq];omega)) (by decide) (by decide) ?_
   refine j_gstep rfl rfl (x_call [2,0] rfl (S_codewrightref01_Same) rfl ?_)
   rintro _ _ _ ⟨rfl,rfl,rfl⟩
   simp only [List.cons_append,List.nil_append]
   refine j_run it 2 rfl (by simp) ?_
   refine j_nf [_,_] rfl (j_ifn rfl rfl (fun h3=>?_) (fun h3=>?_))
   ·refine j_nf [_,_,_] rfl (j_run it 2 rfl (by simp) ?_)
    refine j_nf [_,_] rfl ?_
    refine j_add (slF U32 none 0 0 []) (fun w A _=>slF_nil _ _ _ _ _) ?_
    refine j_giv [0] rfl rfl rfl ⟨_,_,rfl,rfl,rfl⟩
   ·exact absurd (by assumption) e2
theorem toP_lt {K : Nat} {L : List (List Nat)} (hL : ∀ l ∈ L,okN K l) : ∀ k,k ≤ L.length → k ≤ 65536 → toP L k ≤ k * 4294967296 ^ K:=by
 intro k
 induction k with
 | zero=>intro _ _;simp [toP]
 | succ k ih =>
  intro hk hk2
  have h1:=ih (by omega) (by omega)
  have h2:=Nat.le_of_lt (okN_lt (hL (L.getD k default) (by rw [List.getD,List.getElem?_eq_getElem (by omega)];exact List.getElem_mem _)))
  rw [toP,Nat.succ_mul]
  exact Nat.add_le_add h1 h2
theorem toP_len {K : Nat} {L : List (List Nat)} (hL : ∀ l ∈ L,okN K l) {k : Nat} (hk : k ≤ L.length) (hk2 : k ≤ 65536) : (limbs (toP L k)).length ≤ K + 1:=by
 refine limbs_length_le (Nat.lt_of_le_of_lt (toP_lt hL k hk hk2) ?_)
 have h1 : k * 4294967296 ^ K ≤ 65536 * 4294967296 ^ K:=Nat.mul_le_mul_right _ hk2
 have h2 : 0 < 4294967296 ^ K:=Nat.pow_pos (by decide)
 rw [Nat.pow_succ,Nat.mul_comm (4294967296 ^ K)]
 generalize 4294967296 ^ K = x at *
 omega
theorem S_codewrightref24_Total {K : Nat} {pa : Option Addr} {n ca : Nat} {L : List (List Nat)} (hn : n ≤ 65536) (hK : K ≤ 10000) (hL : ∀ l ∈ L,okN K l) :
  Ctr Try.prog 41 [.slice pa n ca] [] [slF NatE pa n ca L] (Sv U32 (limbs (sumV L))):=by
 refine Ctr_of_j' (F:=F_codewrightref24_Total) rfl fun C=>?_
 refine j_len 0 rfl fun hln _ _=>?_
 have e0 : limbs (toP L 0) = []:=limbs_zero
 refine j_nf [_,_] rfl (j_run it 1 rfl (by simp) ?_)
 refine j_nf [_,_] rfl (j_step rfl (x_lit0 sl48 fun b1=>?_))
 refine j_run it 1 rfl (by simp) ?_
 refine j_nf [_,_,_] rfl (j_run it 1 rfl (by simp) ?_)
 refine j_nf [_,_,_] rfl ?_ --ok
 refine j_pub_made (n:=0) (kd:=.u32) 4 [] 0 rfl rfl (by simp [InR]) (by decide) (by decide) ?_
 refine j_add (slF U32 (some ⟨b1,0,none⟩) (limbs (toP L 0)).length 0 (limbs (toP L 0))) (fun w A _=>by rw [e0];exact slF_nil _ _ _ _ _) ?_
 refine j_loopG (X:=Nat × Option Addr × Nat) [0,2] [2] (fun x=>[(4,.int .i64 x.1),(3,.slice x.2.1 (limbs (toP L x.1)).length x.2.2)]) (fun _=>[]) (fun x=>[slF U32 x.2.1 (limbs (toP L x.1)).length x.2.2 (limbs (toP L x.1))])
  (fun x=>x.1 ≤ n) (fun x=>n - x.1) (0,some ⟨b1,0,none⟩,0) [0] rfl rfl rfl (Nat.zero_le _) (by
   rw [show (limbs (toP L (0,(some ⟨b1,0,none⟩ : Option Addr),0).1)).length = 0 by rw [show limbs (toP L (0,(some ⟨b1,0,none⟩ : Option Addr),0).1) = [] from e0];rfl]
   repeat (first | exact Fr.sub_nil _ | refine Fr.sub_cons rfl ?_)) rfl rfl ?_
 rintro ⟨k,p,c⟩ hk ih
 simp only [List.cons_append,List.nil_append] at hk ih ⊢
 have hl1:=toP_len hL (k:=k) (by omega) (by omega)
 by_cases hkn : k < n
 ·have hz:=get_some (l:=L) (i:=k) (dflt:=default) (by omega)
  have hzk:=(hL _ (List.mem_of_getElem? hz)).2
  have side : ∀ z,L[k]? = some z → z.length ≤ 1099511627776:=fun z h=>by have:=(hL z (List.mem_of_getElem? h)).2;omega
  refine j_nf [_,_,_,_,_,_] rfl (j_run it 2 rfl (by simp) ?_)
  refine j_step rfl (x_len sl36 rfl ?_)
  refine j_run it 1 rfl (by simp) ?_
  refine j_nf [_,_,_,_,_] rfl (j_if rfl rfl (fun h1=>?_) (fun h1=>by exfalso;omega))
  refine j_nf [_,_,_,_,_,_] rfl (j_run it 3 rfl (by simp) ?_)
  refine j_step rfl (x_idx 1 (k) rfl rfl rfl sl36 rfl (by omega) fun z1 hz1 b2 o1=>?_)
  refine j_step rfl (x_ld_sl 0 rfl rfl ld48 fun pa1 ca1=>?_)
  refine j_step rfl (x_call [2,0] rfl (S_codewrightref01_Add (by omega) (by exact side _ (by assumption))) rfl ?_)
  rintro _ _ _ ⟨pa2,ca2,rfl,rfl,rfl⟩
  simp only [List.cons_append,List.nil_append]
  refine j_run it 1 rfl (by simp) ?_
  refine j_nf [_,_,_,_] rfl (j_run it 3 rfl ⟨trivial,⟨by omega,by omega⟩,trivial,trivial⟩ ?_)
  refine j_nfn 1 [.lp (pL 116),.blk 0,.c [1,1,1]] rfl ?_
  have e : limbs (val (limbs (toP L k)) + val z1) = limbs (toP L (k + 1)):=by
   rw [val_limbs,toP,show L.getD k default = z1 by rw [List.getD,hz1];rfl]
  rw [e]
  refine j_to [0,4] (by exact fra rfl) rfl rfl (ih (k + 1,pa2,ca2) (by dsimp only;omega) (by dsimp only;omega))
 ·obtain rfl : n = k:=by omega
  have e : sumV L = toP L n:=by rw [← toP_all,hln]
  rw [e]
  refine j_nf [_,_,_,_,_,_] rfl (j_run it 2 rfl (by simp) ?_)
  refine j_step rfl (x_len sl36 rfl ?_)
  refine j_run it 1 rfl (by simp) ?_
  refine j_nf [_,_,_,_,_] rfl (j_if rfl rfl (fun h1=>by exfalso;omega) (fun h1=>?_))
  refine j_nf [_,_] rfl (j_run it 2 rfl (by simp) ?_)
  refine j_nf [_] rfl ?_
  refine j_giv [0] rfl rfl rfl ⟨_,_,rfl,rfl,rfl⟩
theorem vq_mk (l m : List Nat) : vq (false,l,m) = mkRat (val l : Int) (val m):=by
 simp [vq,sg]
theorem mk_num_le {s : Int} {t : Nat} (ht : 0 < t) : (mkRat s t).num.natAbs ≤ s.natAbs:=by
 rw [mk_num ht]
 exact Int.natAbs_ediv_le_natAbs _ _
theorem mk_den_le {s : Int} {t : Nat} (ht : 0 < t) : (mkRat s t).den ≤ t:=by
 rw [mk_den ht]
 exact Nat.div_le_self _ _
theorem quo_ok {K T : Nat} {L : List (List Nat)} (hT : 0 < T) (hTl : T < 4294967296 ^ (K + 1)) (hL : ∀ l ∈ L,okN K l) : ∀ r ∈ quoL L T,okR (K + 1) r:=by
 intro r hr
 obtain ⟨l,hl,rfl⟩:=List.mem_map.1 hr
 have h1:=okN_lt (hL l hl)
 have en : (mkRat (val l : Int) T).num.natAbs ≤ val l:=by
  have:=mk_num_le (s:=(val l : Int)) hT
  omega
 have ed : (mkRat (val l : Int) T).den ≤ T:=mk_den_le hT
 refine ⟨limbs_lt _,limbs_lt _,limbs_length_le (Nat.lt_of_le_of_lt en (Nat.lt_of_lt_of_le h1 (Nat.pow_le_pow_right (by decide) (by omega)))),limbs_length_le (Nat.lt_of_le_of_lt ed hTl)⟩
theorem wh_iff {q n : Nat} {L : List (List Nat)} {j : Nat} (hT : 0 < toP L (n + 1)) : (¬ (mkRat (duS q n L j) (toP L (n + 1))).num < 0 ∧ (mkRat (duS q n L j) (toP L (n + 1))).den = 1) ↔ duOk q n L j:=rat_whole hT
theorem wh_ok {q n : Nat} {L : List (List Nat)} {j : Nat} (hT : 0 < toP L (n + 1)) (h : duOk q n L j) : whR (mkRat (duS q n L j) (toP L (n + 1))) = limbs (duV q n L j) ∧ whB (mkRat (duS q n L j) (toP L (n + 1))) = true:=by
 rw [whR,whB,if_pos ((wh_iff hT).2 h),decide_eq_true ((wh_iff hT).2 h),rat_num hT h.1 h.2]
 exact ⟨rfl,rfl⟩
theorem wh_no {q n : Nat} {L : List (List Nat)} {j : Nat} (hT : 0 < toP L (n + 1)) (h : ¬ duOk q n L j) : whB (mkRat (duS q n L j) (toP L (n + 1))) = false:=decide_eq_false fun h'=>h ((wh_iff hT).1 h')
theorem U_codewrightref24_Dual {q n K : Nat} {pa : Option Addr} {ca : Nat} {L : List (List Nat)} (hq : 2 ≤ q) (hq2 : q ≤ 256) (hn : n ≤ 64) (hl : L.length = n + 1) (hK : K ≤ 9000) (hL : ∀ l ∈ L,okN K l) (h0 : toP L (n + 1) ≠ 0) :
  Ctr Try.prog 16 [.int .i64 q,.slice pa (n + 1) ca] [] [slF NatE pa (n + 1) ca L] (SvE NatE (duR q n L).length (duR q n L) (duE q n L)):=by
 refine Ctr_of_j' (F:=F_codewrightref24_Dual) rfl fun C=>?_
 have ho : orderOf (q : Int) = 0:=if_neg (by omega)
 have hsh : shapeOf (n + 1) = 0:=if_neg (by omega)
 have hg : ∀ i,i < n + 1 → okN K (L.getD i default):=fun i hi=>hL _ (by rw [List.getD,List.getElem?_eq_getElem (by omega)];exact List.getElem_mem _)
 have eT : sumV L = toP L (n + 1):=sum_toP hl
 have hT1:=toP_len hL (k:=n + 1) (by omega) (by omega)
 rw [← eT] at hT1
 have hT0 : ¬ (trim (limbs (sumV L))).length = 0:=by
  rw [trim_limbs,eT]
  intro h
  exact h0 (limbs_nil.1 (List.eq_nil_of_length_eq_zero h))
 have hTp : 0 < toP L (n + 1):=Nat.pos_of_ne_zero h0
 have hK2 : K ≤ 10000:=by omega
 have eQ : ∀ k,k < n + 1 → rt (vq (false,L.getD k default,limbs (sumV L))) = (quoL L (toP L (n + 1))).getD k default:=by
  intro k hk
  have hz : L[k]? = some (L.getD k default):=by rw [List.getD,List.getElem?_eq_getElem (by omega)];rfl
  have e1 : (quoL L (toP L (n + 1))).getD k default = rt (mkRat (val (L.getD k default) : Int) (toP L (n + 1))):=by rw [quoL,List.getD,List.getElem?_map,hz];rfl
  rw [vq_mk,val_limbs,eT,e1]
 refine j_nf [_,_] rfl (j_run it 2 rfl (by simp) ?_)
 refine j_nf [_,_,_] rfl (j_run it 1 rfl (by simp) ?_)
 refine j_step rfl (x_call [] rfl (S_codewrightref24_Order) rfl ?_)
 rintro _ _ _ ⟨rfl,rfl,rfl⟩
 simp only [List.cons_append,List.nil_append]
 refine j_run it 1 rfl (by simp) ?_
 refine j_nf [_,_] rfl (j_ifn rfl rfl (fun h1=>by exfalso;omega) (fun h1=>?_))
 refine j_nf [_,_,_] rfl (j_run it 1 rfl (by simp) ?_)
 refine j_step rfl (x_len sl36 rfl ?_)
 refine j_step rfl (x_call [] rfl (S_codewrightref24_Shape) rfl ?_)
 rintro _ _ _ ⟨rfl,rfl,rfl⟩
 simp only [List.cons_append,List.nil_append]
 refine j_run it 1 rfl (by simp) ?_
 refine j_nf [_,_] rfl (j_ifn rfl rfl (fun h2=>by exfalso;omega) (fun h2=>?_))
 refine j_nf [_,_] rfl (j_run it 1 rfl (by simp) ?_)
 refine j_step rfl (x_call [0] rfl (S_codewrightref24_Total (by omega) (by omega) (by omega)) rfl ?_)
 rintro _ _ _ ⟨pa1,ca1,rfl,rfl,rfl⟩
 simp only [List.cons_append,List.nil_append]
 refine j_run it 1 rfl (by simp) ?_
 refine j_nf [_,_,_] rfl (j_run it 1 rfl (by simp) ?_)
 refine j_step rfl (x_call [0] rfl (S_codewrightref01_Zero) rfl ?_)
 rintro _ _ _ ⟨rfl,rfl,rfl⟩
 simp only [List.cons_append,List.nil_append]
 refine j_nf [_,_] rfl (j_if rfl rfl (fun h3=>by exfalso;omega) (fun h3=>?_))
 refine j_nf [_,_] rfl (j_run it 1 rfl (by simp) ?_)
 refine j_nf [_,_,_] rfl (j_run it 1 rfl (by simp) ?_)
 refine j_nf [_,_,_] rfl ?_
 refine j_row0 RatE 72 ?_
 refine j_loopG (X:=Nat × Row) [0,1,4,5,6] [0,1,2] (fun x=>[(8,.int .i64 x.1),(7,.slice (ad x.2.bo) x.1 x.2.cap)])
  (fun x=>[(x.2.bo,72,x.2.cs)])
  (fun x=>[rowF RatE x.2 x.1 ((List.range x.1).map fun i=>rt (vq (false,L.getD i default,limbs (sumV L))))])
  (fun x=>x.1 ≤ n + 1) (fun x=>n + 1 - x.1) (0,⟨none,0,[]⟩) [0] rfl rfl rfl (Nat.zero_le _) (by repeat (first | exact Fr.sub_nil _ | refine Fr.sub_cons rfl ?_)) rfl rfl ?_
 rintro ⟨i,r⟩ hi ih
 simp only [List.cons_append,List.nil_append] at hi ih ⊢
 by_cases hil : i < n + 1
 ·obtain ⟨_,l1⟩:=hg i hil
  have side : ∀ z,L[i]? = some z → z.length ≤ 1073741824:=fun z h=>by have:=(hL z (List.mem_of_getElem? h)).2;omega
  refine j_nf [_,_,_,_,_,_] rfl (j_run it 2 rfl (by simp) ?_)
  refine j_step rfl (x_len sl36 rfl ?_)
  refine j_run it 1 rfl (by simp) ?_
  refine j_nf [_,_,_,_,_] rfl (j_if rfl rfl (fun h4=>?_) (fun h4=>by exfalso;omega))
  refine j_nf [_,_,_,_,_,_] rfl (j_run it 3 rfl (by simp) ?_)
  refine j_step rfl (x_idx 3 (i) rfl rfl rfl sl36 rfl (by omega) fun z1 hz1 b1 o1=>?_)
  refine j_step rfl (x_ld_sl 0 rfl rfl ld48 fun pa2 ca2=>?_)
  refine j_run it 1 rfl (by simp) ?_
  refine j_step rfl (x_call [0,4] rfl (S_codewrightref02_Make (by exact side _ (by assumption)) (by omega)) rfl ?_)
  rintro _ _ _ ⟨pn1,cn1,pd1,cd1,rfl,rfl,rfl⟩
  simp only [List.cons_append,List.nil_append]
  refine j_step rfl (x_lit sl70 zo70e rfl rfl rfl rfl (by decide) (by decide) rfl fun b2=>?_)
  refine j_step rfl (x_appR (z:=((rt (vq (false,z1,limbs (sumV L)))).fst,((rt (vq (false,z1,limbs (sumV L)))).snd.fst,(rt (vq (false,z1,limbs (sumV L)))).snd.snd))) 1 0 4 rfl rfl rfl rfl rfl sl70 zo70e rfl (fun w A hG=>(rd_pair (v1:=[Value.bool (rt (vq (false,z1,limbs (sumV L)))).fst]) (rd_bool _) (rd_pair (v1:=[Value.slice pn1 (rt (vq (false,z1,limbs (sumV L)))).snd.fst.length cn1]) (rd_of_slF (hG _ (fact_mem (n:=0) rfl))) (rd_of_slF (hG _ (fact_mem (n:=1) rfl)))))) (by omega) _ by70e (by omega) fun r1=>?_)
  refine j_run it 1 rfl (by simp) ?_
  refine j_nf [_,_,_,_] rfl (j_run it 3 rfl ⟨trivial,⟨by omega,by omega⟩,trivial,trivial⟩ ?_)
  refine j_nfn 1 [.lp (pL 2036),.blk 0,.c (pL 255)] rfl ?_
  rw [show z1 = L.getD i default by rw [List.getD,hz1];rfl]
  rw [show ((rt (vq (false,L.getD i default,limbs (sumV L)))).1,(rt (vq (false,L.getD i default,limbs (sumV L)))).2.1,(rt (vq (false,L.getD i default,limbs (sumV L)))).2.2) = rt (vq (false,L.getD i default,limbs (sumV L))) from rfl,← range_snoc fun i=>rt (vq (false,L.getD i default,limbs (sumV L)))]
  refine j_toM [true,false] [0,6,7,8] (by exact fra rfl) rfl rfl (ih (i + 1,r1) (by dsimp only;omega) (by dsimp only;omega))
 ·obtain rfl : n + 1 = i:=by omega
  have eL : (List.range (n + 1)).map (fun i=>rt (vq (false,L.getD i default,limbs (sumV L)))) = quoL L (toP L (n + 1)):=by
   refine List.ext_getElem (by simp [quoL,hl]) fun k h1 h2=>?_
   have hk : k < n + 1:=by simpa using h1
   rw [List.getElem_map,List.getElem_range,eQ k hk,List.getD,List.getElem?_eq_getElem h2];rfl
  rw [eL]
  have q1 : (quoL L (toP L (n + 1))).length = n + 1:=by simp [quoL,hl]
  have q2 : 1 ≤ K + 1:=by omega
  have q3 : K + 1 ≤ 10000:=by omega
  have hTl : toP L (n + 1) < 4294967296 ^ (K + 1):=by
   have:=val_lt (limbs_lt (toP L (n + 1)))
   rw [val_limbs] at this
   rw [eT] at hT1
   exact Nat.lt_of_lt_of_le this (Nat.pow_le_pow_right (by decide) hT1)
  have q4:=quo_ok hTp hTl hL
  refine j_nf [_,_,_,_,_,_] rfl (j_run it 2 rfl (by simp) ?_)
  refine j_step rfl (x_len sl36 rfl ?_)
  refine j_run it 1 rfl (by simp) ?_
  refine j_nf [_,_,_,_,_] rfl (j_if rfl rfl (fun h4=>by exfalso;omega) (fun h4=>?_))
  refine j_nf [_,_] rfl (j_run it 2 rfl (by simp) ?_)
  refine j_pubR 0 0 rfl rfl (by show (n + 1) * 56 ≤ 140737488355328;omega) ?_
  refine j_step rfl (x_call [0] rfl (S_codewrightref24_Transform (by omega) (by omega) (by omega) (by omega) (by omega) (by omega) (by omega)) rfl ?_)
  rintro _ _ _ ⟨pa2,ca2,rfl,rfl,rfl⟩
  simp only [List.cons_append,List.nil_append]
  refine j_run it 1 rfl (by simp) ?_
  refine j_nf [_,_] rfl (j_run it 1 rfl (by simp) ?_)
  refine j_nf [_,_,_] rfl (j_run it 1 rfl (by simp) ?_)
  refine j_nf [_,_,_] rfl ?_
  simp only [trL,quo_tr hTp hl]
  refine j_row0 NatE 48 ?_
  refine j_loopG (X:=Nat × Row) [9] [0,1,2,3,4,5,6] (fun x=>[(11,.int .i64 x.1),(10,.slice (ad x.2.bo) x.1 x.2.cap)])
   (fun x=>[(x.2.bo,48,x.2.cs)])
   (fun x=>[rowF NatE x.2 x.1 ((List.range x.1).map fun j=>limbs (duV q n L j))])
   (fun x=>x.1 ≤ n + 1 ∧ ∀ j,j < x.1 → duOk q n L j) (fun x=>n + 1 - x.1) (0,⟨none,0,[]⟩) [0] rfl rfl rfl ⟨Nat.zero_le _,fun j hj=>absurd hj (Nat.not_lt_zero _)⟩ (by repeat (first | exact Fr.sub_nil _ | refine Fr.sub_cons rfl ?_)) rfl rfl ?_
  rintro ⟨j,r2⟩ ⟨hj,hjo⟩ ih2
  simp only [List.cons_append,List.nil_append] at hj hjo ih2 ⊢
  by_cases hjl : j < n + 1
  ·have m6 : (duS q n L j).natAbs < 4294967296 ^ (K + 18):=by
    rw [← duZ_abs (by omega) L j,duZ]
    exact szP_lt (show n + 1 ≤ 65 by omega) (Nat.le_refl _) (fun i hi=>okN_lt (hg i hi)) fun i hi=>tz_lt hq hq2 hn (by omega) j (Nat.le_refl 17)
   have m7 : (rt (mkRat (duS q n L j) (toP L (n + 1)))).2.1.length ≤ 1073741824:=Nat.le_trans (limbs_length_le (Nat.lt_of_le_of_lt (mk_num_le hTp) m6)) (by omega)
   have m8 : (rt (mkRat (duS q n L j) (toP L (n + 1)))).2.2.length ≤ 1073741824:=Nat.le_trans (limbs_length_le (Nat.lt_of_le_of_lt (mk_den_le hTp) hTl)) (by omega)
   refine j_nf [_,_,_,_,_,_] rfl (j_run it 2 rfl (by simp) ?_)
   refine j_step rfl (x_len sl70 rfl ?_)
   refine j_run it 1 rfl (by simp) ?_
   refine j_nf [_,_,_,_,_] rfl (j_if rfl rfl (fun h5=>?_) (fun h5=>by exfalso;omega))
   refine j_nf [_,_,_,_,_,_,_] rfl (j_run it 2 rfl (by simp) ?_)
   refine j_step rfl (x_idx 2 (j) rfl rfl rfl sl70 rfl (by omega) fun z1 hz1 b1 o1=>?_)
   refine j_step rfl (x_ld_rt 0 rfl rfl ld72 fun pa3 ca3 pa4 ca4=>?_) --ok
   rw [range_get _ hjl] at hz1
   obtain rfl:=Option.some.inj hz1
   refine j_step rfl (x_call [0,1] rfl (S_codewrightref02_Whole (by omega) (by omega)) rfl ?_)
   rintro _ _ _ ⟨pa5,ca5,rfl,rfl,rfl⟩
   simp only [List.cons_append,List.nil_append]
   simp only [vq_rt']
   by_cases hdo : duOk q n L j
   ·obtain ⟨w1,w2⟩:=wh_ok hTp hdo
    rw [w1,w2]
    refine j_run it 5 rfl (by simp) ?_
    refine j_nf [_,_,_,_,_,_,_,_] rfl (j_run it 2 rfl (by simp) ?_)
    refine j_nf [_,_,_,_,_,_,_] rfl ?_
    refine j_false rfl rfl ?_
    refine j_nf [_,_,_,_,_,_] rfl (j_run it 2 rfl (by simp) ?_)
    refine j_step rfl (x_lit sl36 zo36e rfl rfl rfl rfl (by decide) (by decide) rfl fun b2=>?_)
    refine j_step rfl (x_appR (z:=limbs (duV q n L j)) 1 0 4 rfl rfl rfl rfl rfl sl36 zo36e rfl (fun w A hG=>(rd_of_slF (hG _ (fact_mem (n:=0) rfl)))) (by omega) _ by36e (by omega) fun r1=>?_)
    refine j_run it 1 rfl (by simp) ?_
    refine j_nf [_,_,_,_] rfl (j_run it 3 rfl ⟨trivial,⟨by omega,by omega⟩,trivial,trivial⟩ ?_)
    refine j_nfn 1 [.lp (pL 16372),.blk 2,.c (pL 2047)] rfl ?_
    rw [← range_snoc fun j=>limbs (duV q n L j)]
    refine j_toM [true,false] [0,6,7,8,9,10,11,12] (by exact fra rfl) rfl rfl (ih2 (j + 1,r1) (by dsimp only;omega) ⟨by dsimp only;omega,fun i hi=>by
     rcases Nat.lt_succ_iff_lt_or_eq.1 hi with h | rfl
     ·exact hjo i h
     ·exact hdo⟩)
   ·have w2:=wh_no hTp hdo
    have e1 : ¬ duAll q n L:=fun h=>hdo (h j hjl)
    rw [w2,duR,duE,if_neg e1,if_neg e1]
    refine j_run it 5 rfl (by simp) ?_
    refine j_nf [_,_,_,_,_,_,_,_] rfl (j_run it 2 rfl (by simp) ?_)
    refine j_nf [_,_,_,_,_,_,_] rfl ?_
    refine j_true rfl rfl ?_
    refine j_nf [_,_,_,_,_,_,_,_] rfl (j_run it 2 rfl (by simp) ?_)
    refine j_nf [_,_,_,_,_,_,_] rfl ?_
    refine j_add (slF NatE none 0 0 []) (fun w A _=>slF_nil _ _ _ _ _) ?_
    refine j_giv [0] rfl rfl rfl ⟨_,_,rfl,rfl,rfl⟩
  ·obtain rfl : n + 1 = j:=by omega
   have e1 : duAll q n L:=hjo
   rw [duR,duE,if_pos e1,if_pos e1,show ((List.range (n + 1)).map fun j=>limbs (duV q n L j)).length = n + 1 by simp]
   refine j_nf [_,_,_,_,_,_] rfl (j_run it 2 rfl (by simp) ?_)
   refine j_step rfl (x_len sl70 rfl ?_)
   refine j_run it 1 rfl (by simp) ?_
   refine j_nf [_,_,_,_,_] rfl (j_if rfl rfl (fun h5=>by exfalso;omega) (fun h5=>?_))
   refine j_nf [_,_] rfl (j_run it 3 rfl (by simp) ?_)
   refine j_nf [_] rfl ?_
   refine j_pubR 0 0 rfl rfl (by show (n + 1) * 24 ≤ 140737488355328;omega) ?_
   refine j_giv [0] rfl rfl rfl ⟨_,_,rfl,rfl,rfl⟩
theorem S_codewrightref24_Dual {q : Int} {n K : Nat} {pa : Option Addr} {ca : Nat} {L : List (List Nat)} (hK : K ≤ 9000) (hL : ∀ l ∈ L,okN K l) :
  Ctr Try.prog 16 [.int .i64 q,.slice pa n ca] [] [slF NatE pa n ca L] (SvE NatE (DR q n L).length (DR q n L) (DE q n L)):=by
 by_cases h1 : wrongOf q n = 0
 ·obtain ⟨p,m,rfl,rfl,h2,h3,h4⟩:=wrong_zero h1
  by_cases h5 : sumV L = 0
  ·rw [DR,DE,if_neg (not_not_intro h1),if_neg (not_not_intro h1),if_pos h5,if_pos h5]
   refine Ctr_of_j' (F:=F_codewrightref24_Dual) rfl fun C=>?_
   refine j_len 0 rfl fun hn _ _=>?_
   have ho : orderOf (p : Int) = 0:=if_neg (by omega)
   have hsh : shapeOf (m + 1) = 0:=if_neg (by omega)
   have hK2 : K ≤ 10000:=by omega
   have hT0 : (trim (limbs (sumV L))).length = 0:=by rw [h5,limbs_zero];rfl
   refine j_nf [_,_] rfl (j_run it 2 rfl (by simp) ?_)
   refine j_nf [_,_,_] rfl (j_run it 1 rfl (by simp) ?_)
   refine j_step rfl (x_call [] rfl (S_codewrightref24_Order) rfl ?_)
   rintro _ _ _ ⟨rfl,rfl,rfl⟩
   simp only [List.cons_append,List.nil_append]
   refine j_run it 1 rfl (by simp) ?_
   refine j_nf [_,_] rfl (j_ifn rfl rfl (fun h6=>by exfalso;omega) (fun h6=>?_))
   refine j_nf [_,_,_] rfl (j_run it 1 rfl (by simp) ?_)
   refine j_step rfl (x_len sl36 rfl ?_)
   refine j_step rfl (x_call [] rfl (S_codewrightref24_Shape) rfl ?_)
   rintro _ _ _ ⟨rfl,rfl,rfl⟩
   simp only [List.cons_append,List.nil_append]
   refine j_run it 1 rfl (by simp) ?_
   refine j_nf [_,_] rfl (j_ifn rfl rfl (fun h7=>by exfalso;omega) (fun h7=>?_))
   refine j_nf [_,_] rfl (j_run it 1 rfl (by simp) ?_)
   refine j_step rfl (x_call [0] rfl (S_codewrightref24_Total (by omega) (by omega) (by omega)) rfl ?_)
   rintro _ _ _ ⟨pa1,ca1,rfl,rfl,rfl⟩
   simp only [List.cons_append,List.nil_append]
   refine j_run it 1 rfl (by simp) ?_
   refine j_nf [_,_,_] rfl (j_run it 1 rfl (by simp) ?_)
   refine j_step rfl (x_call [0] rfl (S_codewrightref01_Zero) rfl ?_)
   rintro _ _ _ ⟨rfl,rfl,rfl⟩
   simp only [List.cons_append,List.nil_append]
   refine j_nf [_,_] rfl (j_if rfl rfl (fun h8=>?_) (fun h8=>by exfalso;omega))
   refine j_nf [_,_,_] rfl (j_run it 2 rfl (by simp) ?_)
   refine j_nf [_,_] rfl ?_
   refine j_add (slF NatE none 0 0 []) (fun w A _=>slF_nil _ _ _ _ _) ?_
   refine j_giv [0] rfl rfl rfl ⟨_,_,rfl,rfl,rfl⟩
  ·rw [DR,DE,if_neg (not_not_intro h1),if_neg (not_not_intro h1),if_neg h5,if_neg h5,show ((p : Nat) : Int).toNat = p by omega,Nat.add_sub_cancel]
   refine Ctr_len (F:=F_codewrightref24_Dual) 0 rfl fun hn=>?_
   exact U_codewrightref24_Dual h2 h3 h4 hn.symm hK hL (by rw [← sum_toP hn.symm];exact h5)
 ·rw [DR,DE,if_pos h1,if_pos h1]
  refine Ctr_of_j' (F:=F_codewrightref24_Dual) rfl fun C=>?_
  by_cases hq : q < 2 ∨ 256 < q
  ·have ho : orderOf q = 6:=if_pos hq
   rw [wrongOf,if_pos hq]
   refine j_nf [_,_] rfl (j_run it 2 rfl (by simp) ?_)
   refine j_nf [_,_,_] rfl (j_run it 1 rfl (by simp) ?_)
   refine j_step rfl (x_call [] rfl (S_codewrightref24_Order) rfl ?_)
   rintro _ _ _ ⟨rfl,rfl,rfl⟩
   simp only [List.cons_append,List.nil_append]
   refine j_run it 1 rfl (by simp) ?_
   refine j_nf [_,_] rfl (j_ifn rfl rfl (fun h2=>?_) (fun h2=>by exfalso;omega))
   refine j_nf [_,_,_] rfl (j_run it 2 rfl (by simp) ?_)
   refine j_nf [_,_] rfl ?_
   refine j_add (slF NatE none 0 0 []) (fun w A _=>slF_nil _ _ _ _ _) ?_
   refine j_giv [0] rfl rfl rfl ⟨_,_,rfl,rfl,rfl⟩
  ·have ho : orderOf q = 0:=if_neg hq
   have hs : n < 1 ∨ 65 < n:=by
    rw [wrongOf,if_neg hq,shapeOf] at h1
    by_cases h : n < 1 ∨ 65 < n
    ·exact h
    ·rw [if_neg h] at h1;exact absurd rfl h1
   have hsh : shapeOf n = 3:=if_pos hs
   rw [wrongOf,if_neg hq,hsh]
   refine j_nf [_,_] rfl (j_run it 2 rfl (by simp) ?_)
   refine j_nf [_,_,_] rfl (j_run it 1 rfl (by simp) ?_)
   refine j_step rfl (x_call [] rfl (S_codewrightref24_Order) rfl ?_)
   rintro _ _ _ ⟨rfl,rfl,rfl⟩
   simp only [List.cons_append,List.nil_append]
   refine j_run it 1 rfl (by simp) ?_
   refine j_nf [_,_] rfl (j_ifn rfl rfl (fun h2=>by exfalso;omega) (fun h2=>?_))
   refine j_nf [_,_,_] rfl (j_run it 1 rfl (by simp) ?_)
   refine j_step rfl (x_len sl36 rfl ?_)
   refine j_step rfl (x_call [] rfl (S_codewrightref24_Shape) rfl ?_)
   rintro _ _ _ ⟨rfl,rfl,rfl⟩
   simp only [List.cons_append,List.nil_append]
   refine j_run it 1 rfl (by simp) ?_
   refine j_nf [_,_] rfl (j_ifn rfl rfl (fun h3=>?_) (fun h3=>by exfalso;omega))
   refine j_nf [_,_,_] rfl (j_run it 2 rfl (by simp) ?_)
   refine j_nf [_,_] rfl ?_
   refine j_add (slF NatE none 0 0 []) (fun w A _=>slF_nil _ _ _ _ _) ?_
   refine j_giv [0] rfl rfl rfl ⟨_,_,rfl,rfl,rfl⟩
def rangeP (q n d : Int) : Prop:=2 ≤ q ∧ q ≤ 256 ∧ 1 ≤ n ∧ n ≤ 64 ∧ 1 ≤ d ∧ d ≤ n
instance (q n d : Int) : Decidable (rangeP q n d):=by unfold rangeP;infer_instance
theorem S_codewrightref24_Distance {pa pb : Option Addr} {n m ca cb : Nat} {u v : List Int} (hnm : n = m) : Ctr Try.prog 34 [.slice pa n ca,.slice pb m cb] [] [slF I64 pa n ca u,slF I64 pb m cb v] (Rv (.int .i64 ((dist u v : Nat) : Int)) []):=by
 refine Ctr_of_j' (F:=F_codewrightref24_Distance) rfl fun C=>?_
 refine j_len 0 rfl fun hn hb _=>?_
 refine j_len 1 rfl fun hm _ _=>?_
 have hb' : u.length * 8 ≤ 140737488355328:=hb
 subst hn
 refine j_nf [_,_] rfl ?_
 refine j_run it 1 rfl (by simp) ?_
 refine j_nf [_,_] rfl ?_
 refine j_run it 1 rfl (by simp) ?_
 refine j_nf [_,_,_] rfl ?_
 refine j_run it 1 rfl (by simp) ?_
 refine j_nf [_,_,_] rfl ?_
 refine j_loopG (X:=Nat) [0,1,4] [0,1] (fun k=>[(6,.int .i64 k),(5,.int .i64 ((distP u v k : Nat) : Int))]) (fun _=>[]) (fun _=>[]) (fun k=>k ≤ u.length) (fun k=>u.length - k) 0 [] rfl rfl rfl (Nat.zero_le _) (by repeat (first | exact Fr.sub_nil _ | refine Fr.sub_cons rfl ?_)) rfl rfl ?_
 intro k hk ih
 simp only [List.cons_append,List.nil_append] at ih ⊢
 have hd:=distP_le u v k
 by_cases hkl : k < u.length
 ·have hkm : k < v.length:=by omega
  by_cases he : u.getD k default = v.getD k default
  ·have e : distP u v (k + 1) = distP u v k:=by rw [distP,if_pos he];rfl
   refine j_nf [_,_,_,_,_,_] rfl ?_
   refine j_run it 2 rfl (by simp) ?_
   refine j_step rfl (x_len sl29 rfl ?_)
   refine j_run it 1 rfl (by simp) ?_
   refine j_nf [_,_,_,_,_] rfl ?_
   refine j_if rfl rfl (fun h1=>?_) (fun h1=>by exfalso;omega)
   refine j_nf [_,_,_,_,_,_,_] rfl ?_
   (apply j_drawK it mx 9;(· rfl);(· rfl))
   (apply lxk_run 2;(· rfl);(· simp))
   (apply lxk_pt;(· rfl);(· exact d_x fun _=>x_idx 0 (k) rfl rfl rfl sl29 rfl (by omega) fun z1 hz1 b1 o1=>(dk_ptD default hz1 0 rfl));intro b1 o1)
   (apply lxk_eq;(· rfl);(· exact d_x fun _=>x_ld_int 0 rfl rfl ld3 fun ⟨r1,r2⟩=>dk_eq))
   (apply lxk_run 2;(· rfl);(· simp))
   (apply lxk_pt;(· rfl);(· exact d_x fun _=>x_idx 1 (k) rfl rfl rfl sl29 rfl (by omega) fun z1 hz1 b2 o2=>(dk_ptD default hz1 0 rfl));intro b2 o2)
   (apply lxk_eq;(· rfl);(· exact d_x fun _=>x_ld_int 0 rfl rfl ld3 fun ⟨r1,r2⟩=>dk_eq))
   (apply lxk_run 1;(· rfl);(· simp))
   refine lxk_end rfl ?_
   simp only [List.map_cons,List.map_nil,List.cons_append,List.nil_append]
   refine j_nf [_,_,_,_,_,_] rfl ?_
   refine j_ifn rfl rfl (fun h2=>by exfalso;omega) (fun h2=>?_)
   refine j_nf [_,_,_,_] rfl ?_
   refine j_run it 3 rfl ⟨trivial,⟨by omega,by omega⟩,trivial,trivial⟩ ?_
   refine j_nfn 1 [.lp (pL 116),.blk 0,.c [1,1,1]] rfl ?_
   have ih':=ih (k + 1) (by omega) (by omega)
   rw [e] at ih'
   refine j_to [2,3] (by exact fra rfl) rfl rfl (ih')
  ·have e : distP u v (k + 1) = distP u v k + 1:=by rw [distP,if_neg he]
   refine j_nf [_,_,_,_,_,_] rfl ?_
   refine j_run it 2 rfl (by simp) ?_
   refine j_step rfl (x_len sl29 rfl ?_)
   refine j_run it 1 rfl (by simp) ?_
   refine j_nf [_,_,_,_,_] rfl ?_
   refine j_if rfl rfl (fun h1=>?_) (fun h1=>by exfalso;omega)
   refine j_nf [_,_,_,_,_,_,_] rfl ?_
   (apply j_drawK it mx 9;(· rfl);(· rfl))
   (apply lxk_run 2;(· rfl);(· simp))
   (apply lxk_pt;(· rfl);(· exact d_x fun _=>x_idx 0 (k) rfl rfl rfl sl29 rfl (by omega) fun z1 hz1 b1 o1=>(dk_ptD default hz1 0 rfl));intro b1 o1)
   (apply lxk_eq;(· rfl);(· exact d_x fun _=>x_ld_int 0 rfl rfl ld3 fun ⟨r1,r2⟩=>dk_eq))
   (apply lxk_run 2;(· rfl);(· simp))
   (apply lxk_pt;(· rfl);(· exact d_x fun _=>x_idx 1 (k) rfl rfl rfl sl29 rfl (by omega) fun z1 hz1 b2 o2=>(dk_ptD default hz1 0 rfl));intro b2 o2)
   (apply lxk_eq;(· rfl);(· exact d_x fun _=>x_ld_int 0 rfl rfl ld3 fun ⟨r1,r2⟩=>dk_eq))
   (apply lxk_run 1;(· rfl);(· simp))
   refine lxk_end rfl ?_
   simp only [List.map_cons,List.map_nil,List.cons_append,List.nil_append]
   refine j_nf [_,_,_,_,_,_] rfl ?_
   refine j_ifn rfl rfl (fun h2=>?_) (fun h2=>by exfalso;omega)
   refine j_nf [_,_,_,_,_,_] rfl ?_
   refine j_run it 3 rfl ⟨trivial,⟨by omega,by omega⟩,trivial,trivial⟩ ?_
   refine j_nf [_,_,_,_] rfl ?_
   refine j_run it 3 rfl ⟨trivial,⟨by omega,by omega⟩,trivial,trivial⟩ ?_
   refine j_nfn 1 [.lp (pL 116),.blk 0,.c [1,1,1]] rfl ?_
   have ih':=ih (k + 1) (by omega) (by omega)
   rw [e] at ih'
   refine j_to [2,3] (by exact fra rfl) rfl rfl (ih')
 ·obtain rfl : u.length = k:=by omega
  rw [← distP_all u v (by omega)]
  refine j_nf [_,_,_,_,_,_] rfl ?_
  refine j_run it 2 rfl (by simp) ?_
  refine j_step rfl (x_len sl29 rfl ?_)
  refine j_run it 1 rfl (by simp) ?_
  refine j_nf [_,_,_,_,_] rfl ?_
  refine j_if rfl rfl (fun h1=>by exfalso;omega) (fun h1=>?_)
  refine j_nf [_,_] rfl ?_
  refine j_run it 2 rfl (by simp) ?_
  refine j_nf [_] rfl ?_
  refine j_giv [] rfl rfl rfl ⟨rfl,rfl,rfl⟩
def ordP (P M : Int) : Prop:=2 ≤ P ∧ 1 ≤ M ∧ M ≤ 8 ∧ P.toNat ^ M.toNat ≤ 256
instance (P M : Int) : Decidable (ordP P M):=by unfold ordP;infer_instance
def ordI (P M : Int) : Int:=if ordP P M then ((P.toNat ^ M.toNat : Nat) : Int) else 0
theorem S_codewrightref04_Order {P M : Int} {pm : Option Addr} {n c : Nat} {res : Int} (hres : ordI P M = res) : Ctr Try.prog 14 [.agg #[.int .i64 P,.int .i64 M,.slice pm n c]] [] [] (Rv (.int .i64 res) []):=by
 refine Ctr_of_j' (F:=F_codewrightref04_Order) rfl fun C=>?_
 have no : ¬ ordP P M → res = 0:=fun h=>by rw [← hres,ordI,if_neg h]
 by_cases h1 : P < 2
 ·rw [no (by unfold ordP;omega)]
  refine j_nf [_,_] rfl (j_step rfl (x_box_agg rfl fun b1=>?_))
  refine j_run it 1 rfl (by simp) ?_
  refine j_nf [_,_,_] rfl (j_step rfl (x_field rfl fd33_0 ?_))
  refine j_step rfl (x_bld 0 rfl rfl ld3 rfl ?_)
  refine j_run it 2 rfl (by simp) ?_
  refine j_split_dec (t:=8) rfl (fun h2=>?_) (fun h2=>by exfalso;omega)
  refine j_run it 9 rfl (by simp) ?_
  refine j_nf [_,_] rfl ?_
  refine j_true rfl rfl ?_
  refine j_nf [_,_,_] rfl (j_run it 1 rfl (by simp) ?_)
  refine j_nf [_,_] rfl ?_
  refine j_giv [] rfl rfl rfl ⟨rfl,rfl,rfl⟩
 by_cases h2 : M < 1
 ·rw [no (by unfold ordP;omega)]
  refine j_nf [_,_] rfl (j_step rfl (x_box_agg rfl fun b1=>?_))
  refine j_run it 1 rfl (by simp) ?_
  refine j_nf [_,_,_] rfl (j_step rfl (x_field rfl fd33_0 ?_))
  refine j_step rfl (x_bld 0 rfl rfl ld3 rfl ?_)
  refine j_run it 2 rfl (by simp) ?_
  refine j_split_dec (t:=8) rfl (fun h3=>by exfalso;omega) (fun h3=>?_)
  refine j_gstep rfl rfl (x_field rfl fd33_1 ?_)
  refine j_gstep rfl rfl (x_bld 0 rfl rfl ld3 rfl ?_)
  refine j_run it 3 rfl (by simp) ?_
  refine j_split_dec (t:=13) rfl (fun h4=>?_) (fun h4=>by exfalso;omega)
  refine j_run it 4 rfl (by simp) ?_
  refine j_nf [_,_] rfl ?_
  refine j_true rfl rfl ?_
  refine j_nf [_,_,_] rfl (j_run it 1 rfl (by simp) ?_)
  refine j_nf [_,_] rfl ?_
  refine j_giv [] rfl rfl rfl ⟨rfl,rfl,rfl⟩
 by_cases h3 : 8 < M
 ·rw [no (by unfold ordP;omega)]
  refine j_nf [_,_] rfl (j_step rfl (x_box_agg rfl fun b1=>?_))
  refine j_run it 1 rfl (by simp) ?_
  refine j_nf [_,_,_] rfl (j_step rfl (x_field rfl fd33_0 ?_))
  refine j_step rfl (x_bld 0 rfl rfl ld3 rfl ?_)
  refine j_run it 2 rfl (by simp) ?_
  refine j_split_dec (t:=8) rfl (fun h4=>by exfalso;omega) (fun h4=>?_)
  refine j_gstep rfl rfl (x_field rfl fd33_1 ?_)
  refine j_gstep rfl rfl (x_bld 0 rfl rfl ld3 rfl ?_)
  refine j_run it 3 rfl (by simp) ?_
  refine j_split_dec (t:=13) rfl (fun h5=>by exfalso;omega) (fun h5=>?_)
  refine j_gstep rfl rfl (x_field rfl fd33_1 ?_)
  refine j_gstep rfl rfl (x_bld 0 rfl rfl ld3 rfl ?_)
  refine j_run it 2 rfl (by simp) ?_
  refine j_nf [_,_] rfl (j_if rfl rfl (fun h6=>?_) (fun h6=>by exfalso;omega))
  refine j_nf [_,_,_] rfl (j_run it 1 rfl (by simp) ?_)
  refine j_nf [_,_] rfl ?_
  refine j_giv [] rfl rfl rfl ⟨rfl,rfl,rfl⟩
 obtain ⟨p,rfl⟩ : ∃ p : Nat,P = p:=⟨P.toNat,by omega⟩
 obtain ⟨m,rfl⟩ : ∃ m : Nat,M = m:=⟨M.toNat,by omega⟩
 refine j_nf [_,_] rfl (j_step rfl (x_box_agg rfl fun b1=>?_))
 refine j_run it 1 rfl (by simp) ?_
 refine j_nf [_,_,_] rfl (j_step rfl (x_field rfl fd33_0 ?_))
 refine j_step rfl (x_bld 0 rfl rfl ld3 rfl ?_)
 refine j_run it 2 rfl (by simp) ?_
 refine j_split_dec (t:=8) rfl (fun h4=>by exfalso;omega) (fun h4=>?_)
 refine j_gstep rfl rfl (x_field rfl fd33_1 ?_)
 refine j_gstep rfl rfl (x_bld 0 rfl rfl ld3 rfl ?_)
 refine j_run it 3 rfl (by simp) ?_
 refine j_split_dec (t:=13) rfl (fun h5=>by exfalso;omega) (fun h5=>?_)
 refine j_gstep rfl rfl (x_field rfl fd33_1 ?_)
 refine j_gstep rfl rfl (x_bld 0 rfl rfl ld3 rfl ?_)
 refine j_run it 2 rfl (by simp) ?_
 refine j_nf [_,_] rfl (j_if rfl rfl (fun h6=>by exfalso;omega) (fun h6=>?_))
 refine j_nf [_,_] rfl (j_run it 1 rfl (by simp) ?_)
 refine j_nf [_,_,_] rfl (j_run it 1 rfl (by simp) ?_)
 refine j_nf [_,_,_] rfl ?_
 refine j_loopG (X:=Nat) [1] [] (fun i=>[(4,.int .i64 (i : Int)),(3,.int .i64 ((p ^ i : Nat) : Int))]) (fun _=>[(some b1,33,[.int .i64 (p : Int),.int .i64 (m : Int),.slice pm n c])]) (fun _=>[]) (fun i=>i ≤ m ∧ p ^ i ≤ 256) (fun i=>m - i) 0 [] rfl rfl rfl ⟨Nat.zero_le _,by simp⟩ (by repeat (first | exact Fr.sub_nil _ | refine Fr.sub_cons rfl ?_)) rfl rfl ?_
 rintro i ⟨hi,hq⟩ ih
 simp only [List.cons_append,List.nil_append] at hi hq ih ⊢
 by_cases hil : i < m
 ·have hp0 : 0 < p:=by omega
  have hdiv : (256 : Int) / (p : Int) = ((256 / p : Nat) : Int):=(Int.natCast_ediv 256 p).symm
  by_cases hb : p ^ (i + 1) ≤ 256
  ·have hle : p ^ i ≤ 256 / p:=by rw [Nat.le_div_iff_mul_le hp0];rwa [Nat.pow_succ] at hb
   have e : ((p ^ i : Nat) : Int) * (p : Int) = ((p ^ (i + 1) : Nat) : Int):=by rw [Nat.pow_succ,Int.natCast_mul]
   refine j_nf [_,_,_,_,_,_] rfl (j_run it 1 rfl (by simp) ?_)
   refine j_step rfl (x_field rfl fd33_1 ?_)
   refine j_step rfl (x_bld 0 rfl rfl ld3 rfl ?_)
   refine j_run it 1 rfl (by simp) ?_
   refine j_nf [_,_,_,_,_] rfl (j_if rfl rfl (fun h7=>?_) (fun h7=>by exfalso;omega))
   refine j_nf [_,_,_,_,_,_,_,_] rfl (j_run it 1 rfl (by simp) ?_)
   refine j_step rfl (x_field rfl fd33_0 ?_)
   refine j_step rfl (x_bld 0 rfl rfl ld3 rfl ?_)
   refine j_run it 2 rfl ⟨trivial,⟨by omega,by omega,by omega,by omega⟩,trivial⟩ ?_
   refine j_nf [_,_,_,_,_,_,_] rfl (j_if rfl rfl (fun h8=>by exfalso;omega) (fun h8=>?_))
   refine j_nf [_,_,_,_,_,_] rfl (j_run it 1 rfl (by simp) ?_)
   refine j_step rfl (x_field rfl fd33_0 ?_)
   refine j_step rfl (x_bld 0 rfl rfl ld3 rfl ?_)
   refine j_run it 2 rfl ⟨trivial,⟨by omega,by omega⟩,trivial⟩ ?_
   refine j_nf [_,_,_,_] rfl (j_run it 3 rfl ⟨trivial,⟨by omega,by omega⟩,trivial,trivial⟩ ?_)
   refine j_nfn 1 [.lp (pL 244),.blk 0,.c [1,1,1,1]] rfl ?_
   rw [e]
   refine j_to [] (by exact fra rfl) rfl rfl (ih (i + 1) (by omega) ⟨by omega,hb⟩)
  ·have hgt : 256 / p < p ^ i:=by
    refine Nat.lt_of_not_le fun h=>hb ?_
    rw [Nat.le_div_iff_mul_le hp0] at h
    rw [Nat.pow_succ];exact h
   rw [no fun h=>hb (Nat.le_trans (Nat.pow_le_pow_right hp0 hil) (by have:=h.2.2.2;simpa using this))]
   refine j_nf [_,_,_,_,_,_] rfl (j_run it 1 rfl (by simp) ?_)
   refine j_step rfl (x_field rfl fd33_1 ?_)
   refine j_step rfl (x_bld 0 rfl rfl ld3 rfl ?_)
   refine j_run it 1 rfl (by simp) ?_
   refine j_nf [_,_,_,_,_] rfl (j_if rfl rfl (fun h7=>?_) (fun h7=>by exfalso;omega))
   refine j_nf [_,_,_,_,_,_,_,_] rfl (j_run it 1 rfl (by simp) ?_)
   refine j_step rfl (x_field rfl fd33_0 ?_)
   refine j_step rfl (x_bld 0 rfl rfl ld3 rfl ?_)
   refine j_run it 2 rfl ⟨trivial,⟨by omega,by omega,by omega,by omega⟩,trivial⟩ ?_
   refine j_nf [_,_,_,_,_,_,_] rfl (j_if rfl rfl (fun h8=>?_) (fun h8=>by exfalso;omega))
   refine j_nf [_,_,_,_,_,_,_,_] rfl (j_run it 1 rfl (by simp) ?_)
   refine j_nf [_,_,_,_,_,_,_] rfl ?_
   refine j_giv [] rfl rfl rfl ⟨rfl,rfl,rfl⟩
 ·obtain rfl : m = i:=by omega
  have : res = ((p ^ m : Nat) : Int):=by
   rw [← hres,ordI,if_pos ⟨by omega,by omega,by omega,by simpa using hq⟩];simp
  rw [this]
  refine j_nf [_,_,_,_,_,_] rfl (j_run it 1 rfl (by simp) ?_)
  refine j_step rfl (x_field rfl fd33_1 ?_)
  refine j_step rfl (x_bld 0 rfl rfl ld3 rfl ?_)
  refine j_run it 1 rfl (by simp) ?_
  refine j_nf [_,_,_,_,_] rfl (j_if rfl rfl (fun h7=>by exfalso;omega) (fun h7=>?_))
  refine j_nf [_,_] rfl (j_run it 2 rfl (by simp) ?_)
  refine j_nf [_] rfl ?_
  refine j_giv [] rfl rfl rfl ⟨rfl,rfl,rfl⟩
theorem S_codewrightref04_prime {n : Nat} (hn : 2 ≤ n) (hn2 : n ≤ 1000000) {res : Bool} (hres : res = true ↔ Prm n) : Ctr Try.prog 53 [.int .i64 n] [] [] (Rv (.bool res) []):=by
 refine Ctr_of_j' (F:=F_codewrightref04_prime) rfl fun C=>?_
 refine j_nf [_,_] rfl (j_run it 1 rfl (by simp) ?_)
 refine j_nf [_,_,_] rfl (j_run it 1 rfl (by simp) ?_)
 refine j_nf [_,_,_] rfl ?_
 refine j_loopG (X:=Nat) [0] [] (fun d=>[(3,.int .i64 (d : Int))]) (fun _=>[]) (fun _=>[]) (fun d=>2 ≤ d ∧ d ≤ n ∧ ∀ e,2 ≤ e → e < d → ¬ e ∣ n) (fun d=>n - d) 2 [] rfl rfl rfl ⟨Nat.le_refl 2,hn,fun e h1 h2=>by omega⟩ (by repeat (first | exact Fr.sub_nil _ | refine Fr.sub_cons rfl ?_)) rfl rfl ?_
 rintro d ⟨hd,hdn,hall⟩ ih
 simp only [List.cons_append,List.nil_append] at hd hdn hall ih ⊢
 by_cases hdl : d < n
 ·by_cases hm : n % d = 0
  ·have hm' : (n : Int) % (d : Int) = 0:=by omega
   have : res = false:=by
    cases res with
    | false=>rfl
    | true=>exact absurd (Nat.dvd_of_mod_eq_zero hm) ((hres.1 rfl).2 d hd hdl)
   rw [this]
   refine j_nf [_,_,_,_,_,_] rfl (j_run it 3 rfl (by simp) ?_)
   refine j_nf [_,_,_,_,_] rfl (j_if rfl rfl (fun h1=>?_) (fun h1=>by exfalso;omega))
   refine j_nf [_,_,_,_,_,_,_] rfl (j_run it 4 rfl ⟨trivial,⟨by omega,by omega⟩,trivial,trivial,trivial⟩ ?_)
   refine j_nf [_,_,_,_,_,_] rfl (j_if rfl rfl (fun h2=>?_) (fun h2=>by exfalso;omega))
   refine j_nf [_,_,_,_,_,_,_] rfl (j_run it 1 rfl (by simp) ?_)
   refine j_nf [_,_,_,_,_,_] rfl ?_
   refine j_giv [] rfl rfl rfl ⟨rfl,rfl,rfl⟩
  ·have hm' : ¬ (n : Int) % (d : Int) = 0:=by omega
   refine j_nf [_,_,_,_,_,_] rfl (j_run it 3 rfl (by simp) ?_)
   refine j_nf [_,_,_,_,_] rfl (j_if rfl rfl (fun h1=>?_) (fun h1=>by exfalso;omega))
   refine j_nf [_,_,_,_,_,_,_] rfl (j_run it 4 rfl ⟨trivial,⟨by omega,by omega⟩,trivial,trivial,trivial⟩ ?_)
   refine j_nf [_,_,_,_,_,_] rfl (j_if rfl rfl (fun h2=>by exfalso;omega) (fun h2=>?_))
   refine j_nf [_,_,_,_] rfl (j_run it 3 rfl ⟨trivial,⟨by omega,by omega⟩,trivial,trivial⟩ ?_)
   refine j_nfn 1 [.lp [1,0,1,0,0],.blk 0,.c [1,1]] rfl ?_
   refine j_to [] (by exact fra rfl) rfl rfl (ih (d + 1) (by omega) ⟨by omega,by omega,fun e h1 h2=>by
    rcases Nat.lt_succ_iff_lt_or_eq.1 h2 with h3 | rfl
    ·exact hall e h1 h3
    ·exact fun hdv=>hm (Nat.mod_eq_zero_of_dvd hdv)⟩)
 ·obtain rfl : n = d:=by omega
  have : res = true:=hres.2 ⟨hn,hall⟩
  rw [this]
  refine j_nf [_,_,_,_,_,_] rfl (j_run it 3 rfl (by simp) ?_)
  refine j_nf [_,_,_,_,_] rfl (j_if rfl rfl (fun h1=>by exfalso;omega) (fun h1=>?_))
  refine j_nf [_,_] rfl (j_run it 1 rfl (by simp) ?_)
  refine j_nf [_] rfl ?_
  refine j_giv [] rfl rfl rfl ⟨rfl,rfl,rfl⟩
theorem fill_set {T : List Nat} {i n : Nat} (hT : T.length = n) (hi : i < n) {z : Nat} (hz : T[i]? = some z) : (T.take i++List.replicate (n - i) 0).set i z = T.take (i + 1)++List.replicate (n - (i + 1)) 0:=by
 have hl : (T.take i).length = i:=by rw [List.length_take];omega
 rw [List.set_append,if_neg (by omega),hl,Nat.sub_self,show n - i = (n - (i + 1)) + 1 by omega,List.replicate_succ,List.set_cons_zero,List.take_add_one,hz]
 simp
theorem dig_at {p : Nat} : ∀ {n i x : Nat},i < n → (dig p n x)[i]? = some (x / p ^ i % p)
 | n + 1,0,x,_=>by rw [dig,List.getElem?_cons_zero,Nat.pow_zero,Nat.div_one]
 | n + 1,i + 1,x,h=>by
  rw [dig,List.getElem?_cons_succ,dig_at (by omega),Nat.div_div_eq_div_mul,Nat.pow_succ,Nat.mul_comm p]
theorem toI_at {l : List Nat} {i x : Nat} (h : l[i]? = some x) : (toI l)[i]? = some (x : Int):=by rw [toI,List.getElem?_map,h];rfl
theorem natCells_toI (k : IntKind) (l : List Nat) : natCells k l = intCells k (toI l):=by simp [natCells,intCells,toI]
theorem toI_rng {l : List Nat} (h : ∀ x ∈ l,x ≤ 9223372036854775807) : ∀ x ∈ toI l,InR .i64 x:=fun x hx=>by
 obtain ⟨n,hn,rfl⟩:=List.mem_map.1 hx
 have:=h n hn
 simp only [InR];omega
abbrev SvI (n : Nat) (l : List Int) : Value → List Fact → List Blk → Prop:=fun v Φ β=>∃ pa ca,v = .slice pa n ca ∧ Φ = [slF I64 pa n ca l] ∧ β = []
theorem S_codewrightref04_digits {p n x : Nat} (hp : 1 ≤ p) (hp2 : p ≤ 1000000) (hn : n ≤ 100) (hx : x ≤ 1000000000) : Ctr Try.prog 76 [.int .i64 x,.int .i64 p,.int .i64 n] [] [] (SvI n (toI (dig p n x))):=by
 refine Ctr_of_j' (F:=F_codewrightref04_digits) rfl fun C=>?_
 have hl:=dig_len p n x
 refine j_nf [_,_] rfl (j_run it 1 rfl (by simp) ?_)
 refine j_nf [_,_] rfl (j_run it 1 rfl (by simp) ?_)
 refine j_step rfl (x_make_nat (n) _ rfl rfl sl29 zo29e by29e (by omega) (by omega) (by omega) fun b1=>?_)
 refine j_run it 1 rfl (by simp) ?_
 refine j_nf [_,_,_] rfl (j_run it 1 rfl (by simp) ?_)
 refine j_nf [_,_,_] rfl ?_
 rw [show List.replicate n 0 = (dig p n x).take 0++List.replicate (n - 0) 0 by simp]
 refine j_loopG (X:=Nat) [1,2,6,7] [] (fun i=>[(8,.int .i64 (i : Int)),(0,.int .i64 ((x / p ^ i : Nat) : Int))]) (fun i=>[(some b1,3,natCells .i64 ((dig p n x).take i++List.replicate (n - i) 0))]) (fun _=>[]) (fun i=>i ≤ n) (fun i=>n - i) 0 [] rfl rfl rfl (Nat.zero_le _) (by refine Fr.sub_cons rfl ?_;refine Fr.sub_consI rfl (by simp) ?_;repeat (first | exact Fr.sub_nil _ | refine Fr.sub_cons rfl ?_)) rfl rfl ?_
 rintro i hi ih
 simp only [List.cons_append,List.nil_append] at hi ih ⊢
 have hxi : x / p ^ i ≤ x:=Nat.div_le_self _ _
 have hz:=fun h=>dig_at (p:=p) (n:=n) (i:=i) (x:=x) h
 have hnx : x / p ^ (i + 1) = x / p ^ i / p:=by rw [Nat.pow_succ,← Nat.div_div_eq_div_mul]
 by_cases hil : i < n
 ·have ih':=ih (i + 1) (by omega) (by omega)
  rw [hnx,← fill_set hl hil (hz hil)] at ih'
  generalize x / p ^ i = y at *
  have e1 : (y : Int) % (p : Int) = ((y % p : Nat) : Int):=(Int.natCast_emod _ _).symm
  have e2 : (y : Int) / (p : Int) = ((y / p : Nat) : Int):=(Int.natCast_ediv _ _).symm
  have hlen : ((dig p n x).take i++List.replicate (n - i) 0).length = n:=by simp [hl];omega
  refine j_nf [_,_,_,_,_,_] rfl (j_run it 3 rfl (by simp) ?_)
  refine j_nf [_,_,_,_,_] rfl (j_if rfl rfl (fun h1=>?_) (fun h1=>by exfalso;omega))
  refine j_nf [_,_,_,_,_,_,_] rfl (j_run it 5 rfl ⟨⟨by omega,by omega⟩,trivial,trivial,trivial,trivial,trivial⟩ ?_)
  refine j_step rfl (x_idx_own (i) (i) rfl rfl sl29 rfl (by omega) (Nat.mul_one _) ?_)
  refine j_step rfl (x_bst_nat 0 ((y) % (p)) rfl rfl rfl ld3 (by first | rfl | omega) (by first | omega | (simp;omega)) ?_)
  refine j_nf [_,_,_,_,_,_] rfl (j_run it 4 rfl ⟨trivial,⟨by omega,by omega,by omega,by omega⟩,trivial,trivial,trivial⟩ ?_)
  refine j_nf [_,_,_,_] rfl (j_run it 3 rfl ⟨trivial,⟨by omega,by omega⟩,trivial,trivial⟩ ?_)
  refine j_nfn 1 [.lp (pL 116),.blk 0,.c [1,1,1]] rfl ?_
  rw [e2]
  refine j_to [] (by exact fra rfl) rfl rfl (ih')
 ·obtain rfl : i = n:=by omega
  clear hz hnx
  rw [List.take_of_length_le (by omega),Nat.sub_self,List.replicate_zero,List.append_nil,natCells_toI]
  refine j_nf [_,_,_,_,_,_] rfl (j_run it 3 rfl (by simp) ?_)
  refine j_nf [_,_,_,_,_] rfl (j_if rfl rfl (fun h1=>by exfalso;omega) (fun h1=>?_))
  refine j_nf [_,_] rfl (j_run it 2 rfl (by simp) ?_)
  refine j_nf [_] rfl ?_
  refine j_pub_madei 8 (toI (dig p i x)) 0 rfl (by rw [toI_len,hl]) (toI_rng fun d hd=>by have:=dig_lt (by omega) d hd;omega) (by omega) (by omega) ?_
  refine j_giv [0] rfl rfl rfl ⟨_,_,rfl,rfl,rfl⟩
theorem valP_drop {p : Nat} {l : List Nat} {j : Nat} (hj : j < l.length) : valP p (l.drop j) = l.getD j 0 + p * valP p (l.drop (j + 1)):=by
 rw [List.drop_eq_getElem_cons hj,valP,List.getD_eq_getElem?_getD,List.getElem?_eq_getElem hj];rfl
theorem S_codewrightref04_Value {P M : Int} {pm pd : Option Addr} {nm cm nd cd p : Nat} {l : List Nat} (hP : P = p) (hp : 1 ≤ p) (hp2 : p ≤ 256) (hd : ∀ x ∈ l,x < p) (hl : p ^ l.length ≤ 1000000) :
  Ctr Try.prog 78 [.agg #[.int .i64 P,.int .i64 M,.slice pm nm cm],.slice pd nd cd] [] [slF I64 pd nd cd (toI l)] (Rv (.int .i64 ((valP p l : Nat) : Int)) []):=by
 subst hP
 refine Ctr_of_j' (F:=F_codewrightref04_Value) rfl fun C=>?_
 refine j_len 0 rfl fun hn hb _=>?_
 rw [toI_len] at hn hb
 subst hn
 have hb : l.length * 8 ≤ 140737488355328:=hb
 refine j_nf [_,_] rfl ?_
 refine j_step rfl (x_box_agg rfl fun b1=>?_)
 refine j_run it 1 rfl (by simp) ?_
 refine j_nf [_,_] rfl ?_
 refine j_run it 1 rfl (by simp) ?_
 refine j_nf [_,_,_] rfl ?_
 refine j_run it 1 rfl (by simp) ?_
 refine j_step rfl (x_len sl29 rfl ?_)
 refine j_run it 2 rfl ⟨trivial,⟨by omega,by omega⟩,trivial⟩ ?_
 refine j_nf [_,_,_] rfl ?_
 refine j_loopG (X:=Nat) [1,2,4] [0] (fun j=>[(6,.int .i64 ((j : Int) - 1)),(5,.int .i64 ((valP p (l.drop j) : Nat) : Int))]) (fun _=>[(some b1,33,[.int .i64 (p : Int),.int .i64 M,.slice pm nm cm])]) (fun _=>[]) (fun j=>j ≤ l.length) (fun j=>j) l.length [] rfl rfl rfl (Nat.le_refl _) (by refine Fr.sub_cons rfl ?_;refine Fr.sub_consI rfl (by simp [valP]) ?_;repeat (first | exact Fr.sub_nil _ | refine Fr.sub_cons rfl ?_)) rfl rfl ?_
 rintro j hj ih
 simp only [List.cons_append,List.nil_append] at hj ih ⊢
 have hlt : valP p (l.drop j) < p ^ l.length:=Nat.lt_of_lt_of_le (valP_lt (by omega) fun x hx=>hd x (List.mem_of_mem_drop hx)) (Nat.pow_le_pow_right (by omega) (by rw [List.length_drop];omega))
 cases j with
 | zero =>
  rw [List.drop_zero]
  refine j_nf [_,_,_,_,_,_] rfl ?_
  refine j_run it 2 rfl (by simp) ?_
  refine j_nf [_,_,_,_,_] rfl ?_
  refine j_if rfl rfl (fun h1=>by exfalso;omega) (fun h1=>?_)
  refine j_nf [_,_] rfl ?_
  refine j_run it 2 rfl (by simp) ?_
  refine j_nf [_] rfl ?_
  refine j_giv [] rfl rfl rfl ⟨rfl,rfl,rfl⟩
 | succ j =>
  have hz : (toI l)[j]? = some ((l.getD j 0 : Nat) : Int):=toI_at (by rw [List.getD_eq_getElem?_getD,List.getElem?_eq_getElem (by omega)];rfl)
  have hz2 : l.getD j 0 < p:=hd _ (List.mem_of_getElem? (i:=j) (by rw [List.getD_eq_getElem?_getD,List.getElem?_eq_getElem (by omega)];rfl))
  have ih':=ih j (by omega) (by omega)
  have hlt2 : valP p (l.drop j) < p ^ l.length:=Nat.lt_of_lt_of_le (valP_lt (by omega) fun x hx=>hd x (List.mem_of_mem_drop hx)) (Nat.pow_le_pow_right (by omega) (by rw [List.length_drop];omega))
  rw [valP_drop (show j < l.length by omega)] at ih' hlt2
  generalize valP p (l.drop (j + 1)) = v at *
  generalize hw : l.getD j 0 = w at *
  have hgd : (toI l).getD (j + 1 - 1) default = (w : Int):=by rw [Nat.add_sub_cancel,List.getD_eq_getElem?_getD,hz];rfl
  have hvp : (v : Int) * (p : Int) ≤ 1000000:=by rw [← Int.natCast_mul,Nat.mul_comm];omega
  have hv0 : 0 ≤ (v : Int) * (p : Int):=by rw [← Int.natCast_mul];omega
  have e : (v : Int) * (p : Int) + (w : Int) = ((w + p * v : Nat) : Int):=by rw [Int.natCast_add,Int.natCast_mul,Int.mul_comm];omega
  refine j_nf [_,_,_,_,_,_] rfl ?_
  refine j_run it 2 rfl (by simp) ?_
  refine j_nf [_,_,_,_,_] rfl ?_
  refine j_if rfl rfl (fun h1=>?_) (fun h1=>by exfalso;omega)
  refine j_nf [_,_,_,_,_,_] rfl ?_
  (apply j_drawK it mx 9;(· rfl);(· rfl))
  (apply lxk_run 1;(· rfl);(· simp))
  (apply lxk_eq;(· rfl);(· exact d_x fun _=>x_field rfl fd33_0 dk_eq))
  (apply lxk_eq;(· rfl);(· exact d_bld 0 rfl rfl ld3 rfl))
  (apply lxk_run 3;(· rfl);(· exact ⟨trivial,trivial,⟨by omega,by omega⟩,trivial⟩))
  (apply lxk_pt;(· rfl);(· exact d_x fun _=>x_idx 0 ((j + 1) - 1) rfl rfl rfl sl29 (by omega) (by omega) fun z1 hz1 b2 o1=>(dk_ptD default hz1 0 rfl));intro b2 o1)
  (apply lxk_eq;(· rfl);(· exact d_x fun _=>x_ld_int 0 rfl rfl ld3 fun ⟨r1,r2⟩=>dk_eq))
  (apply lxk_run 1;(· rfl);(· exact ⟨⟨by omega,by omega⟩,trivial⟩))
  refine lxk_end rfl ?_
  simp only [List.map_cons,List.map_nil,List.cons_append,List.nil_append]
  refine j_run it 1 rfl (by simp) ?_
  refine j_nf [_,_,_,_] rfl ?_
  refine j_run it 3 rfl ⟨trivial,⟨by omega,by omega⟩,trivial,trivial⟩ ?_
  refine j_nfn 1 [.lp (pL 116),.blk 0,.c [1,1,1]] rfl ?_
  rw [hgd,e]
  refine j_to [1] (by exact fii rfl (by omega) (fcc rfl (fcc rfl (fcc rfl (fcc rfl (fzz _)))))) rfl rfl (ih')
def divR (p : Nat) (g r : List Int) : Nat → List Int
 | 0=>r
 | n + 1=>(stepR p (p - (divR p g r n).getD (r.length - 1 - n) 0) g (r.length - 1 - n - g.length) g.length (divR p g r n)).set (r.length - 1 - n) 0
theorem divR_len (p : Nat) (g r : List Int) : ∀ n,(divR p g r n).length = r.length
 | 0=>rfl
 | n + 1=>by rw [divR,List.length_set,stepR_len,divR_len p g r n]
theorem divR_rng {p : Nat} (hp : 0 < p) (g : List Int) {r : List Int} (hr : ∀ x ∈ r,0 ≤ x ∧ x < p) : ∀ n,∀ x ∈ divR p g r n,0 ≤ x ∧ x < p
 | 0=>hr
 | n + 1=>fun x hx=>by
  rw [divR] at hx
  rcases List.mem_or_eq_of_mem_set hx with h | rfl
  ·exact stepR_rng hp _ _ _ (divR_rng hp g hr n) _ x h
  ·omega
theorem divR_out {p : Nat} {g r : List Int} : ∀ n,n + g.length ≤ r.length → ∀ k,r.length - n ≤ k → k < r.length → (divR p g r n).getD k 0 = 0
 | 0,_,k,h1,h2=>by omega
 | n + 1,hn,k,h1,h2=>by
  rw [divR,List.getD_eq_getElem?_getD,List.getElem?_set]
  by_cases e : r.length - 1 - n = k
  ·rw [if_pos e,if_pos (by rw [stepR_len,divR_len];omega)];rfl
  ·rw [if_neg e,← List.getD_eq_getElem?_getD,stepR_out _ _ _ _ _ _ (by omega)]
   exact divR_out n (by omega) k (by omega) h2
theorem divR_ev {p : Nat} {g r : List Int} (hg : 1 ≤ g.length) : ∀ n,n + g.length ≤ r.length → cg p fun j=>evL (Xg g) ((divR p g r n).take (r.length - n)) oneV j - evL (Xg g) r oneV j
 | 0,_=>fun j=>by
  rw [divR,Nat.sub_zero,List.take_length]
  exact ⟨0,by show evL (Xg g) r oneV j - evL (Xg g) r oneV j = _;omega⟩
 | n + 1,hn=>fun j=>by
  have ih : (p : Int) ∣ evL (Xg g) ((divR p g r n).take (r.length - n)) oneV j - evL (Xg g) r oneV j:=divR_ev hg n (by omega) j
  have h1 : (p : Int) ∣ evL (Xg g) ((stepR p (p - (divR p g r n).getD (r.length - 1 - n) 0) g (r.length - 1 - n - g.length) g.length (divR p g r n)).take (r.length - 1 - n)) oneV j - evL (Xg g) ((divR p g r n).take (r.length - 1 - n + 1)) oneV j:=red_step (p:=p) hg (r:=divR p g r n) (i:=r.length - 1 - n) (by omega) (by rw [divR_len];omega) j
  rw [show r.length - 1 - n + 1 = r.length - n by omega] at h1
  refine dvd_eq (Int.dvd_add h1 ih) ?_
  show _ = evL (Xg g) ((divR p g r (n + 1)).take (r.length - (n + 1))) oneV j - _
  rw [show r.length - (n + 1) = r.length - 1 - n by omega,divR,List.take_set,List.set_eq_of_length_le (by rw [List.length_take];omega)]
  omega
theorem divR_zero {p : Nat} (hp : 0 < p) {g r : List Int} (hg : 1 ≤ g.length) (hr : ∀ x ∈ r,0 ≤ x ∧ x < p) (hl : g.length ≤ r.length) :
  (∀ k,k < r.length → (divR p g r (r.length - g.length)).getD k 0 = 0) ↔ cg p (evL (Xg g) r oneV):=by
 have h1:=divR_ev (p:=p) hg (r:=r) (r.length - g.length) (by omega)
 rw [show r.length - (r.length - g.length) = g.length by omega] at h1
 have h2:=divR_out (p:=p) (g:=g) (r:=r) (r.length - g.length) (by omega)
 have h3:=divR_rng hp g hr (r.length - g.length)
 have h4:=divR_len p g r (r.length - g.length)
 generalize divR p g r (r.length - g.length) = s at *
 rw [ev_one (by rw [List.length_take];omega)] at h1
 constructor
 ·intro h j
  have h5 : (p : Int) ∣ vec (s.take g.length) j - evL (Xg g) r oneV j:=h1 j
  have h6 : vec (s.take g.length) j = 0:=by
   by_cases hj : j < g.length
   ·have:=h j (by omega)
    rw [vec,List.getD_eq_getElem?_getD,List.getElem?_take,if_pos hj,← List.getD_eq_getElem?_getD];exact this
   ·exact vec_out (by rw [List.length_take];omega)
  rw [h6] at h5
  exact Int.dvd_neg.1 (dvd_eq h5 (by omega))
 ·intro h k hk
  by_cases hkd : k < g.length
  ·have h5 : (p : Int) ∣ vec (s.take g.length) k - evL (Xg g) r oneV k:=h1 k
   have h6:=Int.dvd_add h5 (h k)
   have h7 : vec (s.take g.length) k = s.getD k 0:=by
    rw [vec,List.getD_eq_getElem?_getD,List.getElem?_take,if_pos hkd,← List.getD_eq_getElem?_getD]
   rw [h7] at h6
   have h8 : (p : Int) ∣ s.getD k 0:=dvd_eq h6 (by omega)
   obtain ⟨b0,b1⟩:=h3 (s.getD k 0) (List.mem_of_getElem? (i:=k) (by rw [List.getD_eq_getElem?_getD,List.getElem?_eq_getElem (by omega)];rfl))
   obtain ⟨z,hz⟩:=h8
   have hp' : (0 : Int) < p:=by omega
   rcases Int.lt_trichotomy z 0 with h9 | h9 | h9
   ·have:=Int.mul_le_mul_of_nonneg_left (show z ≤ -1 by omega) (Int.le_of_lt hp')
    omega
   ·rw [hz,h9,Int.mul_zero]
   ·have:=Int.mul_le_mul_of_nonneg_left (show 1 ≤ z by omega) (Int.le_of_lt hp')
    omega
  ·exact h2 k (by omega) hk
theorem S_codewrightref04_divides {pg pm : Option Addr} {ng nm cg' cm p : Nat} {g md : List Int} (hp : 1 ≤ p) (hp2 : p ≤ 256) (hg : 1 ≤ g.length) (hl : g.length ≤ md.length) (hm : md.length ≤ 100) (rg : ∀ x ∈ g,0 ≤ x ∧ x < p) (rm : ∀ x ∈ md,0 ≤ x ∧ x < p) (h1p : 1 < p)
  {res : Bool} (hres : res = true ↔ cg p (evL (Xg g) (md++[1]) oneV)) :
  Ctr Try.prog 75 [.slice pg ng cg',.slice pm nm cm,.int .i64 p] [] [slF I64 pg ng cg' g,slF I64 pm nm cm md] (Rv (.bool res) []):=by
 refine Ctr_of_j' (F:=F_codewrightref04_divides) rfl fun C=>?_
 refine j_len 0 rfl fun hn1 _ _=>?_
 refine j_len 1 rfl fun hn2 _ _=>?_
 subst hn1;subst hn2
 refine j_nf [_,_] rfl ?_
 refine j_run it 1 rfl (by simp) ?_
 refine j_nf [_,_] rfl ?_
 refine j_run it 1 rfl (by simp) ?_
 refine j_step rfl (x_len sl29 rfl ?_)
 refine j_run it 1 rfl (by simp) ?_
 refine j_nf [_,_] rfl ?_
 refine j_step rfl (x_lit0 sl29 fun b1=>?_)
 refine j_run it 1 rfl (by simp) ?_
 (apply j_rowlit (E:=encInt IntKind.i64 8) (n:=0) (cs:=[]) [] [] 0 (fun w A hG=>allrd_nil);(· rfl);(· rfl);(· rfl);(· rfl);(· decide))
 refine j_step rfl (x_appS 0 0 2 rfl rfl rfl rfl rfl sl29 zo29e rfl (by omega) _ by29e (by omega) fun r1=>?_)
 refine j_run it 1 rfl (by simp) ?_
 refine j_nf [_,_] rfl ?_
 refine j_run it 1 rfl (by simp) ?_
 refine j_step rfl (x_lit sl29 zo29e rfl rfl rfl rfl (by decide) (by decide) rfl fun b2=>?_)
 refine j_step rfl (x_appR (z:=(1 : Int)) 1 0 0 rfl rfl rfl rfl rfl sl29 zo29e rfl (fun w A hG=>(rd_int (by first | (simp only [InR];omega) | (simp [InR];done)))) (by omega) _ by29e (by omega) fun r2=>?_)
 refine j_run it 1 rfl (by simp) ?_
 refine j_nf [_,_,_] rfl ?_
 refine j_run it 1 rfl (by simp) ?_
 refine j_step rfl (x_len sl29 rfl ?_)
 refine j_run it 2 rfl ⟨trivial,⟨by omega,by omega⟩,trivial⟩ ?_
 refine j_nf [_,_,_] rfl ?_
 simp only [Nat.zero_add,List.nil_append]
 have r0 : ∀ x ∈ md++[1],0 ≤ x ∧ x < (p : Int):=fun x hx=>by
  rcases List.mem_append.1 hx with h | h
  ·exact rm x h
  ·rw [List.mem_singleton.1 h];omega
 have l0 : (md++[1]).length = md.length + 1:=by simp
 have hz:=divR_zero (p:=p) (by omega) hg r0 (by omega)
 have hR:=divR_rng (p:=p) (by omega) g r0
 have hL:=divR_len p g (md++[1])
 have hO:=divR_out (p:=p) (g:=g) (r:=md++[1])
 rw [l0] at hz hL hO
 refine j_rowB 0 rfl (by omega) fun bR capR csR hRow=>?_
 subst hRow
 refine j_loopG (X:=Nat × List Value) [0,2,6,7,8] [2,3] (fun x=>[(9,.int .i64 ((md.length : Int) - (x.1 : Int)))]) (fun x=>[(some bR,3,x.2),(some b2,3,[.int .i64 1])])
  (fun x=>[rowF I64 ⟨some bR,capR,x.2⟩ (md.length + 1) (divR p g (md++[1]) x.1)]) (fun x=>x.1 ≤ md.length + 1 - g.length) (fun x=>md.length + 1 - g.length - x.1) (0,csR) [0] rfl rfl rfl (Nat.zero_le _) (by refine Fr.sub_consI rfl (by simp) ?_;repeat (first | exact Fr.sub_nil _ | refine Fr.sub_cons rfl ?_)) rfl rfl ?_
 rintro ⟨n,csA⟩ hn ih
 simp only [List.cons_append,List.nil_append] at hn ih ⊢
 by_cases hil : n < md.length + 1 - g.length
 ·have hlt : md.length - n < md.length + 1:=by omega
  have hLn:=hL n
  have hRn:=hR n
  have ihn:=fun r : List Value=>ih (n + 1,r) (by dsimp only;omega) (by dsimp only;omega)
  simp only [divR,l0] at ihn
  rw [show md.length + 1 - 1 - n = md.length - n by omega] at ihn
  generalize divR p g (md++[1]) n = L at *
  have hzc : L[md.length - n]? = some (L.getD (md.length - n) 0):=by rw [List.getD_eq_getElem?_getD,List.getElem?_eq_getElem (by omega)];rfl
  obtain ⟨c0,c1⟩:=hRn _ (List.mem_of_getElem? hzc)
  generalize L.getD (md.length - n) 0 = c at *
  obtain ⟨cN,rfl⟩ : ∃ cN : Nat,c = cN:=⟨c.toNat,by omega⟩
  have hpc : (p : Int) - (cN : Int) = ((p - cN : Nat) : Int):=by omega
  rw [hpc] at ihn
  refine j_nf [_,_,_,_,_,_] rfl ?_
  refine j_run it 3 rfl (by simp) ?_
  refine j_nf [_,_,_,_,_] rfl ?_
  refine j_if rfl rfl (fun h1=>?_) (fun h1=>by exfalso;omega)
  refine j_nf [_,_,_,_,_,_,_] rfl ?_
  refine j_run it 2 rfl (by simp) ?_
  refine j_step rfl (x_idx_own ((md.length) - (n)) ((md.length) - (n)) rfl rfl sl29 (by omega) (by omega) (Nat.mul_one _) ?_)
  refine j_step rfl (x_ldR_int 0 0 (md.length - n) rfl rfl rfl ld3 rfl (by assumption) fun hr1=>?_)
  refine j_run it 1 rfl (by simp) ?_
  refine j_nf [_,_,_,_,_,_,_,_] rfl ?_
  refine j_run it 1 rfl (by simp) ?_
  refine j_nf [_,_,_,_,_,_,_,_] rfl ?_
  have hk : md.length - n - g.length + g.length ≤ md.length:=by omega
  generalize hkk : md.length - n - g.length = k at *
  refine j_loopG (X:=Nat × List Value) [0,2,6,7,8,9,10,24,25,26,29,30,31,32] [1,2] (fun x=>[(11,.int .i64 (x.1 : Int))]) (fun x=>[(some bR,3,x.2),(some b2,3,[.int .i64 1])])
   (fun x=>[rowF I64 ⟨some bR,capR,x.2⟩ (md.length + 1) (stepR p ((p - cN : Nat) : Int) g k x.1 L)]) (fun x=>x.1 ≤ g.length) (fun x=>g.length - x.1) (0,csA) [0] rfl rfl rfl (Nat.zero_le _) (by repeat (first | exact Fr.sub_nil _ | refine Fr.sub_cons rfl ?_)) rfl rfl ?_
  rintro ⟨j,csB⟩ hj ihj
  simp only [List.cons_append,List.nil_append] at hj ihj ⊢
  by_cases hjl : j < g.length
  ·have hSl:=stepR_len p ((p - cN : Nat) : Int) g k L j
   have hSr:=stepR_rng (p:=p) (by omega) ((p - cN : Nat) : Int) g k hRn j
   have ihj':=fun r : List Value=>ihj (j + 1,r) (by dsimp only;omega) (by dsimp only;omega)
   simp only [stepR] at ihj'
   generalize stepR p ((p - cN : Nat) : Int) g k j L = S at *
   have hzS : S[k + j]? = some (S.getD (k + j) 0):=by rw [List.getD_eq_getElem?_getD,List.getElem?_eq_getElem (by omega)];rfl
   have hgd : g.getD j 0 = g.getD j default:=rfl
   rw [hgd] at ihj'
   have hzg : g[j]? = some (g.getD j default):=by rw [List.getD_eq_getElem?_getD,List.getElem?_eq_getElem (by omega)];rfl
   obtain ⟨s0,s1⟩:=hSr _ (List.mem_of_getElem? hzS)
   obtain ⟨g0,g1⟩:=rg _ (List.mem_of_getElem? hzg)
   generalize S.getD (k + j) 0 = s at *
   have hm0 : 0 ≤ ((p - cN : Nat) : Int) * g.getD j default:=Int.mul_nonneg (by omega) g0
   have hm1 : ((p - cN : Nat) : Int) * g.getD j default ≤ 65536:=Int.le_trans (Int.mul_le_mul (show ((p - cN : Nat) : Int) ≤ 256 by omega) (show g.getD j default ≤ 256 by omega) g0 (by decide)) (by decide)
   have em : (s + ((p - cN : Nat) : Int) * g.getD j default) % (p : Int) < p:=Int.emod_lt_of_pos _ (by omega)
   have em0 : 0 ≤ (s + ((p - cN : Nat) : Int) * g.getD j default) % (p : Int):=Int.emod_nonneg _ (by omega)
   rw [← hkk] at hzS ihj'
   refine j_nf [_,_,_,_,_,_,_,_,_,_,_] rfl ?_
   refine j_run it 3 rfl (by simp) ?_
   refine j_nf [_,_,_,_,_,_,_,_,_,_] rfl ?_
   refine j_if rfl rfl (fun h2=>?_) (fun h2=>by exfalso;omega)
   refine j_nf [_,_,_,_,_,_,_,_,_,_,_] rfl ?_
   (apply j_drawK it mx 25;(· rfl);(· rfl))
   (apply lxk_run 3;(· rfl);(· simp))
   (apply lxk_eq (v:=Value.int IntKind.i64 (((((md.length) - (n)) - (g.length) : Nat)) : Int));(· rfl);(· exact d_x fun _=>x_asN it _ rfl ⟨by omega,by omega⟩ (by omega) dk_eq))
   simp only [Nat.add_sub_cancel]
   (apply lxk_run 5;(· rfl);(· exact ⟨trivial,trivial,trivial,⟨by omega,by omega⟩,trivial,trivial⟩))
   (apply lxk_eq (v:=Value.int IntKind.i64 (((((md.length) - (n)) - (g.length) : Nat)) : Int));(· rfl);(· exact d_x fun _=>x_asN it _ rfl ⟨by omega,by omega⟩ (by omega) dk_eq))
   simp only [Nat.add_sub_cancel]
   (apply lxk_run 2;(· rfl);(· exact ⟨⟨by omega,by omega⟩,trivial,trivial⟩))
   (apply lxk_eq;(· rfl);(· exact d_x fun _=>x_idx_own ((md.length - n - g.length) + (j)) ((md.length - n - g.length) + (j)) rfl rfl sl29 (by omega) (by omega) (Nat.mul_one _) dk_eq))
   (apply lxk_eq;(· rfl);(· exact d_ldR_int 0 0 (md.length - n - g.length + j) rfl rfl rfl ld3 rfl (by assumption)))
   (apply lxk_run 2;(· rfl);(· simp))
   (apply lxk_eq (v:=Value.int IntKind.i64 ((((p) - (cN) : Nat)) : Int));(· rfl);(· exact d_x fun _=>x_asN it _ rfl ⟨by omega,by omega⟩ (by omega) dk_eq))
   simp only [Nat.add_sub_cancel]
   (apply lxk_run 2;(· rfl);(· simp))
   (apply lxk_pt;(· rfl);(· exact d_x fun _=>x_idx 2 (j) rfl rfl rfl sl29 rfl (by omega) fun z1 hz1 b3 o1=>(dk_ptD default hz1 0 rfl));intro b3 o1)
   (apply lxk_eq;(· rfl);(· exact d_x fun _=>x_ld_int 0 rfl rfl ld3 fun ⟨r2,r3⟩=>dk_eq))
   (apply lxk_run 4;(· rfl);(· exact ⟨⟨by omega,by omega⟩,trivial,⟨by omega,by omega⟩,⟨by omega,by omega⟩,trivial⟩))
   refine lxk_end rfl ?_
   simp only [List.map_cons,List.map_nil,List.cons_append,List.nil_append]
   refine j_step rfl (x_idx_own ((md.length - n - g.length) + (j)) ((md.length - n - g.length) + (j)) rfl rfl sl29 (by omega) (by omega) (Nat.mul_one _) ?_)
   refine j_step rfl (x_stR (vs:=[Value.int IntKind.i64 ((s + ↑(p - cN) * g.getD j default) % ↑p)]) (z:=((s + ↑(p - cN) * g.getD j default) % ↑p : Int)) 0 1 (md.length - n - g.length + j) rfl rfl rfl rfl rfl ld3 (Nat.mul_one _).symm (by omega) (fun w A hG=>(rd_int (by first | (simp only [InR];omega) | (simp [InR];done)))) fun cs1=>?_)
   refine j_nf [_,_,_,_,_,_,_,_,_] rfl ?_
   refine j_run it 3 rfl ⟨trivial,⟨by omega,by omega⟩,trivial,trivial⟩ ?_
   refine j_nfn 1 [.lp (pL 128148),.blk 2,.c (pL 16019),.blk 1,.c (pL 2003),.lp (pL 500),.blk 0,.c [1,1,1,1,1]] rfl ?_
   refine j_to [0,3,4] (by exact fra rfl) rfl rfl (ihj' cs1)
  ·obtain rfl : j = g.length:=by omega
   refine j_nf [_,_,_,_,_,_,_,_,_,_,_] rfl ?_
   refine j_run it 3 rfl (by simp) ?_
   refine j_nf [_,_,_,_,_,_,_,_,_,_] rfl ?_
   refine j_if rfl rfl (fun h2=>by exfalso;omega) (fun h2=>?_)
   refine j_nf [_,_,_,_,_,_] rfl ?_
   refine j_run it 2 rfl (by simp) ?_
   refine j_step rfl (x_idx_own ((md.length) - (n)) ((md.length) - (n)) rfl rfl sl29 (by omega) (by omega) (Nat.mul_one _) ?_)
   refine j_step rfl (x_stR (vs:=[Value.int IntKind.i64 0]) (z:=(0 : Int)) 0 0 (md.length - n) rfl rfl rfl rfl rfl ld3 (Nat.mul_one _).symm (by omega) (fun w A hG=>(rd_int (by first | (simp only [InR];omega) | (simp [InR];done)))) fun cs1=>?_)
   refine j_nf [_,_,_,_] rfl ?_
   refine j_run it 3 rfl ⟨trivial,⟨by omega,by omega⟩,trivial,trivial⟩ ?_
   refine j_nfn 1 [.lp (pL 500),.blk 0,.c [1,1,1,1,1]] rfl ?_
   refine j_to [0,2,3] (by exact fii rfl (by omega) (fcc rfl (fcc rfl (fcc rfl (fcc rfl (fcc rfl (fzz _))))))) rfl rfl (ihn cs1)
 ·obtain rfl : n = md.length + 1 - g.length:=by omega
  clear ih
  have hLn:=hL (md.length + 1 - g.length)
  generalize divR p g (md++[1]) (md.length + 1 - g.length) = L at *
  refine j_nf [_,_,_,_,_,_] rfl ?_
  refine j_run it 3 rfl (by simp) ?_
  refine j_nf [_,_,_,_,_] rfl ?_
  refine j_if rfl rfl (fun h1=>by exfalso;omega) (fun h1=>?_)
  refine j_nf [_,_,_] rfl ?_
  refine j_run it 1 rfl (by simp) ?_
  refine j_nf [_,_,_] rfl ?_
  refine j_loopG (X:=Nat) [8] [1,2] (fun i=>[(12,.int .i64 (i : Int))]) (fun _=>[(some bR,3,csA),(some b2,3,[.int .i64 1])]) (fun _=>[rowF I64 ⟨some bR,capR,csA⟩ (md.length + 1) L]) (fun i=>i ≤ md.length + 1 ∧ ∀ k,k < i → L.getD k 0 = 0) (fun i=>md.length + 1 - i) 0 [0] rfl rfl rfl ⟨Nat.zero_le _,fun k hk=>by omega⟩ (by repeat (first | exact Fr.sub_nil _ | refine Fr.sub_cons rfl ?_)) rfl rfl ?_
  rintro i ⟨hi,hall⟩ ih
  simp only [List.cons_append,List.nil_append] at hi hall ih ⊢
  by_cases hil : i < md.length + 1
  ·have hzi : L[i]? = some (L.getD i 0):=by rw [List.getD_eq_getElem?_getD,List.getElem?_eq_getElem (by omega)];rfl
   by_cases h0 : L.getD i 0 = 0
   ·generalize hv : L.getD i 0 = v at *
    refine j_nf [_,_,_,_,_,_] rfl ?_
    refine j_run it 2 rfl (by simp) ?_
    refine j_step rfl (x_len sl29 rfl ?_)
    refine j_run it 1 rfl (by simp) ?_
    refine j_nf [_,_,_,_,_] rfl ?_
    refine j_if rfl rfl (fun h2=>?_) (fun h2=>by exfalso;omega)
    refine j_nf [_,_,_,_,_,_,_] rfl ?_
    refine j_run it 2 rfl (by simp) ?_
    refine j_step rfl (x_idx_own (i) (i) rfl rfl sl29 rfl (by omega) (Nat.mul_one _) ?_)
    refine j_step rfl (x_ldR_int 0 0 (i) rfl rfl rfl ld3 rfl (by assumption) fun hr1=>?_)
    refine j_run it 1 rfl (by simp) ?_
    refine j_nf [_,_,_,_,_,_] rfl ?_
    refine j_ifn rfl rfl (fun h3=>by exfalso;omega) (fun h3=>?_)
    refine j_nf [_,_,_,_] rfl ?_
    refine j_run it 3 rfl ⟨trivial,⟨by omega,by omega⟩,trivial,trivial⟩ ?_
    refine j_nfn 1 [.lp (pL 1012),.blk 4,.c (pL 127)] rfl ?_
    refine j_to [0,1,2] (by exact fra rfl) rfl rfl (ih (i + 1) (by omega) ⟨by omega,fun k hk=>by
     rcases Nat.lt_succ_iff_lt_or_eq.1 hk with h | rfl
     ·exact hall k h
     ·rw [hv];exact h0⟩)
   ·have hf : res = false:=by
     cases res with
     | false=>rfl
     | true=>exact absurd (hz.2 (hres.1 rfl) i hil) h0
    rw [hf]
    generalize L.getD i 0 = v at *
    refine j_nf [_,_,_,_,_,_] rfl ?_
    refine j_run it 2 rfl (by simp) ?_
    refine j_step rfl (x_len sl29 rfl ?_)
    refine j_run it 1 rfl (by simp) ?_
    refine j_nf [_,_,_,_,_] rfl ?_
    refine j_if rfl rfl (fun h2=>?_) (fun h2=>by exfalso;omega)
    refine j_nf [_,_,_,_,_,_,_] rfl ?_
    refine j_run it 2 rfl (by simp) ?_
    refine j_step rfl (x_idx_own (i) (i) rfl rfl sl29 rfl (by omega) (Nat.mul_one _) ?_)
    refine j_step rfl (x_ldR_int 0 0 (i) rfl rfl rfl ld3 rfl (by assumption) fun hr1=>?_)
    refine j_run it 1 rfl (by simp) ?_
    refine j_nf [_,_,_,_,_,_] rfl ?_
    refine j_ifn rfl rfl (fun h3=>?_) (fun h3=>by exfalso;omega)
    refine j_nf [_,_,_,_,_,_,_] rfl ?_
    refine j_run it 1 rfl (by simp) ?_
    refine j_nf [_,_,_,_,_,_] rfl ?_
    refine j_giv [] rfl rfl rfl ⟨rfl,rfl,rfl⟩
  ·obtain rfl : i = md.length + 1:=by omega
   have ht : res = true:=hres.2 (hz.1 hall)
   rw [ht]
   refine j_nf [_,_,_,_,_,_] rfl ?_
   refine j_run it 2 rfl (by simp) ?_
   refine j_step rfl (x_len sl29 rfl ?_)
   refine j_run it 1 rfl (by simp) ?_
   refine j_nf [_,_,_,_,_] rfl ?_
   refine j_if rfl rfl (fun h2=>by exfalso;omega) (fun h2=>?_)
   refine j_nf [_,_] rfl ?_
   refine j_run it 1 rfl (by simp) ?_
   refine j_nf [_] rfl ?_
   refine j_giv [] rfl rfl rfl ⟨rfl,rfl,rfl⟩
end Go.Proofs.Ytmhcfhddmkhaiaa
