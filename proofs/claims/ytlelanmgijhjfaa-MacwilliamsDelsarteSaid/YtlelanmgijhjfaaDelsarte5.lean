/-
The contract of nat.long, and of bits.LeadingZeros32. The contracts of nat.DivMod and nat.Gcd. The contract of nat.Trim, where the caller goes on writing in what it gets. The contract of nat.Sub. The contracts of rational.one, canonical, Trim, Neg, Sign. The contracts of rational.plus, Add, Sub, Cmp, Mul. The contracts of rational.Sub, Cmp, Mul. The program's numbers with a sign: plus, minus, times, small, ratio. The program's table of Krawtchouk numbers. The document's Cmp and Sub. The document's shift. The document's DivMod and Gcd. The document's fractions: Make, Trim, Sign, Neg, Mul. The document's integers among the fractions: abs, Of, Int, Nat, Nil; Order. The program's sums of products with Krawtchouk numbers; wrong. The program's Transform. The program's Dual, some. Numbers of entries that are not zero; External and Strength of both sides. The weights of the dual code are Dual of the weights of the code. Products of Krawtchouk numbers, the certificate of Hamming's bound, and the least bound from below. The theorem of Delsarte on the external distance. Every word is near a word of the code: the external distance.
-/
import Derived.Test.YtlelanmgijhjfaaDelsarte4
set_option linter.unusedVariables false
set_option linter.unusedSimpArgs false
namespace Go.Proofs.Ytlelanmgijhjfaa
open Go Go.Fw
set_option maxRecDepth 100000
set_option linter.unusedVariables false
set_option linter.unusedSimpArgs false
set_option maxHeartbeats 4000000
theorem S_bits_LeadingZeros32 {x : Nat} (hx : x < 4294967296) : Ctr Try.prog 107 [.int .u32 x] [] [] (Rv (.int .i64 (32 - blen x : Int)) []):=by
 refine Ctr_of_j' (F:=F_bits_LeadingZeros32) rfl fun C=>?_
 have h : blen x ≤ 32:=blen_le (by simpa using hx)
 refine j_nf [_,_] rfl (j_run it 1 rfl (by simp) ?_)
 refine j_nf [_,_] rfl (j_run it 1 rfl (by simp) ?_)
 refine j_step rfl (x_call [] rfl (S_bits_Len32 (by omega)) rfl ?_)
 rintro _ _ _ ⟨rfl,rfl,rfl⟩
 simp only [List.cons_append,List.nil_append]
 refine j_run it 2 rfl ⟨trivial,⟨by omega,by omega⟩,trivial⟩ ?_
 refine j_nf [_] rfl ?_
 refine j_giv [] rfl rfl rfl ⟨rfl,rfl,rfl⟩
abbrev LongQ (A B : Nat) : Value → List Fact → List Blk → Prop:=fun v Φ β=>∃ lq lr p1 c1 p2 c2,v = .tuple #[.slice p1 lq.length c1,.slice p2 lr.length c2] ∧ Φ = [slF U32 p1 lq.length c1 lq,slF U32 p2 lr.length c2 lr] ∧ β = [] ∧ val lq = A / B ∧ val lr = A % B
theorem S_nat_long {pa pb : Option Addr} {n m ca cb k t : Nat} {a b : List Nat} (hal : a.length ≤ 1073741824) (hbl : b.length = k + 2) (hab : b.length ≤ a.length) (ht : b[k + 1]? = some t) (h0 : t ≠ 0) :
  Ctr Try.prog 84 [.slice pa n ca,.slice pb m cb] [] [slF U32 pa n ca a,slF U32 pb m cb b] (LongQ (val a) (val b)):=by
 refine Ctr_of_j' (F:=F_nat_long) rfl fun C=>?_
 refine j_len 0 rfl fun hn hba _=>?_
 refine j_len 1 rfl fun hm hbb _=>?_
 subst hn;subst hm
 refine j_range 0 rfl fun hra=>?_
 refine j_range 1 rfl fun hrb=>?_
 have ha : ∀ x ∈ a,x < 4294967296:=fun x hx=>by have:=hra x hx;simp only [InR] at this;omega
 have hb : ∀ x ∈ b,x < 4294967296:=fun x hx=>by have:=hrb x hx;simp only [InR] at this;omega
 have htB:=hb t (List.mem_of_getElem? ht)
 have h32 : blen t ≤ 32:=blen_le (by simpa using htB)
 have h1t : 1 ≤ blen t:=by have:=blen_pos h0;omega
 obtain ⟨hVl,w,hw,hwn⟩:=norm_div hb hbl ht h0
 have hn32 : 32 - blen t < 32:=by omega
 have e32 : (32 - (blen t : Int)) = ((32 - blen t : Nat) : Int):=by omega
 refine j_nf [_,_] rfl ?_
 refine j_run it 2 rfl (by simp) ?_
 refine j_nf [_,_] rfl ?_
 refine j_run it 2 rfl (by simp) ?_
 refine j_step rfl (x_len sl29 rfl ?_)
 refine j_run it 1 rfl ⟨⟨by omega,by omega⟩,trivial⟩ ?_
 refine j_step rfl (x_idx 1 ((b.length) - 1) rfl rfl rfl sl29 (by omega) (by omega) fun z1 hz1 b1 o1=>?_)
 refine j_step rfl (x_ld_nat 0 rfl rfl ld76 fun ⟨r1,r2⟩=>?_)
 obtain rfl : z1 = t:=Option.some.inj (hz1.symm.trans (by rw [hbl];exact ht))
 refine j_step rfl (x_call [] rfl (S_bits_LeadingZeros32 (by omega)) rfl ?_)
 rintro _ _ _ ⟨rfl,rfl,rfl⟩
 simp only [List.cons_append,List.nil_append]
 refine j_run it 1 rfl (by simp) ?_
 refine j_nf [_,_] rfl ?_
 rw [e32]
 generalize 32 - blen z1 = s at hVl hw hn32 ⊢
 refine j_run it 2 rfl (by simp) ?_
 refine j_step rfl (x_call [2] rfl (O_nat_shift (a:=b) (by omega) hn32) rfl ?_)
 rintro _ _ _ ⟨lv,hlv,hlvB,hlvV,b1,rfl,rfl,rfl⟩
 simp only [List.nil_append,List.cons_append]
 have evl : trim lv = limbs (val b * 2 ^ s):=by rw [trim_eq hlvB,hlvV]
 skip
 refine j_pub32 (n:=lv.length) 0 rfl rfl hlvB (by omega) ?_
 refine j_step rfl (x_call [0] rfl (S_nat_short) rfl ?_)
 rintro _ _ _ ⟨rfl,rfl,rfl⟩
 simp only [List.cons_append,List.nil_append]
 refine j_run it 1 rfl (by simp) ?_
 refine j_nf [_,_] rfl ?_
 refine j_run it 2 rfl (by simp) ?_
 rw [evl]
 generalize hvv : limbs (val b * 2 ^ s) = v at hVl hw ⊢
 have hvB : ∀ x ∈ v,x < 4294967296:=by rw [← hvv];exact limbs_lt _
 have hvV : val v = val b * 2 ^ s:=by rw [← hvv,val_limbs]
 refine j_step rfl (x_call [3] rfl (O_nat_shift (a:=a) (by omega) hn32) rfl ?_)
 rintro _ _ _ ⟨lu,hlu,hluB,hluV,b2,rfl,rfl,rfl⟩
 simp only [List.nil_append,List.cons_append]
 have hA:=val_lt ha
 have hs0 : 0 < 2 ^ s:=Nat.pow_pos (by decide)
 have hVlow : 4294967296 ^ (k + 1) * 2 ^ s ≤ val v:=by
  rw [hvV]
  refine Nat.mul_le_mul_right _ ?_
  have h:=top_split (k:=k + 1) hbl ht
  have : 4294967296 ^ (k + 1) * 1 ≤ 4294967296 ^ (k + 1) * z1:=Nat.mul_le_mul_left _ (by omega)
  omega
 have hV0 : 0 < val v:=Nat.lt_of_lt_of_le (Nat.mul_pos (Nat.pow_pos (by decide)) hs0) hVlow
 have hVB:=val_lt hvB
 have hst:=long_start (k:=k + 1) (m:=a.length - (k + 1)) hluB hlu hluV hA hVlow (by omega) (by omega)
 refine j_run it 1 rfl (by simp) ?_
 refine j_nf [_,_] rfl ?_
 refine j_run it 1 rfl (by simp) ?_
 refine j_step rfl (x_len sl29 rfl ?_)
 refine j_run it 1 rfl (by simp) ?_
 refine j_nf [_,_] rfl ?_
 refine j_run it 1 rfl (by simp) ?_
 refine j_step rfl (x_len sl29 rfl ?_)
 refine j_run it 2 rfl ⟨⟨by omega,by omega⟩,trivial,trivial⟩ ?_
 refine j_step rfl (x_make_nat ((lu.length) - (v.length)) _ rfl rfl sl29 zo29e by29e (by omega) (by omega) (by omega) fun b3=>?_)
 refine j_run it 1 rfl (by simp) ?_
 refine j_nf [_,_,_] rfl ?_
 refine j_run it 1 rfl (by simp) ?_
 refine j_step rfl (x_len sl29 rfl ?_)
 refine j_run it 4 rfl ⟨trivial,⟨by omega,by omega⟩,⟨by omega,by omega⟩,trivial,trivial⟩ ?_
 refine j_nf [_,_,_] rfl ?_
 refine j_loopG (X:=Nat × List Nat × List Nat) [4,5,6,7,8,9] [0,1,2,3,4] (fun x=>[(10,.int .i64 ((x.1 : Int) - 1))]) (fun x=>[(some b3,76,natCells .u32 x.2.1),(some b2,76,natCells .u32 x.2.2)]) (fun _=>[])
  (fun x=>x.1 ≤ a.length - (k + 1) ∧ x.2.1.length = a.length - (k + 1) ∧ (∀ z ∈ x.2.1,z < 4294967296) ∧ x.2.2.length = a.length + 1 ∧ (∀ z ∈ x.2.2,z < 4294967296) ∧ val (x.2.2.drop x.1) < val v ∧ val x.2.2 + 4294967296 ^ x.1 * val v * val (x.2.1.drop x.1) = val a * 2 ^ s)
  (fun x=>x.1) (a.length - (k + 1),List.replicate (lu.length - v.length) 0,lu) [] rfl rfl rfl ⟨Nat.le_refl _,by simp;omega,rep_lt (by decide),hlu,hluB,hst,by simp only;rw [List.drop_of_length_le (by simp;omega),hluV];simp [val]⟩ (by repeat (first | exact Fr.sub_nil _ | refine Fr.sub_cons rfl ?_ | refine Fr.sub_consI rfl (by dsimp only;omega) ?_)) rfl rfl ?_
 rintro ⟨i,quo,uu⟩ ⟨hi,hql,hqB,hul,huB,hud,he⟩ ih
 simp only [List.cons_append,List.nil_append] at hi hql hqB hul huB hud he ih ⊢
 by_cases hi0 : 0 < i
 ·obtain ⟨j,rfl⟩ : ∃ j,i = j + 1:=⟨i - 1,by omega⟩
  rw [show (((j + 1 : Nat) : Int) - 1) = (j : Int) by omega]
  refine j_nf [_,_,_,_,_,_] rfl ?_
  refine j_run it 2 rfl (by simp) ?_
  refine j_nf [_,_,_,_,_] rfl ?_
  refine j_if rfl rfl (fun h1=>?_) (fun h1=>by exfalso;omega)
  refine j_nf [_,_,_,_,_,_] rfl ?_
  refine j_run it 8 rfl ⟨⟨by omega,by omega⟩,⟨by omega,by omega⟩,trivial,trivial,trivial,trivial,trivial,trivial,trivial⟩ ?_
  refine j_step rfl (x_slice_own (j) (((j) + (v.length)) + 1) (j) rfl rfl rfl sl29 (by omega) (by omega) (by omega) (by omega) (by omega) (by omega) ?_)
  refine j_run it 1 rfl (by simp) ?_
  rw [show j + v.length + 1 - j = k + 3 by omega]
  obtain ⟨pre,mid,post,rfl,hpre,hmid⟩ : ∃ pre mid post,uu = pre++mid++post ∧ pre.length = j ∧ mid.length = k + 3 :=
   ⟨uu.take j,(uu.drop j).take (k + 3),(uu.drop j).drop (k + 3),by rw [List.append_assoc,List.take_append_drop,List.take_append_drop],by simp;omega,by simp;omega⟩
  have hmidB : ∀ x ∈ mid,x < 4294967296:=fun x hx=>huB x (by simp [hx])
  have hpost0 : val post = 0:=by
   have h1 : (pre++mid++post).drop (j + 1) = mid.drop 1++post:=by
    rw [List.append_assoc,← List.drop_drop,List.drop_append_of_le_length (by omega),List.drop_of_length_le (l:=pre) (by omega),List.nil_append,List.drop_append_of_le_length (by omega)]
   rw [h1] at hud
   have h2:=drop_zero (k:=k + 2) (Nat.lt_trans hud (by rw [hVl] at hVB;exact hVB))
   rw [List.drop_append_of_le_length (by simp;omega),List.drop_of_length_le (l:=mid.drop 1) (by simp;omega),List.nil_append] at h2
   exact h2
  have hval : ∀ mm : List Nat,mm.length = k + 3 → val (pre++mm++post) = val pre + 4294967296 ^ j * val mm:=fun mm hmm=>by
   rw [List.append_assoc,val_append,val_append,hpost0,Nat.mul_zero,Nat.add_zero,hpre]
  have hdropj : ∀ mm : List Nat,(pre++mm++post).drop j = mm++post:=fun mm=>by
   rw [List.append_assoc,List.drop_append_of_le_length (by omega),List.drop_of_length_le (l:=pre) (by omega),List.nil_append]
  have hUV : val mid < 4294967296 * val v:=by
   have h1 : val (mid++post) = val mid:=by rw [val_append,hpost0,Nat.mul_zero,Nat.add_zero]
   obtain ⟨x,hx⟩ : ∃ x,(pre++mid++post)[j]? = some x:=⟨(pre++mid++post)[j],by simp⟩
   have h2:=val_drop hx
   rw [hdropj,h1] at h2
   have:=huB x (List.mem_of_getElem? hx)
   omega
  refine j_step rfl (x_callB 1 [0] rfl rfl (S_nat_step (k:=k) (post:=post) hpre hmid hVl (by omega) (by omega) hmidB hw hwn hUV) rfl ?_)
  rintro _ _ _ ⟨rfl,rfl,mid',hm',hmB',hmV,rfl⟩
  simp only [List.nil_append,List.cons_append]
  refine j_step rfl (x_idx_own (j) (j) rfl rfl sl29 rfl (by omega) (Nat.mul_one _) ?_)
  refine j_step rfl (x_bst_nat 1 (val mid / val v) rfl rfl rfl ld76 (by first | rfl | omega) (by first | omega | (simp;omega)) ?_)
  refine j_nf [_,_,_,_] rfl ?_
  refine j_run it 3 rfl ⟨trivial,⟨by omega,by omega⟩,trivial,trivial⟩ ?_
  refine j_nfn 1 [.lp (pL 2036),.blk 0,.c (pL 255)] rfl ?_
  refine j_perm (List.Perm.swap _ _ _) ?_
  have hqd : val mid / val v < 4294967296:=by rw [Nat.div_lt_iff_lt_mul hV0];exact hUV
  refine j_to [0,1,2,3,4] (by exact fra rfl) rfl rfl (ih (j,quo.set j (val mid / val v),pre++mid'++post) (by simp only;omega) ⟨by simp only;omega,by simpa using hql,set_lt hqB hqd,by simp at hul ⊢;omega,fun x hx=>by
   simp only [List.mem_append] at hx
   rcases hx with (hx | hx) | hx
   ·exact huB x (by simp [hx])
   ·exact hmB' x hx
   ·exact huB x (by simp [hx]),by
   simp only
   rw [hdropj,val_append,hpost0,Nat.mul_zero,Nat.add_zero,hmV]
   exact Nat.mod_lt _ hV0,by
   simp only
   rw [hval mid' hm',val_set_drop (by omega)]
   rw [hval mid hmid,Nat.pow_succ] at he
   exact long_step he rfl hmV⟩)
 ·have hi00 : i = 0:=by omega
  subst hi00
  rw [List.drop_zero] at hud he
  rw [Nat.pow_zero,Nat.one_mul] at he
  obtain ⟨hQ,hR⟩:=long_end he hvV hud hs0
  refine j_nf [_,_,_,_,_,_] rfl ?_
  refine j_run it 2 rfl (by simp) ?_
  refine j_nf [_,_,_,_,_] rfl ?_
  refine j_if rfl rfl (fun h1=>by exfalso;omega) (fun h1=>?_)
  refine j_nf [_,_] rfl ?_
  refine j_run it 1 rfl (by simp) ?_
  refine j_step rfl (x_make_nat (v.length) _ rfl rfl sl29 zo29e by29e (by omega) (by omega) (by omega) fun b4=>?_)
  refine j_run it 1 rfl (by simp) ?_
  refine j_nf [_,_,_] rfl ?_
  refine j_run it 1 rfl (by simp) ?_
  refine j_step rfl (x_len sl29 rfl ?_)
  refine j_run it 1 rfl (by simp) ?_
  refine j_nf [_,_,_] rfl ?_
  refine j_loopG (X:=Nat × List Nat) [4,5,6,8,57] [0,1,2,3,4] (fun x=>[(58,.int .i64 x.1)]) (fun x=>[(some b4,76,natCells .u32 x.2),(some b3,76,natCells .u32 quo),(some b2,76,natCells .u32 uu)]) (fun _=>[])
   (fun x=>x.1 ≤ v.length ∧ x.2.length = v.length ∧ (∀ z ∈ x.2,z < 4294967296) ∧ val (x.2.take x.1) = val uu / 2 ^ s % 4294967296 ^ x.1)
   (fun x=>v.length - x.1) (0,List.replicate v.length 0) [] rfl rfl rfl ⟨Nat.zero_le _,by simp,rep_lt (by decide),by simp [val,Nat.mod_one]⟩ (by repeat (first | exact Fr.sub_nil _ | refine Fr.sub_cons rfl ?_)) rfl rfl ?_
  rintro ⟨i,rem⟩ ⟨hi2,hrl,hrB,hrv⟩ ih2
  simp only [List.cons_append,List.nil_append] at hi2 hrl hrB hrv ih2 ⊢
  by_cases hil : i < v.length
  ·obtain ⟨x,hx⟩ : ∃ x,uu[i]? = some x:=⟨uu[i],by simp⟩
   obtain ⟨y,hy⟩ : ∃ y,uu[i + 1]? = some y:=⟨uu[i + 1],by simp⟩
   have hxB:=huB x (List.mem_of_getElem? hx)
   have hyB:=huB y (List.mem_of_getElem? hy)
   refine j_nf [_,_,_,_,_] rfl ?_
   refine j_run it 1 rfl (by simp) ?_
   refine j_nf [_,_,_,_,_] rfl ?_
   refine j_if rfl rfl (fun h2=>?_) (fun h2=>by exfalso;omega)
   refine j_nf [_,_,_,_,_,_,_] rfl ?_
   refine j_run it 2 rfl (by simp) ?_
   refine j_nf [_,_,_,_,_,_] rfl ?_
   (apply j_drawK it mx 18;(· rfl);(· rfl))
   (apply lxk_run 4;(· rfl);(· simp))
   (apply lxk_eq;(· rfl);(· exact d_x fun _=>x_idx_own (i) (i) rfl rfl sl29 rfl (by omega) (Nat.mul_one _) dk_eq))
   (apply lxk_eq;(· rfl);(· exact d_bld_nat 2 rfl rfl ld76 (by assumption)))
   (apply lxk_run 4;(· rfl);(· exact ⟨⟨by omega,by omega⟩,trivial,trivial,⟨by omega,by omega⟩,trivial⟩))
   (apply lxk_eq;(· rfl);(· exact d_x fun _=>x_idx_own ((i) + 1) ((i) + 1) rfl rfl sl29 (by omega) (by omega) (Nat.mul_one _) dk_eq))
   (apply lxk_eq;(· rfl);(· exact d_bld_nat 2 rfl rfl ld76 (by assumption)))
   (apply lxk_run 2;(· rfl);(· exact ⟨⟨by omega,by omega⟩,⟨by omega,by omega⟩,trivial⟩))
   (apply lxk_eq;(· rfl);(· exact d_x fun _=>x_or_nat (x) ((y) * 4294967296) rfl rfl (by first | rfl | omega) (by first | rfl | omega) (by omega) (by omega) dk_eq))
   (apply lxk_run 1;(· rfl);(· simp))
   (apply lxk_eq;(· rfl);(· exact d_x fun _=>x_shr_nat (x ||| y * 4294967296) (s) rfl rfl (by first | rfl | omega) (by first | rfl | omega) (by first | decide | (simp only [IntKind.bits];omega)) dk_eq))
   (apply lxk_eq;(· rfl);(· exact d_x fun _=>x_conv_u32 it rfl rfl rfl dk_eq))
   refine lxk_end rfl ?_
   simp only [List.map_cons,List.map_nil,List.cons_append,List.nil_append]
   refine j_step rfl (x_idx_own (i) (i) rfl rfl sl29 rfl (by omega) (Nat.mul_one _) ?_)
   refine j_step rfl (x_bst_nat 0 (((x ||| y * 4294967296) / 2 ^ s) % 4294967296) rfl rfl rfl ld76 (by first | rfl | omega) (by first | omega | (simp;omega)) ?_)
   refine j_nf [_,_,_,_] rfl ?_
   refine j_run it 2 rfl ⟨trivial,⟨by omega,by omega⟩,trivial⟩ ?_
   refine j_nfn 1 [.lp (pL 8180),.blk 2,.c (pL 1023)] rfl ?_
   have eor : x ||| y * 4294967296 = x + 4294967296 * y:=by
    have h:=or_low (x:=y) (n:=32) (c:=x) hxB
    rw [show (2 : Nat) ^ 32 = 4294967296 from rfl] at h
    rw [Nat.or_comm,h];omega
   rw [eor]
   refine j_to [0,1,2,3,4] (by exact fra rfl) rfl rfl (ih2 (i + 1,rem.set i ((x + 4294967296 * y) / 2 ^ s % 4294967296)) (by simp only;omega) ⟨by simp only;omega,by simpa using hrl,set_lt hrB (Nat.mod_lt _ (by decide)),by
    simp only
    rw [val_set_take (by omega),hrv,rem_digit huB hx hy hn32]⟩)
  ·have ei : i = v.length:=by omega
   subst ei
   have hrv' : val rem = val a % val b:=by
    rw [← hrl,List.take_length,hrl,hR,Nat.mul_div_cancel _ hs0] at hrv
    rw [hrv]
    refine Nat.mod_eq_of_lt (Nat.lt_of_le_of_lt ?_ (Nat.lt_trans hud hVB))
    rw [hR]
    exact Nat.le_mul_of_pos_right _ hs0
   refine j_nf [_,_,_,_,_] rfl ?_
   refine j_run it 1 rfl (by simp) ?_
   refine j_nf [_,_,_,_,_] rfl ?_
   refine j_if rfl rfl (fun h2=>by exfalso;omega) (fun h2=>?_)
   refine j_nf [_,_] rfl ?_
   refine j_run it 4 rfl (by simp) ?_
   refine j_nf [_] rfl ?_
   refine j_pub32 (n:=v.length) 0 rfl hrl hrB (by omega) ?_
   refine j_pub32 (n:=lu.length - v.length) 0 rfl (by omega) hqB (by omega) ?_
   have e1 : lu.length - v.length = quo.length:=by omega
   rw [e1,← hrl]
   refine j_giv [0,1] rfl rfl rfl ⟨quo,rem,_,_,_,_,rfl,rfl,rfl,hQ,hrv'⟩
abbrev DivQ (A B : Nat) : Value → List Fact → List Blk → Prop:=fun v Φ β=>∃ p1 c1 p2 c2,v = .tuple #[.slice p1 (limbs (A / B)).length c1,.slice p2 (limbs (A % B)).length c2,.int .i64 0] ∧ Φ = [slF U32 p1 (limbs (A / B)).length c1 (limbs (A / B)),slF U32 p2 (limbs (A % B)).length c2 (limbs (A % B))] ∧ β = []
theorem S_nat_DivMod {pa pb : Option Addr} {n m ca cb : Nat} {a b : List Nat} (hal : a.length ≤ 1073741824) (hb0 : val b ≠ 0) :
  Ctr Try.prog 51 [.slice pa n ca,.slice pb m cb] [] [slF U32 pa n ca a,slF U32 pb m cb b] (DivQ (val a) (val b)):=by
 refine Ctr_of_j' (F:=F_nat_DivMod) rfl fun C=>?_
 refine j_len 0 rfl fun hn hba _=>?_
 refine j_len 1 rfl fun hm hbb _=>?_
 subst hn;subst hm
 have hba' : a.length * 4 ≤ 140737488355328:=hba
 have hbb' : b.length * 4 ≤ 140737488355328:=hbb
 refine j_range 0 rfl fun hra=>?_
 refine j_range 1 rfl fun hrb=>?_
 have ha : ∀ x ∈ a,x < 4294967296:=fun x hx=>by have:=hra x hx;simp only [InR] at this;omega
 have hb : ∀ x ∈ b,x < 4294967296:=fun x hx=>by have:=hrb x hx;simp only [InR] at this;omega
 have ea:=trim_eq ha
 have eb:=trim_eq hb
 have lla:=trim_length_le a
 have llb:=trim_length_le b
 have va : val (trim a) = val a:=val_trim a
 have vb : val (trim b) = val b:=val_trim b
 have hbne : 1 ≤ (trim b).length:=by
  rcases Nat.eq_zero_or_pos (trim b).length with h | h
  ·exfalso;have h2:=List.eq_nil_of_length_eq_zero h;rw [eb,limbs_nil] at h2;exact hb0 h2
  ·exact h
 by_cases hlt : val a < val b
 ·have hc : cmpN (val (trim a)) (val (trim b)) < 0:=by rw [va,vb,cmpN_lt hlt];decide
  have e1 : limbs (val a / val b) = []:=by rw [Nat.div_eq_of_lt hlt,limbs_zero]
  have e2 : limbs (val a % val b) = trim (trim a):=by rw [Nat.mod_eq_of_lt hlt,trim_trim,ea]
  refine j_nf [_,_] rfl (j_run it 3 rfl (by simp) ?_)
  refine j_nf [_,_] rfl (j_run it 1 rfl (by simp) ?_)
  refine j_step rfl (x_call [0] rfl (S_nat_short) rfl ?_)
  rintro _ _ _ ⟨rfl,rfl,rfl⟩
  simp only [List.cons_append,List.nil_append]
  refine j_run it 1 rfl (by simp) ?_
  refine j_step rfl (x_call [2] rfl (S_nat_short) rfl ?_)
  rintro _ _ _ ⟨rfl,rfl,rfl⟩
  simp only [List.cons_append,List.nil_append]
  refine j_run it 2 rfl (by simp) ?_
  refine j_nf [_,_,_,_] rfl (j_run it 1 rfl (by simp) ?_)
  refine j_step rfl (x_len sl29 rfl ?_)
  refine j_run it 2 rfl (by simp) ?_
  refine j_nf [_,_,_] rfl (j_if rfl rfl (fun h1=>by exfalso;omega) (fun h1=>?_))
  refine j_nf [_,_,_,_] rfl (j_run it 2 rfl (by simp) ?_)
  refine j_step rfl (x_call [1,0] rfl (S_nat_Cmp) rfl ?_)
  rintro _ _ _ ⟨rfl,rfl,rfl⟩
  simp only [List.cons_append,List.nil_append]
  refine j_run it 2 rfl (by simp) ?_
  refine j_nf [_,_,_] rfl (j_if rfl rfl (fun h2=>?_) (fun h2=>by exfalso;omega))
  refine j_nf [_,_,_,_] rfl (j_run it 1 rfl (by simp) ?_)
  refine j_step rfl (x_call [1] rfl (S_nat_Trim) rfl ?_)
  rintro _ _ _ ⟨pa1,ca1,rfl,rfl,rfl⟩
  simp only [List.cons_append,List.nil_append]
  refine j_run it 3 rfl (by simp) ?_
  refine j_nf [_,_,_] rfl ?_
  refine j_add (slF U32 none 0 0 []) (fun w A _=>slF_nil _ _ _ _ _) ?_
  refine j_giv [0,1] rfl rfl rfl ⟨none,0,pa1,ca1,by rw [e1,e2];rfl,by rw [e1,e2];rfl,rfl⟩
 ·have hc : ¬ cmpN (val (trim a)) (val (trim b)) < 0:=by rw [va,vb];unfold cmpN;split <;> (try split) <;> omega
  by_cases h1 : (trim b).length = 1
  ·obtain ⟨d,hd⟩ : ∃ d,trim b = [d]:=List.length_eq_one_iff.1 h1
   have hvd : val b = d:=by rw [← vb,hd];simp [val]
   have hd0 : 0 < d:=by omega
   have hdB : d < 4294967296:=hb d (mem_trim (by rw [hd];simp))
   have side : ∀ z,(trim b)[0]? = some z → z = d:=fun z hz=>by rw [hd] at hz;simpa using hz.symm
   refine j_nf [_,_] rfl (j_run it 3 rfl (by simp) ?_)
   refine j_nf [_,_] rfl (j_run it 1 rfl (by simp) ?_)
   refine j_step rfl (x_call [0] rfl (S_nat_short) rfl ?_)
   rintro _ _ _ ⟨rfl,rfl,rfl⟩
   simp only [List.cons_append,List.nil_append]
   refine j_run it 1 rfl (by simp) ?_
   refine j_step rfl (x_call [2] rfl (S_nat_short) rfl ?_)
   rintro _ _ _ ⟨rfl,rfl,rfl⟩
   simp only [List.cons_append,List.nil_append]
   refine j_run it 2 rfl (by simp) ?_
   refine j_nf [_,_,_,_] rfl (j_run it 1 rfl (by simp) ?_)
   refine j_step rfl (x_len sl29 rfl ?_)
   refine j_run it 2 rfl (by simp) ?_
   refine j_nf [_,_,_] rfl (j_if rfl rfl (fun h2=>by exfalso;omega) (fun h2=>?_))
   refine j_nf [_,_,_,_] rfl (j_run it 2 rfl (by simp) ?_)
   refine j_step rfl (x_call [1,0] rfl (S_nat_Cmp) rfl ?_)
   rintro _ _ _ ⟨rfl,rfl,rfl⟩
   simp only [List.cons_append,List.nil_append]
   refine j_run it 2 rfl (by simp) ?_
   refine j_nf [_,_,_] rfl (j_if rfl rfl (fun h3=>by exfalso;omega) (fun h3=>?_))
   refine j_nf [_,_,_,_] rfl (j_run it 1 rfl (by simp) ?_)
   refine j_step rfl (x_len sl29 rfl ?_)
   refine j_run it 2 rfl (by simp) ?_
   refine j_nf [_,_,_] rfl (j_if rfl rfl (fun h4=>?_) (fun h4=>by exfalso;omega))
   refine j_nf [_,_,_,_] rfl (j_run it 2 rfl (by simp) ?_)
   refine j_step rfl (x_idx 0 0 rfl rfl rfl sl29 (by omega) (by omega) fun z1 hz1 b1 o1=>?_)
   refine j_step rfl (x_ld_nat 0 rfl rfl ld76 fun ⟨r1,r2⟩=>?_)
   obtain rfl : z1 = d:=side z1 hz1
   have hm : val (trim a) % z1 < 4294967296:=Nat.lt_trans (Nat.mod_lt _ hd0) hdB
   have hm2 : val (trim a) % z1 < 18446744073709551616:=by omega
   refine j_step rfl (x_call [2] rfl (S_nat_digit (by omega) (by omega)) rfl ?_)
   rintro _ _ _ ⟨pa1,ca1,rfl,rfl,rfl⟩
   simp only [List.cons_append,List.nil_append]
   refine j_run it 5 rfl (by simp) ?_
   refine j_nf [_,_,_,_] rfl (j_run it 3 rfl ⟨⟨by omega,by omega⟩,trivial,trivial,trivial⟩ ?_)
   refine j_step rfl (x_call [] rfl (S_nat_Of (by omega)) rfl ?_)
   rintro _ _ _ ⟨pa2,ca2,rfl,rfl,rfl⟩
   simp only [List.cons_append,List.nil_append]
   refine j_run it 3 rfl (by simp) ?_
   refine j_nf [_,_,_] rfl ?_
   rw [va,← hvd]
   refine j_giv [1,0] rfl rfl rfl ⟨_,_,_,_,rfl,rfl,rfl⟩
  ·obtain ⟨k,hk⟩ : ∃ k,(trim b).length = k + 2:=⟨(trim b).length - 2,by omega⟩
   obtain ⟨t,ht,ht0⟩:=limbs_top (n:=val b) (k:=k + 1) (by rw [← eb];exact hk)
   rw [← eb] at ht
   have hab : (trim b).length ≤ (trim a).length:=by
    rw [eb,ea]
    exact limbs_mono (Nat.le_refl _) (by omega)
   refine j_nf [_,_] rfl (j_run it 3 rfl (by simp) ?_)
   refine j_nf [_,_] rfl (j_run it 1 rfl (by simp) ?_)
   refine j_step rfl (x_call [0] rfl (S_nat_short) rfl ?_)
   rintro _ _ _ ⟨rfl,rfl,rfl⟩
   simp only [List.cons_append,List.nil_append]
   refine j_run it 1 rfl (by simp) ?_
   refine j_step rfl (x_call [2] rfl (S_nat_short) rfl ?_)
   rintro _ _ _ ⟨rfl,rfl,rfl⟩
   simp only [List.cons_append,List.nil_append]
   refine j_run it 2 rfl (by simp) ?_
   refine j_nf [_,_,_,_] rfl (j_run it 1 rfl (by simp) ?_)
   refine j_step rfl (x_len sl29 rfl ?_)
   refine j_run it 2 rfl (by simp) ?_
   refine j_nf [_,_,_] rfl (j_if rfl rfl (fun h2=>by exfalso;omega) (fun h2=>?_))
   refine j_nf [_,_,_,_] rfl (j_run it 2 rfl (by simp) ?_)
   refine j_step rfl (x_call [1,0] rfl (S_nat_Cmp) rfl ?_)
   rintro _ _ _ ⟨rfl,rfl,rfl⟩
   simp only [List.cons_append,List.nil_append]
   refine j_run it 2 rfl (by simp) ?_
   refine j_nf [_,_,_] rfl (j_if rfl rfl (fun h3=>by exfalso;omega) (fun h3=>?_))
   refine j_nf [_,_,_,_] rfl (j_run it 1 rfl (by simp) ?_)
   refine j_step rfl (x_len sl29 rfl ?_)
   refine j_run it 2 rfl (by simp) ?_
   refine j_nf [_,_,_] rfl (j_if rfl rfl (fun h4=>by exfalso;omega) (fun h4=>?_))
   refine j_nf [_,_] rfl (j_run it 2 rfl (by simp) ?_)
   refine j_step rfl (x_call [1,0] rfl (S_nat_long (k:=k) (t:=t) (by omega) hk hab ht ht0) rfl ?_)
   rintro _ _ _ ⟨lq,lr,p1,c1,p2,c2,rfl,rfl,rfl,hq,hr⟩
   simp only [List.nil_append,List.cons_append]
   refine j_range 0 rfl fun hrq=>?_
   refine j_range 1 rfl fun hrr=>?_
   have eq:=trim_eq (l:=lq) (fun x hx=>by have:=hrq x hx;simp only [InR] at this;omega)
   have er:=trim_eq (l:=lr) (fun x hx=>by have:=hrr x hx;simp only [InR] at this;omega)
   rw [hq,va,vb] at eq
   rw [hr,va,vb] at er
   refine j_run it 5 rfl (by simp) ?_
   refine j_nf [_,_] rfl (j_run it 1 rfl (by simp) ?_)
   refine j_step rfl (x_call [0] rfl (S_nat_Trim) rfl ?_)
   rintro _ _ _ ⟨pa1,ca1,rfl,rfl,rfl⟩
   simp only [List.cons_append,List.nil_append]
   refine j_run it 1 rfl (by simp) ?_
   refine j_step rfl (x_call [2] rfl (S_nat_Trim) rfl ?_)
   rintro _ _ _ ⟨pa2,ca2,rfl,rfl,rfl⟩
   simp only [List.cons_append,List.nil_append]
   refine j_run it 3 rfl (by simp) ?_
   refine j_nf [_] rfl ?_
   rw [eq,er]
   refine j_giv [1,0] rfl rfl rfl ⟨_,_,_,_,rfl,rfl,rfl⟩
theorem O_nat_Trim {pa : Option Addr} {n ca : Nat} {l : List Nat} : Ctr Try.prog 49 [.slice pa n ca] [] [slF U32 pa n ca l] (Ov 76 (trim l)):=by
 refine Ctr_of_j' (F:=F_nat_Trim) rfl fun C=>?_
 refine j_len 0 rfl fun hn hb _=>?_
 subst hn
 have hb' : l.length * 4 ≤ 140737488355328:=hb
 have hl:=trim_length_le l
 refine j_nf [_,_] rfl (j_run it 1 rfl (by simp) ?_)
 refine j_nf [_,_] rfl (j_run it 1 rfl (by simp) ?_)
 refine j_step rfl (x_call [0] rfl (S_nat_short) rfl ?_)
 rintro _ _ _ ⟨rfl,rfl,rfl⟩
 simp only [List.cons_append,List.nil_append]
 refine j_nil el29 ?_
 refine j_step rfl (x_app_sl 0 0 rfl rfl rfl rfl sl29 zo29e rfl (by first | exact GrOk.nil _ | assumption | exact .inr ⟨_,rfl,Nat.le_refl _,by omega,rfl⟩) (by omega) _ by29e (by omega) fun bo1 cap1 cs1 vss1 hg1 ht1=>?_)
 refine j_run it 1 rfl (by simp) ?_
 refine j_nf [_] rfl ?_
 refine j_flat 0 rfl fun hfl=>?_
 simp only [Nat.zero_add,Nat.zero_mul,List.take_zero,List.nil_append,hfl] at ht1
 have e : cs1 = natCells .u32 (trim l)++cs1.drop (trim l).length:=by
  have h:=List.take_append_drop (trim l).length cs1
  rw [show (trim l).length = (trim l).length * (encNat .u32 4).size from (Nat.mul_one _).symm] at h
  rw [ht1] at h
  exact h.symm.trans (by rw [show (trim l).length * (encNat .u32 4).size = (trim l).length from Nat.mul_one _])
 rw [Nat.zero_add] at hg1
 refine j_gives [] rfl rfl rfl ⟨bo1,cap1,cs1.drop (trim l).length,by simp [resVal],by rw [← e];exact hg1,rfl,by rw [← e];rfl⟩
set_option maxHeartbeats 1000000
theorem S_nat_Sub {pa pb : Option Addr} {n m ca cb : Nat} {a b : List Nat} (hab : val b ≤ val a) :
  Ctr Try.prog 106 [.slice pa n ca,.slice pb m cb] [] [slF U32 pa n ca a,slF U32 pb m cb b] (S2 U32 (limbs (val a - val b)) 0):=by
 refine Ctr_of_j' (F:=F_nat_Sub) rfl fun C=>?_
 refine j_len 0 rfl fun hn hba _=>?_
 refine j_len 1 rfl fun hm hbb _=>?_
 subst hn;subst hm
 have hba' : a.length * 4 ≤ 140737488355328:=hba
 have hbb' : b.length * 4 ≤ 140737488355328:=hbb
 refine j_range 0 rfl fun hra=>?_
 refine j_range 1 rfl fun hrb=>?_
 have hra' : ∀ x ∈ a,x < 4294967296:=fun x hx=>by have:=hra x hx;simp only [InR] at this;omega
 have hrb' : ∀ x ∈ b,x < 4294967296:=fun x hx=>by have:=hrb x hx;simp only [InR] at this;omega
 have ht : ∀ x ∈ trim a,x < 4294967296:=fun x hx=>hra' x (mem_trim hx)
 have hv : val (trim a) = val a:=val_trim a
 have hl:=trim_length_le a
 have hc : 0 ≤ cmpN (val a) (val b):=by unfold cmpN;split <;> (try split) <;> omega
 refine j_nf [_,_] rfl (j_run it 2 rfl (by simp) ?_)
 refine j_nf [_,_,_] rfl (j_run it 2 rfl (by simp) ?_)
 refine j_step rfl (x_call [0,1] rfl (S_nat_Cmp) rfl ?_)
 rintro _ _ _ ⟨rfl,rfl,rfl⟩
 simp only [List.cons_append,List.nil_append]
 refine j_run it 1 rfl (by simp) ?_
 refine j_nf [_,_] rfl (j_if rfl rfl (fun h1=>by exfalso;omega) (fun h1=>?_))
 refine j_nf [_,_] rfl (j_run it 1 rfl (by simp) ?_)
 refine j_step rfl (x_call [0] rfl O_nat_Trim rfl ?_)
 rintro _ _ _ ⟨bo,cap,rest,rfl,hg,rfl,rfl⟩
 simp only [List.nil_append,List.cons_append]
 generalize trim a = l at ht hv hl hg ⊢
 refine j_run it 1 rfl (by simp) ?_
 refine j_nf [_,_] rfl (j_run it 1 rfl (by simp) ?_)
 refine j_nf [_,_,_] rfl (j_run it 1 rfl (by simp) ?_)
 refine j_step rfl (x_len sl29 rfl ?_)
 refine j_run it 1 rfl (by simp) ?_
 refine j_nf [_,_,_] rfl ?_
 refine j_loopG (X:=Nat × Nat × List Nat) [1,4,5,6,17] [0,1] (fun x=>[(7,.int .u64 x.2.1),(18,.int .i64 x.1)]) (fun x=>[(bo,76,natCells .u32 x.2.2++rest)]) (fun _=>[])
  (fun x=>x.1 ≤ l.length ∧ x.2.2.length = l.length ∧ x.2.1 ≤ 1 ∧ (∀ z ∈ x.2.2,z < 4294967296) ∧ val (x.2.2.take x.1) + val (b.take x.1) = val (l.take x.1) + 4294967296 ^ x.1 * x.2.1 ∧ x.2.2.drop x.1 = l.drop x.1)
  (fun x=>l.length - x.1) (0,0,l) [] rfl rfl rfl ⟨Nat.zero_le _,rfl,Nat.zero_le _,ht,by simp [val],rfl⟩ (by repeat (first | exact Fr.sub_nil _ | refine Fr.sub_cons rfl ?_)) rfl rfl ?_
 rintro ⟨k,c,out⟩ ⟨hk,hlo,hc1,ho,he,hd⟩ ih
 simp only [List.cons_append,List.nil_append] at hk hlo hc1 ho he hd ih ⊢
 by_cases hkl : k < l.length
 ·obtain ⟨b',rfl⟩ : ∃ b',bo = some b':=by
   rcases hg with ⟨_,h0,_⟩ | ⟨b',h,_⟩
   ·omega
   ·exact ⟨b',h⟩
  have hdk : out[k]? = l[k]?:=by
   have h:=congrArg (fun l : List Nat=>l[0]?) hd
   simpa using h
  have hdk1 : out.drop (k + 1) = l.drop (k + 1):=by rw [← List.drop_drop,hd,List.drop_drop]
  by_cases hkb : k < b.length
  ·refine j_nf [_,_,_,_,_] rfl (j_run it 1 rfl (by simp) ?_)
   refine j_nf [_,_,_,_,_] rfl (j_if rfl rfl (fun h2=>?_) (fun h2=>by exfalso;omega))
   refine j_nf [_,_,_,_,_,_,_] rfl (j_run it 2 rfl (by simp) ?_)
   refine j_nf [_,_,_,_,_,_,_] rfl (j_run it 2 rfl (by simp) ?_)
   refine j_step rfl (x_idx_own (k) (k) rfl rfl sl29 rfl (by omega) (Nat.mul_one _) ?_)
   refine j_step rfl (x_bld_natA 0 rfl rfl ld76 (by assumption) (by first | omega | (simp;omega)) fun z1 hz1 hlt1=>?_)
   refine j_run it 2 rfl ⟨trivial,⟨by omega,by omega⟩,trivial⟩ ?_
   refine j_step rfl (x_sub_u64 rfl rfl ?_)
   refine j_run it 1 rfl (by simp) ?_
   refine j_nf [_,_,_,_,_,_,_,_] rfl (j_run it 2 rfl (by simp) ?_)
   refine j_step rfl (x_len sl29 rfl ?_)
   refine j_run it 1 rfl (by simp) ?_
   refine j_nf [_,_,_,_,_,_,_] rfl (j_if rfl rfl (fun h3=>?_) (fun h3=>by exfalso;omega))
   refine j_nf [_,_,_,_,_,_,_] rfl (j_run it 3 rfl (by simp) ?_)
   refine j_step rfl (x_idx 1 (k) rfl rfl rfl sl29 rfl (by omega) fun z2 hz2 b1 o1=>?_)
   refine j_step rfl (x_ld_nat 0 rfl rfl ld76 fun ⟨r1,r2⟩=>?_)
   refine j_run it 1 rfl ⟨⟨by omega,by omega⟩,trivial⟩ ?_
   refine j_step rfl (x_sub_u64 rfl rfl ?_)
   refine j_run it 1 rfl (by simp) ?_
   refine j_nf [_,_,_,_,_,_,_] rfl (j_run it 3 rfl (by simp) ?_)
   refine j_step rfl (x_conv_u32 it rfl rfl rfl ?_)
   refine j_step rfl (x_idx_own (k) (k) rfl rfl sl29 rfl (by omega) (Nat.mul_one _) ?_)
   refine j_step rfl (x_bst_natA 0 ((((((z1) + 18446744073709551616 - (c)) % 18446744073709551616) + 18446744073709551616 - (z2)) % 18446744073709551616) % 4294967296) rfl rfl rfl ld76 (by first | rfl | omega) (by first | omega | (simp;omega)) ?_)
   refine j_nf [_,_,_,_,_,_] rfl (j_run it 3 rfl (by simp) ?_)
   refine j_nf [_,_,_,_] rfl (j_run it 2 rfl ⟨trivial,⟨by omega,by omega⟩,trivial⟩ ?_)
   refine j_nfn 1 [.lp (pL 500),.blk 0,.c [1,1,1,1,1]] rfl ?_
   have hz1l : l[k]? = some z1:=by rw [← hdk];exact hz1
   have hz2':=hrb' z2 (List.mem_of_getElem? hz2)
   obtain ⟨-,hle⟩:=borrow_word hc1 hlt1 hz2' rfl
   have hst:=borrow_step he hc1 hlt1 hz2' rfl
   generalize hD : ((z1 + 18446744073709551616 - c) % 18446744073709551616 + 18446744073709551616 - z2) % 18446744073709551616 = D at hle hst ⊢
   refine j_to [1,2] (by exact fii rfl (by dsimp only;omega) (fcc rfl (fcc rfl (fcc rfl (fcc rfl (fcc rfl (fcc rfl (fzz _)))))))) rfl rfl (ih (k + 1,D / 9223372036854775808,out.set k (D % 4294967296)) (by simp only;omega) ⟨by simp only;omega,by simpa using hlo,hle,set_lt ho (by omega),by
    simp only
    rw [val_set_take (by omega),Nat.pow_succ,val_take_succ hz1l,val_take_succ hz2];exact hst,by simp only;rw [List.drop_set_of_lt (by omega)];exact hdk1⟩)
  ·refine j_nf [_,_,_,_,_] rfl (j_run it 1 rfl (by simp) ?_)
   refine j_nf [_,_,_,_,_] rfl (j_if rfl rfl (fun h2=>?_) (fun h2=>by exfalso;omega))
   refine j_nf [_,_,_,_,_,_,_] rfl (j_run it 2 rfl (by simp) ?_)
   refine j_nf [_,_,_,_,_,_,_] rfl (j_run it 2 rfl (by simp) ?_)
   refine j_step rfl (x_idx_own (k) (k) rfl rfl sl29 rfl (by omega) (Nat.mul_one _) ?_)
   refine j_step rfl (x_bld_natA 0 rfl rfl ld76 (by assumption) (by first | omega | (simp;omega)) fun z1 hz1 hlt1=>?_)
   refine j_run it 2 rfl ⟨trivial,⟨by omega,by omega⟩,trivial⟩ ?_
   refine j_step rfl (x_sub_u64 rfl rfl ?_)
   refine j_run it 1 rfl (by simp) ?_
   refine j_nf [_,_,_,_,_,_,_,_] rfl (j_run it 2 rfl (by simp) ?_)
   refine j_step rfl (x_len sl29 rfl ?_)
   refine j_run it 1 rfl (by simp) ?_
   refine j_nf [_,_,_,_,_,_,_] rfl (j_if rfl rfl (fun h3=>by exfalso;omega) (fun h3=>?_))
   refine j_nf [_,_,_,_,_,_,_] rfl (j_run it 3 rfl (by simp) ?_)
   refine j_step rfl (x_conv_u32 it rfl rfl rfl ?_)
   refine j_step rfl (x_idx_own (k) (k) rfl rfl sl29 rfl (by omega) (Nat.mul_one _) ?_)
   refine j_step rfl (x_bst_natA 0 ((((z1) + 18446744073709551616 - (c)) % 18446744073709551616) % 4294967296) rfl rfl rfl ld76 (by first | rfl | omega) (by first | omega | (simp;omega)) ?_)
   refine j_nf [_,_,_,_,_,_] rfl (j_run it 3 rfl (by simp) ?_)
   refine j_nf [_,_,_,_] rfl (j_run it 2 rfl ⟨trivial,⟨by omega,by omega⟩,trivial⟩ ?_)
   refine j_nfn 1 [.lp (pL 500),.blk 0,.c [1,1,1,1,1]] rfl ?_
   have hz1l : l[k]? = some z1:=by rw [← hdk];exact hz1
   obtain ⟨-,hle⟩:=borrow_word (y:=0) hc1 hlt1 (by decide) rfl
   have hst:=borrow_step (y:=0) he hc1 hlt1 (by decide) rfl
   have e0 : ((z1 + 18446744073709551616 - c) % 18446744073709551616 + 18446744073709551616 - 0) % 18446744073709551616 = (z1 + 18446744073709551616 - c) % 18446744073709551616:=by omega
   rw [e0] at hle hst
   generalize hD : (z1 + 18446744073709551616 - c) % 18446744073709551616 = D at hle hst ⊢
   refine j_to [0,1] (by exact fii rfl (by dsimp only;omega) (fcc rfl (fcc rfl (fcc rfl (fcc rfl (fcc rfl (fcc rfl (fzz _)))))))) rfl rfl (ih (k + 1,D / 9223372036854775808,out.set k (D % 4294967296)) (by simp only;omega) ⟨by simp only;omega,by simpa using hlo,hle,set_lt ho (by omega),by
    simp only
    rw [val_set_take (by omega),Nat.pow_succ,val_take_succ hz1l,take_ge (l:=b) (by omega)];exact hst,by simp only;rw [List.drop_set_of_lt (by omega)];exact hdk1⟩)
 ·have ek : k = l.length:=by omega
  subst ek
  have eo : out.take l.length = out:=by rw [← hlo,List.take_length]
  rw [eo,List.take_length,hv] at he
  have hc0 : c = 0 ∧ val (b.take l.length) = val b:=by
   have h1:=take_lt (k:=l.length) ho (by omega)
   rw [eo] at h1
   have hlen : b.length ≤ l.length ∨ l.length ≤ b.length:=Nat.le_total _ _
   have hA : val b = val (b.take l.length) + 4294967296 ^ l.length * val (b.drop l.length):=by
    rcases hlen with h | h
    ·rw [List.take_of_length_le h,List.drop_of_length_le h];simp [val]
    ·exact val_take_drop b _ h
   have hcA : 4294967296 ^ l.length * c ≤ val out + val (b.take l.length) - val a:=by omega
   generalize 4294967296 ^ l.length = P at *
   have hD : val (b.drop l.length) = 0:=by
    rcases Nat.eq_zero_or_pos (val (b.drop l.length)) with h | h
    ·exact h
    ·have : P * 1 ≤ P * val (b.drop l.length):=Nat.mul_le_mul_left _ h
     have : P * c ≤ P * 1:=Nat.mul_le_mul_left _ hc1
     omega
   rw [hD,Nat.mul_zero,Nat.add_zero] at hA
   refine ⟨?_,hA.symm⟩
   rcases Nat.eq_zero_or_pos c with h | h
   ·exact h
   ·have : P * 1 ≤ P * c:=Nat.mul_le_mul_left _ h
    omega
  obtain ⟨rfl,hvb⟩:=hc0
  have hres : val out = val a - val b:=by rw [hvb] at he;omega
  refine j_nf [_,_,_,_,_] rfl (j_run it 1 rfl (by simp) ?_)
  refine j_nf [_,_,_,_,_] rfl (j_if rfl rfl (fun h2=>by exfalso;omega) (fun h2=>?_))
  refine j_nf [_,_] rfl (j_run it 1 rfl (by simp) ?_)
  have hg2 : GrOk bo out.length cap 1 (natCells .u32 out++rest):=by
   rw [hlo]
   rcases hg with ⟨h1,h2,h3,h4⟩ | ⟨b',h1,h2,h3,h4⟩
   ·refine .inl ⟨h1,h2,h3,?_⟩
    have e1 : l = []:=List.eq_nil_of_length_eq_zero h2
    have e2 : out = []:=List.eq_nil_of_length_eq_zero (by omega)
    rw [e2];rw [e1] at h4;exact h4
   ·exact .inr ⟨b',h1,h2,h3,by simp at h4 ⊢;omega⟩
  rw [← hlo]
  refine j_pub_nat (n:=out.length) (cap:=cap) 4 out 0 rfl hg2 (by rw [List.take_append_of_le_length (by simp),natCells_take,List.take_length]) rfl (fun x hx=>by have:=ho x hx;simp only [InR];omega) (by omega) ?_
  refine j_step rfl (x_call [0] rfl (S_nat_short) rfl ?_)
  rintro _ _ _ ⟨rfl,rfl,rfl⟩
  simp only [List.cons_append,List.nil_append]
  refine j_run it 2 rfl (by simp) ?_
  refine j_nf [_] rfl ?_
  rw [trim_eq ho,hres]
  refine j_giv [0] rfl rfl rfl ⟨_,_,rfl,rfl,rfl⟩
set_option maxHeartbeats 2000000
theorem bitsL_zero {l : List Nat} (h : ∀ x ∈ l,x < 4294967296) : bitsL l = 0 ↔ val l = 0:=by
 have ht:=trim_eq h
 constructor
 ·intro h0
  rcases Nat.eq_zero_or_pos (trim l).length with h1 | h1
  ·have:=List.eq_nil_of_length_eq_zero h1
   rw [ht,limbs_nil] at this;exact this
  ·obtain ⟨k,hk⟩ : ∃ k,(trim l).length = k + 1:=⟨(trim l).length - 1,by omega⟩
   obtain ⟨t,hz,hz0⟩:=limbs_top (n:=val l) (k:=k) (by rw [← ht];exact hk)
   rw [← ht] at hz
   have h3:=bitsL_top (z:=t) (by rw [hk];exact hz)
   have:=blen_pos hz0
   omega
 ·intro h0
  exact bitsL_nil (by rw [ht,h0,limbs_zero];rfl)
abbrev ZV (z : Zs) : Value → List Fact → List Blk → Prop:=fun v Φ β=>∃ pa ca,v = .agg #[.bool z.1,.slice pa (limbs z.2).length ca] ∧ Φ = [slF U32 pa (limbs z.2).length ca (limbs z.2)] ∧ β = []
theorem S_macwilliams_plus {g1 g2 : Bool} {p1 p2 : Option Addr} {n1 n2 c1 c2 : Nat} {N1 N2 : List Nat} (l1 : N1.length ≤ 536870912) (l2 : N2.length ≤ 536870912) :
  Ctr Try.prog 82 [.agg #[.bool g1,.slice p1 n1 c1],.agg #[.bool g2,.slice p2 n2 c2]] [] [slF U32 p1 n1 c1 N1,slF U32 p2 n2 c2 N2] (ZV (plusZ (g1,val N1) (g2,val N2))):=by
 refine Ctr_of_j' (F:=F_macwilliams_plus) rfl fun C=>?_
 refine j_len 0 rfl fun hn hba _=>?_
 refine j_len 1 rfl fun hm hbb _=>?_
 subst hn;subst hm
 refine j_range 0 rfl fun hra=>?_
 refine j_range 1 rfl fun hrb=>?_
 refine j_nf [_,_] rfl ?_
 refine j_step rfl (x_box_agg rfl fun b1=>?_)
 refine j_step rfl (x_box_agg rfl fun b2=>?_)
 refine j_step rfl (x_alloc zo81 fun b3=>?_)
 refine j_nf [_,_,_] rfl ?_
 refine j_step rfl (x_field rfl fd81_0 ?_)
 refine j_step rfl (x_bld 2 rfl rfl ld4 rfl ?_)
 refine j_step rfl (x_field rfl fd81_0 ?_)
 refine j_step rfl (x_bld 1 rfl rfl ld4 rfl ?_)
 refine j_step rfl (x_eqb ub rfl rfl ?_)
 refine j_nf [_,_] rfl ?_
 refine j_cond rfl rfl (fun h1=>?_) (fun h1=>?_)
 ·have hg : g1 = g2:=by simpa using h1
  subst hg
  have e : plusZ (g1,val N1) (g1,val N2) = (g1,val N1 + val N2):=by simp [plusZ]
  have hL : ∀ l ∈ [N1,N2],l.length ≤ 1073741824:=fun l hl=>by
   rcases List.mem_cons.1 hl with rfl | hl
   ·omega
   ·rw [List.mem_singleton.1 hl];omega
  have es : sumV [N1,N2] = val N1 + val N2:=by simp [sumV]
  rw [e]
  refine j_nf [_,_,_] rfl ?_
  (apply j_drawK it mx 9;(· rfl);(· rfl))
  (apply lxk_eq;(· rfl);(· exact d_x fun _=>x_field rfl fd81_0 dk_eq))
  (apply lxk_eq;(· rfl);(· exact d_bld 2 rfl rfl ld4 rfl))
  (apply lxk_eq;(· rfl);(· exact d_x fun _=>x_field rfl fd81_1 dk_eq))
  (apply lxk_eq;(· rfl);(· exact d_bld 2 rfl rfl ld29 rfl))
  (apply lxk_eq;(· rfl);(· exact d_x fun _=>x_field rfl fd81_1 dk_eq))
  (apply lxk_eq;(· rfl);(· exact d_bld 1 rfl rfl ld29 rfl))
  (apply lxk_sl;(· rfl);(· exact d_x fun _=>x_lit sl33 zo33e rfl rfl rfl rfl (by decide) (by decide) rfl fun b4=>dk_all (E:=(encSl U32)) [[Value.slice p1 N1.length c1],[Value.slice p2 N2.length c2]] [N1,N2] (fun w A hG=>(allrd_cons (rd_of_slF (hG _ (fact_mem (n:=0) rfl))) (allrd_cons (rd_of_slF (hG _ (fact_mem (n:=1) rfl))) allrd_nil))) rfl rfl rfl (by first | decide | exact Nat.le_of_ble_eq_true rfl));intro pa1 ca1)
  (apply lxk_sl;(· rfl);(· exact d_x fun _=>x_call [0] rfl (S_nat_Add (by simp) (by omega)) rfl (by rintro _ _ _ ⟨pa2,ca2,rfl,rfl,rfl⟩;exact (dk_sl 0 rfl)));intro pa2 ca2)
  (apply lxk_fa (val:=fun g=>Value.agg #[Value.bool g1,Value.slice (g 1).1 ((limbs (sumV [N1,N2])).length) (g 1).2.1]) (f:=fun g=>[slF (U32) (g 1).1 ((limbs (sumV [N1,N2])).length) (g 1).2.1 (limbs (sumV [N1,N2]))]);(· rfl);(· exact d_x fun _=>x_build (cs:=[Value.bool g1,Value.slice pa2 (limbs (sumV [N1,N2])).length ca2]) st81 zo81 rfl rfl (fun _ _ _ hG=>⟨(fun | 1=>(pa2,ca2,0,[]) | _=>default),rfl,fun g hg=>by (simp only [List.mem_cons,List.not_mem_nil,or_false] at hg;rcases hg with rfl;(· exact drop_own (hG _ (fact_mem (n:=0) rfl))))⟩));intro g2;dsimp only [List.map_cons,List.map_nil])
  refine lxk_end rfl ?_
  simp only [List.map_cons,List.map_nil,List.cons_append,List.nil_append]
  refine j_step rfl (x_bst_all 0 rfl rfl rfl ld81 rfl rfl (by simp [Value.oneCell']) ?_)
  refine j_nf [_,_] rfl ?_
  rw [es]
  refine j_givC [0] rfl (.agg 0 rfl rfl ld81 rfl .nil) rfl ⟨_,_,rfl,rfl,rfl⟩
 ·have hg : g1 ≠ g2:=by simpa using h1
  by_cases hlt : val N1 < val N2
  ·have hc:=cmpN_lt hlt
   have hle : val N1 ≤ val N2:=by omega
   have e : plusZ (g1,val N1) (g2,val N2) = (g2,val N2 - val N1):=by simp [plusZ,hg,hlt]
   rw [e]
   refine j_nf [_,_,_] rfl ?_
   refine j_step rfl (x_field rfl fd81_1 ?_)
   refine j_step rfl (x_bld 2 rfl rfl ld29 rfl ?_)
   refine j_step rfl (x_field rfl fd81_1 ?_)
   refine j_step rfl (x_bld 1 rfl rfl ld29 rfl ?_)
   refine j_step rfl (x_call [0,1] rfl (S_nat_Cmp) rfl ?_)
   rintro _ _ _ ⟨rfl,rfl,rfl⟩
   simp only [List.cons_append,List.nil_append]
   refine j_run it 1 rfl (by simp) ?_
   refine j_nf [_,_] rfl ?_
   refine j_if rfl rfl (fun h2=>?_) (fun h2=>by exfalso;omega)
   refine j_nf [_,_] rfl ?_
   refine j_step rfl (x_bld_all 1 rfl rfl ld81 rfl ?_)
   refine j_step rfl (x_bld_all 2 rfl rfl ld81 rfl ?_)
   refine j_step rfl (x_bst_all 2 rfl rfl rfl ld81 rfl rfl (by simp [Value.oneCell']) ?_)
   refine j_step rfl (x_bst_all 1 rfl rfl rfl ld81 rfl rfl (by simp [Value.oneCell']) ?_)
   refine j_nf [_,_] rfl ?_
   refine j_step rfl (x_field rfl fd81_1 ?_)
   refine j_step rfl (x_bld 2 rfl rfl ld29 rfl ?_)
   refine j_step rfl (x_field rfl fd81_1 ?_)
   refine j_step rfl (x_bld 1 rfl rfl ld29 rfl ?_)
   refine j_step rfl (x_call [1,0] rfl (S_nat_Sub (by omega)) rfl ?_)
   rintro _ _ _ ⟨pa1,ca1,rfl,rfl,rfl⟩
   simp only [List.cons_append,List.nil_append]
   refine j_run it 5 rfl (by simp) ?_
   refine j_nf [_,_] rfl ?_
   refine j_step rfl (x_field rfl fd81_0 ?_)
   refine j_step rfl (x_bld 2 rfl rfl ld4 rfl ?_)
   refine j_run it 1 rfl (by simp) ?_
   refine j_step rfl (x_build (cs:=[Value.bool g2,Value.slice pa1 (limbs (val N2 - val N1)).length ca1]) st81 zo81 rfl rfl ?_)
   refine j_step rfl (x_bst_all 0 rfl rfl rfl ld81 rfl rfl (by simp [Value.oneCell']) ?_)
   refine j_nf [_] rfl ?_
   refine j_givC [0] rfl (.agg 0 rfl rfl ld81 rfl .nil) rfl ⟨_,_,rfl,rfl,rfl⟩
  ·have hc : ¬ cmpN (val N1) (val N2) < 0:=by unfold cmpN;split <;> (try split) <;> omega
   have hle : val N2 ≤ val N1:=by omega
   have e : plusZ (g1,val N1) (g2,val N2) = (g1,val N1 - val N2):=by simp [plusZ,hg,hlt]
   rw [e]
   refine j_nf [_,_,_] rfl ?_
   refine j_step rfl (x_field rfl fd81_1 ?_)
   refine j_step rfl (x_bld 2 rfl rfl ld29 rfl ?_)
   refine j_step rfl (x_field rfl fd81_1 ?_)
   refine j_step rfl (x_bld 1 rfl rfl ld29 rfl ?_)
   refine j_step rfl (x_call [0,1] rfl (S_nat_Cmp) rfl ?_)
   rintro _ _ _ ⟨rfl,rfl,rfl⟩
   simp only [List.cons_append,List.nil_append]
   refine j_run it 1 rfl (by simp) ?_
   refine j_nf [_,_] rfl ?_
   refine j_if rfl rfl (fun h2=>by exfalso;omega) (fun h2=>?_)
   refine j_nf [_,_] rfl ?_
   refine j_step rfl (x_field rfl fd81_1 ?_)
   refine j_step rfl (x_bld 2 rfl rfl ld29 rfl ?_)
   refine j_step rfl (x_field rfl fd81_1 ?_)
   refine j_step rfl (x_bld 1 rfl rfl ld29 rfl ?_)
   refine j_step rfl (x_call [0,1] rfl (S_nat_Sub (by omega)) rfl ?_)
   rintro _ _ _ ⟨pa1,ca1,rfl,rfl,rfl⟩
   simp only [List.cons_append,List.nil_append]
   refine j_run it 5 rfl (by simp) ?_
   refine j_nf [_,_] rfl ?_
   refine j_step rfl (x_field rfl fd81_0 ?_)
   refine j_step rfl (x_bld 2 rfl rfl ld4 rfl ?_)
   refine j_run it 1 rfl (by simp) ?_
   refine j_step rfl (x_build (cs:=[Value.bool g1,Value.slice pa1 (limbs (val N1 - val N2)).length ca1]) st81 zo81 rfl rfl ?_)
   refine j_step rfl (x_bst_all 0 rfl rfl rfl ld81 rfl rfl (by simp [Value.oneCell']) ?_)
   refine j_nf [_] rfl ?_
   refine j_givC [0] rfl (.agg 0 rfl rfl ld81 rfl .nil) rfl ⟨_,_,rfl,rfl,rfl⟩
theorem S_macwilliams_minus {g1 g2 : Bool} {p1 p2 : Option Addr} {n1 n2 c1 c2 : Nat} {N1 N2 : List Nat} (l1 : N1.length ≤ 536870912) (l2 : N2.length ≤ 536870912) :
  Ctr Try.prog 105 [.agg #[.bool g1,.slice p1 n1 c1],.agg #[.bool g2,.slice p2 n2 c2]] [] [slF U32 p1 n1 c1 N1,slF U32 p2 n2 c2 N2] (ZV (minusZ (g1,val N1) (g2,val N2))):=by
 refine Ctr_of_j' (F:=F_macwilliams_minus) rfl fun C=>?_
 refine j_nf [_,_] rfl (j_step rfl (x_box_agg rfl fun b1=>?_))
 refine j_step rfl (x_box_agg rfl fun b2=>?_)
 refine j_step rfl (x_alloc zo81 fun b3=>?_)
 refine j_nf [_,_] rfl (j_step rfl (x_bld_all 2 rfl rfl ld81 rfl ?_))
 refine j_step rfl (x_field rfl fd81_0 ?_)
 refine j_step rfl (x_bld 1 rfl rfl ld4 rfl ?_)
 refine j_run it 1 rfl (by simp) ?_
 refine j_step rfl (x_field rfl fd81_1 ?_)
 refine j_step rfl (x_bld 1 rfl rfl ld29 rfl ?_)
 refine j_step rfl (x_build (cs:=[Value.bool !g2,Value.slice p2 n2 c2]) st81 zo81 rfl rfl ?_)
 refine j_step rfl (x_call [0,1] rfl (S_macwilliams_plus (by omega) (by omega)) rfl ?_)
 rintro _ _ _ ⟨pa1,ca1,rfl,rfl,rfl⟩
 simp only [List.cons_append,List.nil_append]
 refine j_step rfl (x_bst_all 0 rfl rfl rfl ld81 rfl rfl (by simp [Value.oneCell']) ?_)
 refine j_nf [_] rfl ?_
 refine j_givC [0] rfl (.agg 0 rfl rfl ld81 rfl .nil) rfl ⟨_,_,rfl,rfl,rfl⟩
theorem S_macwilliams_times {g1 g2 : Bool} {p1 p2 : Option Addr} {n1 n2 c1 c2 : Nat} {N1 N2 : List Nat} (l1 : N1.length ≤ 536870912) (l2 : N2.length ≤ 536870912) :
  Ctr Try.prog 83 [.agg #[.bool g1,.slice p1 n1 c1],.agg #[.bool g2,.slice p2 n2 c2]] [] [slF U32 p1 n1 c1 N1,slF U32 p2 n2 c2 N2] (ZV (timesZ (g1,val N1) (g2,val N2))):=by
 refine Ctr_of_j' (F:=F_macwilliams_times) rfl fun C=>?_
 have hL : lenS [N1,N2] ≤ 1073741824:=by simp [lenS];omega
 have es : prodV [N1,N2] = val N1 * val N2:=by simp [prodV]
 have e : timesZ (g1,val N1) (g2,val N2) = (g1 != g2,val N1 * val N2):=rfl
 rw [e]
 refine j_nf [_,_] rfl ?_
 refine j_step rfl (x_box_agg rfl fun b1=>?_)
 refine j_step rfl (x_box_agg rfl fun b2=>?_)
 refine j_step rfl (x_alloc zo81 fun b3=>?_)
 refine j_nf [_,_] rfl ?_
 (apply j_drawK it mx 12;(· rfl);(· rfl))
 (apply lxk_eq;(· rfl);(· exact d_x fun _=>x_field rfl fd81_0 dk_eq))
 (apply lxk_eq;(· rfl);(· exact d_bld 2 rfl rfl ld4 rfl))
 (apply lxk_eq;(· rfl);(· exact d_x fun _=>x_field rfl fd81_0 dk_eq))
 (apply lxk_eq;(· rfl);(· exact d_bld 1 rfl rfl ld4 rfl))
 (apply lxk_eq;(· rfl);(· exact d_x fun _=>x_neb ub rfl rfl dk_eq))
 (apply lxk_eq;(· rfl);(· exact d_x fun _=>x_field rfl fd81_1 dk_eq))
 (apply lxk_eq;(· rfl);(· exact d_bld 2 rfl rfl ld29 rfl))
 (apply lxk_eq;(· rfl);(· exact d_x fun _=>x_field rfl fd81_1 dk_eq))
 (apply lxk_eq;(· rfl);(· exact d_bld 1 rfl rfl ld29 rfl))
 (apply lxk_sl;(· rfl);(· exact d_x fun _=>x_lit sl33 zo33e rfl rfl rfl rfl (by decide) (by decide) rfl fun b4=>dk_all (E:=(encSl U32)) [[Value.slice p1 n1 c1],[Value.slice p2 n2 c2]] [N1,N2] (fun w A hG=>(allrd_cons (rd_of_slF (hG _ (fact_mem (n:=0) rfl))) (allrd_cons (rd_of_slF (hG _ (fact_mem (n:=1) rfl))) allrd_nil))) rfl rfl rfl (by first | decide | exact Nat.le_of_ble_eq_true rfl));intro pa1 ca1)
 (apply lxk_sl;(· rfl);(· exact d_x fun _=>x_call [0] rfl (S_nat_Mul (by omega)) rfl (by rintro _ _ _ ⟨pa2,ca2,rfl,rfl,rfl⟩;exact (dk_sl 0 rfl)));intro pa2 ca2)
 (apply lxk_fa (val:=fun g=>Value.agg #[Value.bool (g1 != g2),Value.slice (g 1).1 ((limbs (prodV [N1,N2])).length) (g 1).2.1]) (f:=fun g=>[slF (U32) (g 1).1 ((limbs (prodV [N1,N2])).length) (g 1).2.1 (limbs (prodV [N1,N2]))]);(· rfl);(· exact d_x fun _=>x_build (cs:=[Value.bool (g1 != g2),Value.slice pa2 (limbs (prodV [N1,N2])).length ca2]) st81 zo81 rfl rfl (fun _ _ _ hG=>⟨(fun | 1=>(pa2,ca2,0,[]) | _=>default),rfl,fun g hg=>by (simp only [List.mem_cons,List.not_mem_nil,or_false] at hg;rcases hg with rfl;(· exact drop_own (hG _ (fact_mem (n:=0) rfl))))⟩));intro g3;dsimp only [List.map_cons,List.map_nil])
 refine lxk_end rfl ?_
 simp only [List.map_cons,List.map_nil,List.cons_append,List.nil_append]
 refine j_step rfl (x_bst_all 0 rfl rfl rfl ld81 rfl rfl (by simp [Value.oneCell']) ?_)
 refine j_nf [_] rfl ?_
 rw [es]
 refine j_givC [0] rfl (.agg 0 rfl rfl ld81 rfl .nil) rfl ⟨_,_,rfl,rfl,rfl⟩
theorem S_macwilliams_small {n : Nat} (hn : n < 9223372036854775808) : Ctr Try.prog 104 [.int .i64 n] [] [] (ZV (false,n)):=by
 refine Ctr_of_j' (F:=F_macwilliams_small) rfl fun C=>?_
 refine j_nf [_,_] rfl (j_step rfl (x_alloc zo81 fun b1=>?_))
 refine j_nf [_,_] rfl (j_run it 2 rfl ⟨⟨by omega,by omega⟩,trivial,trivial⟩ ?_)
 refine j_step rfl (x_call [] rfl (S_nat_Of (by omega)) rfl ?_)
 rintro _ _ _ ⟨pa1,ca1,rfl,rfl,rfl⟩
 simp only [List.cons_append,List.nil_append]
 refine j_step rfl (x_build (cs:=[Value.bool false,Value.slice pa1 (limbs n).length ca1]) st81 zo81 rfl rfl ?_)
 refine j_step rfl (x_bst_all 0 rfl rfl rfl ld81 rfl rfl (by simp [Value.oneCell']) ?_)
 refine j_nf [_] rfl ?_
 refine j_givC [0] rfl (.agg 0 rfl rfl ld81 rfl .nil) rfl ⟨_,_,rfl,rfl,rfl⟩
set_option maxHeartbeats 4000000
def rowT (q n x : Nat) : List (Bool × List Nat):=(List.range (n + 1)).map fun k=>enz (tz q n x k)
def tabT (q n : Nat) : List (List (Bool × List Nat)):=(List.range (n + 1)).map (rowT q n)
theorem rowT_len (q n x : Nat) : (rowT q n x).length = n + 1:=by simp [rowT]
theorem tabT_len (q n : Nat) : (tabT q n).length = n + 1:=by simp [tabT]
theorem S_macwilliams_table {q n : Nat} (hq : 2 ≤ q) (hq2 : q ≤ 256) (hn : n ≤ 64) : Ctr Try.prog 81 [.int .i64 q,.int .i64 n] [] [] (Sv (encSl IntE) (tabT q n)):=by
 refine Ctr_of_j' (F:=F_macwilliams_table) rfl fun C=>?_
 have hB:=fun k=>binom_len (show n ≤ 4096 by omega) k
 have hq1 : val (limbs (q - 1)) = q - 1:=val_limbs _
 have hq3 : val (limbs (q - 1)) < 4294967296:=by omega
 refine j_nf [_,_] rfl ?_
 refine j_run it 1 rfl (by simp) ?_
 refine j_nf [_,_] rfl ?_
 refine j_run it 2 rfl ⟨⟨by omega,by omega⟩,trivial,trivial⟩ ?_
 refine j_step rfl (x_makeR IntE default ((n) + 1) _ rfl rfl sl79 zo79e rfl rfl by79e (by omega) (by omega) (by omega) rz81 fun b1 cs1=>?_)
 refine j_run it 1 rfl (by simp) ?_
 refine j_nf [_,_,_] rfl ?_
 refine j_run it 1 rfl (by simp) ?_
 refine j_step rfl (x_len sl79 rfl ?_)
 refine j_run it 1 rfl (by simp) ?_
 refine j_nf [_,_,_] rfl ?_
 rw [← mapTo_zero (fun k=>enz (tz q n 0 k))]
 refine j_loopG (X:=Nat × List Value) [0,1,4,5,20] [] (fun x=>[(21,.int .i64 x.1)]) (fun x=>[(some b1,81,x.2)]) (fun x=>[rowF IntE ⟨some b1,n + 1,x.2⟩ (n + 1) (mapTo (fun k=>enz (tz q n 0 k)) default (n + 1) x.1)])
  (fun x=>x.1 ≤ n + 1) (fun x=>n + 1 - x.1) (0,cs1) [0] rfl rfl rfl (Nat.zero_le _) (by repeat (first | exact Fr.sub_nil _ | refine Fr.sub_cons rfl ?_)) rfl rfl ?_
 rintro ⟨k,cs⟩ hk ih
 simp only [List.cons_append,List.nil_append] at hk ih ⊢
 by_cases hkl : k < n + 1
 ·have hBk:=hB k
  have hp : (limbs (val (limbs (q - 1)) ^ k)).length ≤ 64 + 1:=by
   refine limbs_length_le ?_
   have h1 : val (limbs (q - 1)) ^ k ≤ 4294967296 ^ k:=Nat.pow_le_pow_left (Nat.le_of_lt hq3) k
   have h2 : (4294967296 : Nat) ^ k ≤ 4294967296 ^ 64:=Nat.pow_le_pow_right (by decide) (by omega)
   have h3 : (4294967296 : Nat) ^ 64 < 4294967296 ^ (64 + 1):=Nat.pow_lt_pow_right (by decide) (by decide)
   exact Nat.lt_of_le_of_lt (Nat.le_trans h1 h2) h3
  have hL : lenS [limbs (binom n k),limbs (val (limbs (q - 1)) ^ k)] ≤ 1073741824:=by simp [lenS];omega
  refine j_nf [_,_,_,_,_] rfl ?_
  refine j_run it 1 rfl (by simp) ?_
  refine j_nf [_,_,_,_,_] rfl ?_
  refine j_if rfl rfl (fun h1=>?_) (fun h1=>by exfalso;omega)
  refine j_nf [_,_,_,_,_,_,_] rfl ?_
  refine j_run it 2 rfl (by simp) ?_
  refine j_nf [_,_,_,_,_,_,_] rfl ?_
  refine j_run it 2 rfl (by simp) ?_
  refine j_step rfl (x_call [] rfl (S_nat_Binomial (by omega)) rfl ?_)
  rintro _ _ _ ⟨pa1,ca1,rfl,rfl,rfl⟩
  simp only [List.cons_append,List.nil_append]
  refine j_run it 5 rfl (by simp) ?_
  refine j_nf [_,_,_,_,_,_,_] rfl ?_
  refine j_run it 3 rfl ⟨⟨by omega,by omega⟩,⟨by omega,by omega⟩,trivial,trivial⟩ ?_
  refine j_recast (t:=33) ((((q) - 1) : Nat) : Int) rfl (by omega) ?_
  refine j_step rfl (x_call [] rfl (S_nat_Of (by omega)) rfl ?_)
  rintro _ _ _ ⟨pa2,ca2,rfl,rfl,rfl⟩
  simp only [List.cons_append,List.nil_append]
  refine j_run it 1 rfl (by simp) ?_
  refine j_step rfl (x_call [0] rfl (S_nat_Pow (by omega) (by omega)) rfl ?_)
  rintro _ _ _ ⟨pa3,ca3,rfl,rfl,rfl⟩
  simp only [List.cons_append,List.nil_append]
  refine j_run it 5 rfl (by simp) ?_
  refine j_nf [_,_,_,_,_,_] rfl ?_
  refine j_run it 4 rfl (by simp) ?_
  refine j_step rfl (x_lit sl33 zo33e rfl rfl rfl rfl (by decide) (by decide) rfl fun b2=>?_)
  refine j_pub_all (E:=(encSl U32)) (n:=2) [[Value.slice pa1 (limbs (binom n k)).length ca1],[Value.slice pa3 (limbs (val (limbs (q - 1)) ^ k)).length ca3]] [limbs (binom n k),limbs (val (limbs (q - 1)) ^ k)] 0 (fun w A hG=>(allrd_cons (rd_of_slF (hG _ (fact_mem (n:=2) rfl))) (allrd_cons (rd_of_slF (hG _ (fact_mem (n:=0) rfl))) allrd_nil))) rfl rfl rfl rfl (by first | decide | exact Nat.le_of_ble_eq_true rfl) (by first | decide | exact Nat.le_of_ble_eq_true rfl) ?_
  refine j_step rfl (x_call [0] rfl (S_nat_Mul (by omega)) rfl ?_)
  rintro _ _ _ ⟨pa4,ca4,rfl,rfl,rfl⟩
  simp only [List.cons_append,List.nil_append]
  refine j_step rfl (x_build (cs:=[Value.bool false,Value.slice pa4 (limbs (prodV [limbs (binom n k),limbs (val (limbs (q - 1)) ^ k)])).length ca4]) st81 zo81 rfl rfl ?_)
  refine j_step rfl (x_idx_own (k) _ rfl rfl sl79 rfl (by omega) rfl ?_)
  refine j_step rfl (x_stR (vs:=[Value.bool false,Value.slice pa4 (limbs (prodV [limbs (binom n k),limbs (val (limbs (q - 1)) ^ k)])).length ca4]) (z:=(false,limbs (prodV [limbs (binom n k),limbs (val (limbs (q - 1)) ^ k)]))) 0 5 (k) rfl rfl rfl rfl rfl ld81 rfl (by omega) (fun w A hG=>(rd_pair (v1:=[Value.bool false]) (rd_bool _) (rd_of_slF (hG _ (fact_mem (n:=0) rfl))))) fun cs2=>?_)
  refine j_nf [_,_,_,_] rfl ?_
  refine j_run it 2 rfl ⟨trivial,⟨by omega,by omega⟩,trivial⟩ ?_
  refine j_nfn 1 [.lp (pL 116),.blk 0,.c [1,1,1]] rfl ?_
  have e : (false,limbs (prodV [limbs (binom n k),limbs (val (limbs (q - 1)) ^ k)])) = enz (tz q n 0 k):=by simp [prodV,hq1,val_limbs,enz,tz]
  rw [e,mapTo_set (fun k=>enz (tz q n 0 k))]
  refine j_to [0] (by exact fra rfl) rfl rfl (ih (k + 1,cs2) (by dsimp only;omega) (by dsimp only;omega))
 ·have ek : k = n + 1:=by omega
  subst ek
  rw [mapTo_all]
  refine j_nf [_,_,_,_,_] rfl ?_
  refine j_run it 1 rfl (by simp) ?_
  refine j_nf [_,_,_,_,_] rfl ?_
  refine j_if rfl rfl (fun h1=>by exfalso;omega) (fun h1=>?_)
  refine j_nf [_,_] rfl ?_
  refine j_run it 1 rfl (by simp) ?_
  refine j_step rfl (x_lit sl108 zo108e rfl rfl rfl rfl (by decide) (by decide) rfl fun b2=>?_)
  refine j_run it 1 rfl (by simp) ?_
  refine j_nf [_,_] rfl ?_
  refine j_run it 2 rfl ⟨⟨by omega,by omega⟩,trivial,trivial⟩ ?_
  refine j_recast (t:=51) ((((q) - 1) : Nat) : Int) rfl (by omega) ?_
  refine j_step rfl (x_call [] rfl (S_macwilliams_small (by omega)) rfl ?_)
  rintro _ _ _ ⟨pa1,ca1,rfl,rfl,rfl⟩
  simp only [List.cons_append,List.nil_append]
  refine j_step rfl (x_alloc zo81 fun b3=>?_)
  refine j_step rfl (x_bst_all 0 rfl rfl rfl ld81 rfl rfl (by simp [Value.oneCell']) ?_)
  refine j_nf [_,_,_] rfl ?_
  refine j_run it 2 rfl (by simp) ?_
  refine j_nf [_,_,_] rfl ?_
  refine j_pubR 2 1 rfl rfl (by show (n + 1) * 32 ≤ 140737488355328;omega) ?_
  refine j_rowlit (E:=encSl IntE) (n:=1) [[.slice (some ⟨b1,0,none⟩) (n + 1) (n + 1)]] [rowT q n 0] 1 (fun w A hG=>allrd_cons (rd_of_slF (hG _ (fact_mem (n:=0) rfl))) allrd_nil) rfl rfl rfl rfl (by decide) ?_
  refine j_loopG (X:=Nat × Row) [1,4,12,53] [2] (fun x=>[(11,.slice (ad x.2.bo) (x.1 + 1) x.2.cap),(54,.int .i64 x.1)]) (fun x=>[(some b3,81,[.bool false,.slice pa1 (limbs (q - 1)).length ca1]),(x.2.bo,79,x.2.cs)])
   (fun x=>[rowF (encSl IntE) x.2 (x.1 + 1) ((List.range (x.1 + 1)).map (rowT q n))])
   (fun x=>x.1 ≤ n) (fun x=>n - x.1) (0,⟨some b2,1,[.slice (some ⟨b1,0,none⟩) (n + 1) (n + 1)]⟩) [0] rfl rfl rfl (Nat.zero_le _) (by repeat (first | exact Fr.sub_nil _ | refine Fr.sub_cons rfl ?_)) rfl rfl ?_
  rintro ⟨x,r⟩ hx ih
  simp only [List.cons_append,List.nil_append] at hx ih ⊢
  by_cases hxl : x < n
  ·refine j_nf [_,_,_,_,_] rfl ?_
   refine j_run it 1 rfl (by simp) ?_
   refine j_nf [_,_,_,_,_] rfl ?_
   refine j_if rfl rfl (fun h2=>?_) (fun h2=>by exfalso;omega)
   refine j_nf [_,_,_,_,_,_,_] rfl ?_
   refine j_run it 2 rfl (by simp) ?_
   refine j_step rfl (x_len sl108 rfl ?_)
   refine j_run it 1 rfl ⟨⟨by omega,by omega⟩,trivial⟩ ?_
   refine j_rowB 0 rfl (by omega) fun b4 cap1 cs2 hr1=>?_
   subst hr1
   dsimp only
   refine j_step rfl (x_idx_own ((x + 1) - 1) ((x + 1) - 1) rfl rfl sl108 (by omega) (by omega) (Nat.mul_one _) ?_)
   refine j_step rfl (x_ldR_sl 1 0 (x + 1 - 1) rfl rfl rfl ld79 rfl (by omega) fun z1 hz1 pa2 ca2=>?_)
   refine j_run it 1 rfl (by simp) ?_
   refine j_nf [_,_,_,_,_,_,_] rfl ?_
   refine j_run it 1 rfl (by simp) ?_
   refine j_step rfl (x_idx 0 0 rfl rfl rfl sl79 (by omega) ?_ fun z2 hz2 b5 o1=>?_) --ok
   ·have : z1.length = n + 1:=by
     rw [Nat.add_sub_cancel,range_get (rowT q n) (by omega)] at hz1
     rw [← Option.some.inj hz1,rowT_len]
    omega
   rw [Nat.add_sub_cancel,range_get (rowT q n) (by omega)] at hz1
   obtain rfl:=Option.some.inj hz1
   refine j_step rfl (x_ld_vw vw_IntE 0 rfl rfl ld81 fun g1=>?_)
   dsimp only [vw_IntE,List.cons_append,List.nil_append,List.map_cons,List.map_nil]
   refine j_step rfl (x_lit sl79 zo79e rfl rfl rfl rfl (by decide) (by decide) rfl fun b6=>?_)
   refine j_run it 1 rfl (by simp) ?_
   refine j_nf [_,_,_,_,_,_,_,_] rfl ?_
   refine j_run it 1 rfl (by simp) ?_
   refine j_nf [_,_,_,_,_,_,_,_] rfl ?_
   refine j_rowlit (E:=IntE) (n:=1) [[.bool z2.1,.slice (g1 0).1 z2.2.length (g1 0).2.1]] [z2] 0 (fun w A hG=>allrd_cons (rd_pair (v1:=[.bool z2.1]) (rd_bool _) (rd_of_slF (hG _ (fact_mem (n:=0) rfl)))) allrd_nil) rfl rfl rfl rfl (by decide) ?_
   have ez : [z2] = (List.range 1).map fun k=>enz (tz q n (x + 1) k):=by
    rw [rowT,range_get _ (by omega)] at hz2
    rw [← Option.some.inj hz2];rfl
   rw [ez]
   refine j_loopG (X:=Nat × Row) [1,4,11,12,13,53,54,55,56,57,58,59,60,61,62,63,64,65] [0,1,2,3,4,5] (fun y=>[(14,.slice (ad y.2.bo) y.1 y.2.cap),(15,.int .i64 y.1)]) (fun y=>[(y.2.bo,81,y.2.cs),(some b3,81,[.bool false,.slice pa1 (limbs (q - 1)).length ca1]),(some b4,79,cs2)])
    (fun y=>[rowF IntE y.2 y.1 ((List.range y.1).map fun k=>enz (tz q n (x + 1) k))])
    (fun y=>1 ≤ y.1 ∧ y.1 ≤ n + 1) (fun y=>n + 1 - y.1) (1,⟨some b6,1,[.bool z2.1,.slice (g1 0).1 z2.2.length (g1 0).2.1]⟩) [0] rfl rfl rfl ⟨Nat.le_refl _,by dsimp only;omega⟩ (by repeat (first | exact Fr.sub_nil _ | refine Fr.sub_cons rfl ?_)) rfl rfl ?_
   rintro ⟨k,r⟩ ⟨hk1,hk2⟩ ihk
   simp only [List.cons_append,List.nil_append] at hk1 hk2 ihk ⊢
   obtain ⟨k,rfl⟩ : ∃ k',k = k' + 1:=⟨k - 1,by omega⟩
   by_cases hkl : k + 1 ≤ n
   ·refine j_rowB 0 rfl (by omega) fun b7 cap7 cs7 hr=>?_
    subst hr
    dsimp only
    have hrl:=rowT_len q n x
    have hz3 : ((List.range (k + 1)).map fun k=>enz (tz q n (x + 1) k))[k + 1 - 1]? = some (enz (tz q n (x + 1) (k + 1 - 1))):=range_get _ (by omega)
    have eA : (rowT q n x).getD (k + 1) default = enz (tz q n x (k + 1)):=range_getD _ _ (by omega)
    have eB : (rowT q n x).getD (k + 1 - 1) default = enz (tz q n x (k + 1 - 1)):=range_getD _ _ (by omega)
    have eB' : (rowT q n x).getD k default = enz (tz q n x k):=range_getD _ _ (by omega)
    have hA : ((rowT q n x).getD (k + 1) default).2.length ≤ 17:=by rw [eA];exact tz_len hq hq2 hn hx _
    have hA' : ((rowT q n x).getD (k + 1 - 1) default).2.length ≤ 17:=by rw [eB];exact tz_len hq hq2 hn hx _
    have hA3 : ((rowT q n x).getD k default).2.length ≤ 17:=by rw [eB'];exact tz_len hq hq2 hn hx _
    have hN : (enz (tz q n (x + 1) (k + 1 - 1))).2.length ≤ 17:=tz_len hq hq2 hn (by omega) _
    have hF : (limbs (q - 1)).length ≤ 1:=limbs_length_le (by omega)
    have hP : (4294967296 : Nat) ^ 18 = 4294967296 ^ 17 * 4294967296:=Nat.pow_succ ..
    have t1:=tz_lt hq hq2 hn hx (k + 1) (Nat.le_refl 17)
    have t2:=tz_lt hq hq2 hn hx (k + 1 - 1) (Nat.le_refl 17)
    have t3:=tz_lt hq hq2 hn (show x + 1 ≤ n by omega) (k + 1 - 1) (Nat.le_refl 17)
    have hM1 : (limbs (minusZ (((rowT q n x).getD (k + 1) default).1,val ((rowT q n x).getD (k + 1) default).2) (((rowT q n x).getD (k + 1 - 1) default).1,val ((rowT q n x).getD (k + 1 - 1) default).2)).2).length ≤ 18:=by
     rw [eA,eB,val_enz,val_enz]
     refine limbs_length_le ?_
     have:=minusZ_le (tz q n x (k + 1)) (tz q n x (k + 1 - 1))
     rw [hP]
     generalize (4294967296 : Nat) ^ 17 = P at *
     omega
    have hM3 : (limbs (minusZ (((rowT q n x).getD (k + 1) default).1,val ((rowT q n x).getD (k + 1) default).2) (((rowT q n x).getD k default).1,val ((rowT q n x).getD k default).2)).2).length ≤ 18:=hM1
    have hM2 : (limbs (timesZ (false,val (limbs (q - 1))) ((enz (tz q n (x + 1) (k + 1 - 1))).1,val (enz (tz q n (x + 1) (k + 1 - 1))).2)).2).length ≤ 18:=by
     rw [hq1,val_enz]
     refine limbs_length_le ?_
     rw [hP]
     show (q - 1) * (tz q n (x + 1) (k + 1 - 1)).2 < _
     rw [Nat.mul_comm]
     exact Nat.mul_lt_mul'' t3 (by omega)
    refine j_nf [_,_,_,_,_,_,_,_,_,_,_] rfl ?_
    refine j_run it 3 rfl (by simp) ?_
    refine j_nf [_,_,_,_,_,_,_,_,_,_] rfl ?_
    refine j_if rfl rfl (fun h3=>?_) (fun h3=>by exfalso;omega)
    refine j_nf [_,_,_,_,_,_,_,_,_,_,_] rfl ?_
    (apply j_drawK it mx 20;(· rfl);(· rfl))
    (apply lxk_run 3;(· rfl);(· simp))
    (apply lxk_pt;(· rfl);(· exact d_x fun _=>x_idx 4 (k + 1) rfl rfl rfl sl79 rfl (by omega) fun z1 hz4 b8 o2=>(dk_ptD default hz4 0 rfl));intro b8 o2)
    (apply lxk_vw vw_IntE;(· rfl);(· exact d_x fun _=>x_ld_vw vw_IntE 0 rfl rfl ld81 fun _=>dk_vw _);intro g2)
    dsimp only [vw_IntE,List.cons_append,List.nil_append,List.map_cons,List.map_nil]
    (apply lxk_run 2;(· rfl);(· simp))
    (apply lxk_eq (v:=Value.int IntKind.i64 ((((k + 1) - 1 : Nat)) : Int));(· rfl);(· exact d_x fun _=>x_asN it _ rfl ⟨by omega,by omega⟩ (by omega) dk_eq))
    simp only [Nat.add_sub_cancel]
    (apply lxk_pt;(· rfl);(· exact d_x fun _=>x_idx 4 (k) rfl rfl rfl sl79 rfl (by omega) fun z1 hz4 b9 o3=>(dk_ptD default hz4 0 rfl));intro b9 o3)
    (apply lxk_vw vw_IntE;(· rfl);(· exact d_x fun _=>x_ld_vw vw_IntE 0 rfl rfl ld81 fun _=>dk_vw _);intro g3)
    dsimp only [vw_IntE,List.cons_append,List.nil_append,List.map_cons,List.map_nil]
    (apply lxk_fa (val:=(fun g=>Value.agg #[Value.bool (minusZ (((rowT q n x).getD (k + 1) default).fst,val ((rowT q n x).getD (k + 1) default).snd) (((rowT q n x).getD k default).fst,val ((rowT q n x).getD k default).snd)).fst,Value.slice (g 0).fst (limbs (minusZ (((rowT q n x).getD (k + 1) default).fst,val ((rowT q n x).getD (k + 1) default).snd) (((rowT q n x).getD k default).fst,val ((rowT q n x).getD k default).snd)).snd).length (g 1).snd.fst])) (f:=(fun g=>[slF U32 (g 0).fst (limbs (minusZ (((rowT q n x).getD (k + 1) default).fst,val ((rowT q n x).getD (k + 1) default).snd) (((rowT q n x).getD k default).fst,val ((rowT q n x).getD k default).snd)).snd).length (g 1).snd.fst (limbs (minusZ (((rowT q n x).getD (k + 1) default).fst,val ((rowT q n x).getD (k + 1) default).snd) (((rowT q n x).getD k default).fst,val ((rowT q n x).getD k default).snd)).snd)]));(· rfl);(· exact d_x fun _=>x_call [2,0] rfl (S_macwilliams_minus (by omega) (by omega)) rfl (by rintro _ _ _ ⟨pag0,cag1,rfl,rfl,rfl⟩;exact fun _ _ _ hG=>⟨(fun | 0=>(pag0,0,0,[]) | 1=>(none,cag1,0,[]) | _=>default),rfl,fun g hg=>drop_own (hG _ (List.mem_append_left _ hg))⟩));intro g4;dsimp only [List.map_cons,List.map_nil])
    (apply lxk_eq;(· rfl);(· exact d_bld_all 1 rfl rfl ld81 rfl))
    (apply lxk_run 2;(· rfl);(· simp))
    (apply lxk_eq (v:=Value.int IntKind.i64 ((((k + 1) - 1 : Nat)) : Int));(· rfl);(· exact d_x fun _=>x_asN it _ rfl ⟨by omega,by omega⟩ (by omega) dk_eq))
    simp only [Nat.add_sub_cancel]
    (apply lxk_eq;(· rfl);(· exact d_x fun _=>x_idx_own (k) _ rfl rfl sl79 rfl (by omega) rfl dk_eq))
    (apply lxk_vw vw_IntE;(· rfl);(· exact d_ldR_vw vw_IntE 0 0 (k) rfl rfl rfl ld81 rfl (by assumption));intro g5)
    dsimp only [vw_IntE,List.cons_append,List.nil_append,List.map_cons,List.map_nil]
    (apply lxk_fa (val:=(fun g=>Value.agg #[Value.bool (timesZ (false,val (limbs (q - 1))) ((enz (tz q n (x + 1) (k + 1 - 1))).fst,val (enz (tz q n (x + 1) (k + 1 - 1))).snd)).fst,Value.slice (g 0).fst (limbs (timesZ (false,val (limbs (q - 1))) ((enz (tz q n (x + 1) (k + 1 - 1))).fst,val (enz (tz q n (x + 1) (k + 1 - 1))).snd)).snd).length (g 1).snd.fst])) (f:=(fun g=>[slF U32 (g 0).fst (limbs (timesZ (false,val (limbs (q - 1))) ((enz (tz q n (x + 1) (k + 1 - 1))).fst,val (enz (tz q n (x + 1) (k + 1 - 1))).snd)).snd).length (g 1).snd.fst (limbs (timesZ (false,val (limbs (q - 1))) ((enz (tz q n (x + 1) (k + 1 - 1))).fst,val (enz (tz q n (x + 1) (k + 1 - 1))).snd)).snd)]));(· rfl);(· exact d_x fun _=>x_call [12,0] rfl (S_macwilliams_times (by omega) (by omega)) rfl (by rintro _ _ _ ⟨pag0,cag1,rfl,rfl,rfl⟩;exact fun _ _ _ hG=>⟨(fun | 0=>(pag0,0,0,[]) | 1=>(none,cag1,0,[]) | _=>default),rfl,fun g hg=>drop_own (hG _ (List.mem_append_left _ hg))⟩));intro g6;dsimp only [List.map_cons,List.map_nil])
    (apply lxk_fa (val:=(fun g=>Value.agg #[Value.bool (minusZ ((minusZ (((rowT q n x).getD (k + 1) default).fst,val ((rowT q n x).getD (k + 1) default).snd) (((rowT q n x).getD k default).fst,val ((rowT q n x).getD k default).snd)).fst,val (limbs (minusZ (((rowT q n x).getD (k + 1) default).fst,val ((rowT q n x).getD (k + 1) default).snd) (((rowT q n x).getD k default).fst,val ((rowT q n x).getD k default).snd)).snd)) ((timesZ (false,val (limbs (q - 1))) ((enz (tz q n (x + 1) (k + 1 - 1))).fst,val (enz (tz q n (x + 1) (k + 1 - 1))).snd)).fst,val (limbs (timesZ (false,val (limbs (q - 1))) ((enz (tz q n (x + 1) (k + 1 - 1))).fst,val (enz (tz q n (x + 1) (k + 1 - 1))).snd)).snd))).fst,Value.slice (g 0).fst (limbs (minusZ ((minusZ (((rowT q n x).getD (k + 1) default).fst,val ((rowT q n x).getD (k + 1) default).snd) (((rowT q n x).getD k default).fst,val ((rowT q n x).getD k default).snd)).fst,val (limbs (minusZ (((rowT q n x).getD (k + 1) default).fst,val ((rowT q n x).getD (k + 1) default).snd) (((rowT q n x).getD k default).fst,val ((rowT q n x).getD k default).snd)).snd)) ((timesZ (false,val (limbs (q - 1))) ((enz (tz q n (x + 1) (k + 1 - 1))).fst,val (enz (tz q n (x + 1) (k + 1 - 1))).snd)).fst,val (limbs (timesZ (false,val (limbs (q - 1))) ((enz (tz q n (x + 1) (k + 1 - 1))).fst,val (enz (tz q n (x + 1) (k + 1 - 1))).snd)).snd))).snd).length (g 1).snd.fst])) (f:=(fun g=>[slF U32 (g 0).fst (limbs (minusZ ((minusZ (((rowT q n x).getD (k + 1) default).fst,val ((rowT q n x).getD (k + 1) default).snd) (((rowT q n x).getD k default).fst,val ((rowT q n x).getD k default).snd)).fst,val (limbs (minusZ (((rowT q n x).getD (k + 1) default).fst,val ((rowT q n x).getD (k + 1) default).snd) (((rowT q n x).getD k default).fst,val ((rowT q n x).getD k default).snd)).snd)) ((timesZ (false,val (limbs (q - 1))) ((enz (tz q n (x + 1) (k + 1 - 1))).fst,val (enz (tz q n (x + 1) (k + 1 - 1))).snd)).fst,val (limbs (timesZ (false,val (limbs (q - 1))) ((enz (tz q n (x + 1) (k + 1 - 1))).fst,val (enz (tz q n (x + 1) (k + 1 - 1))).snd)).snd))).snd).length (g 1).snd.fst (limbs (minusZ ((minusZ (((rowT q n x).getD (k + 1) default).fst,val ((rowT q n x).getD (k + 1) default).snd) (((rowT q n x).getD k default).fst,val ((rowT q n x).getD k default).snd)).fst,val (limbs (minusZ (((rowT q n x).getD (k + 1) default).fst,val ((rowT q n x).getD (k + 1) default).snd) (((rowT q n x).getD k default).fst,val ((rowT q n x).getD k default).snd)).snd)) ((timesZ (false,val (limbs (q - 1))) ((enz (tz q n (x + 1) (k + 1 - 1))).fst,val (enz (tz q n (x + 1) (k + 1 - 1))).snd)).fst,val (limbs (timesZ (false,val (limbs (q - 1))) ((enz (tz q n (x + 1) (k + 1 - 1))).fst,val (enz (tz q n (x + 1) (k + 1 - 1))).snd)).snd))).snd)]));(· rfl);(· exact d_x fun _=>x_call [2,0] rfl (S_macwilliams_minus (by omega) (by omega)) rfl (by rintro _ _ _ ⟨pag0,cag1,rfl,rfl,rfl⟩;exact fun _ _ _ hG=>⟨(fun | 0=>(pag0,0,0,[]) | 1=>(none,cag1,0,[]) | _=>default),rfl,fun g hg=>drop_own (hG _ (List.mem_append_left _ hg))⟩));intro g7;dsimp only [List.map_cons,List.map_nil])
    (apply lxk_sl;(· rfl);(· exact d_x fun _=>x_lit sl79 zo79e rfl rfl rfl rfl (by decide) (by decide) rfl fun b10=>dk_all (E:=IntE) [[Value.bool (minusZ ((minusZ (((rowT q n x).getD (k + 1) default).fst,val ((rowT q n x).getD (k + 1) default).snd) (((rowT q n x).getD k default).fst,val ((rowT q n x).getD k default).snd)).fst,val (limbs (minusZ (((rowT q n x).getD (k + 1) default).fst,val ((rowT q n x).getD (k + 1) default).snd) (((rowT q n x).getD k default).fst,val ((rowT q n x).getD k default).snd)).snd)) ((timesZ (false,val (limbs (q - 1))) ((enz (tz q n (x + 1) (k + 1 - 1))).fst,val (enz (tz q n (x + 1) (k + 1 - 1))).snd)).fst,val (limbs (timesZ (false,val (limbs (q - 1))) ((enz (tz q n (x + 1) (k + 1 - 1))).fst,val (enz (tz q n (x + 1) (k + 1 - 1))).snd)).snd))).fst,Value.slice (g7 0).fst (limbs (minusZ ((minusZ (((rowT q n x).getD (k + 1) default).fst,val ((rowT q n x).getD (k + 1) default).snd) (((rowT q n x).getD k default).fst,val ((rowT q n x).getD k default).snd)).fst,val (limbs (minusZ (((rowT q n x).getD (k + 1) default).fst,val ((rowT q n x).getD (k + 1) default).snd) (((rowT q n x).getD k default).fst,val ((rowT q n x).getD k default).snd)).snd)) ((timesZ (false,val (limbs (q - 1))) ((enz (tz q n (x + 1) (k + 1 - 1))).fst,val (enz (tz q n (x + 1) (k + 1 - 1))).snd)).fst,val (limbs (timesZ (false,val (limbs (q - 1))) ((enz (tz q n (x + 1) (k + 1 - 1))).fst,val (enz (tz q n (x + 1) (k + 1 - 1))).snd)).snd))).snd).length (g7 1).snd.fst]] [((minusZ ((minusZ (((rowT q n x).getD (k + 1) default).fst,val ((rowT q n x).getD (k + 1) default).snd) (((rowT q n x).getD k default).fst,val ((rowT q n x).getD k default).snd)).fst,val (limbs (minusZ (((rowT q n x).getD (k + 1) default).fst,val ((rowT q n x).getD (k + 1) default).snd) (((rowT q n x).getD k default).fst,val ((rowT q n x).getD k default).snd)).snd)) ((timesZ (false,val (limbs (q - 1))) ((enz (tz q n (x + 1) (k + 1 - 1))).fst,val (enz (tz q n (x + 1) (k + 1 - 1))).snd)).fst,val (limbs (timesZ (false,val (limbs (q - 1))) ((enz (tz q n (x + 1) (k + 1 - 1))).fst,val (enz (tz q n (x + 1) (k + 1 - 1))).snd)).snd))).fst,limbs (minusZ ((minusZ (((rowT q n x).getD (k + 1) default).fst,val ((rowT q n x).getD (k + 1) default).snd) (((rowT q n x).getD k default).fst,val ((rowT q n x).getD k default).snd)).fst,val (limbs (minusZ (((rowT q n x).getD (k + 1) default).fst,val ((rowT q n x).getD (k + 1) default).snd) (((rowT q n x).getD k default).fst,val ((rowT q n x).getD k default).snd)).snd)) ((timesZ (false,val (limbs (q - 1))) ((enz (tz q n (x + 1) (k + 1 - 1))).fst,val (enz (tz q n (x + 1) (k + 1 - 1))).snd)).fst,val (limbs (timesZ (false,val (limbs (q - 1))) ((enz (tz q n (x + 1) (k + 1 - 1))).fst,val (enz (tz q n (x + 1) (k + 1 - 1))).snd)).snd))).snd)] (fun w A hG=>(allrd_cons (rd_pair (v1:=[Value.bool (minusZ ((minusZ (((rowT q n x).getD (k + 1) default).fst,val ((rowT q n x).getD (k + 1) default).snd) (((rowT q n x).getD k default).fst,val ((rowT q n x).getD k default).snd)).fst,val (limbs (minusZ (((rowT q n x).getD (k + 1) default).fst,val ((rowT q n x).getD (k + 1) default).snd) (((rowT q n x).getD k default).fst,val ((rowT q n x).getD k default).snd)).snd)) ((timesZ (false,val (limbs (q - 1))) ((enz (tz q n (x + 1) (k + 1 - 1))).fst,val (enz (tz q n (x + 1) (k + 1 - 1))).snd)).fst,val (limbs (timesZ (false,val (limbs (q - 1))) ((enz (tz q n (x + 1) (k + 1 - 1))).fst,val (enz (tz q n (x + 1) (k + 1 - 1))).snd)).snd))).fst]) (rd_bool _) (rd_of_slF (hG _ (fact_mem (n:=0) rfl)))) allrd_nil)) rfl rfl rfl (by first | decide | exact Nat.le_of_ble_eq_true rfl));intro pa3 ca3)
    refine lxk_end rfl ?_
    simp only [List.map_cons,List.map_nil,List.cons_append,List.nil_append]
    refine j_step rfl (x_appS 0 9 0 rfl rfl rfl rfl rfl sl79 zo79e rfl (by omega) _ by79e (by omega) fun r1=>?_)
    refine j_run it 1 rfl (by simp) ?_
    refine j_nf [_,_,_,_,_,_,_,_,_] rfl ?_
    refine j_run it 3 rfl ⟨trivial,⟨by omega,by omega⟩,trivial,trivial⟩ ?_
    refine j_nfn 1 [.lp (pL 1037108),.blk 4,.c (pL 129639),.blk 3,.c (pL 8103),.lp (pL 1012),.blk 2,.c (pL 127)] rfl ?_
    simp only [eA,eB',val_enz,val_limbs,hq1,zs_eta,Nat.add_sub_cancel]
    rw [show ((minusZ (minusZ (tz q n x (k + 1)) (tz q n x k)) (timesZ (false,q - 1) (tz q n (x + 1) k))).1,limbs (minusZ (minusZ (tz q n x (k + 1)) (tz q n x k)) (timesZ (false,q - 1) (tz q n (x + 1) k))).2) = enz (tz q n (x + 1) (k + 1)) from rfl,← range_snoc fun k=>enz (tz q n (x + 1) k)]
    refine j_to [0,11,12,13,14,15,16] (by exact fra rfl) rfl rfl (ihk (k + 1 + 1,r1) (by dsimp only;omega) ⟨by dsimp only;omega,by dsimp only;omega⟩)
   ·obtain rfl : n = k:=by omega
    refine j_nf [_,_,_,_,_,_,_,_,_,_,_] rfl ?_
    refine j_run it 3 rfl (by simp) ?_
    refine j_nf [_,_,_,_,_,_,_,_,_,_] rfl ?_
    refine j_if rfl rfl (fun h3=>by exfalso;omega) (fun h3=>?_)
    refine j_nf [_,_,_,_,_,_] rfl ?_
    refine j_run it 2 rfl (by simp) ?_
    refine j_step rfl (x_lit sl108 zo108e rfl rfl rfl rfl (by decide) (by decide) rfl fun b7=>?_)
    refine j_pubR 1 0 rfl rfl (by show (n + 1) * 32 ≤ 140737488355328;omega) ?_
    refine j_step rfl (x_appR (z:=List.map (fun k=>enz (tz q n (x + 1) k)) (List.range (n + 1))) 2 0 6 rfl rfl rfl rfl rfl sl108 zo108e rfl (fun w A hG=>(rd_of_slF (hG _ (fact_mem (n:=0) rfl)))) (by omega) _ by108e (by omega) fun r1=>?_)
    refine j_run it 1 rfl (by simp) ?_
    refine j_nf [_,_,_,_] rfl ?_
    refine j_run it 2 rfl ⟨trivial,⟨by omega,by omega⟩,trivial⟩ ?_
    refine j_nfn 1 [.lp (pL 1012),.blk 2,.c (pL 127)] rfl ?_
    rw [show ((List.range (n + 1)).map fun k=>enz (tz q n (x + 1) k)) = rowT q n (x + 1) from rfl,← range_snoc (rowT q n)]
    refine j_toX [2,0] [0,8] (by exact fra rfl) rfl rfl rfl (ih (x + 1,r1) (by dsimp only;omega) (by dsimp only;omega))
  ·obtain rfl : x = n:=by omega
   refine j_nf [_,_,_,_,_] rfl ?_
   refine j_run it 1 rfl (by simp) ?_
   refine j_nf [_,_,_,_,_] rfl ?_
   refine j_if rfl rfl (fun h2=>by exfalso;omega) (fun h2=>?_)
   refine j_nf [_,_] rfl ?_
   refine j_run it 2 rfl (by simp) ?_
   refine j_nf [_] rfl ?_
   refine j_pubR 1 0 rfl rfl (by show (x + 1) * 24 ≤ 140737488355328;omega) ?_
   refine j_giv [0] rfl rfl rfl ⟨_,_,by rw [tabT_len];rfl,by rw [tabT_len];rfl,rfl⟩
set_option maxHeartbeats 2000000
set_option maxHeartbeats 4000000
abbrev SvN {α : Type} (E : Enc α) (n : Nat) (l : List α) : Value → List Fact → List Blk → Prop:=fun v Φ β=>∃ pa ca,v = .slice pa n ca ∧ Φ = [slF E pa n ca l] ∧ β = []
theorem enz_eq (a : Zs) : (a.1,limbs a.2) = enz a:=rfl
def wrongOf (q : Int) (n : Nat) : Int:=if q < 2 ∨ 256 < q then 6 else shapeOf n
theorem S_macwilliams_wrong {q : Int} {n : Nat} : Ctr Try.prog 48 [.int .i64 q,.int .i64 n] [] [] (Rv (.int .i64 (wrongOf q n)) []):=by
 refine Ctr_of_j' (F:=F_macwilliams_wrong) rfl fun C=>?_
 by_cases h1 : q < 2
 ·rw [wrongOf,if_pos (.inl h1)]
  refine j_nf [_,_] rfl (j_run it 1 rfl (by simp) ?_)
  refine j_nf [_,_,_] rfl (j_run it 3 rfl (by simp) ?_)
  refine j_split_dec (t:=7) rfl (fun h2=>?_) (fun h2=>by exfalso;omega)
  refine j_run it 3 rfl (by simp) ?_
  refine j_nf [_,_] rfl ?_
  refine j_true rfl rfl ?_
  refine j_nf [_,_,_] rfl (j_run it 1 rfl (by simp) ?_)
  refine j_nf [_,_] rfl ?_
  refine j_giv [] rfl rfl rfl ⟨rfl,rfl,rfl⟩
 by_cases h2 : 256 < q
 ·rw [wrongOf,if_pos (.inr h2)]
  refine j_nf [_,_] rfl (j_run it 1 rfl (by simp) ?_)
  refine j_nf [_,_,_] rfl (j_run it 3 rfl (by simp) ?_)
  refine j_split_dec (t:=7) rfl (fun h3=>by exfalso;omega) (fun h3=>?_)
  refine j_run it 3 rfl (by simp) ?_
  refine j_nf [_,_] rfl (j_if rfl rfl (fun h4=>?_) (fun h4=>by exfalso;omega))
  refine j_nf [_,_,_] rfl (j_run it 1 rfl (by simp) ?_)
  refine j_nf [_,_] rfl ?_
  refine j_giv [] rfl rfl rfl ⟨rfl,rfl,rfl⟩
 ·rw [wrongOf,if_neg (by omega)]
  refine j_nf [_,_] rfl (j_run it 1 rfl (by simp) ?_)
  refine j_nf [_,_,_] rfl (j_run it 3 rfl (by simp) ?_)
  refine j_split_dec (t:=7) rfl (fun h3=>by exfalso;omega) (fun h3=>?_)
  refine j_run it 3 rfl (by simp) ?_
  refine j_nf [_,_] rfl (j_if rfl rfl (fun h4=>by exfalso;omega) (fun h4=>?_))
  refine j_nf [_,_] rfl (j_run it 1 rfl (by simp) ?_)
  refine j_step rfl (x_call [] rfl (S_macwilliams_shape) rfl ?_)
  rintro _ _ _ ⟨rfl,rfl,rfl⟩
  simp only [List.cons_append,List.nil_append]
  refine j_run it 1 rfl (by simp) ?_
  refine j_nf [_] rfl ?_
  refine j_giv [] rfl rfl rfl ⟨rfl,rfl,rfl⟩
theorem S_macwilliams_sums {q n m : Nat} {pa : Option Addr} {ca : Nat} {f : Nat → Zs} (hq : 2 ≤ q) (hq2 : q ≤ 256) (hn : n ≤ 64) (hm : m ≤ 10000000) (hf : ∀ i,i < n + 1 → (f i).2 < 4294967296 ^ m) :
  Ctr Try.prog 50 [.int .i64 q,.slice pa (n + 1) ca] [] [slF IntE pa (n + 1) ca ((List.range (n + 1)).map fun i=>enz (f i))] (SvN IntE (n + 1) ((List.range (n + 1)).map fun j=>enz (szP f (fun i=>tz q n i j) (n + 1)))):=by
 refine Ctr_of_j' (F:=F_macwilliams_sums) rfl fun C=>?_
 have ht:=tabT_len q n
 have hW : ((List.range (n + 1)).map fun i=>enz (f i)).length = n + 1:=by simp
 refine j_nf [_,_] rfl ?_
 refine j_run it 1 rfl (by simp) ?_
 refine j_nf [_,_] rfl ?_
 refine j_run it 2 rfl (by simp) ?_
 refine j_step rfl (x_len sl79 rfl ?_)
 refine j_run it 1 rfl ⟨⟨by omega,by omega⟩,trivial⟩ ?_
 refine j_recast (t:=13) ((((n + 1) - 1) : Nat) : Int) rfl (by omega) ?_
 refine j_step rfl (x_call [] rfl (S_macwilliams_table (by omega) (by omega) (by omega)) rfl ?_)
 rintro _ _ _ ⟨pa1,ca1,rfl,rfl,rfl⟩
 simp only [List.cons_append,List.nil_append]
 refine j_run it 1 rfl (by simp) ?_
 refine j_nf [_,_] rfl ?_
 refine j_run it 1 rfl (by simp) ?_
 refine j_step rfl (x_len sl79 rfl ?_)
 refine j_step rfl (x_makeR IntE default (n + 1) _ rfl rfl sl79 zo79e rfl rfl by79e (by omega) (by omega) (by omega) rz81 fun b1 cs1=>?_)
 refine j_run it 1 rfl (by simp) ?_
 refine j_nf [_,_,_] rfl ?_
 refine j_run it 1 rfl (by simp) ?_
 refine j_step rfl (x_len sl79 rfl ?_)
 refine j_run it 1 rfl (by simp) ?_
 refine j_nf [_,_,_] rfl ?_
 rw [Nat.add_sub_cancel]
 rw [← mapTo_zero (fun j=>enz (szP f (fun i=>tz q n i j) (n + 1)))]
 refine j_loopG (X:=Nat × List Value) [1,4,5,6,19] [2,1] (fun x=>[(20,.int .i64 x.1)]) (fun x=>[(some b1,81,x.2)]) (fun x=>[rowF IntE ⟨some b1,n + 1,x.2⟩ (n + 1) (mapTo (fun j=>enz (szP f (fun i=>tz q n i j) (n + 1))) default (n + 1) x.1)])
  (fun x=>x.1 ≤ n + 1) (fun x=>n + 1 - x.1) (0,cs1) [0] rfl rfl rfl (Nat.zero_le _) (by repeat (first | exact Fr.sub_nil _ | refine Fr.sub_cons rfl ?_)) rfl rfl ?_
 rintro ⟨j,cs⟩ hj ih
 simp only [List.cons_append,List.nil_append] at hj ih ⊢
 by_cases hjl : j < n + 1
 ·refine j_nf [_,_,_,_,_] rfl ?_
  refine j_run it 1 rfl (by simp) ?_
  refine j_nf [_,_,_,_,_] rfl ?_
  refine j_if rfl rfl (fun h1=>?_) (fun h1=>by exfalso;omega)
  refine j_nf [_,_,_,_,_,_,_] rfl ?_
  refine j_run it 2 rfl (by simp) ?_
  refine j_nf [_,_,_,_,_,_,_] rfl ?_
  refine j_run it 1 rfl (by simp) ?_
  refine j_step rfl (x_len sl79 rfl ?_)
  refine j_run it 1 rfl (by simp) ?_
  refine j_nf [_,_,_,_,_,_,_] rfl ?_
  have e0 : enz (szP f (fun i=>tz q n i j) 0) = default:=by simp only [szP,enz,limbs_zero];rfl
  rw [show mapTo (fun j=>enz (szP f (fun i=>tz q n i j) (n + 1))) default (n + 1) j = (mapTo (fun j=>enz (szP f (fun i=>tz q n i j) (n + 1))) default (n + 1) j).set j (enz (szP f (fun i=>tz q n i j) 0)) by rw [e0,mapTo_keep]]
  refine j_loopG (X:=Nat × List Value) [1,4,5,6,7,19,20,21,22,23,24] [1,2] (fun x=>[(25,.int .i64 x.1)]) (fun x=>[(some b1,81,x.2)])
   (fun x=>[rowF IntE ⟨some b1,n + 1,x.2⟩ (n + 1) ((mapTo (fun j=>enz (szP f (fun i=>tz q n i j) (n + 1))) default (n + 1) j).set j (enz (szP f (fun i=>tz q n i j) x.1)))])
   (fun x=>x.1 ≤ n + 1) (fun x=>n + 1 - x.1) (0,cs) [0] rfl rfl rfl (Nat.zero_le _) (by repeat (first | exact Fr.sub_nil _ | refine Fr.sub_cons rfl ?_)) rfl rfl ?_
  rintro ⟨i,cs⟩ hi ihi
  simp only [List.cons_append,List.nil_append] at hi ihi ⊢
  by_cases hil : i < n + 1
  ·refine j_nf [_,_,_,_,_,_,_,_,_] rfl ?_
   refine j_run it 1 rfl (by simp) ?_
   refine j_nf [_,_,_,_,_,_,_,_,_] rfl ?_
   refine j_if rfl rfl (fun h2=>?_) (fun h2=>by exfalso;omega)
   refine j_nf [_,_,_,_,_,_,_,_,_,_,_] rfl ?_
   refine j_run it 1 rfl (by simp) ?_
   refine j_step rfl (x_idx 1 (i) rfl rfl rfl sl79 rfl (by omega) fun z1 hz1 b2 o1=>?_)
   refine j_step rfl (x_ld_vw vw_IntE 0 rfl rfl ld81 fun g1=>?_)
   dsimp only [vw_IntE,List.cons_append,List.nil_append,List.map_cons,List.map_nil]
   refine j_step rfl (x_alloc zo81 fun b3=>?_)
   refine j_run it 1 rfl (by simp) ?_
   refine j_step rfl (x_bst_all 0 rfl rfl rfl ld81 rfl rfl (by simp [Value.oneCell']) ?_)
   refine j_nf [_,_,_,_,_,_,_,_,_,_,_] rfl ?_
   refine j_step rfl (x_field rfl fd81_1 ?_)
   refine j_step rfl (x_bld 0 rfl rfl ld29 rfl ?_)
   refine j_step rfl (x_len sl29 rfl ?_)
   refine j_run it 1 rfl (by simp) ?_
   refine j_nf [_,_,_,_,_,_,_,_,_,_] rfl ?_
   refine j_if rfl rfl (fun h3=>?_) (fun h3=>?_)
   ·rw [range_get _ hil] at hz1
    obtain rfl:=Option.some.inj hz1
    have hne : ¬ (f i).2 = 0:=fun h=>by
     have h2 : (0 : Int) < ((limbs (f i).2).length : Int):=by assumption
     rw [h,limbs_zero] at h2
     simp at h2
    have eS : szP f (fun i=>tz q n i j) (i + 1) = plusZ (szP f (fun i=>tz q n i j) i) (timesZ (f i) (tz q n i j)):=by rw [szP,if_neg hne]
    have hrow:=mapTo_setget (fun j=>enz (szP f (fun i=>tz q n i j) (n + 1))) default (enz (szP f (fun i=>tz q n i j) i)) hjl
    have eT1 : (tabT q n).getD i default = rowT q n i:=range_getD _ _ hil
    have hTl : ((tabT q n).getD i default).length = n + 1:=by rw [eT1,rowT_len]
    have eT2 : ((tabT q n).getD i default).getD j default = enz (tz q n i j):=by rw [eT1];exact range_getD _ _ hjl
    have k1 : (enz (f i)).2.length ≤ m:=limbs_length_le (hf i hil)
    have k2 : (((tabT q n).getD i default).getD j default).2.length ≤ 17:=by rw [eT2];exact tz_len hq hq2 hn (by omega) j
    have k3 : (enz (szP f (fun i=>tz q n i j) i)).2.length ≤ m + 18:=limbs_length_le (szP_lt (show n + 1 ≤ 65 by omega) (by omega) hf fun i hi=>tz_lt hq hq2 hn (by omega) j (Nat.le_refl 17))
    have k4 : (limbs (timesZ ((enz (f i)).1,val (enz (f i)).2) ((((tabT q n).getD i default).getD j default).1,val (((tabT q n).getD i default).getD j default).2)).2).length ≤ m + 17:=by
     rw [eT2,val_enz,val_enz]
     exact limbs_length_le (mul_pow (hf i hil) (tz_lt hq hq2 hn (by omega) j (Nat.le_refl 17)))
    (apply j_drawK it mx 16;(· rfl);(· rfl))
    (apply lxk_run 4;(· rfl);(· simp))
    (apply lxk_eq;(· rfl);(· exact d_x fun _=>x_idx_own (j) _ rfl rfl sl79 rfl (by omega) rfl dk_eq))
    (apply lxk_vw vw_IntE;(· rfl);(· exact d_ldR_vw vw_IntE 1 2 (j) rfl rfl rfl ld81 rfl (by assumption));intro g2)
    dsimp only [vw_IntE,List.cons_append,List.nil_append,List.map_cons,List.map_nil]
    (apply lxk_eq;(· rfl);(· exact d_bld_all 0 rfl rfl ld81 rfl))
    (apply lxk_run 2;(· rfl);(· simp))
    (apply lxk_pt;(· rfl);(· exact d_x fun _=>x_idx 4 (i) rfl rfl rfl sl108 rfl (by omega) fun z1 hz2 b4 o2=>(dk_ptD default hz2 0 rfl));intro b4 o2)
    (apply lxk_sl;(· rfl);(· exact d_x fun _=>x_ld_sl 0 rfl rfl ld79 fun pa2 ca2=>(dk_sl 0 rfl));intro pa2 ca2)
    (apply lxk_run 1;(· rfl);(· simp))
    (apply lxk_pt;(· rfl);(· exact d_x fun _=>x_idx 0 (j) rfl rfl rfl sl79 rfl (by omega) fun z1 hz2 b5 o3=>(dk_ptD default hz2 0 rfl));intro b5 o3)
    (apply lxk_vw vw_IntE;(· rfl);(· exact d_x fun _=>x_ld_vw vw_IntE 0 rfl rfl ld81 fun _=>dk_vw _);intro g3)
    dsimp only [vw_IntE,List.cons_append,List.nil_append,List.map_cons,List.map_nil]
    (apply lxk_fa (val:=(fun g=>Value.agg #[Value.bool (timesZ ((enz (f i)).fst,val (enz (f i)).snd) ((((tabT q n).getD i default).getD j default).fst,val (((tabT q n).getD i default).getD j default).snd)).fst,Value.slice (g 0).fst (limbs (timesZ ((enz (f i)).fst,val (enz (f i)).snd) ((((tabT q n).getD i default).getD j default).fst,val (((tabT q n).getD i default).getD j default).snd)).snd).length (g 1).snd.fst])) (f:=(fun g=>[slF U32 (g 0).fst (limbs (timesZ ((enz (f i)).fst,val (enz (f i)).snd) ((((tabT q n).getD i default).getD j default).fst,val (((tabT q n).getD i default).getD j default).snd)).snd).length (g 1).snd.fst (limbs (timesZ ((enz (f i)).fst,val (enz (f i)).snd) ((((tabT q n).getD i default).getD j default).fst,val (((tabT q n).getD i default).getD j default).snd)).snd)]));(· rfl);(· exact d_x fun _=>x_call [4,0] rfl (S_macwilliams_times (by omega) (by omega)) rfl (by rintro _ _ _ ⟨pag0,cag1,rfl,rfl,rfl⟩;exact fun _ _ _ hG=>⟨(fun | 0=>(pag0,0,0,[]) | 1=>(none,cag1,0,[]) | _=>default),rfl,fun g hg=>drop_own (hG _ (List.mem_append_left _ hg))⟩));intro g4;dsimp only [List.map_cons,List.map_nil])
    (apply lxk_fa (val:=(fun g=>Value.agg #[Value.bool (plusZ ((enz (szP f (fun i=>tz q n i j) i)).fst,val (enz (szP f (fun i=>tz q n i j) i)).snd) ((timesZ ((enz (f i)).fst,val (enz (f i)).snd) ((((tabT q n).getD i default).getD j default).fst,val (((tabT q n).getD i default).getD j default).snd)).fst,val (limbs (timesZ ((enz (f i)).fst,val (enz (f i)).snd) ((((tabT q n).getD i default).getD j default).fst,val (((tabT q n).getD i default).getD j default).snd)).snd))).fst,Value.slice (g 0).fst (limbs (plusZ ((enz (szP f (fun i=>tz q n i j) i)).fst,val (enz (szP f (fun i=>tz q n i j) i)).snd) ((timesZ ((enz (f i)).fst,val (enz (f i)).snd) ((((tabT q n).getD i default).getD j default).fst,val (((tabT q n).getD i default).getD j default).snd)).fst,val (limbs (timesZ ((enz (f i)).fst,val (enz (f i)).snd) ((((tabT q n).getD i default).getD j default).fst,val (((tabT q n).getD i default).getD j default).snd)).snd))).snd).length (g 1).snd.fst])) (f:=(fun g=>[slF U32 (g 0).fst (limbs (plusZ ((enz (szP f (fun i=>tz q n i j) i)).fst,val (enz (szP f (fun i=>tz q n i j) i)).snd) ((timesZ ((enz (f i)).fst,val (enz (f i)).snd) ((((tabT q n).getD i default).getD j default).fst,val (((tabT q n).getD i default).getD j default).snd)).fst,val (limbs (timesZ ((enz (f i)).fst,val (enz (f i)).snd) ((((tabT q n).getD i default).getD j default).fst,val (((tabT q n).getD i default).getD j default).snd)).snd))).snd).length (g 1).snd.fst (limbs (plusZ ((enz (szP f (fun i=>tz q n i j) i)).fst,val (enz (szP f (fun i=>tz q n i j) i)).snd) ((timesZ ((enz (f i)).fst,val (enz (f i)).snd) ((((tabT q n).getD i default).getD j default).fst,val (((tabT q n).getD i default).getD j default).snd)).fst,val (limbs (timesZ ((enz (f i)).fst,val (enz (f i)).snd) ((((tabT q n).getD i default).getD j default).fst,val (((tabT q n).getD i default).getD j default).snd)).snd))).snd)]));(· rfl);(· exact d_x fun _=>x_call [5,0] rfl (S_macwilliams_plus (by omega) (by omega)) rfl (by rintro _ _ _ ⟨pag0,cag1,rfl,rfl,rfl⟩;exact fun _ _ _ hG=>⟨(fun | 0=>(pag0,0,0,[]) | 1=>(none,cag1,0,[]) | _=>default),rfl,fun g hg=>drop_own (hG _ (List.mem_append_left _ hg))⟩));intro g5;dsimp only [List.map_cons,List.map_nil])
    refine lxk_end rfl ?_
    simp only [List.map_cons,List.map_nil,List.cons_append,List.nil_append]
    refine j_step rfl (x_idx_own (j) _ rfl rfl sl79 rfl (by omega) rfl ?_)
    refine j_step rfl (x_stR (vs:=[Value.bool (plusZ ((enz (szP f (fun i=>tz q n i j) i)).fst,val (enz (szP f (fun i=>tz q n i j) i)).snd) ((timesZ ((enz (f i)).fst,val (enz (f i)).snd) ((((tabT q n).getD i default).getD j default).fst,val (((tabT q n).getD i default).getD j default).snd)).fst,val (limbs (timesZ ((enz (f i)).fst,val (enz (f i)).snd) ((((tabT q n).getD i default).getD j default).fst,val (((tabT q n).getD i default).getD j default).snd)).snd))).fst,Value.slice (g5 0).fst (limbs (plusZ ((enz (szP f (fun i=>tz q n i j) i)).fst,val (enz (szP f (fun i=>tz q n i j) i)).snd) ((timesZ ((enz (f i)).fst,val (enz (f i)).snd) ((((tabT q n).getD i default).getD j default).fst,val (((tabT q n).getD i default).getD j default).snd)).fst,val (limbs (timesZ ((enz (f i)).fst,val (enz (f i)).snd) ((((tabT q n).getD i default).getD j default).fst,val (((tabT q n).getD i default).getD j default).snd)).snd))).snd).length (g5 1).snd.fst]) (z:=((plusZ ((enz (szP f (fun i=>tz q n i j) i)).fst,val (enz (szP f (fun i=>tz q n i j) i)).snd) ((timesZ ((enz (f i)).fst,val (enz (f i)).snd) ((((tabT q n).getD i default).getD j default).fst,val (((tabT q n).getD i default).getD j default).snd)).fst,val (limbs (timesZ ((enz (f i)).fst,val (enz (f i)).snd) ((((tabT q n).getD i default).getD j default).fst,val (((tabT q n).getD i default).getD j default).snd)).snd))).fst,limbs (plusZ ((enz (szP f (fun i=>tz q n i j) i)).fst,val (enz (szP f (fun i=>tz q n i j) i)).snd) ((timesZ ((enz (f i)).fst,val (enz (f i)).snd) ((((tabT q n).getD i default).getD j default).fst,val (((tabT q n).getD i default).getD j default).snd)).fst,val (limbs (timesZ ((enz (f i)).fst,val (enz (f i)).snd) ((((tabT q n).getD i default).getD j default).fst,val (((tabT q n).getD i default).getD j default).snd)).snd))).snd)) 1 9 (j) rfl rfl rfl rfl rfl ld81 rfl (by omega) (fun w A hG=>(rd_pair (v1:=[Value.bool (plusZ ((enz (szP f (fun i=>tz q n i j) i)).fst,val (enz (szP f (fun i=>tz q n i j) i)).snd) ((timesZ ((enz (f i)).fst,val (enz (f i)).snd) ((((tabT q n).getD i default).getD j default).fst,val (((tabT q n).getD i default).getD j default).snd)).fst,val (limbs (timesZ ((enz (f i)).fst,val (enz (f i)).snd) ((((tabT q n).getD i default).getD j default).fst,val (((tabT q n).getD i default).getD j default).snd)).snd))).fst]) (rd_bool _) (rd_of_slF (hG _ (fact_mem (n:=0) rfl))))) fun cs2=>?_)
    refine j_nf [_,_,_,_,_,_,_,_] rfl ?_
    refine j_run it 2 rfl ⟨trivial,⟨by omega,by omega⟩,trivial⟩ ?_
    refine j_nfn 1 [.lp (pL 62668),.blk 2,.blk 1,.c (pL 1959),.lp (pL 244),.blk 0,.c [1,1,1,1]] rfl ?_
    simp only [eT2,val_enz,val_limbs,zs_eta,List.set_set]
    rw [← eS,enz_eq]
    refine j_toM [false,true] [0,11,12] (by exact fra rfl) rfl rfl (ihi (i + 1,cs2) (by dsimp only;omega) (by dsimp only;omega))
   ·rw [range_get _ hil] at hz1
    obtain rfl:=Option.some.inj hz1
    have hze : (f i).2 = 0:=by
     have h2 : ¬ (0 : Int) < ((limbs (f i).2).length : Int):=by assumption
     exact limbs_nil.1 (List.eq_nil_of_length_eq_zero (by omega))
    have eS : szP f (fun i=>tz q n i j) (i + 1) = szP f (fun i=>tz q n i j) i:=by rw [szP,if_pos hze]
    refine j_nf [_,_,_,_,_,_,_,_] rfl ?_
    refine j_run it 2 rfl ⟨trivial,⟨by omega,by omega⟩,trivial⟩ ?_
    refine j_nfn 1 [.lp (pL 62668),.blk 2,.blk 1,.c (pL 1959),.lp (pL 244),.blk 0,.c [1,1,1,1]] rfl ?_
    have ih':=ihi (i + 1,cs) (by dsimp only;omega) (by dsimp only;omega)
    rw [eS] at ih'
    refine j_toM [false,true] [2,3,4] (by exact fra rfl) rfl rfl (ih')
  ·obtain rfl : n + 1 = i:=by omega
   rw [mapTo_set (fun j=>enz (szP f (fun i=>tz q n i j) (n + 1)))]
   refine j_nf [_,_,_,_,_,_,_,_,_] rfl ?_
   refine j_run it 1 rfl (by simp) ?_
   refine j_nf [_,_,_,_,_,_,_,_,_] rfl ?_
   refine j_if rfl rfl (fun h2=>by exfalso;omega) (fun h2=>?_)
   refine j_nf [_,_,_,_] rfl ?_
   refine j_run it 2 rfl ⟨trivial,⟨by omega,by omega⟩,trivial⟩ ?_
   refine j_nfn 1 [.lp (pL 244),.blk 0,.c [1,1,1,1]] rfl ?_
   refine j_to [0,1,2] (by exact fra rfl) rfl rfl (ih (j + 1,cs) (by dsimp only;omega) (by dsimp only;omega))
 ·obtain rfl : n + 1 = j:=by omega
  rw [mapTo_all]
  refine j_nf [_,_,_,_,_] rfl ?_
  refine j_run it 1 rfl (by simp) ?_
  refine j_nf [_,_,_,_,_] rfl ?_
  refine j_if rfl rfl (fun h1=>by exfalso;omega) (fun h1=>?_)
  refine j_nf [_,_] rfl ?_
  refine j_run it 2 rfl (by simp) ?_
  refine j_nf [_] rfl ?_
  refine j_pubR 0 0 rfl rfl (by show (n + 1) * 32 ≤ 140737488355328;omega) ?_
  refine j_giv [0] rfl rfl rfl ⟨_,_,rfl,rfl,rfl⟩
abbrev SvE {α : Type} (E : Enc α) (n : Nat) (l : List α) (e : Int) : Value → List Fact → List Blk → Prop:=fun v Φ β=>∃ pa ca,v = .tuple #[.slice pa n ca,.int .i64 e] ∧ Φ = [slF E pa n ca l] ∧ β = []
theorem Ctr_len {P : Program} {F : Fun P} {args : List Value} {β : List Blk} {Γ : List Fact} {Q : Value → List Fact → List Blk → Prop} {α : Type} {E : Enc α} {pa : Option Addr} {m ca : Nat} {l : List α} (n : Nat) (hn : nth Γ n = some (slF E pa m ca l)) (h : m = l.length → Ctr P F.f args β Γ Q) : Ctr P F.f args β Γ Q :=
 ⟨F.plain,fun w A h1 h2 h3 hG=>(h (hG _ (fact_mem hn)).1).2 w A h1 h2 h3 hG⟩
def duAll (q n : Nat) (L : List (List Nat)) : Prop:=∀ j,j < n + 1 → duOk q n L j
instance (q n : Nat) (L : List (List Nat)) : Decidable (duAll q n L):=by unfold duAll;infer_instance
def duR (q n : Nat) (L : List (List Nat)) : List (List Nat):=if duAll q n L then (List.range (n + 1)).map fun j=>limbs (duV q n L j) else []
def duE (q n : Nat) (L : List (List Nat)) : Int:=if duAll q n L then 0 else 5
def okN (K : Nat) (l : List Nat) : Prop:=(∀ x ∈ l,x < 4294967296) ∧ l.length ≤ K
theorem okN_lt {K : Nat} {l : List Nat} (h : okN K l) : val l < 4294967296 ^ K:=Nat.lt_of_lt_of_le (val_lt h.1) (Nat.pow_le_pow_right (by decide) h.2)
theorem limbs_length_pos {n : Nat} (h : 0 < n) : 0 < (limbs n).length:=by rw [limbs_pos (by omega)];simp
def duF (L : List (List Nat)) (i : Nat) : Zs:=(false,val (L.getD i default))
theorem duF_z (q n : Nat) (L : List (List Nat)) (j : Nat) : szP (duF L) (fun i=>tz q n i j) (n + 1) = duZ q n L j:=rfl
theorem U_macwilliams_Dual {q n K : Nat} {pa : Option Addr} {ca : Nat} {L : List (List Nat)} (hq : 2 ≤ q) (hq2 : q ≤ 256) (hn : n ≤ 64) (hl : L.length = n + 1) (hK : K ≤ 10000) (hL : ∀ l ∈ L,okN K l) (h0 : toP L (n + 1) ≠ 0) :
  Ctr Try.prog 19 [.int .i64 q,.slice pa (n + 1) ca] [] [slF NatE pa (n + 1) ca L] (SvE NatE (duR q n L).length (duR q n L) (duE q n L)):=by
 refine Ctr_of_j' (F:=F_macwilliams_Dual) rfl fun C=>?_
 have hw : wrongOf (q : Int) (n + 1) = 0:=by rw [wrongOf,if_neg (by omega),shapeOf,if_neg (by omega)]
 have hg : ∀ i,i < n + 1 → okN K (L.getD i default):=fun i hi=>hL _ (by rw [List.getD,List.getElem?_eq_getElem (by omega)];exact List.getElem_mem _)
 have hlen : L.length ≤ 65536:=by omega
 have hLl : ∀ l ∈ L,l.length ≤ 1073741824:=fun l h=>by have:=(hL l h).2;omega
 have eT : sumV L = toP L (n + 1):=by rw [← toP_all,hl]
 have hT0 : ¬ (limbs (sumV L)).length = 0:=by
  rw [eT]
  intro h
  exact h0 (limbs_nil.1 (List.eq_nil_of_length_eq_zero h))
 have hv0 : val (limbs (sumV L)) ≠ 0:=by rw [val_limbs,eT];exact h0
 refine j_nf [_,_] rfl (j_run it 2 rfl (by simp) ?_)
 refine j_nf [_,_,_] rfl (j_run it 2 rfl (by simp) ?_)
 refine j_step rfl (x_len sl33 rfl ?_)
 refine j_step rfl (x_call [] rfl (S_macwilliams_wrong) rfl ?_)
 rintro _ _ _ ⟨rfl,rfl,rfl⟩
 simp only [List.cons_append,List.nil_append]
 refine j_run it 1 rfl (by simp) ?_
 refine j_nf [_,_,_] rfl (j_run it 2 rfl (by simp) ?_)
 refine j_nf [_,_] rfl (j_ifn rfl rfl (fun h1=>by exfalso;omega) (fun h1=>?_))
 refine j_nf [_,_] rfl (j_run it 1 rfl (by simp) ?_)
 refine j_step rfl (x_call [0] rfl (S_nat_Add (by omega) (by omega)) rfl ?_)
 rintro _ _ _ ⟨pa1,ca1,rfl,rfl,rfl⟩
 simp only [List.cons_append,List.nil_append]
 refine j_run it 1 rfl (by simp) ?_
 refine j_nf [_,_,_] rfl (j_run it 1 rfl (by simp) ?_)
 refine j_step rfl (x_len sl29 rfl ?_)
 refine j_run it 1 rfl (by simp) ?_
 refine j_nf [_,_] rfl (j_if rfl rfl (fun h2=>by exfalso;omega) (fun h2=>?_))
 refine j_nf [_,_] rfl (j_run it 1 rfl (by simp) ?_)
 refine j_nf [_,_,_] rfl (j_run it 1 rfl (by simp) ?_)
 refine j_step rfl (x_len sl33 rfl ?_)
 refine j_run it 1 rfl (by simp) ?_
 refine j_nf [_,_,_] rfl ?_
 refine j_row0 IntE 81 ?_
 refine j_loopG (X:=Nat × Row) [0,4,5,7,29,30] [0,1,2] (fun x=>[(31,.int .i64 x.1),(8,.slice (ad x.2.bo) x.1 x.2.cap)])
  (fun x=>[(x.2.bo,81,x.2.cs)])
  (fun x=>[rowF IntE x.2 x.1 ((List.range x.1).map fun i=>enz (duF L i))])
  (fun x=>x.1 ≤ n + 1) (fun x=>n + 1 - x.1) (0,⟨none,0,[]⟩) [0] rfl rfl rfl (Nat.zero_le _) (by repeat (first | exact Fr.sub_nil _ | refine Fr.sub_cons rfl ?_)) rfl rfl ?_
 rintro ⟨i,r⟩ hi ih
 simp only [List.cons_append,List.nil_append] at hi ih ⊢
 by_cases hil : i < n + 1
 ·refine j_nf [_,_,_,_,_] rfl (j_run it 1 rfl (by simp) ?_)
  refine j_nf [_,_,_,_,_] rfl (j_if rfl rfl (fun h3=>?_) (fun h3=>by exfalso;omega))
  refine j_nf [_,_,_,_,_,_,_] rfl (j_step rfl (x_idx 3 (i) rfl rfl rfl sl33 rfl (by omega) fun z1 hz1 b1 o1=>?_))
  refine j_step rfl (x_ld_sl 0 rfl rfl ld29 fun pa2 ca2=>?_)
  refine j_run it 1 rfl (by simp) ?_
  refine j_nf [_,_,_,_,_,_] rfl (j_run it 2 rfl (by simp) ?_)
  refine j_step rfl (x_call [0] rfl (S_nat_Trim) rfl ?_)
  rintro _ _ _ ⟨pa3,ca3,rfl,rfl,rfl⟩
  simp only [List.cons_append,List.nil_append]
  refine j_step rfl (x_build (cs:=[Value.bool false,Value.slice pa3 (trim z1).length ca3]) st81 zo81 rfl rfl ?_)
  refine j_step rfl (x_lit sl79 zo79e rfl rfl rfl rfl (by decide) (by decide) rfl fun b2=>?_)
  refine j_step rfl (x_appR (z:=(false,trim z1)) 1 0 3 rfl rfl rfl rfl rfl sl79 zo79e rfl (fun w A hG=>(rd_pair (v1:=[Value.bool false]) (rd_bool _) (rd_of_slF (hG _ (fact_mem (n:=0) rfl))))) (by omega) _ by79e (by omega) fun r1=>?_)
  refine j_run it 1 rfl (by simp) ?_
  refine j_nf [_,_,_,_] rfl (j_run it 2 rfl ⟨trivial,⟨by omega,by omega⟩,trivial⟩ ?_)
  refine j_nfn 1 [.lp (pL 1012),.blk 0,.c (pL 127)] rfl ?_
  have hz : L.getD i default = z1:=by rw [List.getD,hz1];rfl
  have hzo:=hg i hil
  rw [hz] at hzo
  have e1 : ((false,trim z1) : Bool × List Nat) = enz (duF L i):=by rw [enz,duF,hz,trim_eq hzo.1]
  rw [e1,← range_snoc fun i=>enz (duF L i)]
  refine j_toM [true,false] [0,5,6,7] (by exact fra rfl) rfl rfl (ih (i + 1,r1) (by dsimp only;omega) (by dsimp only;omega))
 ·obtain rfl : n + 1 = i:=by omega
  have hf : ∀ i,i < n + 1 → (duF L i).2 < 4294967296 ^ K:=fun i hi=>okN_lt (hg i hi)
  have hK7 : K ≤ 10000000:=by omega
  refine j_nf [_,_,_,_,_] rfl (j_run it 1 rfl (by simp) ?_)
  refine j_nf [_,_,_,_,_] rfl (j_if rfl rfl (fun h3=>by exfalso;omega) (fun h3=>?_))
  refine j_nf [_,_] rfl (j_run it 1 rfl (by simp) ?_)
  refine j_nf [_,_,_] rfl (j_run it 2 rfl (by simp) ?_)
  refine j_pubR 0 0 rfl rfl (by show (n + 1) * 32 ≤ 140737488355328;omega) ?_
  refine j_step rfl (x_call [0] rfl (S_macwilliams_sums (by omega) (by omega) (by omega) (by omega) (by omega)) rfl ?_)
  rintro _ _ _ ⟨pa2,ca2,rfl,rfl,rfl⟩
  simp only [List.cons_append,List.nil_append]
  refine j_step rfl (x_len sl79 rfl ?_)
  refine j_run it 1 rfl (by simp) ?_
  refine j_nf [_,_,_] rfl ?_
  simp only [duF_z]
  refine j_row0 NatE 29 ?_
  refine j_loopG (X:=Nat × Row) [7,44,45] [0,1,2,3,4,5,6] (fun x=>[(46,.int .i64 x.1),(11,.slice (ad x.2.bo) x.1 x.2.cap)])
   (fun x=>[(x.2.bo,29,x.2.cs)])
   (fun x=>[rowF NatE x.2 x.1 ((List.range x.1).map fun j=>limbs (duV q n L j))])
   (fun x=>x.1 ≤ n + 1 ∧ ∀ j,j < x.1 → duOk q n L j) (fun x=>n + 1 - x.1) (0,⟨none,0,[]⟩) [0] rfl rfl rfl ⟨Nat.zero_le _,fun j hj=>absurd hj (Nat.not_lt_zero _)⟩ (by repeat (first | exact Fr.sub_nil _ | refine Fr.sub_cons rfl ?_)) rfl rfl ?_
  rintro ⟨j,r2⟩ ⟨hj,hjo⟩ ih2
  simp only [List.cons_append,List.nil_append] at hj hjo ih2 ⊢
  by_cases hjl : j < n + 1
  ·refine j_nf [_,_,_,_,_] rfl (j_run it 1 rfl (by simp) ?_)
   refine j_nf [_,_,_,_,_] rfl (j_if rfl rfl (fun h4=>?_) (fun h4=>by exfalso;omega))
   refine j_nf [_,_,_,_,_,_,_] rfl (j_step rfl (x_idx 2 (j) rfl rfl rfl sl79 rfl (by omega) fun z1 hz1 b1 o1=>?_))
   refine j_step rfl (x_ld_vw vw_IntE 0 rfl rfl ld81 fun g1=>?_)
   dsimp only [vw_IntE,List.cons_append,List.nil_append,List.map_cons,List.map_nil]
   refine j_step rfl (x_alloc zo81 fun b2=>?_)
   refine j_step rfl (x_bst_all 0 rfl rfl rfl ld81 rfl rfl (by simp [Value.oneCell']) ?_)
   refine j_nf [_,_,_,_,_,_,_] rfl (j_step rfl (x_field rfl fd81_1 ?_))
   refine j_step rfl (x_bld 0 rfl rfl ld29 rfl ?_)
   refine j_run it 1 rfl (by simp) ?_ --ok
   rw [range_get _ hjl] at hz1
   obtain rfl:=Option.some.inj hz1
   have m6 : (enz (duZ q n L j)).2.length ≤ 1073741824:=Nat.le_trans (limbs_length_le (szP_lt (show n + 1 ≤ 65 by omega) (Nat.le_refl _) hf fun i hi=>tz_lt hq hq2 hn (by omega) j (Nat.le_refl 17))) (by omega)
   have eD : val (enz (duZ q n L j)).2 = (duS q n L j).natAbs:=(val_limbs _).trans (duZ_abs (by omega) L j)
   have eS : val (limbs (sumV L)) = toP L (n + 1):=by rw [val_limbs,eT]
   by_cases hr : (duS q n L j).natAbs % toP L (n + 1) = 0
   ·have k1 : (limbs (val (enz (duZ q n L j)).2 % val (limbs (sumV L)))).length = 0:=by rw [eD,eS,hr,limbs_zero];rfl
    by_cases hs : duS q n L j < 0
    ·obtain ⟨s1,s2⟩:=(duZ_neg (by omega) L j).2 hs
     have k2 : (enz (duZ q n L j)).1 = true:=s1
     have k3 : 0 < (enz (duZ q n L j)).2.length:=limbs_length_pos s2
     have e1 : ¬ duAll q n L:=fun h=>by have:=(h j hjl).1;omega
     rw [duR,duE,if_neg e1,if_neg e1,k2]
     refine j_step rfl (x_call [0,8] rfl (S_nat_DivMod (by omega) (by omega)) rfl ?_)
     rintro _ _ _ ⟨p11,c11,p21,c21,rfl,rfl,rfl⟩
     simp only [List.cons_append,List.nil_append]
     refine j_run it 7 rfl (by simp) ?_
     refine j_nf [_,_,_,_,_,_,_,_] rfl (j_run it 1 rfl (by simp) ?_)
     refine j_step rfl (x_len sl29 rfl ?_)
     refine j_run it 2 rfl (by simp) ?_
     refine j_split_dec (t:=61) rfl (fun h5=>by exfalso;omega) (fun h5=>?_)
     refine j_gstep rfl rfl (x_field rfl fd81_0 ?_)
     refine j_gstep rfl rfl (x_bld 0 rfl rfl ld4 rfl ?_)
     refine j_run it 1 rfl (by simp) ?_
     refine j_gstep rfl rfl (x_field rfl fd81_1 ?_)
     refine j_gstep rfl rfl (x_bld 0 rfl rfl ld29 rfl ?_)
     refine j_gstep rfl rfl (x_len sl29 rfl ?_)
     refine j_run it 3 rfl (by simp) ?_
     refine j_nf [_,_,_,_,_,_,_] rfl (j_if rfl rfl (fun h6=>?_) (fun h6=>by exfalso;omega))
     refine j_nf [_,_,_,_,_,_,_,_] rfl (j_run it 2 rfl (by simp) ?_)
     refine j_nf [_,_,_,_,_,_,_] rfl ?_
     refine j_add (slF NatE none 0 0 []) (fun w A _=>slF_nil _ _ _ _ _) ?_
     refine j_giv [0] rfl rfl rfl ⟨_,_,rfl,rfl,rfl⟩
    ·have e1 : duOk q n L j:=⟨by omega,hr⟩
     have e2 : limbs (val (enz (duZ q n L j)).2 / val (limbs (sumV L))) = limbs (duV q n L j):=by rw [eD,eS,duV]
     by_cases k2 : (enz (duZ q n L j)).1 = true
     ·have k3 : (enz (duZ q n L j)).2.length = 0:=by
       rcases Nat.eq_zero_or_pos (duZ q n L j).2 with h | h
       ·rw [enz,h,limbs_zero];rfl
       ·exact absurd ((duZ_neg (by omega) L j).1 ⟨k2,h⟩) hs
      rw [k2]
      refine j_step rfl (x_call [0,8] rfl (S_nat_DivMod (by omega) (by omega)) rfl ?_)
      rintro _ _ _ ⟨p11,c11,p21,c21,rfl,rfl,rfl⟩
      simp only [List.cons_append,List.nil_append]
      refine j_run it 7 rfl (by simp) ?_
      refine j_nf [_,_,_,_,_,_,_,_] rfl (j_run it 1 rfl (by simp) ?_)
      refine j_step rfl (x_len sl29 rfl ?_)
      refine j_run it 2 rfl (by simp) ?_
      refine j_split_dec (t:=61) rfl (fun h5=>by exfalso;omega) (fun h5=>?_)
      refine j_gstep rfl rfl (x_field rfl fd81_0 ?_)
      refine j_gstep rfl rfl (x_bld 0 rfl rfl ld4 rfl ?_)
      refine j_run it 1 rfl (by simp) ?_
      refine j_gstep rfl rfl (x_field rfl fd81_1 ?_)
      refine j_gstep rfl rfl (x_bld 0 rfl rfl ld29 rfl ?_)
      refine j_gstep rfl rfl (x_len sl29 rfl ?_)
      refine j_run it 3 rfl (by simp) ?_
      refine j_nf [_,_,_,_,_,_,_] rfl (j_if rfl rfl (fun h6=>by exfalso;omega) (fun h6=>?_))
      refine j_nf [_,_,_,_,_,_] rfl (j_run it 2 rfl (by simp) ?_)
      refine j_step rfl (x_lit sl33 zo33e rfl rfl rfl rfl (by decide) (by decide) rfl fun b3=>?_)
      refine j_step rfl (x_appR (z:=limbs (val (enz (duZ q n L j)).snd / val (limbs (sumV L)))) 2 0 4 rfl rfl rfl rfl rfl sl33 zo33e rfl (fun w A hG=>(rd_of_slF (hG _ (fact_mem (n:=0) rfl)))) (by omega) _ by33e (by omega) fun r1=>?_)
      refine j_run it 1 rfl (by simp) ?_
      refine j_nf [_,_,_,_] rfl (j_run it 2 rfl ⟨trivial,⟨by omega,by omega⟩,trivial⟩ ?_)
      refine j_nfn 1 [.lp (pL 4084),.blk 2,.c (pL 511)] rfl ?_
      rw [e2,← range_snoc fun j=>limbs (duV q n L j)]
      refine j_toM [true,false,false] [0,6,7,8,9,10,11,12] (by exact fra rfl) rfl rfl (ih2 (j + 1,r1) (by dsimp only;omega) ⟨by dsimp only;omega,fun i hi=>by
       rcases Nat.lt_succ_iff_lt_or_eq.1 hi with h | rfl
       ·exact hjo i h
       ·exact e1⟩)
     ·rw [Bool.not_eq_true] at k2
      rw [k2]
      refine j_step rfl (x_call [0,8] rfl (S_nat_DivMod (by omega) (by omega)) rfl ?_)
      rintro _ _ _ ⟨p11,c11,p21,c21,rfl,rfl,rfl⟩
      simp only [List.cons_append,List.nil_append]
      refine j_run it 7 rfl (by simp) ?_
      refine j_nf [_,_,_,_,_,_,_,_] rfl (j_run it 1 rfl (by simp) ?_)
      refine j_step rfl (x_len sl29 rfl ?_)
      refine j_run it 2 rfl (by simp) ?_
      refine j_split_dec (t:=61) rfl (fun h5=>by exfalso;omega) (fun h5=>?_)
      refine j_gstep rfl rfl (x_field rfl fd81_0 ?_)
      refine j_gstep rfl rfl (x_bld 0 rfl rfl ld4 rfl ?_)
      refine j_run it 7 rfl (by simp) ?_
      refine j_nf [_,_,_,_,_,_,_] rfl ?_
      refine j_false rfl rfl ?_
      refine j_nf [_,_,_,_,_,_] rfl (j_run it 2 rfl (by simp) ?_)
      refine j_step rfl (x_lit sl33 zo33e rfl rfl rfl rfl (by decide) (by decide) rfl fun b3=>?_)
      refine j_step rfl (x_appR (z:=limbs (val (enz (duZ q n L j)).snd / val (limbs (sumV L)))) 2 0 4 rfl rfl rfl rfl rfl sl33 zo33e rfl (fun w A hG=>(rd_of_slF (hG _ (fact_mem (n:=0) rfl)))) (by omega) _ by33e (by omega) fun r1=>?_)
      refine j_run it 1 rfl (by simp) ?_
      refine j_nf [_,_,_,_] rfl (j_run it 2 rfl ⟨trivial,⟨by omega,by omega⟩,trivial⟩ ?_)
      refine j_nfn 1 [.lp (pL 4084),.blk 2,.c (pL 511)] rfl ?_
      rw [e2,← range_snoc fun j=>limbs (duV q n L j)]
      refine j_toM [true,false,false] [0,6,7,8,9,10,11,12] (by exact fra rfl) rfl rfl (ih2 (j + 1,r1) (by dsimp only;omega) ⟨by dsimp only;omega,fun i hi=>by
       rcases Nat.lt_succ_iff_lt_or_eq.1 hi with h | rfl
       ·exact hjo i h
       ·exact e1⟩)
   ·have k1 : 0 < (limbs (val (enz (duZ q n L j)).2 % val (limbs (sumV L)))).length:=by rw [eD,eS];exact limbs_length_pos (Nat.pos_of_ne_zero hr)
    have e1 : ¬ duAll q n L:=fun h=>hr (h j hjl).2
    rw [duR,duE,if_neg e1,if_neg e1]
    refine j_step rfl (x_call [0,8] rfl (S_nat_DivMod (by omega) (by omega)) rfl ?_)
    rintro _ _ _ ⟨p11,c11,p21,c21,rfl,rfl,rfl⟩
    simp only [List.cons_append,List.nil_append]
    refine j_run it 7 rfl (by simp) ?_
    refine j_nf [_,_,_,_,_,_,_,_] rfl (j_run it 1 rfl (by simp) ?_)
    refine j_step rfl (x_len sl29 rfl ?_)
    refine j_run it 2 rfl (by simp) ?_
    refine j_split_dec (t:=61) rfl (fun h5=>?_) (fun h5=>by exfalso;omega)
    refine j_run it 3 rfl (by simp) ?_
    refine j_gskipU rfl rfl ?_
    refine j_gskipU rfl rfl ?_
    refine j_gskipU rfl rfl ?_
    refine j_gskipU rfl rfl ?_
    refine j_run it 2 rfl (by simp) ?_
    refine j_nf [_,_,_,_,_,_,_] rfl ?_
    refine j_true rfl rfl ?_
    refine j_nf [_,_,_,_,_,_,_,_] rfl (j_run it 2 rfl (by simp) ?_)
    refine j_nf [_,_,_,_,_,_,_] rfl ?_
    refine j_add (slF NatE none 0 0 []) (fun w A _=>slF_nil _ _ _ _ _) ?_
    refine j_giv [0] rfl rfl rfl ⟨_,_,rfl,rfl,rfl⟩
  ·obtain rfl : n + 1 = j:=by omega
   have e1 : duAll q n L:=hjo
   rw [duR,duE,if_pos e1,if_pos e1,show ((List.range (n + 1)).map fun j=>limbs (duV q n L j)).length = n + 1 by simp]
   refine j_nf [_,_,_,_,_] rfl (j_run it 1 rfl (by simp) ?_)
   refine j_nf [_,_,_,_,_] rfl (j_if rfl rfl (fun h4=>by exfalso;omega) (fun h4=>?_))
   refine j_nf [_,_] rfl (j_run it 3 rfl (by simp) ?_)
   refine j_nf [_] rfl ?_
   refine j_pubR 0 0 rfl rfl (by show (n + 1) * 24 ≤ 140737488355328;omega) ?_
   refine j_giv [0] rfl rfl rfl ⟨_,_,rfl,rfl,rfl⟩
theorem zeroN {l : List Nat} (h : ∀ x ∈ l,x < 4294967296) : (trim l).length = 0 ↔ val l = 0:=by
 rw [trim_eq h,List.length_eq_zero_iff,limbs_nil]
theorem bitsN {l : List Nat} (h : ∀ x ∈ l,x < 4294967296) : bitsL l = 0 ↔ val l = 0:=bitsL_zero h
def cntP (L : List (List Nat)) : Nat → Nat
 | 0=>0
 | k + 1=>cntP L k + (if val (L.getD (k + 1) default) = 0 then 0 else 1)
theorem cntP_le (L : List (List Nat)) : ∀ k,cntP L k ≤ k
 | 0=>Nat.le_refl 0
 | k + 1=>by have:=cntP_le L k;rw [cntP];split <;> omega
theorem S_macwilliams_some {m : Nat} {pa : Option Addr} {n ca : Nat} {L : List (List Nat)} (hm : m < n) (hr : ∀ l ∈ L,∀ x ∈ l,x < 4294967296) :
  Ctr Try.prog 52 [.slice pa n ca,.int .i64 m] [] [slF NatE pa n ca L] (Rv (.int .i64 (cntP L m)) []):=by
 refine Ctr_of_j' (F:=F_macwilliams_some) rfl fun C=>?_
 refine j_len 0 rfl fun hn hb _=>?_
 have hb' : L.length * 24 ≤ 140737488355328:=hb
 refine j_nf [_,_] rfl (j_run it 1 rfl (by simp) ?_)
 refine j_nf [_,_] rfl (j_run it 1 rfl (by simp) ?_)
 refine j_nf [_,_,_] rfl (j_run it 1 rfl (by simp) ?_)
 refine j_nf [_,_,_] rfl ?_
 refine j_loopG (X:=Nat) [0,1,4] [0] (fun k=>[(6,.int .i64 ((k + 1 : Nat) : Int)),(5,.int .i64 ((cntP L k : Nat) : Int))]) (fun _=>[]) (fun _=>[])
  (fun k=>k ≤ m) (fun k=>m - k) 0 [] rfl rfl rfl (Nat.zero_le _) (by repeat (first | exact Fr.sub_nil _ | refine Fr.sub_cons rfl ?_)) rfl rfl ?_
 intro k hk ih
 simp only [List.cons_append,List.nil_append] at ih ⊢
 have hc:=cntP_le L k
 by_cases hkl : k < m
 ·have hz:=get_some (l:=L) (i:=k + 1) (dflt:=default) (by omega)
  have hb0:=bitsN (hr _ (List.mem_of_getElem? hz))
  refine j_nf [_,_,_,_,_,_] rfl (j_run it 3 rfl (by simp) ?_)
  refine j_nf [_,_,_,_,_] rfl (j_if rfl rfl (fun h1=>?_) (fun h1=>by exfalso;omega))
  refine j_nf [_,_,_,_,_,_,_] rfl (j_run it 2 rfl (by simp) ?_)
  refine j_step rfl (x_idx 0 (k + 1) rfl rfl rfl sl33 rfl (by omega) fun z1 hz1 b1 o1=>?_)
  refine j_step rfl (x_ld_sl 0 rfl rfl ld29 fun pa1 ca1=>?_)
  refine j_step rfl (x_call [0] rfl (S_nat_Bits) rfl ?_)
  rintro _ _ _ ⟨rfl,rfl,rfl⟩
  simp only [List.cons_append,List.nil_append]
  refine j_run it 1 rfl (by simp) ?_
  refine j_nf [_,_,_,_,_,_] rfl (j_if rfl rfl (fun h2=>?_) (fun h2=>?_))
  ·have hzz : L.getD (k + 1) default = z1:=by rw [List.getD,hz1];rfl
   rw [hzz] at hb0
   have e : cntP L (k + 1) = cntP L k + 1:=by rw [cntP,hzz,if_neg (fun h=>by have:=hb0.2 h;omega)]
   refine j_nf [_,_,_,_,_,_] rfl (j_run it 3 rfl ⟨trivial,⟨by omega,by omega⟩,trivial,trivial⟩ ?_)
   refine j_nf [_,_,_,_] rfl (j_run it 3 rfl ⟨trivial,⟨by omega,by omega⟩,trivial,trivial⟩ ?_)
   refine j_nfn 1 [.lp (pL 116),.blk 0,.c [1,1,1]] rfl ?_
   have ih':=ih (k + 1) (by omega) (by omega)
   rw [e] at ih'
   refine j_to [2] (by exact fra rfl) rfl rfl (ih')
  ·have hzz : L.getD (k + 1) default = z1:=by rw [List.getD,hz1];rfl
   rw [hzz] at hb0
   have e : cntP L (k + 1) = cntP L k:=by rw [cntP,hzz,if_pos (hb0.1 (by omega))];rfl
   refine j_nf [_,_,_,_] rfl (j_run it 3 rfl ⟨trivial,⟨by omega,by omega⟩,trivial,trivial⟩ ?_)
   refine j_nfn 1 [.lp (pL 116),.blk 0,.c [1,1,1]] rfl ?_
   have ih':=ih (k + 1) (by omega) (by omega)
   rw [e] at ih'
   refine j_to [2] (by exact fra rfl) rfl rfl (ih')
 ·obtain rfl : m = k:=by omega
  refine j_nf [_,_,_,_,_,_] rfl (j_run it 3 rfl (by simp) ?_)
  refine j_nf [_,_,_,_,_] rfl (j_if rfl rfl (fun h1=>by exfalso;omega) (fun h1=>?_))
  refine j_nf [_,_] rfl (j_run it 2 rfl (by simp) ?_)
  refine j_nf [_] rfl ?_
  refine j_giv [] rfl rfl rfl ⟨rfl,rfl,rfl⟩
def DE (q : Int) (n : Nat) (L : List (List Nat)) : Int:=if wrongOf q n ≠ 0 then wrongOf q n else if sumV L = 0 then 7 else duE q.toNat (n - 1) L
def DR (q : Int) (n : Nat) (L : List (List Nat)) : List (List Nat):=if wrongOf q n ≠ 0 then [] else if sumV L = 0 then [] else duR q.toNat (n - 1) L
theorem wrong_zero {q : Int} {n : Nat} (h : wrongOf q n = 0) : ∃ (p m : Nat),q = p ∧ n = m + 1 ∧ 2 ≤ p ∧ p ≤ 256 ∧ m ≤ 64:=by
 unfold wrongOf at h
 by_cases h1 : q < 2 ∨ 256 < q
 ·rw [if_pos h1] at h;cases h
 ·rw [if_neg h1,shapeOf] at h
  by_cases h2 : n < 1 ∨ 65 < n
  ·rw [if_pos h2] at h;cases h
  ·exact ⟨q.toNat,n - 1,by omega,by omega,by omega,by omega,by omega⟩
theorem DE_zero {q : Int} {n : Nat} {L : List (List Nat)} (h : DE q n L = 0) : 1 ≤ n ∧ n ≤ 65 ∧ (DR q n L).length = n ∧ ∀ l ∈ DR q n L,∀ x ∈ l,x < 4294967296:=by
 unfold DE at h
 by_cases h1 : wrongOf q n = 0
 ·rw [if_neg (not_not_intro h1)] at h
  obtain ⟨p,m,rfl,rfl,h2,h3,h4⟩:=wrong_zero h1
  by_cases h5 : sumV L = 0
  ·rw [if_pos h5] at h;cases h
  ·rw [if_neg h5,duE] at h
   by_cases h6 : duAll (p : Int).toNat (m + 1 - 1) L
   ·refine ⟨by omega,by omega,?_,?_⟩
    ·rw [DR,if_neg (not_not_intro h1),if_neg h5,duR,if_pos h6];simp
    ·rw [DR,if_neg (not_not_intro h1),if_neg h5,duR,if_pos h6]
     intro l hl
     obtain ⟨i,_,rfl⟩:=List.mem_map.1 hl
     exact limbs_lt _
   ·rw [if_neg h6] at h;cases h
 ·rw [if_pos h1] at h;exact absurd h h1
theorem sum_toP {n : Nat} {L : List (List Nat)} (h : L.length = n + 1) : sumV L = toP L (n + 1):=by rw [← toP_all,h]
theorem S_macwilliams_Dual {q : Int} {n K : Nat} {pa : Option Addr} {ca : Nat} {L : List (List Nat)} (hK : K ≤ 10000) (hL : ∀ l ∈ L,okN K l) :
  Ctr Try.prog 19 [.int .i64 q,.slice pa n ca] [] [slF NatE pa n ca L] (SvE NatE (DR q n L).length (DR q n L) (DE q n L)):=by
 by_cases h1 : wrongOf q n = 0
 ·obtain ⟨p,m,rfl,rfl,h2,h3,h4⟩:=wrong_zero h1
  by_cases h5 : sumV L = 0
  ·rw [DR,DE,if_neg (not_not_intro h1),if_neg (not_not_intro h1),if_pos h5,if_pos h5]
   refine Ctr_of_j' (F:=F_macwilliams_Dual) rfl fun C=>?_
   refine j_len 0 rfl fun hn _ _=>?_
   have hlen : L.length ≤ 65536:=by omega
   have hLl : ∀ l ∈ L,l.length ≤ 1073741824:=fun l h=>by have:=(hL l h).2;omega
   have hT0 : (limbs (sumV L)).length = 0:=by rw [h5,limbs_zero];rfl
   refine j_nf [_,_] rfl (j_run it 2 rfl (by simp) ?_)
   refine j_nf [_,_,_] rfl (j_run it 2 rfl (by simp) ?_)
   refine j_step rfl (x_len sl33 rfl ?_)
   refine j_step rfl (x_call [] rfl (S_macwilliams_wrong) rfl ?_)
   rintro _ _ _ ⟨rfl,rfl,rfl⟩
   simp only [List.cons_append,List.nil_append]
   refine j_run it 1 rfl (by simp) ?_
   refine j_nf [_,_,_] rfl (j_run it 2 rfl (by simp) ?_)
   refine j_nf [_,_] rfl (j_ifn rfl rfl (fun h6=>by exfalso;omega) (fun h6=>?_))
   refine j_nf [_,_] rfl (j_run it 1 rfl (by simp) ?_)
   refine j_step rfl (x_call [0] rfl (S_nat_Add (by omega) (by omega)) rfl ?_)
   rintro _ _ _ ⟨pa1,ca1,rfl,rfl,rfl⟩
   simp only [List.cons_append,List.nil_append]
   refine j_run it 1 rfl (by simp) ?_
   refine j_nf [_,_,_] rfl (j_run it 1 rfl (by simp) ?_)
   refine j_step rfl (x_len sl29 rfl ?_)
   refine j_run it 1 rfl (by simp) ?_
   refine j_nf [_,_] rfl (j_if rfl rfl (fun h7=>?_) (fun h7=>by exfalso;omega))
   refine j_nf [_,_,_] rfl (j_run it 2 rfl (by simp) ?_)
   refine j_nf [_,_] rfl ?_
   refine j_add (slF NatE none 0 0 []) (fun w A _=>slF_nil _ _ _ _ _) ?_
   refine j_giv [0] rfl rfl rfl ⟨_,_,rfl,rfl,rfl⟩
  ·rw [DR,DE,if_neg (not_not_intro h1),if_neg (not_not_intro h1),if_neg h5,if_neg h5,show ((p : Nat) : Int).toNat = p by omega,Nat.add_sub_cancel]
   refine Ctr_len (F:=F_macwilliams_Dual) 0 rfl fun hn=>?_
   exact U_macwilliams_Dual h2 h3 h4 hn.symm hK hL (by rw [← sum_toP hn.symm];exact h5)
 ·rw [DR,DE,if_pos h1,if_pos h1]
  refine Ctr_of_j' (F:=F_macwilliams_Dual) rfl fun C=>?_
  refine j_nf [_,_] rfl (j_run it 2 rfl (by simp) ?_)
  refine j_nf [_,_,_] rfl (j_run it 2 rfl (by simp) ?_)
  refine j_step rfl (x_len sl33 rfl ?_)
  refine j_step rfl (x_call [] rfl (S_macwilliams_wrong) rfl ?_)
  rintro _ _ _ ⟨rfl,rfl,rfl⟩
  simp only [List.cons_append,List.nil_append]
  refine j_run it 1 rfl (by simp) ?_
  refine j_nf [_,_,_] rfl (j_run it 2 rfl (by simp) ?_)
  refine j_nf [_,_] rfl (j_ifn rfl rfl (fun h2=>?_) (fun h2=>by exfalso;omega))
  refine j_nf [_,_,_] rfl (j_run it 3 rfl (by simp) ?_)
  refine j_nf [_,_] rfl ?_
  refine j_add (slF NatE none 0 0 []) (fun w A _=>slF_nil _ _ _ _ _) ?_
  refine j_giv [0] rfl rfl rfl ⟨_,_,rfl,rfl,rfl⟩
theorem S_macwilliams_External {q : Int} {n K : Nat} {pa : Option Addr} {ca : Nat} {L : List (List Nat)} (hK : K ≤ 10000) (hL : ∀ l ∈ L,okN K l) :
  Ctr Try.prog 21 [.int .i64 q,.slice pa n ca] [] [slF NatE pa n ca L] (Rv (.tuple #[.int .i64 ((if DE q n L = 0 then cntP (DR q n L) (n - 1) else 0 : Nat) : Int),.int .i64 (DE q n L)]) []):=by
 refine Ctr_of_j' (F:=F_macwilliams_External) rfl fun C=>?_
 by_cases h : DE q n L = 0
 ·obtain ⟨d1,d2,d3,d4⟩:=DE_zero h
  rw [if_pos h]
  refine j_nf [_,_] rfl (j_run it 2 rfl (by simp) ?_)
  refine j_nf [_,_] rfl (j_run it 2 rfl (by simp) ?_)
  refine j_step rfl (x_call [0] rfl (S_macwilliams_Dual (by omega) (by omega)) rfl ?_)
  rintro _ _ _ ⟨pa1,ca1,rfl,rfl,rfl⟩
  simp only [List.cons_append,List.nil_append]
  refine j_run it 5 rfl (by simp) ?_
  refine j_nf [_,_,_] rfl (j_run it 2 rfl (by simp) ?_)
  refine j_nf [_,_] rfl (j_ifn rfl rfl (fun h1=>by exfalso;omega) (fun h1=>?_))
  refine j_nf [_,_] rfl (j_run it 2 rfl (by simp) ?_)
  refine j_step rfl (x_len sl33 rfl ?_)
  refine j_run it 1 rfl ⟨⟨by omega,by omega⟩,trivial⟩ ?_
  refine j_recast (t:=20) (((((DR q n L).length) - 1) : Nat) : Int) rfl (by omega) ?_
  refine j_step rfl (x_call [0] rfl (S_macwilliams_some (by omega) (by omega)) rfl ?_)
  rintro _ _ _ ⟨rfl,rfl,rfl⟩
  simp only [List.cons_append,List.nil_append]
  refine j_run it 2 rfl (by simp) ?_
  refine j_nf [_] rfl ?_
  rw [d3,h]
  refine j_giv [] rfl rfl rfl ⟨rfl,rfl,rfl⟩
 ·rw [if_neg h]
  refine j_nf [_,_] rfl (j_run it 2 rfl (by simp) ?_)
  refine j_nf [_,_] rfl (j_run it 2 rfl (by simp) ?_)
  refine j_step rfl (x_call [0] rfl (S_macwilliams_Dual (by omega) (by omega)) rfl ?_)
  rintro _ _ _ ⟨pa1,ca1,rfl,rfl,rfl⟩
  simp only [List.cons_append,List.nil_append]
  refine j_run it 5 rfl (by simp) ?_
  refine j_nf [_,_,_] rfl (j_run it 2 rfl (by simp) ?_)
  refine j_nf [_,_] rfl (j_ifn rfl rfl (fun h1=>?_) (fun h1=>by exfalso;omega))
  refine j_nf [_,_,_] rfl (j_run it 3 rfl (by simp) ?_)
  refine j_nf [_,_] rfl ?_
  refine j_giv [] rfl rfl rfl ⟨rfl,rfl,rfl⟩
theorem S_codewrightref24_nonzero {m : Nat} {pa : Option Addr} {n ca : Nat} {L : List (List Nat)} (hm : m < n) (hr : ∀ l ∈ L,∀ x ∈ l,x < 4294967296) :
  Ctr Try.prog 54 [.slice pa n ca,.int .i64 m] [] [slF NatE pa n ca L] (Rv (.int .i64 (cntP L m)) []):=by
 refine Ctr_of_j' (F:=F_codewrightref24_nonzero) rfl fun C=>?_
 refine j_len 0 rfl fun hn hb _=>?_
 have hb' : L.length * 24 ≤ 140737488355328:=hb
 refine j_nf [_,_] rfl (j_run it 1 rfl (by simp) ?_)
 refine j_nf [_,_] rfl (j_run it 1 rfl (by simp) ?_)
 refine j_nf [_,_,_] rfl (j_run it 1 rfl (by simp) ?_)
 refine j_nf [_,_,_] rfl ?_
 refine j_loopG (X:=Nat) [0,1,4] [0] (fun k=>[(6,.int .i64 ((k + 1 : Nat) : Int)),(5,.int .i64 ((cntP L k : Nat) : Int))]) (fun _=>[]) (fun _=>[])
  (fun k=>k ≤ m) (fun k=>m - k) 0 [] rfl rfl rfl (Nat.zero_le _) (by repeat (first | exact Fr.sub_nil _ | refine Fr.sub_cons rfl ?_)) rfl rfl ?_
 intro k hk ih
 simp only [List.cons_append,List.nil_append] at ih ⊢
 have hc:=cntP_le L k
 by_cases hkl : k < m
 ·have hz:=get_some (l:=L) (i:=k + 1) (dflt:=default) (by omega)
  have hb0:=zeroN (hr _ (List.mem_of_getElem? hz))
  refine j_nf [_,_,_,_,_,_] rfl (j_run it 3 rfl (by simp) ?_)
  refine j_nf [_,_,_,_,_] rfl (j_if rfl rfl (fun h1=>?_) (fun h1=>by exfalso;omega))
  refine j_nf [_,_,_,_,_,_,_] rfl (j_run it 2 rfl (by simp) ?_)
  refine j_step rfl (x_idx 0 (k + 1) rfl rfl rfl sl33 rfl (by omega) fun z1 hz1 b1 o1=>?_)
  refine j_step rfl (x_ld_sl 0 rfl rfl ld29 fun pa1 ca1=>?_)
  refine j_step rfl (x_call [0] rfl (S_codewrightref01_Zero) rfl ?_)
  rintro _ _ _ ⟨rfl,rfl,rfl⟩
  simp only [List.cons_append,List.nil_append]
  refine j_run it 1 rfl (by simp) ?_
  refine j_nf [_,_,_,_,_,_] rfl (j_ifn rfl rfl (fun h2=>?_) (fun h2=>?_))
  ·have hzz : L.getD (k + 1) default = z1:=by rw [List.getD,hz1];rfl
   rw [hzz] at hb0
   have e : cntP L (k + 1) = cntP L k + 1:=by rw [cntP,hzz,if_neg (fun h=>by have:=hb0.2 h;omega)]
   refine j_nf [_,_,_,_,_,_] rfl (j_run it 3 rfl ⟨trivial,⟨by omega,by omega⟩,trivial,trivial⟩ ?_)
   refine j_nf [_,_,_,_] rfl (j_run it 3 rfl ⟨trivial,⟨by omega,by omega⟩,trivial,trivial⟩ ?_)
   refine j_nfn 1 [.lp (pL 116),.blk 0,.c [1,1,1]] rfl ?_
   have ih':=ih (k + 1) (by omega) (by omega)
   rw [e] at ih'
   refine j_to [2] (by exact fra rfl) rfl rfl (ih')
  ·have hzz : L.getD (k + 1) default = z1:=by rw [List.getD,hz1];rfl
   rw [hzz] at hb0
   have e : cntP L (k + 1) = cntP L k:=by rw [cntP,hzz,if_pos (hb0.1 (by omega))];rfl
   refine j_nf [_,_,_,_] rfl (j_run it 3 rfl ⟨trivial,⟨by omega,by omega⟩,trivial,trivial⟩ ?_)
   refine j_nfn 1 [.lp (pL 116),.blk 0,.c [1,1,1]] rfl ?_
   have ih':=ih (k + 1) (by omega) (by omega)
   rw [e] at ih'
   refine j_to [2] (by exact fra rfl) rfl rfl (ih')
 ·obtain rfl : m = k:=by omega
  refine j_nf [_,_,_,_,_,_] rfl (j_run it 3 rfl (by simp) ?_)
  refine j_nf [_,_,_,_,_] rfl (j_if rfl rfl (fun h1=>by exfalso;omega) (fun h1=>?_))
  refine j_nf [_,_] rfl (j_run it 2 rfl (by simp) ?_)
  refine j_nf [_] rfl ?_
  refine j_giv [] rfl rfl rfl ⟨rfl,rfl,rfl⟩
theorem S_codewrightref24_External {pa : Option Addr} {n ca : Nat} {L : List (List Nat)} (h0 : 1 ≤ n) (hr : ∀ l ∈ L,∀ x ∈ l,x < 4294967296) :
  Ctr Try.prog 24 [.slice pa n ca] [] [slF NatE pa n ca L] (Rv (.int .i64 (cntP L (n - 1))) []):=by
 refine Ctr_of_j' (F:=F_codewrightref24_External) rfl fun C=>?_
 refine j_len 0 rfl fun hn hb _=>?_
 have hb' : L.length * 24 ≤ 140737488355328:=hb
 refine j_nf [_,_] rfl (j_run it 1 rfl (by simp) ?_)
 refine j_nf [_,_] rfl (j_run it 2 rfl (by simp) ?_)
 refine j_step rfl (x_len sl33 rfl ?_)
 refine j_run it 1 rfl ⟨⟨by omega,by omega⟩,trivial⟩ ?_
 refine j_recast (t:=6) ((((n) - 1) : Nat) : Int) rfl (by omega) ?_
 refine j_step rfl (x_call [0] rfl (S_codewrightref24_nonzero (by omega) (by omega)) rfl ?_)
 rintro _ _ _ ⟨rfl,rfl,rfl⟩
 simp only [List.cons_append,List.nil_append]
 refine j_run it 1 rfl (by simp) ?_
 refine j_nf [_] rfl ?_
 refine j_giv [] rfl rfl rfl ⟨rfl,rfl,rfl⟩
set_option maxHeartbeats 8000000
theorem lsum_one : ∀ L : List (List Int),lsum L (fun _=>1) = L.length
 | []=>rfl
 | u::L=>by rw [lsum,lsum_one L,List.length_cons];omega
theorem toP_cw {n : Nat} {L : List (List Int)} : ∀ k,k ≤ n + 1 → ((toP (cwL n L) k : Nat) : Int) = sm k (fun i=>1 * cntW L i)
 | 0,_=>rfl
 | k + 1,h=>by rw [toP,sm,Int.natCast_add,toP_cw k (by omega),cwL_at (by omega),val_limbs,cntW_cw,Int.one_mul]
theorem toP_all_cw {n : Nat} {L : List (List Int)} (hL : ∀ u ∈ L,u.length = n) : toP (cwL n L) (n + 1) = L.length:=by
 have h:=toP_cw (L:=L) (n + 1) (Nat.le_refl _)
 rw [← lsum_wt hL (fun _=>1),lsum_one] at h
 exact Int.ofNat.inj h
section
variable {q : Nat} {A M : Int → Int → Int} (F : FI q A M)
include F
theorem duS_cw {n : Nat} {rows L K : List (List Int)} (h : SpI q n A M rows L) (hK : AlI q n n K) (j : Nat) : duS q n (cwL n L) j = L.length * (cwN (K.filter (orthB A M rows)) j : Int):=by
 rw [← cntW_cw,mac_wt F h hK j,lsum_wt (fun u hu=>(h.wd u hu).1) (fun i=>kr ((q : Int) - 1) n j i),duS]
 refine sm_congr fun i hi=>?_
 rw [cwL_at (by omega),val_limbs,cntW_cw,Int.mul_comm]
theorem du_cw {n : Nat} {rows L K : List (List Int)} (h : SpI q n A M rows L) (hK : AlI q n n K) (j : Nat) : duOk q n (cwL n L) j ∧ duV q n (cwL n L) j = cwN (K.filter (orthB A M rows)) j:=by
 have hl:=toP_all_cw fun u hu=>(h.wd u hu).1
 have hp:=h.pos
 have e:=duS_cw F h hK j
 rw [← Int.natCast_mul] at e
 unfold duOk duV
 rw [hl,e,Int.natAbs_natCast,Nat.mul_mod_right,Nat.mul_div_cancel_left _ hp]
 exact ⟨⟨by omega,rfl⟩,rfl⟩
theorem dual_cw {n : Nat} (hq : q ≤ 256) (hn : n ≤ 64) {rows L K : List (List Int)} (h : SpI q n A M rows L) (hK : AlI q n n K) : DE q (n + 1) (cwL n L) = 0 ∧ DR q (n + 1) (cwL n L) = cwL n (K.filter (orthB A M rows)):=by
 have hq2:=F.q2
 have hw : wrongOf q (n + 1) = 0:=by
  rw [wrongOf,if_neg (by omega),shapeOf]
  simp;omega
 have hs : sumV (cwL n L) ≠ 0:=by
  have h1:=toP_all (cwL n L)
  rw [cwL_len,toP_all_cw fun u hu=>(h.wd u hu).1] at h1
  have:=h.pos;omega
 have ha : duAll q n (cwL n L):=fun j _=>(du_cw F h hK j).1
 unfold DE DR
 rw [if_neg (by rw [hw];simp),if_neg hs,if_neg (by rw [hw];simp),if_neg hs,Int.toNat_natCast,Nat.add_sub_cancel,duE,if_pos ha,duR,if_pos ha]
 exact ⟨rfl,List.map_congr_left fun j _=>by rw [(du_cw F h hK j).2]⟩
end
set_option maxRecDepth 100000
set_option linter.unusedVariables false
set_option linter.unusedSimpArgs false
def uT (a : Int) (n : Nat) (f : Nat → Int) (x : Nat) : Int:=sm (n + 1) (fun k=>(binom n k : Int) * a ^ k * (kr a n x k * f k))
def band (a : Int) (n m : Nat) (f : Nat → Int) : Prop:=∀ x,m < x → uT a n f x = 0
theorem uT_add (a : Int) (n : Nat) (f g : Nat → Int) (x : Nat) : uT a n (fun k=>f k + g k) x = uT a n f x + uT a n g x:=by
 rw [uT,uT,uT,← sm_add];exact sm_congr fun k _=>by grind
theorem uT_mul (a : Int) (n : Nat) (c : Int) (f : Nat → Int) (x : Nat) : uT a n (fun k=>c * f k) x = c * uT a n f x:=by
 rw [uT,uT,← sm_mul];exact sm_congr fun k _=>by grind
theorem uT_congr {a : Int} {n : Nat} {f g : Nat → Int} (h : ∀ k,k ≤ n → f k = g k) (x : Nat) : uT a n f x = uT a n g x :=
 sm_congr fun k hk=>by rw [h k (by omega)]
theorem uT_kr (a : Int) (n j x : Nat) : uT a n (fun k=>kr a n j k) x = if x = j then (a + 1) ^ n * (a ^ x * (binom n x : Int)) else 0:=orth_eq a n x j
theorem band_kr (a : Int) (n j : Nat) : band a n j (fun k=>kr a n j k):=fun x hx=>by rw [uT_kr,if_neg (by omega)]
theorem band_le {a : Int} {n m m' : Nat} {f : Nat → Int} (h : band a n m f) (hm : m ≤ m') : band a n m' f:=fun x hx=>h x (by omega)
theorem band_add {a : Int} {n m : Nat} {f g : Nat → Int} (hf : band a n m f) (hg : band a n m g) : band a n m (fun k=>f k + g k):=fun x hx=>by
 rw [uT_add,hf x hx,hg x hx];rfl
theorem band_mul {a : Int} {n m : Nat} (c : Int) {f : Nat → Int} (hf : band a n m f) : band a n m (fun k=>c * f k):=fun x hx=>by
 rw [uT_mul,hf x hx,Int.mul_zero]
theorem band_congr {a : Int} {n m : Nat} {f g : Nat → Int} (h : ∀ k,k ≤ n → f k = g k) (hf : band a n m f) : band a n m g:=fun x hx=>by
 rw [← uT_congr h];exact hf x hx
theorem ring_u (b k0 k1 k2 f w p r s : Int) (h : p * k2 = (r - s * b) * k1 - w * k0) : s * (k1 * (b * f)) = r * (k1 * f) - p * (k2 * f) - w * (k0 * f):=by grind
theorem uT_step (a : Int) {n x : Nat} (hx : 1 ≤ x) (f : Nat → Int) : (a + 1) * uT a n (fun k=>(k : Int) * f k) x = ((n - x) * a + x) * uT a n f x - (x + 1) * uT a n f (x + 1) - a * (n - x + 1) * uT a n f (x - 1):=by
 rw [uT,uT,uT,uT,← sm_mul,← sm_mul,← sm_mul,← sm_mul,← sm_sub,← sm_sub]
 refine sm_congr fun k hk=>?_
 have h:=ring_u (k : Int) _ _ _ (f k) _ _ _ _ (kr_three a (n:=n) (j:=x) (x:=k) (by omega) hx)
 generalize (binom n k : Int) * a ^ k = w
 have e1 : (a + 1) * (w * (kr a n x k * ((k : Int) * f k))) = w * ((a + 1) * (kr a n x k * ((k : Int) * f k))):=by grind
 rw [e1,h]
 grind
theorem band_step {a : Int} (ha : a + 1 ≠ 0) {n m : Nat} {f : Nat → Int} (hf : band a n m f) : band a n (m + 1) (fun k=>(k : Int) * f k):=fun x hx=>by
 have h:=uT_step a (n:=n) (x:=x) (by omega) f
 rw [hf x (by omega),hf (x + 1) (by omega),hf (x - 1) (by omega)] at h
 simp only [Int.mul_zero,Int.sub_zero] at h
 exact (Int.mul_eq_zero.1 h).resolve_left ha
theorem ham_sum {q n x : Nat} (hx : x ≤ n) (f : Nat → Int) : (((q : Int) - 1) ^ x * (binom n x : Int)) * sm (n + 1) (fun k=>f k * kr ((q : Int) - 1) n k x) = uT ((q : Int) - 1) n f x:=by
 rw [uT,← sm_mul]
 refine sm_congr fun k hk=>?_
 have h:=recip ((q : Int) - 1) n x k hx (by omega)
 have e : ((q : Int) - 1) ^ x * (binom n x : Int) * (f k * kr ((q : Int) - 1) n k x) = f k * (kr ((q : Int) - 1) n k x * (((q : Int) - 1) ^ x * (binom n x : Int))):=by
  generalize ((q : Int) - 1) ^ x * (binom n x : Int) = w
  grind
 rw [e,h]
 grind
def annih (S : List Nat) (j : Nat) : Int:=match S with
 | []=>1
 | i::S=>((i : Int) - j) * annih S j
theorem annih_zero {S : List Nat} {j : Nat} (h : j ∈ S) : annih S j = 0:=by
 induction S with
 | nil=>cases h
 | cons i S ih =>
  rw [annih]
  rcases List.mem_cons.1 h with rfl | h
  ·simp
  ·rw [ih h,Int.mul_zero]
theorem annih_pos {S : List Nat} (h : ∀ i ∈ S,1 ≤ i) : 0 < annih S 0:=by
 induction S with
 | nil=>decide
 | cons i S ih =>
  rw [annih]
  have h1:=h i (.head _)
  exact Int.mul_pos (by omega) (ih fun j hj=>h j (.tail _ hj))
theorem band_annih {a : Int} (ha : a + 1 ≠ 0) (n : Nat) : ∀ S : List Nat,band a n S.length (annih S)
 | []=>band_congr (fun k _=>kr_zero a n k) (band_kr a n 0)
 | i::S=>by
  have ih:=band_annih ha n S
  refine band_congr (f:=fun k=>(i : Int) * annih S k + (-1) * ((k : Int) * annih S k)) (fun k _=>by rw [annih];grind) ?_
  exact band_add (band_mul _ (band_le ih (by simp))) (band_mul _ (band_step ha ih))
theorem sumW_zero {q : Nat} (n : Nat) : sumW q n (fun _=>0) = 0:=by
 have e9:=sumW_mul (q:=q) 0 n (fun _=>0)
 simp only [Int.zero_mul] at e9
 exact e9
theorem sumW_point {q : Nat} (c : Int) : ∀ {n : Nat} {d : List Int},Wd q n d → sumW q n (fun w=>if w = d then c else 0) = c
 | 0,d,hd=>by rw [List.length_eq_zero_iff.1 hd.1];show (if ([] : List Int) = [] then c else 0) = c;rw [if_pos rfl]
 | n + 1,[],hd=>by have:=hd.1;simp at this
 | n + 1,x::d,hd=>by
  obtain ⟨x0,x1⟩:=hd.2 x (.head _)
  have ih:=sumW_point c (n:=n) (d:=d) ⟨by simpa using hd.1,fun z hz=>hd.2 z (.tail _ hz)⟩
  rw [sumW]
  have e6 : sm q (fun a=>sumW q n (fun w=>if (a : Int)::w = x::d then c else 0)) = sm q (fun a=>if x.toNat = a then (fun _=>c) a else 0):=sm_congr fun a _=>by
   by_cases e : x.toNat = a
   ·rw [if_pos e]
    have hx : (a : Int) = x:=by omega
    have e7 : sumW q n (fun w=>if (a : Int)::w = x::d then c else 0) = sumW q n (fun w=>if w = d then c else 0):=sumW_congr fun w _=>by
     by_cases e8 : w = d
     ·rw [if_pos e8,if_pos (by rw [e8,hx])]
     ·rw [if_neg e8,if_neg fun e9=>e8 (List.cons.inj e9).2]
    rw [e7,ih]
   ·rw [if_neg e]
    refine Eq.trans ?_ (sumW_zero (q:=q) n)
    exact sumW_congr fun w _=>if_neg fun e8 : (a : Int)::w = x::d=>by have:=(List.cons.inj e8).1;omega
  rw [e6,sm_pick (by omega) (fun _=>c)]
section
variable {q : Nat} {A M : Int → Int → Int} (F : FI q A M)
include F
theorem FI.wtG {n : Nat} {c : List Int} (hc : Wd q n c) (G : Nat → Int) : sumW q n (fun d=>kap0 q (dotL A M d c) * G (wt d)) = ((q : Int) - 1) * sm (n + 1) (fun j=>G j * kr ((q : Int) - 1) n j (wt c)):=by
 have e1 : sumW q n (fun d=>kap0 q (dotL A M d c) * G (wt d)) = sumW q n (fun d=>sm (n + 1) (fun j=>G j * (kap0 q (A 0 (dotL A M d c)) * if wt d = j then 1 else 0))):=sumW_congr fun d hd=>by
  obtain ⟨u0,u1⟩:=F.dlt hd hc
  have hw:=wt_le d
  rw [hd.1] at hw
  rw [F.ac 0 _ (Int.le_refl 0) F.z u0 u1,F.a0 _ u0 u1,sm_congr (g:=fun j=>if wt d = j then kap0 q (dotL A M d c) * G j else 0) fun j _=>by split <;> grind,sm_pick (by omega) (fun j=>kap0 q (dotL A M d c) * G j)]
 rw [e1,sumW_sm,← sm_mul]
 refine sm_congr fun j _=>?_
 rw [sumW_mul,F.wtK hc j 0 (Int.le_refl 0) F.z,kap0,if_pos rfl];grind
theorem FI.neg : ∀ {n : Nat} {y : List Int},Wd q n y → ∃ v,Wd q n v ∧ ∀ c,Wd q n c → wt (axp A M 1 c v) = dist c y
 | 0,y,hy=>⟨[],⟨rfl,fun x hx=>by cases hx⟩,fun c hc=>by
   rw [List.length_eq_zero_iff.1 hy.1,List.length_eq_zero_iff.1 hc.1];rfl⟩
 | n + 1,[],hy=>by have:=hy.1;simp at this
 | n + 1,y0::y,hy=>by
  have hq:=F.q2
  obtain ⟨a0,a1⟩:=hy.2 y0 (.head _)
  obtain ⟨w,⟨w0,w1⟩,e⟩:=F.an y0 a0 a1
  obtain ⟨v,hv,hd⟩:=FI.neg (n:=n) (y:=y) ⟨by simpa using hy.1,fun z hz=>hy.2 z (.tail _ hz)⟩
  refine ⟨w::v,⟨by rw [List.length_cons,hv.1],fun x hx=>?_⟩,fun c hc=>?_⟩
  ·rcases List.mem_cons.1 hx with rfl | hx
   ·exact ⟨w0,w1⟩
   ·exact hv.2 x hx
  ·cases c with
   | nil=>have:=hc.1;simp at this
   | cons c0 c =>
    obtain ⟨b0,b1⟩:=hc.2 c0 (.head _)
    have ih:=hd c ⟨by simpa using hc.1,fun z hz=>hc.2 z (.tail _ hz)⟩
    show (if A w (M 1 c0) = 0 then 0 else 1) + wt (axp A M 1 c v) = (if c0 = y0 then 0 else 1) + dist c y
    rw [ih,F.mc 1 c0 (by omega) (by omega) b0 b1,F.m1 c0 b0 b1]
    have e2 : A w y0 = 0:=by rw [F.ac w y0 w0 w1 a0 a1];exact e
    by_cases h : c0 = y0
    ·subst h;rw [if_pos e2,if_pos rfl]
    ·rw [if_neg h,if_neg fun h2=>h (F.cancel w0 w1 b0 b1 a0 a1 (h2.trans e2.symm))]
omit F in
theorem wt_pos {n : Nat} : ∀ {u : List Int},u.length = n → wt u = 0 → u = zW n:=by
 intro u hu h
 induction u generalizing n with
 | nil=>subst hu;rfl
 | cons x u ih =>
  subst hu
  rw [wt] at h
  by_cases hx : x = 0
  ·subst hx
   rw [if_pos rfl,Nat.zero_add] at h
   rw [ih rfl h];simp [zW,List.replicate_succ]
  ·rw [if_neg hx] at h;omega
omit F in
theorem cntW_mem {L : List (List Int)} {u : List Int} (h : u ∈ L) : 1 ≤ cntW L (wt u):=by
 have:=lsum_mem (g:=fun v=>if wt v = wt u then (1 : Int) else 0) (L:=L) (fun v _=>by split <;> decide) u h
 simp only [if_pos] at this
 exact this
theorem delsarte {n : Nat} {rows L K : List (List Int)} (h : SpI q n A M rows L) (hr : ∀ r ∈ rows,Wd q n r) (hK : AlI q n n K) {S : List Nat} (hS : ∀ j,1 ≤ j → j ≤ n → cntW (K.filter (orthB A M rows)) j ≠ 0 → j ∈ S) (hS1 : ∀ j ∈ S,1 ≤ j) {y : List Int} (hy : Wd q n y) :
  ∃ c ∈ L,dist c y ≤ S.length:=by
 refine Classical.byContradiction fun hno=>?_
 have hq:=F.q2
 obtain ⟨v,hv,hd⟩:=F.neg hy
 have ha : (q : Int) - 1 + 1 ≠ 0:=by omega
 have hb:=band_annih ha n S
 -- from the words
 have e1 : lsum L (fun c=>sumW q n (fun d=>kap0 q (dotL A M d (axp A M 1 c v)) * annih S (wt d))) = 0:=by
  have : lsum L (fun c=>sumW q n (fun d=>kap0 q (dotL A M d (axp A M 1 c v)) * annih S (wt d))) = lsum L (fun _=>0):=lsum_congr fun c hc=>by
   have hcw:=h.wd c hc
   have hx:=F.axw (a:=1) (by omega) (by omega) hcw hv
   rw [F.wtG hx,hd c hcw]
   have hfar : S.length < dist c y:=Nat.lt_of_not_le fun hle=>hno ⟨c,hc,hle⟩
   have hle : dist c y ≤ n:=by have:=dist_le c y;rw [hcw.1] at this;exact this
   have h1:=ham_sum (q:=q) hle (annih S)
   rw [hb _ hfar] at h1
   have hw : ((q : Int) - 1) ^ dist c y * (binom n (dist c y) : Int) ≠ 0:=by
    have h2:=binom_pos hle
    have h3 : 0 < ((q : Int) - 1) ^ dist c y:=Int.pow_pos (by omega)
    have:=Int.mul_pos h3 (show (0 : Int) < (binom n (dist c y) : Int) by omega)
    omega
   rw [(Int.mul_eq_zero.1 h1).resolve_left hw,Int.mul_zero]
  rw [this,lsum_const,Int.zero_mul]
 -- from the dual code
 have e2 : lsum L (fun c=>sumW q n (fun d=>kap0 q (dotL A M d (axp A M 1 c v)) * annih S (wt d))) = ((q : Int) - 1) * (L.length * annih S 0):=by
  rw [lsum_sumW]
  have e3 : sumW q n (fun d=>lsum L (fun c=>kap0 q (dotL A M d (axp A M 1 c v)) * annih S (wt d))) = sumW q n (fun d=>if d = zW n then ((q : Int) - 1) * (L.length * annih S 0) else 0):=sumW_congr fun d hdw=>by
   obtain ⟨t0,t1⟩:=F.dlt hdw hv
   have hs:=h.sum d (dotL A M d v) hdw t0 t1
   have e4 : lsum L (fun c=>kap0 q (dotL A M d (axp A M 1 c v)) * annih S (wt d)) = annih S (wt d) * lsum L (fun c=>kap0 q (A (dotL A M d v) (dotL A M d c))):=by
    rw [← lsum_mul]
    refine lsum_congr fun c hc=>?_
    obtain ⟨u0,u1⟩:=F.dlt hdw (h.wd c hc)
    rw [F.daxp (by omega) (by omega) hdw (h.wd c hc) hv,F.mc 1 _ (by omega) (by omega) u0 u1,F.m1 _ u0 u1,Int.mul_comm]
   rw [e4,hs]
   by_cases hz : d = zW n
   ·subst hz
    have ho : orthB A M rows (zW n) = true:=orth_iff.2 fun r hr'=>F.dz' (hr r hr')
    rw [if_pos rfl,if_pos ho,wt_zW,F.dz' hv,kap0,if_pos rfl];grind
   ·rw [if_neg hz]
    by_cases ho : orthB A M rows d = true
    ·have hmem : d ∈ K.filter (orthB A M rows):=by
      refine List.mem_filter.2 ⟨?_,ho⟩
      -- all words are in the list
      have:=(al_wd hK).2 (fun w=>if w = d then 1 else 0)
      refine Classical.byContradiction fun hn=>?_
      have e5 : lsum K (fun w=>if w = d then (1 : Int) else 0) = 0:=by
       have : lsum K (fun w=>if w = d then (1 : Int) else 0) = lsum K (fun _=>0):=lsum_congr fun w hw=>if_neg fun e=>hn (by rw [← e];exact hw)
       rw [this,lsum_const,Int.zero_mul]
      rw [e5] at this
      rw [sumW_point 1 hdw] at this
      omega
     have hw1 : 1 ≤ wt d:=Nat.pos_of_ne_zero fun e=>hz (wt_pos hdw.1 e)
     have hw2 : wt d ≤ n:=by have:=wt_le d;rw [hdw.1] at this;exact this
     have hc:=cntW_mem hmem
     rw [annih_zero (hS _ hw1 hw2 (by omega)),Int.zero_mul]
    ·rw [if_neg ho,Int.mul_zero]
  rw [e3]
  exact sumW_point _ (zW_wd hq)
 have h1:=annih_pos hS1
 have h2:=h.pos
 have h3:=Int.mul_pos (show (0 : Int) < L.length by omega) h1
 have h4:=Int.mul_pos (show (0 : Int) < (q : Int) - 1 by omega) h3
 omega
end
open Go Go.Fw
set_option maxRecDepth 100000
set_option linter.unusedVariables false
set_option linter.unusedSimpArgs false
set_option maxHeartbeats 8000000
def nearI (L : List (List Int)) (y : List Int) (n : Nat) : Nat → Int
 | 0=>n
 | k + 1=>if ((dist (L.getD k default) y : Nat) : Int) < nearI L y n k then ((dist (L.getD k default) y : Nat) : Int) else nearI L y n k
theorem nearI_le (L : List (List Int)) (y : List Int) (n : Nat) : ∀ k i,i < k → nearI L y n k ≤ ((dist (L.getD i default) y : Nat) : Int)
 | k + 1,i,h=>by
  rw [nearI]
  by_cases e : i = k
  ·subst e;split <;> omega
  ·have:=nearI_le L y n k i (by omega)
   split <;> omega
def extS (D : List (List Int)) : Nat → List Nat
 | 0=>[]
 | k + 1=>extS D k++(if cwN D (k + 1) = 0 then [] else [k + 1])
theorem extS_mem {D : List (List Int)} : ∀ k j,1 ≤ j → j ≤ k → cwN D j ≠ 0 → j ∈ extS D k
 | 0,j,h1,h2,_=>by omega
 | k + 1,j,h1,h2,h=>by
  rw [extS]
  by_cases e : j = k + 1
  ·subst e;rw [if_neg h];exact List.mem_append_right _ (.head _)
  ·exact List.mem_append_left _ (extS_mem k j h1 (by omega) h)
theorem extS_pos {D : List (List Int)} : ∀ k,∀ j ∈ extS D k,1 ≤ j
 | 0,j,h=>by cases h
 | k + 1,j,h=>by
  rw [extS] at h
  rcases List.mem_append.1 h with h | h
  ·exact extS_pos k j h
  ·split at h
   ·cases h
   ·rw [List.mem_singleton] at h;omega
theorem extS_len {n : Nat} {D : List (List Int)} : ∀ k,k ≤ n → (extS D k).length = cntP (cwL n D) k
 | 0,_=>rfl
 | k + 1,h=>by
  rw [extS,List.length_append,extS_len (n:=n) k (by omega),cntP,cwL_at (n:=n) (show k + 1 ≤ n by omega),val_limbs]
  by_cases e : cwN D (k + 1) = 0
  ·rw [if_pos e,if_pos e];rfl
  ·rw [if_neg e,if_neg e];rfl
theorem near_ext {q n : Nat} {A M : Int → Int → Int} (F : FI q A M) {rows L K : List (List Int)} (h : SpI q n A M rows L) (hr : ∀ r ∈ rows,Wd q n r) (hK : AlI q n n K) {y : List Int} (hy : Wd q n y) :
  nearI L y n L.length ≤ ((cntP (cwL n (K.filter (orthB A M rows))) n : Nat) : Int):=by
 obtain ⟨c,hc,hd⟩:=delsarte F h hr hK (S:=extS (K.filter (orthB A M rows)) n) (fun j h1 h2 h3=>extS_mem n j h1 h2 (fun e=>h3 (by rw [cntW_cw,e];rfl))) (extS_pos n) hy
 rw [extS_len n (Nat.le_refl _)] at hd
 obtain ⟨i,hi,rfl⟩:=List.getElem_of_mem hc
 have:=nearI_le L y n L.length i hi
 rw [show L.getD i default = L[i] by rw [List.getD_eq_getElem?_getD,List.getElem?_eq_getElem hi];rfl] at this
 omega
theorem S_MacwilliamsDelsarte {P M : Int} {x nm cm nr cr nw cw : Nat} {md word : List Int} {pm pr pw : Option Addr} {rows : List (List Int)} (hx : x < 256) :
  Ctr Try.prog 5 [.agg #[.int .i64 P,.int .i64 M,.slice pm nm cm],.int .u8 x,.slice pr nr cr,.slice pw nw cw] [] [slF I64 pm nm cm md,slF (encSl I64) pr nr cr rows,slF I64 pw nw cw word]
   (Rv (.bool true) []):=by
 refine Ctr_of_j' (F:=F_codewrightlaw24_MacwilliamsDelsarte) rfl fun C=>?_
 have c_codewrightlaw24_codes:=S_codewrightlaw24_codes (P:=P) (M:=M) (nm:=nm) (cm:=cm) (nr:=nr) (cr:=cr) (md:=md) (pm:=pm) (pr:=pr) (rows:=rows) hx
 have hn12 : x % 12 + 1 ≤ 12:=by omega
 have hn1 : 1 ≤ x % 12 + 1:=by omega
 refine j_nf [_,_] rfl (j_step rfl (x_box_agg rfl fun b1=>?_))
 refine j_run it 1 rfl (by simp) ?_
 refine j_nf [_,_] rfl (j_step rfl (x_bld_all 0 rfl rfl ld24 rfl ?_))
 refine j_run it 2 rfl (by simp) ?_
 generalize x % 12 + 1 = n at *
 refine j_step rfl (x_call [0,1] rfl c_codewrightlaw24_codes rfl ?_)
 rintro _ _ _ (⟨rfl,rfl,rfl⟩ | ⟨p,m,L,T,pa,pb,pc,ca,cb,cc,rfl,rfl,K,h12,hA,hB,rfl,rfl,rfl⟩)
 ·simp only [List.cons_append,List.nil_append]
  refine j_run it 11 rfl (by simp) ?_
  refine j_nf [_,_,_] rfl (j_run it 2 rfl (by simp) ?_)
  refine j_nf [_,_] rfl ?_
  refine j_true rfl rfl ?_
  refine j_nf [_,_,_] rfl (j_run it 1 rfl (by simp) ?_)
  refine j_nf [_,_] rfl ?_
  refine j_giv [] rfl rfl rfl ⟨rfl,rfl,rfl⟩
 have F:=K.fi
 have hq2:=F.q2
 have hq:=K.q
 have hord:=K.ord
 have hordP : ordP (p : Int) (m : Int):=by
  have:=K.p2;have:=K.m1;have:=K.m8
  exact ⟨by omega,by omega,by omega,by simpa using K.q⟩
 have wR : ∀ r ∈ rows.map (rowW ((p ^ m : Nat) : Int) n),Wd (p ^ m) n r:=fun r hr=>by
  obtain ⟨l,_,rfl⟩:=List.mem_map.1 hr
  exact rowW_wd (by omega) l
 rw [units_eq] at hB
 have hL:=spI_span F (spI_start F n) wR hA
 have hT:=alI_span F n 0 (by omega) (alI_start n) hB
 rw [List.nil_append] at hL
 have wL : ∀ u ∈ L,u.length = n:=fun u hu=>(hL.wd u hu).1
 have wT:=(al_wd hT).1
 have wy:=rowW_wd (q:=p ^ m) (n:=n) (by omega) word
 have ly:=wy.1
 obtain ⟨e1,e2⟩:=dual_cw F hq (show n ≤ 64 by omega) hL hT
 have e3:=near_ext F hL wR hT wy
 generalize hD : T.filter (orthB (aF p m) (mF p m md) (rows.map (rowW ((p ^ m : Nat) : Int) n))) = D at *
 have wD : ∀ u ∈ D,u.length = n:=fun u hu=>by rw [← hD] at hu;exact (wT u (List.mem_filter.1 hu).1).1
 have lL : L.length ≤ 4096:=spanS_le (by simp) hA
 have sL:=cwL_small (n:=n) (L:=L) (by omega)
 have oL : ∀ l ∈ cwL n L,okN 20 l:=fun l hl=>⟨cwL_lt l hl,sL l hl⟩
 have c_codewrightref04_Order:=S_codewrightref04_Order (P:=(p : Int)) (M:=(m : Int)) (pm:=pm) (n:=nm) (c:=cm) hord
 have c_codewrightref24_Row:=fun {pl : Option Addr} {nl cl : Nat} {l : List Int}=>S_codewrightref24_Row (P:=(p : Int)) (M:=(m : Int)) (n:=n) (nm:=nm) (cm:=cm) (nl:=nl) (cl:=cl) (pm:=pm) (pl:=pl) (l:=l) hordP (by omega)
 rw [hord] at c_codewrightref24_Row
 generalize hQ : p ^ m = q at *
 have c_macwilliams_External:=fun {pa : Option Addr} {ca : Nat}=>S_macwilliams_External (q:=(q : Int)) (n:=n + 1) (K:=20) (pa:=pa) (ca:=ca) (by decide) oL
 rw [e1,e2,if_pos rfl,Nat.add_sub_cancel] at c_macwilliams_External
 have c_codewrightref24_External:=fun {pa : Option Addr} {ca : Nat}=>S_codewrightref24_External (n:=n + 1) (pa:=pa) (ca:=ca) (L:=cwL n D) (by omega) cwL_lt
 rw [Nat.add_sub_cancel] at c_codewrightref24_External
 have hqI : (2 : Int) ≤ (q : Int) ∧ (q : Int) ≤ 256:=by omega
 have hcp:=cntP_le (cwL n D) n
 generalize cntP (cwL n D) n = s at *
 simp only [List.cons_append,List.nil_append]
 refine j_run it 11 rfl (by simp) ?_
 refine j_nf [_,_,_] rfl (j_run it 2 rfl (by simp) ?_)
 refine j_nf [_,_] rfl ?_
 refine j_false rfl rfl ?_
 refine j_nf [_,_] rfl (j_step rfl (x_bld_all 0 rfl rfl ld24 rfl ?_))
 refine j_step rfl (x_call [] rfl (c_codewrightref04_Order) rfl ?_)
 rintro _ _ _ ⟨rfl,rfl,rfl⟩
 simp only [List.cons_append,List.nil_append]
 refine j_run it 2 rfl (by simp) ?_
 refine j_step rfl (x_call [0] rfl (S_codewrightref24_Weights (by omega) (by omega)) rfl ?_)
 rintro _ _ _ ⟨pa1,ca1,rfl,rfl,rfl⟩
 simp only [List.cons_append,List.nil_append]
 refine j_step rfl (x_call [0] rfl (c_macwilliams_External) rfl ?_)
 rintro _ _ _ ⟨rfl,rfl,rfl⟩
 simp only [List.cons_append,List.nil_append]
 refine j_run it 5 rfl (by simp) ?_
 refine j_nf [_,_] rfl (j_step rfl (x_bld_all 0 rfl rfl ld24 rfl ?_))
 refine j_run it 2 rfl (by simp) ?_
 refine j_step rfl (x_call [6] rfl (c_codewrightref24_Row) rfl ?_)
 rintro _ _ _ ⟨pa2,ca2,rfl,rfl,rfl⟩
 simp only [List.cons_append,List.nil_append]
 refine j_run it 1 rfl (by simp) ?_
 refine j_nf [_,_] rfl (j_run it 2 rfl (by simp) ?_)
 refine j_nf [_,_,_] rfl (j_run it 1 rfl (by simp) ?_)
 refine j_nf [_,_,_] rfl ?_
 generalize hy : rowW (q : Int) n word = y at *
 refine j_loopG (X:=Nat) [1,2,3,4,9,10,11,12,13,14,15,16] [0,1,2,3,4,5,6,7] (fun k=>[(18,.int .i64 (k : Int)),(17,.int .i64 (nearI L y n k))]) (fun _=>[(some b1,24,[.int .i64 p,.int .i64 m,.slice pm nm cm])]) (fun _=>[]) (fun k=>k ≤ L.length) (fun k=>L.length - k) 0 [] rfl rfl rfl (Nat.zero_le _) (by repeat (first | exact Fr.sub_nil _ | refine Fr.sub_cons rfl ?_)) rfl rfl ?_
 rintro k hk ih
 simp only [List.cons_append,List.nil_append] at hk ih ⊢
 by_cases hkl : k < L.length
 ·have hz : L[k]? = some (L.getD k default):=by rw [List.getD_eq_getElem?_getD,List.getElem?_eq_getElem hkl];rfl
  have hl:=wL _ (List.mem_of_getElem? hz)
  have ih':=ih (k + 1) (by omega) (by omega)
  rw [nearI] at ih'
  refine j_nf [_,_,_,_,_,_] rfl (j_run it 2 rfl (by simp) ?_)
  refine j_step rfl (x_len sl25 rfl ?_)
  refine j_run it 1 rfl (by simp) ?_
  refine j_nf [_,_,_,_,_] rfl (j_if rfl rfl (fun h1=>?_) (fun h1=>by exfalso;omega))
  refine j_nf [_,_,_,_,_,_] rfl (j_run it 3 rfl (by simp) ?_)
  refine j_step rfl (x_idx 2 (k) rfl rfl rfl sl25 rfl (by omega) fun z1 hz1 b2 o1=>?_)
  refine j_step rfl (x_ld_sl 0 rfl rfl ld22 fun pa3 ca3=>?_)
  refine j_run it 1 rfl (by simp) ?_
  obtain rfl : z1 = L.getD k default:=Option.some.inj (hz1.symm.trans hz)
  refine j_step rfl (x_call [0,2] rfl (S_codewrightref24_Distance (by omega)) rfl ?_)
  rintro _ _ _ ⟨rfl,rfl,rfl⟩
  simp only [List.cons_append,List.nil_append]
  refine j_step rfl (x_min rfl rfl ?_)
  refine j_run it 1 rfl (by simp) ?_
  refine j_nf [_,_,_,_] rfl (j_run it 3 rfl ⟨trivial,⟨by omega,by omega⟩,trivial,trivial⟩ ?_)
  refine j_nfn 1 [.lp (pL 2036),.blk 0,.c (pL 255)] rfl ?_
  refine j_to [2,3,4,5,6,7,8,9] (by exact fra rfl) rfl rfl (ih')
 ·obtain rfl : k = L.length:=by omega
  refine j_nf [_,_,_,_,_,_] rfl (j_run it 2 rfl (by simp) ?_)
  refine j_step rfl (x_len sl25 rfl ?_)
  refine j_run it 1 rfl (by simp) ?_
  refine j_nf [_,_,_,_,_] rfl (j_if rfl rfl (fun h1=>by exfalso;omega) (fun h1=>?_))
  refine j_nf [_,_] rfl (j_run it 6 rfl (by simp) ?_)
  refine j_split_dec (t:=61) rfl (fun h2=>?_) (fun h2=>by exfalso;omega)
  refine j_gstep rfl rfl (x_call [3] rfl (S_codewrightref24_Weights (by omega) (by omega)) rfl ?_)
  rintro _ _ _ ⟨pa3,ca3,rfl,rfl,rfl⟩
  simp only [List.cons_append,List.nil_append]
  simp only [decide_true]
  refine j_gstep rfl rfl (x_call [0] rfl (c_codewrightref24_External) rfl ?_)
  rintro _ _ _ ⟨rfl,rfl,rfl⟩
  simp only [List.cons_append,List.nil_append]
  refine j_run it 3 rfl (by simp) ?_
  refine j_split_dec (t:=69) rfl (fun h3=>?_) (fun h3=>by exfalso;omega)
  refine j_run it 5 rfl (by simp) ?_
  refine j_nf [_] rfl ?_
  rw [decide_eq_true e3]
  refine j_giv [] rfl rfl rfl ⟨rfl,rfl,rfl⟩
end Go.Proofs.Ytlelanmgijhjfaa
