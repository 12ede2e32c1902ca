/-
The fifteenth text of the frame: several blocks handed to a callee; own blocks lent to a callee that reads alone; rows of rows of one's own. What the table of types of the program says, a closed fact each. The functions of the program, each with its body. The sixteenth text of the frame: function values, and calls of them. The seventeenth text of the frame: blocks that are given up and known cell by cell, such as a struct behind a pointer. The eighteenth text of the frame: several facts as one, for functions that are handed a function value. The frame's steps taken by themselves: what comes next in a walk is read off the place, and its law is applied. The table of types as lists that are looked up. A walk taken by itself, as far as its laws reach: each default proof is a script of ordinary tactics. The frame's last text: from a contract of a law to the given statement: arguments are opened, and read the same afterwards. Linear programs over the fractions: weak duality, the lemma of Farkas, rays, complementary slackness. Numbers as lists of limbs to the base 2^32: their values, the canonical lists, and how lists are cut. The canonical list of limbs of a number, and how it goes with values. Binomial coefficients. Krawtchouk numbers: the coefficients of (1 + a z)^m (1 - z)^x, and their laws. Residues of whole polynomials by a monic one, as a module with an operator; products of polynomials by their values at the operator; division. Residues of polynomials by a prime and a monic polynomial: where a product of two others is 0, the polynomial has a divisor. Numbers as lists of digits; the field of residues on numbers: its laws. Fractions: what a sign, a numerator and a denominator in limbs say, and the canonical form. Numbers with a sign, as the program has them; the program's table of Krawtchouk numbers. Integers among the fractions. The transform of a distribution, as the program reckons it. Sums of fractions; the transform of the transform. Delsarte's inequalities, the linear programming bound, the certificate of Singleton.
-/
import Derived.Test.YteadncphjconmaaGreatProg
import Derived.Laws.CopyRow
import Derived.Laws.IdiomCopy
import Derived.Lib.LazyBuf
import Derived.Calls
import Derived.SizedLaws
import Derived.OpenShut
import Derived.ChangeOld
import Derived.Carry
import Derived.ChangeArms
import Derived.Deep.Slices
import Derived.Test.YteadncphjconmaaGreatRZ2
set_option linter.unusedVariables false
set_option linter.unusedSimpArgs false
namespace Go.Fw
open Go.RowKit (Below)
set_option linter.unusedVariables false
abbrev Hd:=Option Nat×Nat×Nat
def Vv:Enc Hd where
 size:=1
 bytes:=24
 rd:=fun _ _ vs h=>vs=[.slice (ad h.1) h.2.1 h.2.2]
 len:=fun h=>by rw [h];rfl
 one:=fun h v hv=>by rw [h] at hv;obtain rfl:=List.mem_singleton.1 hv;rfl
 stable:=fun _ h=>h
theorem ACx {w:World}{A:Nat→Prop}(bo:Option Nat) (n c:Nat):Vv.rd w A [.slice (ad bo) n c] (bo,n,c):=rfl
def Gz {α:Type}(f:Nat→α) (i:Nat) (v:α):Nat→α:=fun j=>if j=i then v else f j
theorem Do {α:Type}(f:Nat→α) (i:Nat) (v:α):Gz f i v i=v:=if_pos rfl
theorem Fh {α:Type}{f:Nat→α}{i j:Nat}{v:α}(h:j≠i):Gz f i v j=f j:=if_neg h
def Ly (hd:Nat→Hd) (m:Nat):List Hd:=(List.range m).map hd
theorem T1 {hd:Nat→Hd}{m:Nat}:(Ly hd m).length=m:=by simp [Ly]
theorem Qq {hd:Nat→Hd}{m i:Nat}(h:i<m):(Ly hd m)[i]?=some (hd i):=by
 rw [Ly,List.getElem?_map,List.getElem?_range h];rfl
theorem Yr {hd:Nat→Hd}{m i:Nat}{z:Hd}:(Ly hd m).set i z=Ly (Gz hd i z) m:=by
 refine List.ext_getElem? fun j=>?_
 rw [List.getElem?_set]
 by_cases e:i=j
 ·subst e
  by_cases h:i<m
  ·rw [if_pos rfl,if_pos (by rw [T1];exact h),Qq h,Do]
  ·rw [if_pos rfl,if_neg (by rw [T1];exact h),List.getElem?_eq_none (by rw [T1];omega)]
 ·rw [if_neg e]
  by_cases h:j<m
  ·rw [Qq h,Qq h,Fh fun h=>e h.symm]
  ·rw [List.getElem?_eq_none (by rw [T1];omega),List.getElem?_eq_none (by rw [T1];omega)]
def D2 (e:TypeId) (hd:Nat→Hd) (cs:Nat→List Value) (m:Nat) (sk:List Nat):List Bb :=
 ((List.range m).filter fun i=>!B6 i sk).map fun i=>((hd i).1,e,cs i)
def Fp {α:Type}(E:Enc α) (hd:Nat→Hd) (cs:Nat→List Value) (ls:Nat→List α) (m:Nat) (sk:List Nat):Fact where
 holds:=fun w A=>∀ i,i<m→B6 i sk=false→(Aw E ⟨(hd i).1,(hd i).2.2,cs i⟩ (hd i).2.1 (ls i)).holds w A
 stable:=fun h hh i hi hs=>(Aw E _ _ (ls i)).stable h (hh i hi hs)
theorem A1 {i j:Nat}{sk:List Nat}:B6 i (j::sk)=(decide (i=j) || B6 i sk):=by
 simp only [B6]
 by_cases h:i=j
 ·subst h;simp
 ·have:Nat.beq i j=false:=by
   cases hb:Nat.beq i j with
   | true=>exact absurd (Nat.eq_of_beq_eq_true hb) h
   | false=>rfl
  simp [this,h]
theorem ABm {l:List Nat}(hl:l.Nodup) {i:Nat}{sk:List Nat}(hi:i∈l) (hs:B6 i sk=false) :
  (i::l.filter fun j=>!B6 j (i::sk)).Perm (l.filter fun j=>!B6 j sk):=by
 induction l with
 | nil=>cases hi
 | cons x l ih =>
  have hx:=List.nodup_cons.1 hl
  by_cases e:x=i
  ·subst e
   have h1:l.filter (fun j=>!B6 j (x::sk))=l.filter (fun j=>!B6 j sk):=by
    refine List.filter_congr fun j hj=>?_
    have:j≠x:=fun h=>hx.1 (h▸hj)
    rw [A1];simp [this]
   rw [List.filter_cons_of_neg (by rw [A1];simp),List.filter_cons_of_pos (by simp [hs]),h1]
  ·have hi':i∈l:=(List.mem_cons.1 hi).resolve_left fun h=>e h.symm
   have ih:=ih hx.2 hi'
   by_cases hxs:B6 x sk=true
   ·rw [List.filter_cons_of_neg (by rw [A1];simp [hxs]),List.filter_cons_of_neg (by simp [hxs])]
    exact ih
   ·have hxs:B6 x sk=false:=by simpa using hxs
    rw [List.filter_cons_of_pos (by rw [A1];simp [hxs,e]),List.filter_cons_of_pos (by simp [hxs])]
    exact (List.Perm.swap x i _).trans (List.Perm.cons x ih)
theorem Z1 {e:TypeId}{hd:Nat→Hd}{cs:Nat→List Value}{m i:Nat}{sk:List Nat}(hi:i<m) (hs:B6 i sk=false) :
  (((hd i).1,e,cs i)::D2 e hd cs m (i::sk)).Perm (D2 e hd cs m sk) :=
 (ABm List.nodup_range (List.mem_range.2 hi) hs).map fun i=>(((hd i).1,e,cs i):Bb)
theorem AGL {e:TypeId}{hd hd':Nat→Hd}{cs cs':Nat→List Value}{m:Nat}{sk:List Nat}(h:∀ j,j<m→B6 j sk=false→(hd j).1=(hd' j).1∧cs j=cs' j):D2 e hd cs m sk=D2 e hd' cs' m sk:=by
 refine List.map_congr_left fun j hj=>?_
 obtain ⟨h1,h2⟩:=List.mem_filter.1 hj
 obtain ⟨h3,h4⟩:=h j (List.mem_range.1 h1) (by simpa using h2)
 rw [h3,h4]
section
variable {P:Program}{F:Fun P}{C:Cx}{S:List It}{σ:Fr}{β:List Bb}{Γ:List Fact}{R:Value→World→Prop}{p:List Nat}{i:Nat}{d:Option Tmp}{op:Op}{ty:TypeId}{K:Value→List Bb→List Fact→Prop}
theorem AH6 {α:Type}{E:Enc α}{e:TypeId}{pre post:List Bb}{hd:Nat→Hd}{cs:Nat→List Value}{ls:Nat→List α}{m:Nat}{sk:List Nat}(i j N:Nat) (hβ:β=pre++(D2 e hd cs m sk++post)) (hj:A8 Γ j=some (Fp E hd cs ls m sk)) (hi:i<m) (hs:B6 i sk=false) (hN:(hd i).2.1=N)
  (h:∀ r:Row,(Ly hd m)[i]?=some (r.bo,N,r.cap)→J F C S σ ((r.bo,e,r.cs)::(pre++(D2 e hd cs m (i::sk)++post))) (Aw E r N (ls i)::Fp E hd cs ls m (i::sk)::Γ) R):J F C S σ β Γ R:=by
 subst hβ
 have hp:(((hd i).1,e,cs i)::(pre++(D2 e hd cs m (i::sk)++post))).Perm (pre++(D2 e hd cs m sk++post)) :=
  List.Perm.trans List.perm_middle.symm (List.Perm.append_left pre (List.Perm.append_right post (Z1 (e:=e) (hd:=hd) (cs:=cs) hi hs)))
 refine AGt hp ?_
 refine Jh (Fp E hd cs ls m (i::sk)) (fun w A hG k hk hks=>?_) ?_
 ·rw [A1] at hks
  simp only [Bool.or_eq_false_iff,decide_eq_false_iff_not] at hks
  exact hG _ (Al hj) k hk hks.2
 ·refine Jh (Aw E ⟨(hd i).1,(hd i).2.2,cs i⟩ N (ls i)) (fun w A hG=>?_) ?_
  ·have:=hG _ (.tail _ (Al hj)) i hi hs
   rwa [hN] at this
  ·exact h ⟨(hd i).1,(hd i).2.2,cs i⟩ (by rw [Qq hi,← hN])
theorem AHX {β:List Bb}{k:Nat}{x:Bb}(h:A8 β k=some x):(x::β.eraseIdx k).Perm β:=by
 rw [B8] at h
 induction β generalizing k with
 | nil=>simp at h
 | cons y l ih =>
  cases k with
  | zero=>simp at h;subst h;exact List.Perm.refl _
  | succ k =>
   rw [List.eraseIdx_cons_succ]
   exact List.Perm.trans (List.Perm.swap y x _) (List.Perm.cons y (ih (by simpa using h)))
theorem AFf {α:Type}{E:Enc α}{e:TypeId}{pre post:List Bb}{hd:Nat→Hd}{cs:Nat→List Value}{ls:Nat→List α}{m:Nat}{sk:List Nat}{r:Row}{N:Nat}{l:List α}(i k j1 j2:Nat) (hk:A8 β k=some (r.bo,e,r.cs)) (hβ:β.eraseIdx k=pre++(D2 e hd cs m (i::sk)++post))
  (h1:A8 Γ j1=some (Aw E r N l)) (h2:A8 Γ j2=some (Fp E hd cs ls m (i::sk))) (hi:i<m) (hs:B6 i sk=false)
  (h:J F C S σ (pre++(D2 e (Gz hd i (r.bo,N,r.cap)) (Gz cs i r.cs) m sk++post)) (Fp E (Gz hd i (r.bo,N,r.cap)) (Gz cs i r.cs) (Gz ls i l) m sk::Γ) R):J F C S σ β Γ R:=by
 have e0:D2 e hd cs m (i::sk)=D2 e (Gz hd i (r.bo,N,r.cap)) (Gz cs i r.cs) m (i::sk):=AGL fun j _ hj=>by
  rw [A1] at hj
  simp only [Bool.or_eq_false_iff,decide_eq_false_iff_not] at hj
  rw [Fh hj.1,Fh hj.1];exact ⟨rfl,rfl⟩
 have hp:(pre++(D2 e (Gz hd i (r.bo,N,r.cap)) (Gz cs i r.cs) m sk++post)).Perm β:=by
  refine List.Perm.trans ?_ (AHX hk)
  rw [hβ,e0]
  have:=Z1 (e:=e) (hd:=Gz hd i (r.bo,N,r.cap)) (cs:=Gz cs i r.cs) hi hs
  rw [Do,Do] at this
  have h2:((r.bo,e,r.cs)::(D2 e (Gz hd i (r.bo,N,r.cap)) (Gz cs i r.cs) m (i::sk)++post)).Perm (D2 e (Gz hd i (r.bo,N,r.cap)) (Gz cs i r.cs) m sk++post):=List.Perm.append_right post this
  exact List.Perm.symm (List.Perm.trans List.perm_middle.symm (List.Perm.append_left pre h2))
 refine AGt hp (Jh (Fp E (Gz hd i (r.bo,N,r.cap)) (Gz cs i r.cs) (Gz ls i l) m sk) (fun w A hG q hq hqs=>?_) h)
 by_cases e1:q=i
 ·subst e1
  rw [Do,Do,Do]
  exact hG _ (Al h1)
 ·rw [Fh e1,Fh e1,Fh e1]
  exact hG _ (Al h2) q hq (by rw [A1];simp [e1,hqs])
theorem ACj {t e:TypeId}{x:Operand}{b o n cap:Nat}{cs:List Value}{l:List Hd}{z:Hd}(k j i:Nat)
  (hx:ev σ x=some (.pointer (some ⟨b,o,none⟩))) (hn:A8 β k=some (some b,e,cs)) (hj:A8 Γ j=some (Aw Vv ⟨some b,cap,cs⟩ n l)) (hT:De P t=some (false,1)) (ho:o=i) (hz:l[i]?=some z)
  (h:K (.slice (ad z.1) z.2.1 z.2.2) β Γ):Ej P C (.load t x) ty σ β Γ K:=fun w hO hG=>by
 subst ho
 obtain ⟨hl,_⟩:=id (hG _ (Al hj))
 have hi:o<n:=by rw [hl];exact (List.getElem?_eq_some_iff.1 hz).1
 obtain ⟨z',vs,hz',hp,e1⟩:=Pd (hG _ (Al hj)) hi
 obtain rfl:z=z':=Option.some.inj (hz.symm.trans hz')
 have e2:vs=[.slice (ad z.1) z.2.1 z.2.2]:=e1
 subst e2
 have e3:Vv.size=1:=rfl
 rw [e3,Nat.mul_one] at hp
 have hc:cs[o]?=some (.slice (ad z.1) z.2.1 z.2.2):=by
  have:=congrArg (·[0]?) hp
  simpa [List.getElem?_take,List.getElem?_drop] using this
 exact Dt k hx hn hT hc h w hO hG
theorem Lv {kd:IntKind}{by':Nat}{t e:TypeId}{x:Operand}{b o n cap:Nat}{cs:List Value}{l:List Int}{z:Int}(k j i:Nat)
  (hx:ev σ x=some (.pointer (some ⟨b,o,none⟩))) (hn:A8 β k=some (some b,e,cs)) (hj:A8 Γ j=some (Aw (Ca kd by') ⟨some b,cap,cs⟩ n l)) (hT:De P t=some (false,1)) (ho:o=i) (hz:l[i]?=some z)
  (h:Bf kd z→K (.int kd z) β Γ):Ej P C (.load t x) ty σ β Γ K:=fun w hO hG=>by
 subst ho
 obtain ⟨hl,_⟩:=id (hG _ (Al hj))
 have hi:o<n:=by rw [hl];exact (List.getElem?_eq_some_iff.1 hz).1
 obtain ⟨z',vs,hz',hp,e1,e4⟩:=Pd (hG _ (Al hj)) hi
 obtain rfl:z=z':=Option.some.inj (hz.symm.trans hz')
 subst e1
 have e3:(Ca kd by').size=1:=rfl
 rw [e3,Nat.mul_one] at hp
 have hc:cs[o]?=some (.int kd z):=by
  have:=congrArg (·[0]?) hp
  simpa [List.getElem?_take,List.getElem?_drop] using this
 exact Dt k hx hn hT hc (h e4) w hO hG
theorem Hk {t e:TypeId}{x:Operand}{b o n cap:Nat}{cs:List Value}{l:List Hd}{z:Hd}(k j i:Nat)
  (hx:ev σ x=some (.pointer (some ⟨b,o,none⟩))) (hn:A8 β k=some (some b,e,cs)) (hj:A8 Γ j=some (Aw Vv ⟨some b,cap,cs⟩ n l)) (hT:De P t=some (false,1)) (ho:o=i) (hz:l[i]?=some z) :
  JD P (.load t x) ty σ β Γ (fun _=>.slice (ad z.1) z.2.1 z.2.2) (fun _=>[]):=fun C w hO hG=>by
 subst ho
 obtain ⟨hl,_⟩:=id (hG _ (Al hj))
 have hi:o<n:=by rw [hl];exact (List.getElem?_eq_some_iff.1 hz).1
 obtain ⟨z',vs,hz',hp,e1⟩:=Pd (hG _ (Al hj)) hi
 obtain rfl:z=z':=Option.some.inj (hz.symm.trans hz')
 have e2:vs=[.slice (ad z.1) z.2.1 z.2.2]:=e1
 subst e2
 have e3:Vv.size=1:=rfl
 rw [e3,Nat.mul_one] at hp
 have hc:cs[o]?=some (.slice (ad z.1) z.2.1 z.2.2):=by
  have:=congrArg (·[0]?) hp
  simpa [List.getElem?_take,List.getElem?_drop] using this
 exact (Fq (P:=P) (ty:=ty) (t:=t) hT hx (Py hO hn hc)).ex.mono fun u w' ⟨h1,h2⟩=>by
  subst h1;subst h2
  exact ⟨Below.refl _ _,default,rfl,fun g hg=>by cases hg⟩
theorem A6 {kd:IntKind}{by':Nat}{t e:TypeId}{x:Operand}{b o n cap:Nat}{cs:List Value}{l:List Int}{z:Int}(k j i:Nat)
  (hx:ev σ x=some (.pointer (some ⟨b,o,none⟩))) (hn:A8 β k=some (some b,e,cs)) (hj:A8 Γ j=some (Aw (Ca kd by') ⟨some b,cap,cs⟩ n l)) (hT:De P t=some (false,1)) (ho:o=i) (hz:l[i]?=some z) :
  JD P (.load t x) ty σ β Γ (fun _=>.int kd z) (fun _=>[]):=fun C w hO hG=>by
 subst ho
 obtain ⟨hl,_⟩:=id (hG _ (Al hj))
 have hi:o<n:=by rw [hl];exact (List.getElem?_eq_some_iff.1 hz).1
 obtain ⟨z',vs,hz',hp,e1,e4⟩:=Pd (hG _ (Al hj)) hi
 obtain rfl:z=z':=Option.some.inj (hz.symm.trans hz')
 subst e1
 have e3:(Ca kd by').size=1:=rfl
 rw [e3,Nat.mul_one] at hp
 have hc:cs[o]?=some (.int kd z):=by
  have:=congrArg (·[0]?) hp
  simpa [List.getElem?_take,List.getElem?_drop] using this
 exact (Fq (P:=P) (ty:=ty) (t:=t) hT hx (Py hO hn hc)).ex.mono fun u w' ⟨h1,h2⟩=>by
  subst h1;subst h2
  exact ⟨Below.refl _ _,default,rfl,fun g hg=>by cases hg⟩
theorem AEZ {f:FuncId}{xs:List Operand}{ts:Array TypeId}{args:List Value}{Γ':List Fact}{β1 β2:List Bb}{Q:Value→List Fact→List Bb→Prop}(l:List Nat) (hn:(β1++β2).Perm β)
  (hx:evs σ xs=some args) (hc:Br P f args β1 Γ' Q) (hp:pick Γ l=some Γ')
  (h:∀ v Φ β',Q v Φ β'→K v (β'++β2) (Φ++Γ)):Ej P C (.call { callee:=.value (.func f),args:=xs.toArray,argTypes:=ts }) ty σ β Γ K:=by
 intro w hO0 hG0
 have hO:Own C w (β1++β2):=⟨hO0.ext,fun x hx=>hO0.new x (hn.subset hx),fun x hx=>hO0.blk x (hn.subset hx),by
  rw [B5]
  exact (hn.pairwise_iff (fun {x y} hxy b hb e=>hxy b e hb)).2 (B5.1 hO0.apart)⟩
 have hG:∀ f∈Γ,f.holds w (ok C w (β1++β2)):=fun f hf=>f.stable (fun k hk=>⟨⟨hk.1,hk.2.1,fun x hx=>hk.2.2 x (hn.subset hx)⟩,rfl⟩) (hG0 f hf)
 have hs1:β1.Sublist (β1++β2):=List.sublist_append_left _ _
 have hs2:β2.Sublist (β1++β2):=List.sublist_append_right _ _
 have hO2:Own C w β2:=hO.sub hs2
 have hapart:∀ x∈β1,∀ y∈β2,∀ b,x.1=some b→y.1≠some b:=by
  have:=B5.1 hO.apart
  rw [List.pairwise_append] at this
  exact fun x hx y hy b hb=>this.2.2 x hx y hy b hb
 have hcall:=hc.2 w (ok C w (β1++β2)) (fun k hk=>hk.2.1) (fun x hx b hb=>hO.blk x (hs1.subset hx) b hb)
  (hO.sub hs1).apart (fun g hg=>g.stable (fun k hk=>⟨⟨hk,fun ⟨x,hx,e⟩=>hk.2.2 x (hs1.subset hx) e⟩,rfl⟩) (hG g (F5 hp g hg)))
 refine (ABs hc.1 hx hcall).mono ?_
 rintro v w' ⟨Φ,β',hQ,hO',hΦ⟩
 have hkeep:∀ k,k<w.heap.size→¬ inB β1 k→w'.heap[k]?=w.heap[k]?:=fun k hk hne=>hO'.ext.block k hk hne
 have hnb:∀ x∈β2,∀ b,x.1=some b→¬ inB β1 b:=fun x hx b hb ⟨y,hy,e⟩=>hapart y hy x hx b e hb
 have hnew:∀ x∈β',∀ b,x.1=some b→w.heap.size≤b∨inB β1 b:=fun x hx b hb=>hO'.new x hx b hb
 refine ⟨_,_,h v Φ β' hQ,⟨⟨hO'.ext.os.trans hO.ext.os,hO'.ext.tape.trans hO.ext.tape,hO'.ext.output.trans hO.ext.output,Nat.le_trans hO.ext.size hO'.ext.size,fun k hk hm=>?_⟩,?_,?_,?_⟩,?_⟩
 ·rw [hkeep k (Nat.lt_of_lt_of_le hk hO.ext.size) (fun ⟨y,hy,e⟩=>?_)]
  ·exact hO.ext.block k hk hm
  ·rcases hO.new y (hs1.subset hy) k e with h|h
   ·omega
   ·exact hm h
 ·intro x hm b hb
  rcases List.mem_append.1 hm with hm|hm
  ·rcases hnew x hm b hb with h|⟨y,hy,e⟩
   ·exact .inl (Nat.le_trans hO.ext.size h)
   ·exact hO.new y (hs1.subset hy) b e
  ·exact hO2.new x hm b hb
 ·intro x hm b hb
  rcases List.mem_append.1 hm with hm|hm
  ·exact hO'.blk x hm b hb
  ·rw [hkeep b (hO2.lt hm hb) (hnb x hm b hb)]
   exact hO2.blk x hm b hb
 ·refine hO'.apart.append hO2.apart fun x hx y hy b hb e=>?_
  rcases hnew x hx b hb with h1|h1
  ·have h2:=hO2.lt hy e
   omega
  ·exact hnb y hy b e h1
 ·intro g hg
  rcases List.mem_append.1 hg with hg|hg
  ·refine g.stable (fun k hk=>⟨⟨?_,hk.2.1,fun x hx=>?_⟩,rfl⟩) (hΦ g hg)
   ·rcases hk.1 with h1|⟨y,hy,e⟩|h1
    ·exact h1.1
    ·rcases hO.new y (hs1.subset hy) k e with h|h
     ·exact .inr (.inr h)
     ·exact .inr (.inl h)
    ·exact .inr (.inr (Nat.le_trans hO.ext.size h1))
   ·rcases List.mem_append.1 hx with hx|hx
    ·exact hk.2.2 x hx
    ·intro e
     rcases hk.1 with h1|h1|h1
     ·exact h1.2.2 x (hs2.subset hx) e
     ·exact hnb x hx k e h1
     ·have h2:=hO2.lt hx e
      have h1':w.heap.size≤k:=h1
      omega
  ·refine g.stable (fun k hk=>⟨⟨hk.1,Nat.lt_of_lt_of_le hk.2.1 hO'.ext.size,fun x hx=>?_⟩,hkeep k hk.2.1 (fun ⟨y,hy,e⟩=>hk.2.2 y (hs1.subset hy) e)⟩) (hG g hg)
   rcases List.mem_append.1 hx with hx|hx
   ·intro e
    rcases hnew x hx k e with h1|⟨y,hy,e2⟩
    ·have:=hk.2.1
     omega
    ·exact hk.2.2 y (hs1.subset hy) e2
   ·exact hk.2.2 x (hs2.subset hx)
theorem AGT {α:Type}{E:Enc α}{e:TypeId}{w:World}{r:Row}{n:Nat}{l:List α}{A:Nat→Prop}(hO:Own C w β) (hm:(r.bo,e,r.cs)∈β) (hA:∀ k,ok C w β k→A k) (hb:∀ b,r.bo=some b→A b) (h:(Aw E r n l).holds w (ok C w β)) (hby:n*E.bytes≤140737488355328) :
  (A2 E (ad r.bo) n r.cap l).holds w A:=by
 obtain ⟨hl,hg,vss,hall,ht⟩:=h
 subst hl
 refine ⟨rfl,?_⟩
 rcases hg with ⟨h1,hn0,h3,h4⟩|⟨b,h1,hnc,hcm,hcs⟩
 ·have:l=[]:=List.eq_nil_of_length_eq_zero hn0
  subst this
  exact ⟨Nat.zero_le _,hby,.inl rfl⟩
 ·refine ⟨hnc,hby,.inr ⟨b,0,by rw [h1];rfl,hb b h1,fun i x hi=>?_⟩⟩
  have hlt:i<l.length:=(List.getElem?_eq_some_iff.1 hi).1
  obtain ⟨vs,hvs⟩:∃ vs,vss[i]?=some vs:=⟨vss[i]'(hall.1.symm▸hlt),by simp⟩
  have hpart:=Is (Hh hall) i vs hvs
  have hrd:=hall.2 i vs x hvs hi
  refine ⟨vs,⟨r.cs.toArray,e,(0,0),hO.blk _ hm b h1,?_,E.len hrd⟩,E.stable (fun k hk=>⟨hA k hk,rfl⟩) hrd⟩
  rw [← hpart,← ht,Nat.zero_add,List.drop_take,List.take_take]
  congr 1
  have h4:(i+1)*E.size≤l.length*E.size:=Nat.mul_le_mul_right _ hlt
  rw [Nat.succ_mul] at h4
  omega
theorem AGF {α:Type}{E:Enc α}{e:TypeId}{post:List Bb}{hd:Nat→Hd}{cs:Nat→List Value}{ls:Nat→List α}{m:Nat}{sk:List Nat}(k i j N:Nat) (hβ:β.drop k=D2 e hd cs m sk++post) (hj:A8 Γ j=some (Fp E hd cs ls m sk)) (hi:i<m) (hs:B6 i sk=false) (hN:(hd i).2.1=N)
  (h:∀ r:Row,(Ly hd m)[i]?=some (r.bo,N,r.cap)→J F C S σ ((r.bo,e,r.cs)::(β.take k++(D2 e hd cs m (i::sk)++post))) (Aw E r N (ls i)::Fp E hd cs ls m (i::sk)::Γ) R):J F C S σ β Γ R :=
 AH6 (pre:=β.take k) (post:=post) i j N (by rw [← hβ,List.take_append_drop]) hj hi hs hN h
theorem Hw {α:Type}{E:Enc α}{e:TypeId}{hd:Nat→Hd}{cs:Nat→List Value}{ls:Nat→List α}{m:Nat}{sk:List Nat}(k i j N:Nat) (hβ:β.drop k=D2 e hd cs m sk) (hj:A8 Γ j=some (Fp E hd cs ls m sk)) (hi:i<m) (hs:B6 i sk=false) (hN:(hd i).2.1=N)
  (h:∀ r:Row,(Ly hd m)[i]?=some (r.bo,N,r.cap)→J F C S σ ((r.bo,e,r.cs)::(β.take k++D2 e hd cs m (i::sk))) (Aw E r N (ls i)::Fp E hd cs ls m (i::sk)::Γ) R):J F C S σ β Γ R :=
 AGF (post:=[]) k i j N (by rw [hβ,List.append_nil]) hj hi hs hN fun r hr=>by rw [List.append_nil];exact h r hr
theorem ADh {α:Type}{E:Enc α}{e:TypeId}{post:List Bb}{hd:Nat→Hd}{cs:Nat→List Value}{ls:Nat→List α}{m:Nat}{sk:List Nat}{r:Row}{N:Nat}{l:List α}(q i k j1 j2:Nat) (hk:A8 β k=some (r.bo,e,r.cs)) (hβ:(β.eraseIdx k).drop q=D2 e hd cs m (i::sk)++post)
  (h1:A8 Γ j1=some (Aw E r N l)) (h2:A8 Γ j2=some (Fp E hd cs ls m (i::sk))) (hi:i<m) (hs:B6 i sk=false)
  (h:J F C S σ ((β.eraseIdx k).take q++(D2 e (Gz hd i (r.bo,N,r.cap)) (Gz cs i r.cs) m sk++post)) (Fp E (Gz hd i (r.bo,N,r.cap)) (Gz cs i r.cs) (Gz ls i l) m sk::Γ) R):J F C S σ β Γ R :=
 AFf (pre:=(β.eraseIdx k).take q) (post:=post) i k j1 j2 hk (by rw [← hβ,List.take_append_drop]) h1 h2 hi hs h
theorem Ds {α:Type}{E:Enc α}{e:TypeId}{hd:Nat→Hd}{cs:Nat→List Value}{ls:Nat→List α}{m:Nat}{sk:List Nat}{r:Row}{N:Nat}{l:List α}(q i k j1 j2:Nat) (hk:A8 β k=some (r.bo,e,r.cs)) (hβ:(β.eraseIdx k).drop q=D2 e hd cs m (i::sk))
  (h1:A8 Γ j1=some (Aw E r N l)) (h2:A8 Γ j2=some (Fp E hd cs ls m (i::sk))) (hi:i<m) (hs:B6 i sk=false)
  (h:J F C S σ ((β.eraseIdx k).take q++D2 e (Gz hd i (r.bo,N,r.cap)) (Gz cs i r.cs) m sk) (Fp E (Gz hd i (r.bo,N,r.cap)) (Gz cs i r.cs) (Gz ls i l) m sk::Γ) R):J F C S σ β Γ R :=
 ADh (post:=[]) q i k j1 j2 hk (by rw [hβ,List.append_nil]) h1 h2 hi hs (by rw [List.append_nil];exact h)
theorem AHu {α:Type}(E:Enc α) (e:TypeId) (m:Nat) (h:J F C S σ (β++D2 e (fun _=>(none,0,0)) (fun _=>[]) m []) (Fp E (fun _=>(none,0,0)) (fun _=>[]) (fun _=>[]) m []::Γ) R):J F C S σ β Γ R:=fun w hO hG=>by
 have hn:∀ x∈D2 e (fun _=>(none,0,0)) (fun _=>[]) m [],x.1=none:=fun x hx=>by
  obtain ⟨i,_,rfl⟩:=List.mem_map.1 hx
  rfl
 have hok:∀ k,ok C w β k→ok C w (β++D2 e (fun _=>(none,0,0)) (fun _=>[]) m []) k:=fun k hk=>⟨hk.1,hk.2.1,fun x hx=>by
  rcases List.mem_append.1 hx with hx|hx
  ·exact hk.2.2 x hx
  ·rw [hn x hx];intro h;cases h⟩
 refine h w ⟨hO.ext,fun x hx b hb=>?_,fun x hx b hb=>?_,?_⟩ fun f hf=>?_
 ·rcases List.mem_append.1 hx with hx|hx
  ·exact hO.new x hx b hb
  ·rw [hn x hx] at hb;cases hb
 ·rcases List.mem_append.1 hx with hx|hx
  ·exact hO.blk x hx b hb
  ·rw [hn x hx] at hb;cases hb
 ·refine hO.apart.append ?_ fun x _ y hy b _=>by rw [hn y hy];intro h;cases h
  rw [B5,List.pairwise_iff_getElem]
  intro i j hi hj _ b hb
  rw [hn _ (List.getElem_mem hi)] at hb;cases hb
 ·rcases List.mem_cons.1 hf with rfl|hf
  ·exact fun i _ _=>⟨rfl,Mb.nil _,[],D5,by simp⟩
  ·exact f.stable (fun k hk=>⟨hok k hk,rfl⟩) (hG f hf)
theorem AKe {e:TypeId}{b n:Nat}(k:Nat) (hn:A8 β k=some (some b,e,(List.replicate n [Value.slice none 0 0]).flatten)) (h63:n≤9223372036854775807)
  (h:∀ cs,J F C S σ (setB β k cs) (Aw Vv ⟨some b,n,cs⟩ n (Ly (fun _=>(none,0,0)) n)::Γ) R):J F C S σ β Γ R:=by
 have e1:setB β k (List.replicate n [Value.slice none 0 0]).flatten=β:=by
  have key:∀ (β:List Bb) (k:Nat),A8 β k=some (some b,e,(List.replicate n [Value.slice none 0 0]).flatten)→setB β k (List.replicate n [Value.slice none 0 0]).flatten=β:=by
   intro β
   induction β with
   | nil=>intro k h;simp [A8] at h
   | cons x l ih =>
    intro k h
    cases k with
    | zero =>
     have:x=(some b,e,(List.replicate n [Value.slice none 0 0]).flatten):=by simpa [A8] using h
     subst this;rfl
    | succ k =>
     have h':A8 l k=some (some b,e,(List.replicate n [Value.slice none 0 0]).flatten):=h
     show x::setB l k _=x::l
     rw [ih k h']
  exact key β k hn
 have h2:=h (List.replicate n [Value.slice none 0 0]).flatten
 rw [e1] at h2
 refine Jh _ (fun w A _=>?_) h2
 refine ⟨by simp [Ly],.inr ⟨b,rfl,Nat.le_refl _,h63,?_⟩,List.replicate n [Value.slice none 0 0],?_,?_⟩
 ·show (List.replicate n [Value.slice none 0 0]).flatten.length=n*1
  rw [Gq (m:=1) (fun v hv=>by rw [(List.mem_replicate.1 hv).2];rfl),List.length_replicate]
 ·have e2:Ly (fun _=>((none,0,0):Hd)) n=List.replicate n (none,0,0):=by
   simp only [Ly]
   refine List.ext_getElem? fun i=>?_
   by_cases hi:i<n
   ·simp [hi]
   ·simp [hi]
  rw [e2]
  exact AFn (E:=Vv) (ACx none 0 0) n
 ·show List.take (n*1) (List.replicate n [Value.slice none 0 0]).flatten=_
  rw [List.take_of_length_le]
  rw [Gq (m:=1) (fun v hv=>by rw [(List.mem_replicate.1 hv).2];rfl),List.length_replicate];omega
theorem AHi {α:Type}{E:Enc α}{e e2:TypeId}{post:List Bb}{r:Row}{hd:Nat→Hd}{cs:Nat→List Value}{ls:Nat→List α}{m:Nat}(q k j1 j2:Nat) (hβ:β.drop q=D2 e hd cs m []++post) (hk:A8 β k=some (r.bo,e2,r.cs)) (h1:A8 Γ j1=some (Aw Vv r m (Ly hd m))) (h2:A8 Γ j2=some (Fp E hd cs ls m []))
  (hby:∀ i,i<m→(hd i).2.1*E.bytes≤140737488355328) (h:J F C S σ (β.take q++post) (Aw (Ar E) r m ((List.range m).map ls)::Γ) R):J F C S σ β Γ R:=fun w hO hG=>by
 have hβ':β=β.take q++(D2 e hd cs m []++post):=by rw [← hβ,List.take_append_drop]
 have hsub:(β.take q++post).Sublist β:=by
  conv=>rhs;rw [hβ']
  exact List.Sublist.append_left (List.sublist_append_right _ _) _
 refine h w (hO.sub hsub) fun f hf=>?_
 rcases List.mem_cons.1 hf with rfl|hf
 ·obtain ⟨hl,hg,vss,hall,ht⟩:=hG _ (Al h1)
  have hmat:=hG _ (Al h2)
  refine ⟨by simp,hg,vss,⟨by rw [hall.1,T1];simp,fun i vs x hv hx=>?_⟩,ht⟩
  have hlt:i<m:=by
   have:=(List.getElem?_eq_some_iff.1 hx).1
   simpa using this
  rw [List.getElem?_map,List.getElem?_range hlt] at hx
  obtain rfl:ls i=x:=Option.some.inj hx
  have hvs:vs=[.slice (ad (hd i).1) (hd i).2.1 (hd i).2.2]:=hall.2 i vs _ hv (Qq hlt)
  subst hvs
  have hmem0:((hd i).1,e,cs i)∈D2 e hd cs m []:=List.mem_map.2 ⟨i,List.mem_filter.2 ⟨List.mem_range.2 hlt,rfl⟩,rfl⟩
  have hmem:((hd i).1,e,cs i)∈β:=by rw [hβ'];exact List.mem_append_right _ (List.mem_append_left _ hmem0)
  have hd2:∀ b,(hd i).1=some b→∀ x∈β.take q++post,x.1≠some b:=fun b hb x hx=>by
   have hap:=hO.apart
   rw [hβ',B5,List.pairwise_append] at hap
   rcases List.mem_append.1 hx with hx|hx
   ·intro hx2
    exact hap.2.2 x hx _ (List.mem_append_left _ hmem0) b hx2 hb
   ·have:=hap.2.1
    rw [List.pairwise_append] at this
    exact this.2.2 _ hmem0 x hx b hb
  refine Ew (AGT (r:=⟨(hd i).1,(hd i).2.2,cs i⟩) hO hmem (fun k hk=>⟨hk.1,hk.2.1,fun x hx=>hk.2.2 x (hsub.subset hx)⟩) (fun b hb=>⟨?_,hO.lt hmem hb,hd2 b hb⟩) (hmat i hlt rfl) (hby i hlt))
  rcases hO.new _ hmem b hb with h|h
  ·exact .inr (.inr h)
  ·exact .inr (.inl h)
 ·exact Tr hsub hG f hf
theorem AFN {α:Type}{E:Enc α}{e e2:TypeId}{r:Row}{hd:Nat→Hd}{cs:Nat→List Value}{ls:Nat→List α}{m:Nat}(q k j1 j2:Nat) (hβ:β.drop q=D2 e hd cs m []) (hk:A8 β k=some (r.bo,e2,r.cs)) (h1:A8 Γ j1=some (Aw Vv r m (Ly hd m))) (h2:A8 Γ j2=some (Fp E hd cs ls m []))
  (hby:∀ i,i<m→(hd i).2.1*E.bytes≤140737488355328) (h:J F C S σ (β.take q) (Aw (Ar E) r m ((List.range m).map ls)::Γ) R):J F C S σ β Γ R :=
 AHi (post:=[]) q k j1 j2 (by rw [hβ,List.append_nil]) hk h1 h2 hby (by rw [List.append_nil];exact h)
theorem Fb {α:Type}{E:Enc α}{hd:Nat→Hd}{cs:Nat→List Value}{ls:Nat→List α}{m:Nat}{sk:List Nat}(ls':Nat→List α) (j:Nat) (hj:A8 Γ j=some (Fp E hd cs ls m sk)) (he:∀ i,i<m→ls i=ls' i) (h:J F C S σ β (Fp E hd cs ls' m sk::Γ) R):J F C S σ β Γ R :=
 Jh _ (fun w A hG i hi hs=>by rw [← he i hi];exact hG _ (Al hj) i hi hs) h
theorem Qz {α:Type}{E:Enc α}{hd:Nat→Hd}{cs:Nat→List Value}{ls:Nat→List α}{m:Nat}{sk:List Nat}(j:Nat) (hj:A8 Γ j=some (Fp E hd cs ls m sk)) (h:(∀ i,i<m→B6 i sk=false→(hd i).2.1=(ls i).length)→J F C S σ β Γ R):J F C S σ β Γ R :=
 Zp (fun w A hG i hi hs=>(hG _ (Al hj) i hi hs).1) h
theorem Qu {β1:List Bb}(k:Nat) (ix:List Nat) (hf:Qn ix=true) (hp:Ml (β.take k) ix=some β1) (h:J F C S σ (β1++β.drop k) Γ R):J F C S σ β Γ R:=fun w hO hG=>by
 have hsub1:∀ y∈β1,y∈β.take k:=fun y hy=>by
  obtain ⟨n,_,hn⟩:=Tl hp y hy
  exact B1 hn
 have hsub:∀ y∈β1++β.drop k,y∈β:=fun y hy=>by
  rcases List.mem_append.1 hy with hy|hy
  ·exact List.mem_of_mem_take (hsub1 y hy)
  ·exact List.mem_of_mem_drop hy
 have hap:Bc (β.take k++β.drop k):=by rw [List.take_append_drop];exact hO.apart
 rw [B5,List.pairwise_append] at hap
 have hd:Bc (β1++β.drop k):=(L7 (B5.2 hap.1) hp hf).append (B5.2 hap.2.1) fun x hx y hy b hb=>hap.2.2 x (hsub1 x hx) y hy b hb
 refine h w ⟨hO.ext,fun x hx=>hO.new x (hsub x hx),fun x hx=>hO.blk x (hsub x hx),hd⟩ fun f hf=>?_
 exact f.stable (fun k hk=>⟨⟨hk.1,hk.2.1,fun x hx=>hk.2.2 x (hsub x hx)⟩,rfl⟩) (hG f hf)
theorem Rf {σ':Fr}{β1 β':List Bb}{Γ':List Fact}(k:Nat) (ix l:List Nat) (hs:Fr.sub σ' σ) (hf:Qn ix=true) (hb:Ml (β.take k) ix=some β1) (he:β'=β1++β.drop k) (hp:pick Γ l=some Γ') (h:J F C S σ' β' Γ' R):J F C S σ β Γ R :=
 Qu k ix hf hb (AKl l hs he hp h)
theorem ACt {β1:List Bb}{w:World}(k:Nat) (ix:List Nat) (hf:Qn ix=true) (hp:Ml (β.take k) ix=some β1) (hO:Own C w β):Own C w (β1++β.drop k)∧∀ y∈β1++β.drop k,y∈β:=by
 have hsub1:∀ y∈β1,y∈β.take k:=fun y hy=>by
  obtain ⟨n,_,hn⟩:=Tl hp y hy
  exact B1 hn
 have hsub:∀ y∈β1++β.drop k,y∈β:=fun y hy=>by
  rcases List.mem_append.1 hy with hy|hy
  ·exact List.mem_of_mem_take (hsub1 y hy)
  ·exact List.mem_of_mem_drop hy
 have hap:Bc (β.take k++β.drop k):=by rw [List.take_append_drop];exact hO.apart
 rw [B5,List.pairwise_append] at hap
 have hd:Bc (β1++β.drop k):=(L7 (B5.2 hap.1) hp hf).append (B5.2 hap.2.1) fun x hx y hy b hb=>hap.2.2 x (hsub1 x hx) y hy b hb
 exact ⟨⟨hO.ext,fun x hx=>hO.new x (hsub x hx),fun x hx=>hO.blk x (hsub x hx),hd⟩,hsub⟩
theorem B0 {vs:List Value}{Q:Value→List Fact→List Bb→Prop}{Φ:List Fact}{β1:List Bb}(k:Nat) (ix l:List Nat) (hp:Uk F.B p=true) (hr:ResJ P σ β F.fn.results.toList vs) (hf:Qn ix=true) (hb:Ml (β.take k) ix=some β1) (hl:pick Γ l=some Φ)
  (h:Q (H4 vs) Φ (β1++β.drop k)) (hk:F.rnd=none:=by rfl):J F C (.c p::S) σ β Γ (Ga C Q) :=
 fun _ hO hG=>U0 (hk:=hk) hp (fun _ ha w5 hs=>hr.all ha fun x hx b hb=>hs _ _ _ _ (hO.blk x hx b hb)) ⟨Φ,β1++β.drop k,h,(ACt k ix hf hb hO).1,fun f hf2=>f.stable (fun _ hk'=>⟨⟨hk'.1,hk'.2.1,fun x hx=>hk'.2.2 x ((ACt k ix hf hb hO).2 x hx)⟩,rfl⟩) (hG f (F5 hl f hf2))⟩
theorem AII {α:Type}{E:Enc α}{t e:TypeId}{x y:Operand}{r:Row}{n m c:Nat}{pa:Option Addr}{zs:List Value}{l l2:List α}(i j:Nat)
  (hi:A8 Γ i=some (Aw E r n l)) (hj:A8 Γ j=some (A2 E pa m c l2)) (hx:ev σ x=some (.slice (ad r.bo) n r.cap)) (hy:ev σ y=some (.slice pa m c))
  (hT:Ek P t=some (e,E.size)) (hz:C0 P e=some zs) (hzl:zs.length=E.size) (hm:0<m)
  (hmax:n+m≤9223372036854775807) (by':Nat) (hbe:P.bytesOf e=by') (hby:(n+m)*by'≤140737488355328) :
  JG P (.call { callee:=.builtin .append,args:=#[x,y],argTypes:=#[t,t] }) ty σ (some [(r.bo,e,r.cs)]) Γ (fun g=>[(some (g 0).2.1,e,(g 0).2.2.2)]) (fun g=>.slice (some ⟨(g 0).2.1,0,none⟩) (n+m) (g 0).2.2.1)
   (fun g=>[Aw E ⟨some (g 0).2.1,(g 0).2.2.1,(g 0).2.2.2⟩ (n+m) (l++l2)]):=by
 intro w A hA hpb _ hG
 subst hbe
 obtain ⟨hl,hg,vss,hall,ht⟩:=hG _ (Al hi)
 obtain ⟨hml,_,_,hs⟩:=hG _ (Al hj)
 obtain ⟨vs2,hall2,hcell⟩:∃ vs2,Fu E vs2 l2 w A∧(m=0∨∃ a,pa=some a∧∀ jj u,vs2.flatten[jj]?=some u→w.cell? (a.add jj)=some u):=by
  rcases hs with rfl|⟨b,o,rfl,_,hel⟩
  ·exact ⟨[],⟨rfl,fun i vs x hv=>by simp at hv⟩,.inl (by simpa using hml)⟩
  ·obtain ⟨vss,h1,h2⟩:=N6.all (A:=A) hel
   exact ⟨vss,h1,.inr ⟨_,rfl,fun jj u hu=>by rw [Addr.add_mid];exact h2 jj u hu⟩⟩
 have hlen:vs2.flatten.length=m*E.size:=by rw [Gq (Hh hall2),hall2.1,hml]
 have hO:Own ⟨w,A,Vb (some [(r.bo,e,r.cs)])⟩ w [(r.bo,e,r.cs)]:=⟨Keep.refl _ _,fun x hx b hb=>.inr ⟨x,hx,hb⟩,hpb,⟨fun y hy=>(by cases hy),trivial⟩⟩
 obtain ⟨bo',cap',cs',w',hr,h2,h3,h4,_⟩:=Qk (P:=P) (ty':=ty) (cx:=c) (px:=pa) (Γ:=[]) hT hz hzl hO (fun f hf=>by cases hf) (k:=0) rfl hg hlen hcell (Zx hall2) hmax hby
 obtain ⟨b',rfl⟩:∃ b',bo'=some b':=by
  rcases h2 with ⟨_,h,_⟩|⟨b,h,_⟩
  ·omega
  ·exact ⟨b,h⟩
 refine Pa hx hy hr ⟨fun _=>(none,b',cap',cs'),rfl,h4.ext,⟨fun y hy=>(by cases hy),trivial⟩,fun y hy b hb=>?_,fun g hg=>?_⟩
 ·obtain rfl:=List.mem_singleton.1 hy
  exact ⟨h4.new _ (.head _) b hb,h4.blk _ (.head _) b hb⟩
 ·obtain rfl:=List.mem_singleton.1 hg
  have same:∀ k,A k→((A k∨w.heap.size≤k)∧k<w'.heap.size∧∀ y∈[((some b',e,cs'):Bb)],y.1≠some k)∧w'.heap[k]?=w.heap[k]?:=fun k hk =>
   ⟨⟨.inl hk,Nat.lt_of_lt_of_le (hA k hk).1 h4.ext.size,fun y hy e=>by
    obtain rfl:=List.mem_singleton.1 hy
    rcases h4.new _ (.head _) k e with h|h
    ·have:=(hA k hk).1
     have h:w.heap.size≤k:=h
     omega
    ·exact (hA k hk).2 h⟩,h4.ext.block k (hA k hk).1 (hA k hk).2⟩
  refine ⟨by simp [hl,hml],h2,vss++vs2,(N7 E (vss++vs2) (l++l2)).stable same (Wz hall hall2),?_⟩
  show cs'.take _=_
  rw [h3,ht];simp
theorem AFX {it:List (TypeId×IntKind)}{L:List Oper}{pos:List Po}{pt:List (List Nat)}{κ:Fr}{fs:List (Nat×Fact)}{al:List Bb}{k:Nat}{x0:List Bb}{bl:Gh→List Bb}{val:Gh→Value}{f:Gh→List Fact}(ho:Vc F.fn.ntmps L κ i=some (d,op,ty)) (hJ:JG P op ty σ (some x0) (Ut (B4 pt i) fs++Γ) bl val f)
  (h:∀ x,Kt it F C p S L pt β Γ R k (i+1) pos (Ho d κ) (putF d (val x) σ) ((f x).map (fun g=>(i,g))++fs) (bl x++al) none):Kt it F C p S L pt β Γ R k i (.sg bl val f::pos) κ σ fs al (some x0):=by
 refine ⟨by have:=(h default).1;simp only [List.length_cons];omega,?_⟩
 unfold Vc at ho
 cases hn:A8 L i with
 | none=>rw [hn] at ho;simp at ho
 | some o =>
  rw [hn] at ho
  simp only at ho
  cases hout:Rk o.dst F.fn.ntmps with
  | false=>rw [hout] at ho;simp at ho
  | true =>
   rw [hout] at ho
   cases hg:gd L κ o with
   | none=>rw [hg] at ho;simp at ho
   | some g =>
    cases g with
    | false=>rw [hg] at ho;simp at ho
    | true =>
     rw [hg] at ho
     obtain ⟨rfl,rfl,rfl⟩:o.dst=d∧o.op=op∧o.type=ty:=by simpa using ho
     simp only [Lx,hn,hout,hg]
     exact ⟨rfl,hJ,fun x=>(h x).2⟩
theorem AH0 {α:Type}{E:Enc α}{it:List (TypeId×IntKind)}{L:List Oper}{pos:List Po}{pt:List (List Nat)}{κ:Fr}{fs:List (Nat×Fact)}{al:List Bb}{k:Nat}{t e:TypeId}{x y:Operand}{r:Row}{n m c:Nat}{pa:Option Addr}{zs:List Value}{l l2:List α}(q j:Nat)
  (ho:Vc F.fn.ntmps L κ i=some (d,.call { callee:=.builtin .append,args:=#[x,y],argTypes:=#[t,t] },ty))
  (hi:A8 (Ut (B4 pt i) fs++Γ) q=some (Aw E r n l)) (hj:A8 (Ut (B4 pt i) fs++Γ) j=some (A2 E pa m c l2)) (hx:ev σ x=some (.slice (ad r.bo) n r.cap)) (hy:ev σ y=some (.slice pa m c))
  (hT:Ek P t=some (e,E.size)) (hz:C0 P e=some zs) (hzl:zs.length=E.size) (hm:0<m)
  (hmax:n+m≤9223372036854775807) (by':Nat) (hbe:P.bytesOf e=by') (hby:(n+m)*by'≤140737488355328)
  (h:∀ b cap cs,Kt it F C p S L pt β Γ R k (i+1) pos (Ho d κ) (putF d (.slice (some ⟨b,0,none⟩) (n+m) cap) σ) ((i,Aw E ⟨some b,cap,cs⟩ (n+m) (l++l2))::fs) ((some b,e,cs)::al) none) :
  Kt it F C p S L pt β Γ R k i (.sg (fun g=>[(some (g 0).2.1,e,(g 0).2.2.2)]) (fun g=>.slice (some ⟨(g 0).2.1,0,none⟩) (n+m) (g 0).2.2.1) (fun g=>[Aw E ⟨some (g 0).2.1,(g 0).2.2.1,(g 0).2.2.2⟩ (n+m) (l++l2)])::pos) κ σ fs al (some [(r.bo,e,r.cs)]) :=
 AFX ho (AII q j hi hj hx hy hT hz hzl hm hmax by' hbe hby) fun x=>h _ _ _
theorem F1 {K:Value→List Bb→List Fact→Prop}{f:FuncId}{xs:List Operand}{ts:Array TypeId}{args:List Value}{Γ':List Fact}{β1:List Bb}{Q:Value→List Fact→List Bb→Prop}(n:Nat) (l:List Nat) (hn:β.take n=β1)
  (hx:evs σ xs=some args) (hc:Br P f args β1 Γ' Q) (hp:pick Γ l=some Γ')
  (h:∀ v Φ β',Q v Φ β'→K v (β'++β.drop n) (Φ++Γ)):Ej P C (.call { callee:=.value (.func f),args:=xs.toArray,argTypes:=ts }) ty σ β Γ K :=
 AEZ l (by rw [← hn,List.take_append_drop]) hx hc hp h
theorem AAa {it:List (TypeId×IntKind)}(hit:Bw P it) (hmx:P.follows .mixedOrders=true) {pos:List Po}{x0:List Bb}(n k:Nat) (hb:β.take n=x0) (hd:S8 F.B p=true) (hc:Up (Am (sub p F.B)) (K1 (Am (sub p F.B)) []) k=true)
  (h:Kt it F C p S (Am (sub p F.B)) (K1 (Am (sub p F.B)) []) (β.drop n) Γ R k 0 pos σ σ [] [] (some x0)) (hS:Xx S=false:=by rfl):J F C (.c p::S) σ β Γ R:=by
 have e:β=Vi (some x0)++β.drop n:=by show β=x0++_;rw [← hb,List.take_append_drop]
 rw [e]
 exact AGR (pb:=some x0) hit hmx pos hd (by have:=h.1;rw [Nat.zero_add] at this;rw [this];exact hc) h.2 hS
theorem Ix {α:Type}{f:Nat→α}{i:Nat}{x:α}(h:f i=x):Gz f i x=f:=by
 funext k
 by_cases e:k=i
 ·subst e;rw [Do,h]
 ·rw [Fh e]
theorem Mk {hd:Nat→Hd}{m i:Nat}{x:Hd}(h:(Ly hd m)[i]?=some x) (hi:i<m):hd i=x:=by
 rw [Ly,List.getElem?_map,List.getElem?_range hi] at h
 exact Option.some.inj h
theorem Wf {K:Value→List Bb→List Fact→Prop}{f:FuncId}{xs:List Operand}{ts:Array TypeId}{args:List Value}{Γ':List Fact}{β1:List Bb}{Q:Value→List Fact→List Bb→Prop}(n:Nat) (l:List Nat) (hn:β.drop n=β1)
  (hx:evs σ xs=some args) (hc:Br P f args β1 Γ' Q) (hp:pick Γ l=some Γ')
  (h:∀ v Φ β',Q v Φ β'→K v (β.take n++β') (Φ++Γ)):Ej P C (.call { callee:=.value (.func f),args:=xs.toArray,argTypes:=ts }) ty σ β Γ K:=fun w hO hG =>
 (AEZ (β2:=β.take n) (K:=fun v b G=>∃ Φ β',Q v Φ β'∧b=β'++β.take n∧G=Φ++Γ) l (by
  have e:β=β.take n++β1:=by rw [← hn,List.take_append_drop]
  have h:=List.perm_append_comm (l₁:=β1) (l₂:=β.take n)
  rwa [← e] at h) hx hc hp (fun v Φ β' q=>⟨Φ,β',q,rfl,rfl⟩) w hO hG).mono fun v w' ⟨_,_,⟨Φ,β',q,e1,e2⟩,hO',hG'⟩=>by
  subst e1;subst e2
  have hp':(β.take n++β').Perm (β'++β.take n):=List.perm_append_comm
  exact ⟨_,_,h v Φ β' q,⟨hO'.ext,fun x hx=>hO'.new x (hp'.subset hx),fun x hx=>hO'.blk x (hp'.subset hx),by
   rw [B5]
   exact (hp'.symm.pairwise_iff (fun {x y} hxy b hb e=>hxy b e hb)).1 (B5.1 hO'.apart)⟩,
   fun f hf=>f.stable (fun k hk=>⟨⟨hk.1,hk.2.1,fun x hx=>hk.2.2 x (hp'.subset hx)⟩,rfl⟩) (hG' f hf)⟩
theorem AFK {e:TypeId}{hd:Nat→Hd}{cs:Nat→List Value}{m:Nat}:D2 e hd cs (m+1) [m]=D2 e hd cs m []:=by
 show ((List.range (m+1)).filter _).map _=((List.range m).filter _).map _
 rw [List.range_succ,List.filter_append,List.filter_cons_of_neg (by rw [A1];simp),List.filter_nil,List.append_nil]
 congr 1
 refine List.filter_congr fun j hj=>?_
 have:=List.mem_range.1 hj
 rw [A1,decide_eq_false (by omega)];rfl
theorem AJx {α:Type}{E:Enc α}{e:TypeId}{hd:Nat→Hd}{cs:Nat→List Value}{ls:Nat→List α}{m:Nat}{r:Row}{N:Nat}{l:List α}(q k j1 j2:Nat) (hk:A8 β k=some (r.bo,e,r.cs)) (hβ:(β.eraseIdx k).drop q=D2 e hd cs m [])
  (h1:A8 Γ j1=some (Aw E r N l)) (h2:A8 Γ j2=some (Fp E hd cs ls m []))
  (h:J F C S σ ((β.eraseIdx k).take q++D2 e (Gz hd m (r.bo,N,r.cap)) (Gz cs m r.cs) (m+1) []) (Fp E (Gz hd m (r.bo,N,r.cap)) (Gz cs m r.cs) (Gz ls m l) (m+1) []::Γ) R):J F C S σ β Γ R:=by
 refine Jh (Fp E hd cs ls (m+1) [m]) (fun w A hG i hi hs=>?_) ?_
 ·have hne:i≠m:=fun e=>by rw [e,A1,decide_eq_true rfl] at hs;cases hs
  exact hG _ (Al h2) i (by omega) rfl
 ·refine Ds (hd:=hd) (cs:=cs) (ls:=ls) (m:=m+1) (sk:=[]) (r:=r) (N:=N) (l:=l) q m k (j1+1) 0 hk (by rw [hβ,AFK]) h1 rfl (Nat.lt_succ_self m) rfl ?_
  exact fun w hO hG=>h w hO fun f hf=>by
   rcases List.mem_cons.1 hf with rfl|hf
   ·exact hG _ (.head _)
   ·exact hG _ (.tail _ (.tail _ hf))
theorem AAs {K:Value→List Bb→List Fact→Prop}{t e:TypeId}{m:Nat}{x y:Operand}{b o len ca:Nat}{ky:IntKind}{hi:Int}(k:Nat) (hx:ev σ x=some (.slice (some ⟨b,o,none⟩) len ca)) (hy:ev σ y=some (.int ky hi))
  (hT:Ek P t=some (e,m)) (hk:hi=(k:Int)) (h2:k≤len) (h3:len≤ca)
  (h:K (.slice (some ⟨b,o,none⟩) k ca) β Γ):Ej P C (.slice t x none (some y) none) ty σ β Γ K :=
 Dg (fun w ρ hρ=>by
  obtain ⟨hu,_⟩:=Ct hT
  subst hk
  have:=run_slice_h (P:=P) w t (some ⟨b,o,none⟩) len ca (by rw [Rc hu];exact hu) ky k (by omega) (by omega)
  have e1:sliced (some ⟨b,o,none⟩) 0 k ca m = .slice (some ⟨b,o,none⟩) k ca:=by simp [sliced,Addr.add]
  simp [execOp,Cp,hρ _ _ hx,hρ _ _ hy,J3 hT,this,Kc hT,e1]) h
theorem AAp {K:Value→List Bb→List Fact→Prop}{t e:TypeId}{m:Nat}{x y:Operand}{b len ca:Nat}{ky:IntKind}{lo:Int}(k:Nat) (hx:ev σ x=some (.slice (some ⟨b,0,none⟩) len ca)) (hy:ev σ y=some (.int ky lo))
  (hT:Ek P t=some (e,m)) (hk:lo=(k:Int)) (h2:k≤len) (h3:len≤ca)
  (h:K (.slice (if ca=k then some ⟨b,0,none⟩ else some ⟨b,k*m,none⟩) (len-k) (ca-k)) β Γ):Ej P C (.slice t x (some y) none none) ty σ β Γ K :=
 Dg (fun w ρ hρ=>by
  obtain ⟨hu,_⟩:=Ct hT
  subst hk
  have:=run_slice_l (P:=P) w t (some ⟨b,0,none⟩) len ca (by rw [Rc hu];exact hu) ky k (by omega) (by omega)
  have e1:sliced (some ⟨b,0,none⟩) k len ca m = .slice (if ca=k then some ⟨b,0,none⟩ else some ⟨b,k*m,none⟩) (len-k) (ca-k):=by
   by_cases h:ca=k
   ·simp [sliced,h]
   ·simp [sliced,h,Addr.add]
    exact fun e=>e.symm
  simp [execOp,Cp,hρ _ _ hx,hρ _ _ hy,J3 hT,this,Kc hT,e1]) h
def Ug (e:TypeId) (b:Nat) (cs:List Value):List Bb :=
 match b with
 | 0=>[]
 | b+1=>[(some b,e,cs)]
def ABt {α:Type}(E:Enc α) (pa:Option Addr) (n cap b:Nat) (cs:List Value) (l:List α):Fact where
 holds:=fun w A=>match b with
  | 0=>cap=n∧(A2 E pa n cap l).holds w A
  | b+1=>pa=some ⟨b,0,none⟩∧(Aw E ⟨some b,cap,cs⟩ n l).holds w A
 stable:=fun {w w' A A'} h hs=>by
  cases b with
  | zero=>exact ⟨hs.1,(A2 E pa n cap l).stable h hs.2⟩
  | succ b=>exact ⟨hs.1,(Aw E ⟨some b,cap,cs⟩ n l).stable h hs.2⟩
theorem ACF {w:World}{t ty' e:TypeId}{n m size cx:Nat}{olds news:List Value}{pa px:Option Addr}{zs:List Value}(hT:Ek P t=some (e,size)) (hz:C0 P e=some zs) (hzl:zs.length=size)
  (ho:olds.length=n*size) (hx0:n=0∨∃ a,pa=some a∧∀ j u,olds[j]?=some u→w.cell? (a.add j)=some u)
  (hl:news.length=m*size) (hx:∃ a,px=some a∧∀ j u,news[j]?=some u→w.cell? (a.add j)=some u) (hm:0<m)
  (hmax:n+m≤9223372036854775807) (hby:(n+m)*P.bytesOf e≤140737488355328) :
  ∃ cap' cs',(Builtin.append_ #[t,t] ty' #[.slice pa n n,.slice px m cx]).run P w = .ok (.slice (some ⟨w.heap.size,0,none⟩) (n+m) cap') (w.drew.alloc (.cells cs'.toArray e))∧Mb (some w.heap.size) (n+m) cap' size cs'∧cs'.take ((n+m)*size)=olds++news:=by
 obtain ⟨hu,i,hi,hsz⟩:=Ct hT
 obtain ⟨i',z,hi',hz',hzc⟩:=Fx hz
 obtain rfl:i=i':=Option.some.inj (hi.symm.trans hi')
 have hbi:P.bytesOf e=i.bytes:=by simp [Program.bytesOf,hi]
 rw [hbi] at hby
 have hzs:z.cells.size=size:=by rw [← Array.length_toList,Dr,hzc,hzl]
 obtain ⟨a,rfl,hnews⟩:=hx
 have fresh:∀ (C':Nat),n+m≤C'→C'≤9223372036854775807 →
   Mb (some w.heap.size) (n+m) C' size (olds++news++(Builtin.zeroCells z.cells (C'-(n+m))).toList)∧(olds++news++(Builtin.zeroCells z.cells (C'-(n+m))).toList).take ((n+m)*size)=olds++news:=by
  intro C' hC hCm
  have hlen:(olds++news).length=(n+m)*size:=by rw [List.length_append,ho,hl,Nat.add_mul]
  refine ⟨.inr ⟨_,rfl,hC,hCm,?_⟩,?_⟩
  ·rw [List.length_append,hlen,Array.length_toList,size_zeroCells,hzs,← Nat.add_mul]
   congr 1;omega
  ·rw [← hlen,List.take_left]
 cases pa with
 | none =>
  have hn:n=0:=by
   rcases hx0 with h|⟨_,h,_⟩
   ·exact h
   ·cases h
  subst hn
  have hol:olds=[]:=List.eq_nil_of_length_eq_zero (by simpa using ho)
  subst hol
  have hr:=run_append_nil (P:=P) w t ty' e i z hu hi hz' a m cx news (by rw [hsz];exact hl) hnews (by omega) (by omega) (by simp only [Nat.zero_add] at hby;omega)
  have hge:=grownCap_ge w m 0 e
  have hle:=grownCap_le_maxLen w m 0 e (by simp only [maxLen];omega)
  obtain ⟨f1,f2⟩:=fresh (grownCap w m 0 e) (by omega) (by simpa [maxLen] using hle)
  refine ⟨_,_,?_,f1,f2⟩
  simp only [Nat.zero_add,List.nil_append] at *
  have e1:(news++(Builtin.zeroCells z.cells (grownCap w m 0 e-m)).toList).toArray=news.toArray++Builtin.zeroCells z.cells (grownCap w m 0 e-m):=by
   apply Array.ext';simp
  rw [e1]
  exact hr
 | some a0 =>
  have holds:∀ j u,olds[j]?=some u→w.cell? (a0.add j)=some u:=by
   rcases hx0 with h|⟨a',h,h'⟩
   ·subst h
    have hol:olds=[]:=List.eq_nil_of_length_eq_zero (by simpa using ho)
    subst hol
    intro j u hu'
    simp at hu'
   ·obtain rfl:=Option.some.inj h
    exact h'
  have hr:=run_append_grow (P:=P) w t ty' e i z hu hi hz' a0 n n olds (by rw [ho,hsz]) holds a m cx news (by rw [hsz];exact hl) hnews (by omega) (by omega) (growslice_fits (by omega) hby)
  have hge:=grownCap_ge w (n+m) n e
  have hle:=grownCap_le_maxLen w (n+m) n e (by simp only [maxLen];omega)
  obtain ⟨f1,f2⟩:=fresh (grownCap w (n+m) n e) (by omega) (by simpa [maxLen] using hle)
  refine ⟨_,_,?_,f1,f2⟩
  have e1:(olds++news++(Builtin.zeroCells z.cells (grownCap w (n+m) n e-(n+m))).toList).toArray=olds.toArray++news.toArray++Builtin.zeroCells z.cells (grownCap w (n+m) n e-(n+m)):=by
   apply Array.ext';simp
  rw [e1]
  exact hr
theorem N6.cells {α:Type}{E:Enc α}{w:World}{A:Nat→Prop}{pa:Option Addr}{ca n:Nat}{l:List α}(hs:N6 E w A pa ca l) (hl:n=l.length):∃ vss,Fu E vss l w A∧(n=0∨∃ a,pa=some a∧∀ jj u,vss.flatten[jj]?=some u→w.cell? (a.add jj)=some u):=by
 rcases hs.2.2 with rfl|⟨b,o,rfl,_,hel⟩
 ·exact ⟨[],⟨rfl,fun i vs x hv=>by simp at hv⟩,.inl (by simpa using hl)⟩
 ·obtain ⟨vss,h1,h2⟩:=N6.all (A:=A) hel
  exact ⟨vss,h1,.inr ⟨_,rfl,fun jj u hu=>by rw [Addr.add_mid];exact h2 jj u hu⟩⟩
theorem AHZ {α:Type}{E:Enc α}{t e:TypeId}{x y:Operand}{n m c cap b:Nat}{cs:List Value}{pa px:Option Addr}{zs:List Value}{l l2:List α}(keep:List Bb) (j:Nat)
  (hi:∀ w A,(∀ g∈Γ,g.holds w A)→(ABt E pa n cap b cs l).holds w A) (hj:A8 Γ j=some (A2 E px m c l2)) (hx:ev σ x=some (.slice pa n cap)) (hy:ev σ y=some (.slice px m c))
  (hT:Ek P t=some (e,E.size)) (hz:C0 P e=some zs) (hzl:zs.length=E.size)
  (hmax:n+m≤9223372036854775807) (by':Nat) (hbe:P.bytesOf e=by') (hby:(n+m)*by'≤140737488355328) :
  JG P (.call { callee:=.builtin .append,args:=#[x,y],argTypes:=#[t,t] }) ty σ (some (Ug e b cs++keep)) Γ (fun g=>Ug e (g 0).2.1 (g 0).2.2.2++keep) (fun g=>.slice (g 0).1 (n+m) (g 0).2.2.1)
   (fun g=>[ABt E (g 0).1 (n+m) (g 0).2.2.1 (g 0).2.1 (g 0).2.2.2 (l++l2)]):=by
 intro w A hA hpb hd hG
 subst hbe
 have hrow:=hi w A hG
 obtain ⟨hml,hs2⟩:=hG _ (Al hj)
 obtain ⟨vs2,hall2,hcell2⟩:=hs2.cells hml
 have hlen2:vs2.flatten.length=m*E.size:=by rw [Gq (Hh hall2),hall2.1,hml]
 obtain ⟨hu,i,hi',hsz⟩:=Ct hT
 have hO:Own ⟨w,A,Vb (some (Ug e b cs++keep))⟩ w (Ug e b cs++keep):=⟨Keep.refl _ _,fun x hx b hb=>.inr ⟨x,hx,hb⟩,hpb,hd⟩
 by_cases hm:m=0
 ·subst hm
  have hl2:l2=[]:=List.eq_nil_of_length_eq_zero hml.symm
  have hncap:n≤cap:=by
   cases b with
   | zero=>rw [hrow.1];exact Nat.le_refl _
   | succ b=>exact hrow.2.2.1.le
  refine Pa hx hy (Rl hu hi' hncap) ⟨fun _=>(pa,b,cap,cs),rfl,Keep.refl _ _,hd,fun y hy bb hb=>⟨.inr ⟨y,hy,hb⟩,hpb y hy bb hb⟩,fun g hg=>?_⟩
  obtain rfl:=List.mem_singleton.1 hg
  rw [hl2]
  have e0:l++[]=l:=List.append_nil l
  rw [e0]
  exact (ABt E pa n cap b cs l).stable (fun k hk=>⟨⟨.inl hk,(hA k hk).1,fun y hy e=>(hA k hk).2 ⟨y,hy,e⟩⟩,rfl⟩) hrow
 ·have tail:∀ (vss:List (List Value)) (b' cap':Nat) (cs':List Value) (w':World),Fu E vss l w A→(Builtin.append_ #[t,t] ty #[.slice pa n cap,.slice px m c]).run P w = .ok (.slice (some ⟨b',0,none⟩) (n+m) cap') w'→Mb (some b') (n+m) cap' E.size cs' →
    cs'.take ((n+m)*E.size)=vss.flatten++vs2.flatten→n=l.length→Own ⟨w,A,Vb (some (Ug e b cs++keep))⟩ w' ((some b',e,cs')::keep)→Ex P (.call { callee:=.builtin .append,args:=#[x,y],argTypes:=#[t,t] }) ty σ w fun v w'=>∃ x:Gh,v = .slice (x 0).1 (n+m) (x 0).2.2.1∧Keep w (Vb (some (Ug e b cs++keep))) w'∧Bc (Ug e (x 0).2.1 (x 0).2.2.2++keep)∧(∀ y∈Ug e (x 0).2.1 (x 0).2.2.2++keep,∀ bb,y.1=some bb→(w.heap.size≤bb∨Vb (some (Ug e b cs++keep)) bb)∧w'.heap[bb]?=some (.cells y.2.2.toArray y.2.1 (0,0))) ∧
     ∀ g∈[ABt E (x 0).1 (n+m) (x 0).2.2.1 (x 0).2.1 (x 0).2.2.2 (l++l2)],g.holds w' (fun k=>(A k∨w.heap.size≤k)∧k<w'.heap.size∧∀ y∈Ug e (x 0).2.1 (x 0).2.2.2++keep,y.1≠some k):=by
   intro vss b' cap' cs' w' hall hr hg ht hnl h4
   refine Pa hx hy hr ⟨fun _=>(some ⟨b',0,none⟩,b'+1,cap',cs'),rfl,h4.ext,h4.apart,fun y hy bb hb=>⟨h4.new y hy bb hb,h4.blk y hy bb hb⟩,fun g hg'=>?_⟩
   obtain rfl:=List.mem_singleton.1 hg'
   refine ⟨rfl,by simp [hnl,hml],hg,vss++vs2,(N7 E (vss++vs2) (l++l2)).stable (fun k hk=>⟨⟨.inl hk,Nat.lt_of_lt_of_le (hA k hk).1 h4.ext.size,fun y hy e=>?_⟩,h4.ext.block k (hA k hk).1 (hA k hk).2⟩) (Wz hall hall2),?_⟩
   ·rcases h4.new y hy k e with h|h
    ·have:=(hA k hk).1
     have h:w.heap.size≤k:=h
     omega
    ·exact (hA k hk).2 h
   ·show cs'.take _=_
    rw [ht];simp
  cases b with
  | zero =>
   obtain ⟨rfl,hln,hs1⟩:=hrow
   obtain ⟨vss,hall,hcell⟩:=hs1.cells hln
   have hlen:vss.flatten.length=cap*E.size:=by rw [Gq (Hh hall),hall.1,hln]
   obtain ⟨cap',cs',hr,hg,ht⟩:=ACF (P:=P) (ty':=ty) (cx:=c) (w:=w) hT hz hzl hlen hcell hlen2 (hcell2.resolve_left hm) (by omega) hmax hby
   exact tail vss _ _ _ _ hall hr hg ht hln ((hO.drew).push e cs')
  | succ b =>
   obtain ⟨rfl,hln,hg,vss,hall,ht⟩:=hrow
   obtain ⟨bo',cap',cs',w',hr,h2,h3,h4,_⟩:=Qk (P:=P) (ty':=ty) (cx:=c) (px:=px) (Γ:=[]) hT hz hzl hO (fun f hf=>by cases hf) (k:=0) rfl hg hlen2 hcell2 (Zx hall2) hmax hby
   obtain ⟨b',rfl⟩:∃ b',bo'=some b':=by
    rcases h2 with ⟨_,h,_⟩|⟨b,h,_⟩
    ·omega
    ·exact ⟨b,h⟩
   exact tail vss _ _ _ _ hall hr h2 (by rw [h3,ht]) hln h4
theorem AIZ {it:List (TypeId×IntKind)}{L:List Oper}{pos:List Po}{pt:List (List Nat)}{κ:Fr}{fs:List (Nat×Fact)}{al:List Bb}{k:Nat}{x0:List Bb}{bl:Gh→List Bb}{val:Gh→Value}{f:Gh→List Fact}(ho:Vc F.fn.ntmps L κ i=some (d,op,ty)) (hJ:JG P op ty σ (some x0) (Ut (B4 pt i) fs++Γ) bl val f)
  (h:∀ x,Kt it F C p S L pt β Γ R k (i+1) pos (Ho d κ) (putF d (val x) σ) ((f x).map (fun g=>(i,g))++fs) (bl x++al) (some [])) (hc:J9 pt i (i+1) pos=true):Kt it F C p S L pt β Γ R k i (.si bl val f::pos) κ σ fs al (some x0):=by
 refine ⟨by have:=(h default).1;simp only [List.length_cons];omega,?_⟩
 unfold Vc at ho
 cases hn:A8 L i with
 | none=>rw [hn] at ho;simp at ho
 | some o =>
  rw [hn] at ho
  simp only at ho
  cases hout:Rk o.dst F.fn.ntmps with
  | false=>rw [hout] at ho;simp at ho
  | true =>
   rw [hout] at ho
   cases hg:gd L κ o with
   | none=>rw [hg] at ho;simp at ho
   | some g =>
    cases g with
    | false=>rw [hg] at ho;simp at ho
    | true =>
     rw [hg] at ho
     obtain ⟨rfl,rfl,rfl⟩:o.dst=d∧o.op=op∧o.type=ty:=by simpa using ho
     simp only [Lx,hn,hout,hg]
     exact ⟨⟨rfl,hc⟩,hJ,fun x=>(h x).2⟩
theorem AHC {α:Type}{E:Enc α}{t e:TypeId}{x y:Operand}{n m c cap b:Nat}{cs:List Value}{pa px:Option Addr}{zs:List Value}{l l2:List α}(j:Nat)
  (hi:∀ w A,(∀ g∈Γ,g.holds w A)→(ABt E pa n cap b cs l).holds w A) (hj:A8 Γ j=some (A2 E px m c l2)) (hx:ev σ x=some (.slice pa n cap)) (hy:ev σ y=some (.slice px m c))
  (hT:Ek P t=some (e,E.size)) (hz:C0 P e=some zs) (hzl:zs.length=E.size)
  (hmax:n+m≤9223372036854775807) (by':Nat) (hbe:P.bytesOf e=by') (hby:(n+m)*by'≤140737488355328) :
  JG P (.call { callee:=.builtin .append,args:=#[x,y],argTypes:=#[t,t] }) ty σ (some (Ug e b cs++[])) Γ (fun g=>Ug e (g 0).2.1 (g 0).2.2.2) (fun g=>.slice (g 0).1 (n+m) (g 0).2.2.1)
   (fun g=>[ABt E (g 0).1 (n+m) (g 0).2.2.1 (g 0).2.1 (g 0).2.2.2 (l++l2)]):=by
 have h:=AHZ (P:=P) (σ:=σ) (Γ:=Γ) (ty:=ty) [] j hi hj hx hy hT hz hzl hmax by' hbe hby
 simp only [List.append_nil] at h ⊢
 exact h
theorem AFx {α:Type}{E:Enc α}{it:List (TypeId×IntKind)}{L:List Oper}{pos:List Po}{pt:List (List Nat)}{κ:Fr}{fs:List (Nat×Fact)}{al:List Bb}{k:Nat}{t e:TypeId}{x y:Operand}{n m c:Nat}{pa px:Option Addr}{zs:List Value}{l l2:List α}(q j:Nat)
  (ho:Vc F.fn.ntmps L κ i=some (d,.call { callee:=.builtin .append,args:=#[x,y],argTypes:=#[t,t] },ty))
  (hi:A8 (Ut (B4 pt i) fs++Γ) q=some (A2 E pa n n l)) (hj:A8 (Ut (B4 pt i) fs++Γ) j=some (A2 E px m c l2)) (hx:ev σ x=some (.slice pa n n)) (hy:ev σ y=some (.slice px m c))
  (hT:Ek P t=some (e,E.size)) (hz:C0 P e=some zs) (hzl:zs.length=E.size)
  (hmax:n+m≤9223372036854775807) (by':Nat) (hbe:P.bytesOf e=by') (hby:(n+m)*by'≤140737488355328)
  (h:∀ pa cap b cs,Kt it F C p S L pt β Γ R k (i+1) pos (Ho d κ) (putF d (.slice pa (n+m) cap) σ) ((i,ABt E pa (n+m) cap b cs (l++l2))::fs) (Ug e b cs++al) (some [])) (hc:J9 pt i (i+1) pos=true) :
  Kt it F C p S L pt β Γ R k i (.si (fun g=>Ug e (g 0).2.1 (g 0).2.2.2) (fun g=>.slice (g 0).1 (n+m) (g 0).2.2.1) (fun g=>[ABt E (g 0).1 (n+m) (g 0).2.2.1 (g 0).2.1 (g 0).2.2.2 (l++l2)])::pos) κ σ fs al (some []) :=
 AIZ (x0:=[]) ho (AHC (b:=0) (cs:=[]) j (fun w A hG=>⟨rfl,hG _ (Al hi)⟩) hj hx hy hT hz hzl hmax by' hbe hby) (fun x=>h _ _ _ _) hc
theorem AG6 {α:Type}(E:Enc α) {it:List (TypeId×IntKind)}{L:List Oper}{pos:List Po}{pt:List (List Nat)}{κ:Fr}{fs:List (Nat×Fact)}{al:List Bb}{pb:Pb}{k:Nat}{t e:TypeId}{m:Nat}
  (ho:Vc F.fn.ntmps L κ i=some (d,.buildSlice t 0 #[],ty)) (hT:Ek P t=some (e,m))
  (h:∀ pa,Kt it F C p S L pt β Γ R k (i+1) pos (Ho d κ) (putF d (.slice pa 0 0) σ) ((i,A2 E pa 0 0 [])::fs) al pb) :
  Kt it F C p S L pt β Γ R k i (.fa (fun g=>.slice (g 0).1 0 0) (fun g=>[A2 E (g 0).1 0 0 []])::pos) κ σ fs al pb :=
 Sy ho (Bi fun _=>ADt hT fun b _ _ _ _=>⟨fun _=>(some ⟨b,0,none⟩,0,0,[]),rfl,fun g hg=>by
  obtain rfl:=List.mem_singleton.1 hg
  exact ⟨rfl,Nat.le_refl _,by simp,.inl rfl⟩⟩) fun x=>h _
theorem AGs {it:List (TypeId×IntKind)}{L:List Oper}{pt:List (List Nat)}{κ:Fr}{fs:List (Nat×Fact)}{al:List Bb}{x0:List Bb}{k:Nat}(hk:i=k) (h:J F C (.o p k::S) σ (al++(x0++β)) (fs.map (·.2)++Γ) R) (hS:Xx S=false:=by rfl):Kt it F C p S L pt β Γ R k i [] κ σ fs al (some x0) :=
 ⟨by simpa using hk,by subst hk;simp only [Lx,Z5 hS];exact h⟩
theorem AJz {α:Type}{E:Enc α}{e:TypeId}{n cap b:Nat}{cs:List Value}{pa:Option Addr}{l:List α}{β2:List Bb}(q j:Nat) (hβ:β.drop q=Ug e b cs++β2) (hj:A8 Γ j=some (ABt E pa n cap b cs l)) (hby:n*E.bytes≤140737488355328)
  (h:J F C S σ (β.take q++β2) (A2 E pa n cap l::Γ) R):J F C S σ β Γ R:=by
 have hβ':β=β.take q++(Ug e b cs++β2):=by rw [← hβ,List.take_append_drop]
 generalize β.take q=β1 at hβ' h
 subst hβ'
 cases b with
 | zero=>exact Jh _ (fun w A hG=>(hG _ (Al hj)).2) h
 | succ b =>
  intro w hO hG
  obtain ⟨rfl,hrow⟩:=hG _ (Al hj)
  have e1:(β1++((some b,e,cs)::β2)).eraseIdx β1.length=β1++β2:=by
   rw [List.eraseIdx_append_of_length_le (Nat.le_refl _),Nat.sub_self,List.eraseIdx_cons_zero]
  refine AHL (E:=E) (e:=e) (cs:=cs) (l:=l) β1.length 0 (by show A8 (β1++((some b,e,cs)::β2)) β1.length=some (some b,e,cs);rw [B8];simp) (Γ:=Aw E ⟨some b,cap,cs⟩ n l::Γ) rfl hby ?_ w hO fun f hf=>?_
  ·show J F C S σ ((β1++((some b,e,cs)::β2)).eraseIdx β1.length) _ R
   rw [e1]
   exact Ww (fun f hf=>by
    rcases List.mem_cons.1 hf with rfl|hf
    ·exact .head _
    ·exact .tail _ (.tail _ hf)) h
  ·rcases List.mem_cons.1 hf with rfl|hf
   ·exact hrow
   ·exact hG f hf
end
end Go.Fw
namespace Go.Proofs.YteadncphjconmaaGreat
open Go Go.Fw
set_option maxRecDepth 100000
theorem zo3:C0 Tryz.prog 3=some [Value.int IntKind.i64 0]:=rfl
theorem Bm:De Tryz.prog 3=some (Bool.false,1):=rfl
theorem ld4:De Tryz.prog 4=some (Bool.false,1):=rfl
theorem Bj:Ek Tryz.prog 22=some (3,1):=rfl
theorem Hb:C0 Tryz.prog 3=some [Value.int IntKind.i64 0]:=rfl
theorem Iy:Program.bytesOf Tryz.prog 3=8:=rfl
theorem Ez:De Tryz.prog 22=some (Bool.false,1):=rfl
theorem ALi:Kl Tryz.prog 24=some [(0,1),(1,1),(2,1)]:=rfl
theorem U9:Ht Tryz.prog 24 0=some 0:=rfl
theorem Xq:Ht Tryz.prog 24 1=some 1:=rfl
theorem AJl:Ht Tryz.prog 24 2=some 2:=rfl
theorem ALr:C0 Tryz.prog 24=some [Value.int IntKind.i64 0,Value.int IntKind.i64 0,Value.slice none 0 0]:=rfl
theorem AAm:De Tryz.prog 24=some (Bool.true,3):=rfl
theorem Fo:Ek Tryz.prog 25=some (22,1):=rfl
theorem ACP:C0 Tryz.prog 22=some [Value.slice none 0 0]:=rfl
theorem AEA:Program.bytesOf Tryz.prog 22=24:=rfl
theorem M5:De Tryz.prog 25=some (Bool.false,1):=rfl
theorem S9:Ht Tryz.prog 27 1=some 3:=rfl
theorem ADH:Ht Tryz.prog 27 2=some 4:=rfl
theorem AIj:De Tryz.prog 27=some (Bool.true,5):=rfl
theorem AKt:De Tryz.prog 29=some (Bool.true,1):=rfl
theorem AGA:Ht Tryz.prog 31 0=some 0:=rfl
theorem AF4:De Tryz.prog 31=some (Bool.true,9):=rfl
theorem ALc:De Tryz.prog 65=some (Bool.true,2):=rfl
theorem AJ9:Ek Tryz.prog 67=some (65,2):=rfl
theorem AKA:C0 Tryz.prog 65=some [Value.int IntKind.i64 0,Value.int IntKind.i64 0]:=rfl
theorem AKQ:Program.bytesOf Tryz.prog 65=16:=rfl
theorem AAC:De Tryz.prog 76=some (Bool.false,1):=rfl
theorem AKG:Kl Tryz.prog 88=some [(0,1),(1,1)]:=rfl
theorem AHc:Ht Tryz.prog 88 0=some 0:=rfl
theorem ADz:Ht Tryz.prog 88 1=some 1:=rfl
theorem AGg:C0 Tryz.prog 88=some [Value.int IntKind.i64 0,Value.slice none 0 0]:=rfl
theorem ABA:De Tryz.prog 88=some (Bool.true,2):=rfl
theorem AKK:Kl Tryz.prog 107=some [(0,3),(3,1),(4,1),(5,1)]:=rfl
theorem ABW:Ht Tryz.prog 107 0=some 0:=rfl
theorem AKn:C0 Tryz.prog 107=some [Value.int IntKind.i64 0,Value.int IntKind.i64 0,Value.slice none 0 0,Value.int IntKind.i64 0,Value.slice none 0 0,Value.slice none 0 0]:=rfl
theorem AKk:Kl Tryz.prog 118=some [(0,1),(1,2),(3,1)]:=rfl
theorem AIT:C0 Tryz.prog 118=some [Value.pointer none,Value.int IntKind.i64 0,Value.slice none 0 0,Value.slice none 0 0]:=rfl
theorem AEh:De Tryz.prog 118=some (Bool.true,4):=rfl
theorem ADb:De Tryz.prog 130=some (Bool.true,9):=rfl
theorem Ys:Ht Tryz.prog 157 1=some 1:=rfl
theorem Ns:Ht Tryz.prog 157 6=some 10:=rfl
theorem Nr:Ht Tryz.prog 157 7=some 11:=rfl
theorem AAL:De Tryz.prog 161=some (Bool.false,1):=rfl
theorem AKO:Ek Tryz.prog 170=some (4,1):=rfl
theorem AJV:C0 Tryz.prog 4=some [Value.bool false]:=rfl
theorem AI0:Program.bytesOf Tryz.prog 4=1:=rfl
theorem AKN:Ek Tryz.prog 181=some (88,2):=rfl
theorem AJq:C0 Tryz.prog 88=some [Value.int IntKind.i64 0,Value.slice none 0 0]:=rfl
theorem ABG:Ht Tryz.prog 195 0=some 0:=rfl
theorem AIh:Ht Tryz.prog 195 1=some 1:=rfl
abbrev itl:List (TypeId×IntKind):=[(2,.i64),(3,.i64),(5,.u8),(6,.u8),(12,.u64),(21,.i32),(33,.i64),(95,.u64),(132,.i64),(141,.u32),(143,.u64),(161,.u64),(211,.u8),(212,.u8),(215,.i32),(216,.i32)]
theorem it:Bw Tryz.prog itl:=Bw.cons (t:=2) (k:=.i64) rfl (Bw.cons (t:=3) (k:=.i64) rfl (Bw.cons (t:=5) (k:=.u8) rfl (Bw.cons (t:=6) (k:=.u8) rfl (Bw.cons (t:=12) (k:=.u64) rfl (Bw.cons (t:=21) (k:=.i32) rfl (Bw.cons (t:=33) (k:=.i64) rfl (Bw.cons (t:=95) (k:=.u64) rfl (Bw.cons (t:=132) (k:=.i64) rfl (Bw.cons (t:=141) (k:=.u32) rfl (Bw.cons (t:=143) (k:=.u64) rfl (Bw.cons (t:=161) (k:=.u64) rfl (Bw.cons (t:=211) (k:=.u8) rfl (Bw.cons (t:=212) (k:=.u8) rfl (Bw.cons (t:=215) (k:=.i32) rfl (Bw.cons (t:=216) (k:=.i32) rfl (Bw.nil _))))))))))))))))
theorem mx:Tryz.prog.follows .mixedOrders=true:=rfl
noncomputable def Ij:Fun Tryz.prog:=⟨5,Tryz.f5,_,Tryz.func5,rfl,rfl,none,[]⟩
noncomputable def Pt:Fun Tryz.prog:=⟨9,Tryz.f9,_,Tryz.func9,rfl,rfl,none,[]⟩
noncomputable def Uh:Fun Tryz.prog:=⟨10,Tryz.f10,_,Tryz.func10,rfl,rfl,none,[]⟩
noncomputable def J8:Fun Tryz.prog:=⟨11,Tryz.f11,_,Tryz.func11,rfl,rfl,none,[]⟩
noncomputable def R7:Fun Tryz.prog:=⟨12,Tryz.f12,_,Tryz.func12,rfl,rfl,none,[]⟩
noncomputable def Vp:Fun Tryz.prog:=⟨15,Tryz.f15,_,Tryz.func15,rfl,rfl,none,[]⟩
noncomputable def K2:Fun Tryz.prog:=⟨16,Tryz.f16,_,Tryz.func16,rfl,rfl,none,[]⟩
noncomputable def ABS:Fun Tryz.prog:=⟨26,Tryz.f26,_,Tryz.func26,rfl,rfl,none,[]⟩
noncomputable def M7:Fun Tryz.prog:=⟨27,Tryz.f27,_,Tryz.func27,rfl,rfl,none,[]⟩
noncomputable def Ye:Fun Tryz.prog:=⟨28,Tryz.f28,_,Tryz.func28,rfl,rfl,none,[]⟩
noncomputable def O1:Fun Tryz.prog:=⟨29,Tryz.f29,_,Tryz.func29,rfl,rfl,none,[]⟩
noncomputable def Pe:Fun Tryz.prog:=⟨30,Tryz.f30,_,Tryz.func30,rfl,rfl,none,[]⟩
noncomputable def I6:Fun Tryz.prog:=⟨31,Tryz.f31,_,Tryz.func31,rfl,rfl,none,[]⟩
noncomputable def Re:Fun Tryz.prog:=⟨32,Tryz.f32,_,Tryz.func32,rfl,rfl,none,[]⟩
noncomputable def Pv:Fun Tryz.prog:=⟨33,Tryz.f33,_,Tryz.func33,rfl,rfl,none,[]⟩
noncomputable def ADP:Fun Tryz.prog:=⟨34,Tryz.f34,_,Tryz.func34,rfl,rfl,none,[]⟩
noncomputable def ABQ:Fun Tryz.prog:=⟨35,Tryz.f35,_,Tryz.func35,rfl,rfl,none,[]⟩
noncomputable def Sz:Fun Tryz.prog:=⟨36,Tryz.f36,_,Tryz.func36,rfl,rfl,none,[]⟩
noncomputable def Nz:Fun Tryz.prog:=⟨37,Tryz.f37,_,Tryz.func37,rfl,rfl,none,[]⟩
noncomputable def Lh:Fun Tryz.prog:=⟨38,Tryz.f38,_,Tryz.func38,rfl,rfl,none,[]⟩
noncomputable def O9:Fun Tryz.prog:=⟨39,Tryz.f39,_,Tryz.func39,rfl,rfl,none,[]⟩
noncomputable def Mz:Fun Tryz.prog:=⟨41,Tryz.f41,_,Tryz.func41,rfl,rfl,none,[]⟩
noncomputable def ACn:Fun Tryz.prog:=⟨45,Tryz.f45,_,Tryz.func45,rfl,rfl,none,[]⟩
noncomputable def Zw:Fun Tryz.prog:=⟨48,Tryz.f48,_,Tryz.func48,rfl,rfl,none,[]⟩
noncomputable def Sa:Fun Tryz.prog:=⟨54,Tryz.f54,_,Tryz.func54,rfl,rfl,none,[]⟩
noncomputable def Um:Fun Tryz.prog:=⟨55,Tryz.f55,_,Tryz.func55,rfl,rfl,none,[]⟩
noncomputable def AAu:Fun Tryz.prog:=⟨56,Tryz.f56,_,Tryz.func56,rfl,rfl,none,[]⟩
noncomputable def AAA:Fun Tryz.prog:=⟨57,Tryz.f57,_,Tryz.func57,rfl,rfl,none,[]⟩
noncomputable def ADB:Fun Tryz.prog:=⟨58,Tryz.f58,_,Tryz.func58,rfl,rfl,none,[]⟩
noncomputable def Rx:Fun Tryz.prog:=⟨59,Tryz.f59,_,Tryz.func59,rfl,rfl,none,[]⟩
noncomputable def Uy:Fun Tryz.prog:=⟨60,Tryz.f60,_,Tryz.func60,rfl,rfl,none,[]⟩
noncomputable def AAI:Fun Tryz.prog:=⟨61,Tryz.f61,_,Tryz.func61,rfl,rfl,none,[]⟩
noncomputable def Pk:Fun Tryz.prog:=⟨62,Tryz.f62,_,Tryz.func62,rfl,rfl,none,[]⟩
noncomputable def P0:Fun Tryz.prog:=⟨63,Tryz.f63,_,Tryz.func63,rfl,rfl,none,[]⟩
noncomputable def Le:Fun Tryz.prog:=⟨64,Tryz.f64,_,Tryz.func64,rfl,rfl,none,[]⟩
noncomputable def Md:Fun Tryz.prog:=⟨65,Tryz.f65,_,Tryz.func65,rfl,rfl,none,[]⟩
noncomputable def Ou:Fun Tryz.prog:=⟨66,Tryz.f66,_,Tryz.func66,rfl,rfl,none,[]⟩
noncomputable def Ql:Fun Tryz.prog:=⟨67,Tryz.f67,_,Tryz.func67,rfl,rfl,none,[]⟩
noncomputable def Ce:Fun Tryz.prog:=⟨68,Tryz.f68,_,Tryz.func68,rfl,rfl,none,[]⟩
noncomputable def ADO:Fun Tryz.prog:=⟨69,Tryz.f69,_,Tryz.func69,rfl,rfl,none,[]⟩
noncomputable def Qp:Fun Tryz.prog:=⟨70,Tryz.f70,_,Tryz.func70,rfl,rfl,none,[]⟩
noncomputable def Ta:Fun Tryz.prog:=⟨74,Tryz.f74,_,Tryz.func74,rfl,rfl,none,[]⟩
noncomputable def P4:Fun Tryz.prog:=⟨75,Tryz.f75,_,Tryz.func75,rfl,rfl,none,[]⟩
noncomputable def AAx:Fun Tryz.prog:=⟨77,Tryz.f77,_,Tryz.func77,rfl,rfl,none,[]⟩
noncomputable def AAq:Fun Tryz.prog:=⟨78,Tryz.f78,_,Tryz.func78,rfl,rfl,none,[]⟩
noncomputable def Nq:Fun Tryz.prog:=⟨79,Tryz.f79,_,Tryz.func79,rfl,rfl,none,[]⟩
noncomputable def Ki:Fun Tryz.prog:=⟨80,Tryz.f80,_,Tryz.func80,rfl,rfl,none,[]⟩
noncomputable def Kr:Fun Tryz.prog:=⟨81,Tryz.f81,_,Tryz.func81,rfl,rfl,none,[]⟩
noncomputable def Q5:Fun Tryz.prog:=⟨85,Tryz.f85,_,Tryz.func85,rfl,rfl,none,[]⟩
noncomputable def Nv:Fun Tryz.prog:=⟨88,Tryz.f88,_,Tryz.func88,rfl,rfl,none,[]⟩
noncomputable def Ph:Fun Tryz.prog:=⟨89,Tryz.f89,_,Tryz.func89,rfl,rfl,none,[]⟩
noncomputable def Qg:Fun Tryz.prog:=⟨90,Tryz.f90,_,Tryz.func90,rfl,rfl,none,[]⟩
noncomputable def Jo:Fun Tryz.prog:=⟨91,Tryz.f91,_,Tryz.func91,rfl,rfl,none,[]⟩
noncomputable def M0:Fun Tryz.prog:=⟨92,Tryz.f92,_,Tryz.func92,rfl,rfl,none,[]⟩
noncomputable def O7:Fun Tryz.prog:=⟨93,Tryz.f93,_,Tryz.func93,rfl,rfl,none,[]⟩
noncomputable def P8:Fun Tryz.prog:=⟨94,Tryz.f94,_,Tryz.func94,rfl,rfl,none,[]⟩
noncomputable def Km:Fun Tryz.prog:=⟨95,Tryz.f95,_,Tryz.func95,rfl,rfl,none,[]⟩
noncomputable def Pw:Fun Tryz.prog:=⟨96,Tryz.f96,_,Tryz.func96,rfl,rfl,none,[]⟩
noncomputable def Pj:Fun Tryz.prog:=⟨97,Tryz.f97,_,Tryz.func97,rfl,rfl,none,[]⟩
noncomputable def Mu:Fun Tryz.prog:=⟨98,Tryz.f98,_,Tryz.func98,rfl,rfl,none,[]⟩
noncomputable def Qb:Fun Tryz.prog:=⟨99,Tryz.f99,_,Tryz.func99,rfl,rfl,none,[]⟩
noncomputable def I4:Fun Tryz.prog:=⟨100,Tryz.f100,_,Tryz.func100,rfl,rfl,none,[]⟩
noncomputable def H0:Fun Tryz.prog:=⟨101,Tryz.f101,_,Tryz.func101,rfl,rfl,none,[]⟩
noncomputable def J2:Fun Tryz.prog:=⟨102,Tryz.f102,_,Tryz.func102,rfl,rfl,none,[]⟩
noncomputable def C9:Fun Tryz.prog:=⟨103,Tryz.f103,_,Tryz.func103,rfl,rfl,none,[]⟩
noncomputable def Ir:Fun Tryz.prog:=⟨104,Tryz.f104,_,Tryz.func104,rfl,rfl,none,[]⟩
noncomputable def Ie:Fun Tryz.prog:=⟨105,Tryz.f105,_,Tryz.func105,rfl,rfl,none,[]⟩
noncomputable def Dk:Fun Tryz.prog:=⟨106,Tryz.f106,_,Tryz.func106,rfl,rfl,none,[]⟩
noncomputable def X9:Fun Tryz.prog:=⟨107,Tryz.f107,_,Tryz.func107,rfl,rfl,none,[]⟩
noncomputable def Ei:Fun Tryz.prog:=⟨108,Tryz.f108,_,Tryz.func108,rfl,rfl,none,[]⟩
noncomputable def Dp:Fun Tryz.prog:=⟨109,Tryz.f109,_,Tryz.func109,rfl,rfl,none,[]⟩
noncomputable def ABK:Fun Tryz.prog:=⟨111,Tryz.f111,_,Tryz.func111,rfl,rfl,none,[]⟩
noncomputable def R5:Fun Tryz.prog:=⟨115,Tryz.f115,_,Tryz.func115,rfl,rfl,none,[]⟩
noncomputable def X8:Fun Tryz.prog:=⟨116,Tryz.f116,_,Tryz.func116,rfl,rfl,none,[]⟩
noncomputable def Yw:Fun Tryz.prog:=⟨117,Tryz.f117,_,Tryz.func117,rfl,rfl,none,[]⟩
noncomputable def W6:Fun Tryz.prog:=⟨118,Tryz.f118,_,Tryz.func118,rfl,rfl,none,[]⟩
noncomputable def Nc:Fun Tryz.prog:=⟨119,Tryz.f119,_,Tryz.func119,rfl,rfl,none,[]⟩
noncomputable def Hg:Fun Tryz.prog:=⟨123,Tryz.f123,_,Tryz.func123,rfl,rfl,none,[]⟩
noncomputable def Sr:Fun Tryz.prog:=⟨124,Tryz.f124,_,Tryz.func124,rfl,rfl,none,[]⟩
noncomputable def L8:Fun Tryz.prog:=⟨125,Tryz.f125,_,Tryz.func125,rfl,rfl,none,[]⟩
noncomputable def E5:Fun Tryz.prog:=⟨126,Tryz.f126,_,Tryz.func126,rfl,rfl,none,[]⟩
noncomputable def M4:Fun Tryz.prog:=⟨127,Tryz.f127,_,Tryz.func127,rfl,rfl,none,[]⟩
noncomputable def Pm:Fun Tryz.prog:=⟨128,Tryz.f128,_,Tryz.func128,rfl,rfl,none,[]⟩
noncomputable def Hc:Fun Tryz.prog:=⟨129,Tryz.f129,_,Tryz.func129,rfl,rfl,none,[]⟩
noncomputable def Nd:Fun Tryz.prog:=⟨130,Tryz.f130,_,Tryz.func130,rfl,rfl,none,[]⟩
noncomputable def Gg:Fun Tryz.prog:=⟨131,Tryz.f131,_,Tryz.func131,rfl,rfl,none,[]⟩
noncomputable def Mg:Fun Tryz.prog:=⟨132,Tryz.f132,_,Tryz.func132,rfl,rfl,none,[]⟩
noncomputable def Ja:Fun Tryz.prog:=⟨133,Tryz.f133,_,Tryz.func133,rfl,rfl,none,[]⟩
noncomputable def Fy:Fun Tryz.prog:=⟨134,Tryz.f134,_,Tryz.func134,rfl,rfl,none,[]⟩
noncomputable def P2:Fun Tryz.prog:=⟨135,Tryz.f135,_,Tryz.func135,rfl,rfl,none,[]⟩
noncomputable def Hm:Fun Tryz.prog:=⟨137,Tryz.f137,_,Tryz.func137,rfl,rfl,none,[]⟩
noncomputable def Ll:Fun Tryz.prog:=⟨138,Tryz.f138,_,Tryz.func138,rfl,rfl,none,[]⟩
noncomputable def Xc:Fun Tryz.prog:=⟨139,Tryz.f139,_,Tryz.func139,rfl,rfl,none,[]⟩
noncomputable def Us:Fun Tryz.prog:=⟨141,Tryz.f141,_,Tryz.func141,rfl,rfl,none,[]⟩
noncomputable def Wu:Fun Tryz.prog:=⟨142,Tryz.f142,_,Tryz.func142,rfl,rfl,none,[]⟩
noncomputable def W3:Fun Tryz.prog:=⟨144,Tryz.f144,_,Tryz.func144,rfl,rfl,none,[]⟩
noncomputable def X0:Fun Tryz.prog:=⟨145,Tryz.f145,_,Tryz.func145,rfl,rfl,none,[]⟩
noncomputable def AAe:Fun Tryz.prog:=⟨146,Tryz.f146,_,Tryz.func146,rfl,rfl,none,[]⟩
noncomputable def Hz:Fun Tryz.prog:=⟨147,Tryz.f147,_,Tryz.func147,rfl,rfl,none,[]⟩
noncomputable def Y1:Fun Tryz.prog:=⟨149,Tryz.f149,_,Tryz.func149,rfl,rfl,none,[]⟩
noncomputable def N3:Fun Tryz.prog:=⟨150,Tryz.f150,_,Tryz.func150,rfl,rfl,none,[]⟩
noncomputable def Gm:Fun Tryz.prog:=⟨151,Tryz.f151,_,Tryz.func151,rfl,rfl,none,[]⟩
noncomputable def Qv:Fun Tryz.prog:=⟨152,Tryz.f152,_,Tryz.func152,rfl,rfl,none,[]⟩
noncomputable def O6:Fun Tryz.prog:=⟨153,Tryz.f153,_,Tryz.func153,rfl,rfl,none,[]⟩
noncomputable def Sb:Fun Tryz.prog:=⟨154,Tryz.f154,_,Tryz.func154,rfl,rfl,none,[]⟩
noncomputable def Ru:Fun Tryz.prog:=⟨155,Tryz.f155,_,Tryz.func155,rfl,rfl,none,[]⟩
noncomputable def Jk:Fun Tryz.prog:=⟨156,Tryz.f156,_,Tryz.func156,rfl,rfl,none,[]⟩
noncomputable def J6:Fun Tryz.prog:=⟨157,Tryz.f157,_,Tryz.func157,rfl,rfl,none,[]⟩
noncomputable def Qw:Fun Tryz.prog:=⟨158,Tryz.f158,_,Tryz.func158,rfl,rfl,none,[]⟩
noncomputable def K5:Fun Tryz.prog:=⟨159,Tryz.f159,_,Tryz.func159,rfl,rfl,none,[]⟩
noncomputable def Zz:Fun Tryz.prog:=⟨160,Tryz.f160,_,Tryz.func160,rfl,rfl,none,[]⟩
noncomputable def ABv:Fun Tryz.prog:=⟨161,Tryz.f161,_,Tryz.func161,rfl,rfl,none,[]⟩
noncomputable def G4:Fun Tryz.prog:=⟨162,Tryz.f162,_,Tryz.func162,rfl,rfl,none,[]⟩
noncomputable def Gu:Fun Tryz.prog:=⟨163,Tryz.f163,_,Tryz.func163,rfl,rfl,none,[]⟩
noncomputable def S0:Fun Tryz.prog:=⟨164,Tryz.f164,_,Tryz.func164,rfl,rfl,none,[]⟩
noncomputable def Yd:Fun Tryz.prog:=⟨165,Tryz.f165,_,Tryz.func165,rfl,rfl,none,[]⟩
noncomputable def X4:Fun Tryz.prog:=⟨166,Tryz.f166,_,Tryz.func166,rfl,rfl,none,[]⟩
noncomputable def Xz:Fun Tryz.prog:=⟨167,Tryz.f167,_,Tryz.func167,rfl,rfl,none,[]⟩
noncomputable def Tc:Fun Tryz.prog:=⟨168,Tryz.f168,_,Tryz.func168,rfl,rfl,none,[]⟩
noncomputable def Nm:Fun Tryz.prog:=⟨169,Tryz.f169,_,Tryz.func169,rfl,rfl,none,[]⟩
noncomputable def Sm:Fun Tryz.prog:=⟨170,Tryz.f170,_,Tryz.func170,rfl,rfl,none,[]⟩
noncomputable def M6:Fun Tryz.prog:=⟨171,Tryz.f171,_,Tryz.func171,rfl,rfl,none,[]⟩
noncomputable def Og:Fun Tryz.prog:=⟨174,Tryz.f174,_,Tryz.func174,rfl,rfl,none,[]⟩
noncomputable def Sw:Fun Tryz.prog:=⟨175,Tryz.f175,_,Tryz.func175,rfl,rfl,none,[]⟩
noncomputable def S1:Fun Tryz.prog:=⟨176,Tryz.f176,_,Tryz.func176,rfl,rfl,none,[]⟩
noncomputable def Yb:Fun Tryz.prog:=⟨180,Tryz.f180,_,Tryz.func180,rfl,rfl,none,[]⟩
noncomputable def Z0:Fun Tryz.prog:=⟨181,Tryz.f181,_,Tryz.func181,rfl,rfl,none,[]⟩
noncomputable def Qf:Fun Tryz.prog:=⟨182,Tryz.f182,_,Tryz.func182,rfl,rfl,none,[]⟩
noncomputable def My:Fun Tryz.prog:=⟨183,Tryz.f183,_,Tryz.func183,rfl,rfl,none,[]⟩
noncomputable def P9:Fun Tryz.prog:=⟨187,Tryz.f187,_,Tryz.func187,rfl,rfl,none,[]⟩
noncomputable def X6:Fun Tryz.prog:=⟨188,Tryz.f188,_,Tryz.func188,rfl,rfl,none,[]⟩
noncomputable def N5:Fun Tryz.prog:=⟨189,Tryz.f189,_,Tryz.func189,rfl,rfl,none,[]⟩
end Go.Proofs.YteadncphjconmaaGreat
namespace Go.Fw
set_option linter.unusedVariables false
variable {P:Program}{C:Cx}{σ:Fr}{ty:TypeId}{β:List Bb}{Γ:List Fact}
theorem Ts (σ:Fr):∀ l:List Value,evs σ (l.map Operand.const)=some l
 | []=>rfl
 | v::l=>by
  have h:=Ts σ l
  simp [evs,ev,h]
theorem ABj {K:Value→List Bb→List Fact→Prop}{f:FuncId}{x:Operand}{xs:List Operand}{ts:Array TypeId}{args caps:List Value}(hv:ev σ x=some (.func (.func f) #[] caps.toArray)) (hx:evs σ xs=some args)
  (h:Ej P C (.call { callee:=.value (.func f),args:=((args++caps).map Operand.const).toArray,argTypes:=ts }) ty σ β Γ K):Ej P C (.call { callee:=.value x,args:=xs.toArray,argTypes:=ts }) ty σ β Γ K:=by
 intro w hO hG ρ hρ
 have h1:=h w hO hG ρ hρ
 have hc:ρ (.func f) = .func (.func f) #[] #[]:=hρ _ _ rfl
 have hv':ρ x = .func (.func f) #[] caps.toArray:=hρ _ _ hv
 have ha:xs.toArray.map ρ=args.toArray:=by rw [List.map_toArray,St hρ hx]
 have hb:((args++caps).map Operand.const).toArray.map ρ=(args++caps).toArray:=by rw [List.map_toArray,St hρ (Ts σ _)]
 simp only [execOp,Cp,resolve,hb,hc,Deferred.ofValue,Sem.run_bind,Sem.run_pure,Result.andThen_ok,invoke,Array.append_empty,Array.empty_append] at h1
 simp only [execOp,Cp,resolve,ha,hv',Deferred.ofValue,Sem.run_bind,Sem.run_pure,Result.andThen_ok,invoke,Array.append_empty,Array.empty_append]
 rw [List.append_toArray]
 exact h1
theorem AJE {K:Value→List Bb→List Fact→Prop}{f:FuncId}{cs:List Operand}{caps:List Value}(hx:evs σ cs=some caps) (h:K (.func (.func f) #[] caps.toArray) β Γ):Ej P C (.makeFunc (.func f) #[] cs.toArray) ty σ β Γ K :=
 Dg (fun w ρ hρ=>by
  have ha:cs.toArray.map ρ=caps.toArray:=by rw [List.map_toArray,St hρ hx]
  simp [execOp,Cp,ha,Instr.makeFunc]) h
open Go.RowKit (Below)
def AB8 (b:Nat) (cs:List Value):Fact where
 holds:=fun w A=>A b∧Fg w b 0 cs.length cs
 stable:=fun h ⟨hb,h1⟩=>⟨(h _ hb).1,h1.same (h _ hb).2⟩
section
variable {P:Program}{F:Fun P}{C:Cx}{S:List It}{σ:Fr}{ty:TypeId}{β:List Bb}{Γ:List Fact}{R:Value→World→Prop}
theorem AJh {e:TypeId}{b:Nat}{cs:List Value}(k:Nat) (hn:A8 β k=some (some b,e,cs)) (h:J F C S σ (β.eraseIdx k) (AB8 b cs::Γ) R):J F C S σ β Γ R:=fun w hO hG=>by
 have hsub:(β.eraseIdx k).Sublist β:=List.eraseIdx_sublist _ _
 refine h w (hO.sub hsub) fun f hf=>?_
 rcases List.mem_cons.1 hf with rfl|hf
 ·refine ⟨?_,cs.toArray,e,(0,0),hO.blk _ (B1 hn) b rfl,by simp,rfl⟩
  have hlt:=hO.lt (B1 hn) rfl
  have hnew:=hO.new _ (B1 hn) b rfl
  refine ⟨?_,hlt,fun x hx e=>Jl hO.apart hn x hx e⟩
  rcases hnew with h1|h1
  ·exact .inr (.inr h1)
  ·exact .inr (.inl h1)
 ·exact Tr hsub hG f hf
theorem ACe {w:World}{A:Nat→Prop}{b o:Nat}{cs:List Value}{v:Value}(h:(AB8 b cs).holds w A) (hv:cs[o]?=some v):w.cell? ⟨b,o,none⟩=some v:=by
 have:=h.2.rangeAt o v hv
 rwa [Nat.zero_add] at this
theorem ABd {w:World}{A:Nat→Prop}{b o m:Nat}{cs vs:List Value}(h:(AB8 b cs).holds w A) (hv:(cs.drop o).take m=vs):w.rangeAt b o vs:=by
 intro j v hj
 refine ACe h ?_
 rw [← hv,List.getElem?_take] at hj
 split at hj
 ·rwa [List.getElem?_drop] at hj
 ·cases hj
theorem AKF {K:Value→List Bb→List Fact→Prop}{t:TypeId}{x:Operand}{b o:Nat}{cs:List Value}{v:Value}(n:Nat) (hx:ev σ x=some (.pointer (some ⟨b,o,none⟩))) (hn:A8 Γ n=some (AB8 b cs))
  (hT:De P t=some (false,1)) (hv:cs[o]?=some v) (h:K v β Γ):Ej P C (.load t x) ty σ β Γ K:=fun w hO hG =>
 Io.done (Fq hT hx (ACe (hG _ (Al hn)) hv)) h hO hG
theorem AJC {K:Value→List Bb→List Fact→Prop}{t:TypeId}{x:Operand}{b o m:Nat}{cs vs:List Value}(n:Nat) (hx:ev σ x=some (.pointer (some ⟨b,o,none⟩))) (hn:A8 Γ n=some (AB8 b cs))
  (hT:De P t=some (true,m)) (hv:(cs.drop o).take m=vs) (hl:vs.length=m) (h:K (.agg vs.toArray) β Γ):Ej P C (.load t x) ty σ β Γ K:=fun w hO hG =>
 Io.done (Ge hT hl hx (ABd (hG _ (Al hn)) hv)) h hO hG
theorem AEt {t:TypeId}{x:Operand}{b o:Nat}{cs:List Value}{v:Value}(n:Nat) (hx:ev σ x=some (.pointer (some ⟨b,o,none⟩))) (hn:A8 Γ n=some (AB8 b cs))
  (hT:De P t=some (false,1)) (hv:cs[o]?=some v):JD P (.load t x) ty σ β Γ (fun _=>v) (fun _=>[]):=fun _ w hO hG =>
 (Fq hT hx (ACe (hG _ (Al hn)) hv)).ex.mono fun u w' ⟨h1,h2⟩=>by subst h1;subst h2;exact ⟨Below.refl _ _,fun _=>default,rfl,fun g hg=>by cases hg⟩
theorem AI2 {t:TypeId}{x:Operand}{b o m:Nat}{cs vs:List Value}(n:Nat) (hx:ev σ x=some (.pointer (some ⟨b,o,none⟩))) (hn:A8 Γ n=some (AB8 b cs))
  (hT:De P t=some (true,m)) (hv:(cs.drop o).take m=vs) (hl:vs.length=m):JD P (.load t x) ty σ β Γ (fun _=>.agg vs.toArray) (fun _=>[]):=fun _ w hO hG =>
 (Ge hT hl hx (ABd (hG _ (Al hn)) hv)).ex.mono fun u w' ⟨h1,h2⟩=>by subst h1;subst h2;exact ⟨Below.refl _ _,fun _=>default,rfl,fun g hg=>by cases hg⟩
end
section
variable {P:Program}{σ:Fr}{ty:TypeId}{β:List Bb}{Γ:List Fact}
theorem AFi {t:TypeId}{x:Operand}{b o:Nat}{z:Int}{T:TypeId}{kd:IntKind}{l:List Int}(n:Nat) (hx:ev σ x=some (.pointer (some ⟨b,o,none⟩))) (hn:A8 β n=some (some b,T,Az kd l))
  (hT:De P t=some (false,1)) (ho:l[o]?=some z):JD P (.load t x) ty σ β Γ (fun _=>.int kd z) (fun _=>[]) :=
 Bn n hx hn hT (by simp [Az,ho])
end
theorem AFV (k:IntKind) (n:Nat):(List.replicate n [Value.int k 0]).flatten=Az k (List.replicate n 0):=by
 induction n with
 | zero=>rfl
 | succ n ih=>rw [List.replicate_succ,List.flatten_cons,ih,List.replicate_succ];rfl
section
variable {P:Program}{F:Fun P}{C:Cx}{S:List It}{σ:Fr}{ty:TypeId}{β:List Bb}{Γ:List Fact}{R:Value→World→Prop}
theorem AE8 {K:Value→List Bb→List Fact→Prop}{x y:Operand}{t u:TypeId}{m n:Int}(a b:Nat) (hx:ev σ x=some (.int .i64 m)) (hy:ev σ y=some (.int .i64 n)) (hm:m=a) (hn:n=b) (ha:a<256) (hb:b<256)
  (h:K (.int .i64 ((a ^^^ b:Nat):Int)) β Γ):Ej P C (.binOp .xor t x y u) ty σ β Γ K :=
 Dg (fun w ρ hρ=>by
  subst hm;subst hn
  have h1:a ^^^ b<256:=Nat.xor_lt_two_pow (n:=8) ha hb
  have h2:IntKind.wrap .i64 ((a ^^^ b:Nat):Int)=((a ^^^ b:Nat):Int):=Lc (by simp only [Bf];omega)
  simp only [execOp,Cp,hρ _ _ hx,hρ _ _ hy,eqGuard,Go.binOp,Op.intBits]
  have e:(BitVec.ofNat 64 a ^^^ BitVec.ofNat 64 b).toNat=a ^^^ b:=by rw [BitVec.toNat_xor,BitVec.toNat_ofNat,BitVec.toNat_ofNat,Nat.mod_eq_of_lt (by omega),Nat.mod_eq_of_lt (by omega)]
  simp [IntKind.bits]
  exact (congrArg (fun z:Nat=>IntKind.wrap .i64 (z:Int)) e).trans h2) h
theorem Vu {K:Value→List Bb→List Fact→Prop}{t e u:TypeId}{m:Nat}{x y:Operand}{a:Addr}{n c:Nat}(hT:Ek P t=some (e,m)) (hx:ev σ x=some (.slice (some a) n c)) (hy:ev σ y=some (.slice none 0 0)) (h:K (.bool false) β Γ):Ej P C (.binOp .eql t x y u) ty σ β Γ K :=
 Dg (fun w ρ hρ=>by
  have:=run_eql_slice_nil (P:=P) w t e (some a) n c (Ct hT).1
  simp [execOp,Cp,hρ _ _ hx,hρ _ _ hy,eqGuard,this]) h
theorem Za {K:Value→List Bb→List Fact→Prop}{t e u:TypeId}{m:Nat}{x y:Operand}{n c:Nat}(hT:Ek P t=some (e,m)) (hx:ev σ x=some (.slice none n c)) (hy:ev σ y=some (.slice none 0 0)) (h:K (.bool true) β Γ):Ej P C (.binOp .eql t x y u) ty σ β Γ K :=
 Dg (fun w ρ hρ=>by
  have:=run_eql_slice_nil (P:=P) w t e none n c (Ct hT).1
  simp [execOp,Cp,hρ _ _ hx,hρ _ _ hy,eqGuard,this]) h
theorem AGy {α:Type}{E:Enc α}{pa:Option Addr}{n ca:Nat}{l:List α}(j:Nat) (hj:A8 Γ j=some (A2 E pa n ca l)) (hn:0<n) (h:∀ b o,pa=some ⟨b,o,none⟩→J F C S σ β Γ R):J F C S σ β Γ R:=fun w hO hG=>by
 obtain ⟨hl,_,_,hs⟩:=hG _ (Al hj)
 rcases hs with rfl|⟨b,o,e,_⟩
 ·simp at hl;omega
 ·exact h b o e w hO hG
end
def cpL {α:Type}(cs:List α) (o1 o2 n:Nat):List α:=cs.take o1++(cs.drop o2).take n++cs.drop (o1+n)
theorem AGb {α:Type}(cs:List α) (o1 o2:Nat):cpL cs o1 o2 0=cs:=by simp [cpL]
theorem AEI {α:Type}{cs:List α}{o1 o2 n:Nat}(h1:o1+n≤cs.length) (h2:o2+n≤cs.length):(cpL cs o1 o2 n).length=cs.length:=by
 simp only [cpL,List.length_append,List.length_take,List.length_drop];omega
theorem AIr (k:IntKind) (l:List Int) (o1 o2 n:Nat):cpL (Az k l) o1 o2 n=Az k (cpL l o1 o2 n):=by
 simp only [cpL,Az,List.map_append,List.map_take,List.map_drop]
theorem AHM (k:IntKind) (l:List Nat) (o1 o2 n:Nat):cpL (Ap k l) o1 o2 n=Ap k (cpL l o1 o2 n):=by
 simp only [cpL,Ap,List.map_append,List.map_take,List.map_drop]
theorem ACa (k:IntKind) (l:List Nat):∀ v∈Ap k l,v.oneCell'=true:=fun v hv=>by
 obtain ⟨x,_,rfl⟩:=List.mem_map.1 hv;rfl
theorem ABH (k:IntKind) (l:List Int):∀ v∈Az k l,v.oneCell'=true:=fun v hv=>by
 obtain ⟨x,_,rfl⟩:=List.mem_map.1 hv;rfl
theorem AIq {α:Type}{cs:List α}{o1 o2 n j:Nat}(h1:o1+n≤cs.length) (h2:o2+n≤cs.length):(cpL cs o1 o2 n)[j]?=if j<o1 then cs[j]? else if j<o1+n then cs[o2+(j-o1)]? else cs[j]?:=by
 have l1:(cs.take o1).length=o1:=by rw [List.length_take];omega
 have l2:((cs.drop o2).take n).length=n:=by rw [List.length_take,List.length_drop];omega
 rw [cpL]
 by_cases h:j<o1
 ·rw [if_pos h,List.append_assoc,List.getElem?_append_left (by omega),List.getElem?_take,if_pos h]
 ·rw [if_neg h,List.append_assoc,List.getElem?_append_right (by omega),l1]
  by_cases h3:j<o1+n
  ·rw [if_pos h3,List.getElem?_append_left (by omega),List.getElem?_take,if_pos (by omega),List.getElem?_drop]
  ·rw [if_neg h3,List.getElem?_append_right (by omega),l2,List.getElem?_drop]
   congr 1;omega
section
variable {P:Program}{F:Fun P}{C:Cx}{S:List It}{σ:Fr}{ty:TypeId}{β:List Bb}{Γ:List Fact}{R:Value→World→Prop}{p:List Nat}{i:Nat}{d:Option Tmp}
theorem AIx {t t2 e:TypeId}{x y:Operand}{b o1 o2 n1 c1 n2 c2 n:Nat}{T:TypeId}{cs:List Value}{p1 p2:Option Addr}(hx:ev σ x=some (.slice p1 n1 c1)) (hy:ev σ y=some (.slice p2 n2 c2)) (hT:Ek P t=some (e,1))
  (hn:Nat.min n2 n1=n) (hp:n=0∨(p1=some ⟨b,o1,none⟩∧p2=some ⟨b,o2,none⟩)) (h1:o1+n≤cs.length) (h2:o2+n≤cs.length) (hone:∀ v∈cs,v.oneCell'=true) :
  JG P (.call { callee:=.builtin .copy,args:=#[x,y],argTypes:=#[t,t2] }) ty σ (some [(some b,T,cs)]) Γ (fun _=>[(some b,T,cpL cs o1 o2 n)]) (fun _=>.int .i64 n) (fun _=>[]):=by
 intro w A hA hpb _ hG
 obtain ⟨hu,inf,hi,hs⟩:=Ct hT
 have hsz:(P.info? e).map (·.size)=some 1:=by rw [hi];simp [hs]
 have hblk:w.heap[b]?=some (.cells cs.toArray T (0,0)):=hpb _ (.head _) b rfl
 have key:∃ w',(Builtin.copy_ #[t,t2] ty #[.slice p1 n1 c1,.slice p2 n2 c2]).run P w = .ok (goInt n) w'∧Other b w w'∧w'.heap[b]?=some (.cells (cpL cs o1 o2 n).toArray T (0,0)):=by
  rcases Nat.eq_zero_or_pos n with h0|h0
  ·subst h0
   refine ⟨w,run_copy_none (P:=P) w t t2 ty e p1 p2 n1 c1 n2 c2 hu hsz hn,⟨rfl,rfl,rfl,rfl,fun _ _=>rfl⟩,?_⟩
   rw [AGb];exact hblk
  ·obtain ⟨rfl,rfl⟩:=hp.resolve_left (by omega)
   have hl:((cs.drop o2).take n).length=n:=by rw [List.length_take,List.length_drop];omega
   have hr:=run_copy_row (P:=P) w t t2 ty e b o1 n1 c1 ⟨b,o2,none⟩ n2 c2 cs.toArray T ((cs.drop o2).take n) hu hsz hblk (by rw [hl,hn]) (fun j v hv=>by
    rw [Addr.add_mid]
    rw [List.getElem?_take] at hv
    split at hv
    ·rw [List.getElem?_drop] at hv
     simp [World.cell?,hblk,hv]
    ·cases hv) (by rw [hl];simpa using h1) (fun v hv=>hone v (List.mem_of_mem_drop (List.mem_of_mem_take hv)))
   rw [hl] at hr
   refine ⟨_,hr,⟨rfl,rfl,rfl,by simp [World.setRow],fun k hk=>setRow_other w b k _ hk⟩,?_⟩
   exact setRow_heap w b _ _ T _ hblk
 obtain ⟨w',hr,ho,hb'⟩:=key
 intro ρ hρ
 simp only [execOp,Cp,resolve,invoke,builtin,Sem.run_bind,Sem.run_pure,Result.andThen_ok,List.map_toArray,List.map_cons,List.map_nil,hρ _ _ hx,hρ _ _ hy,hr]
 refine ⟨fun _=>default,rfl,⟨ho.os,ho.tape,ho.output,Nat.le_of_eq ho.size.symm,fun k hk hm=>ho.block k fun e=>hm ⟨_,.head _,by rw [e]⟩⟩,⟨fun y hy=>(by cases hy),trivial⟩,fun y hy bb hb=>?_,fun g hg=>by cases hg⟩
 obtain rfl:=List.mem_singleton.1 hy
 obtain rfl:=Option.some.inj hb
 exact ⟨.inr ⟨_,.head _,rfl⟩,hb'⟩
theorem AHj {it:List (TypeId×IntKind)}{L:List Oper}{pos:List Po}{pt:List (List Nat)}{κ:Fr}{fs:List (Nat×Fact)}{al:List Bb}{k:Nat}{t t2 e:TypeId}{x y:Operand}{b o1 o2 n1 c1 n2 c2:Nat}{T:TypeId}{cs:List Value}{p1 p2:Option Addr}(n:Nat)
  (ho:Vc F.fn.ntmps L κ i=some (d,.call { callee:=.builtin .copy,args:=#[x,y],argTypes:=#[t,t2] },ty)) (hx:ev σ x=some (.slice p1 n1 c1)) (hy:ev σ y=some (.slice p2 n2 c2)) (hT:Ek P t=some (e,1))
  (hn:Nat.min n2 n1=n) (hp:n=0∨(p1=some ⟨b,o1,none⟩∧p2=some ⟨b,o2,none⟩)) (h1:o1+n≤cs.length) (h2:o2+n≤cs.length) (hone:∀ v∈cs,v.oneCell'=true)
  (h:Kt it F C p S L pt β Γ R k (i+1) pos (Ho d κ) (putF d (.int .i64 n) σ) fs ((some b,T,cpL cs o1 o2 n)::al) none) :
  Kt it F C p S L pt β Γ R k i (.sg (fun _=>[(some b,T,cpL cs o1 o2 n)]) (fun _=>.int .i64 n) (fun _=>[])::pos) κ σ fs al (some [(some b,T,cs)]) :=
 AFX ho (AIx hx hy hT hn hp h1 h2 hone) fun _=>h
end
set_option linter.unusedVariables false
def ACD (l:List Fact):Fact where
 holds:=fun w A=>∀ g∈l,g.holds w A
 stable:=fun h hs g hg=>g.stable h (hs g hg)
section
variable {P:Program}{F:Fun P}{C:Cx}{S:List It}{σ:Fr}{β:List Bb}{Γ:List Fact}{R:Value→World→Prop}
theorem AJM {l:List Fact}(ix:List Nat) (hp:pick Γ ix=some l) (h:J F C S σ β (ACD l::Γ) R):J F C S σ β Γ R :=
 Jh (ACD l) (fun w A hG g hg=>hG g (F5 hp g hg)) h
end
section
variable {P:Program}{f:FuncId}{args:List Value}{β:List Bb}{Γ:List Fact}{Q:Value→List Fact→List Bb→Prop}
theorem Br.conj (h:Br P f args β Γ Q):Br P f args β [ACD Γ] Q:=⟨h.1,fun w A h1 h2 h3 h4=>h.2 w A h1 h2 h3 (h4 _ (.head _))⟩
theorem Br.mono {Q':Value→List Fact→List Bb→Prop}(h:Br P f args β Γ Q) (hQ:∀ (C:Cx) (w:World) v Φ β',Q v Φ β'→Own C w β'→(∀ g∈Φ,g.holds w (ok C w β'))→∃ Φ2 β2,Q' v Φ2 β2∧Own C w β2∧∀ g∈Φ2,g.holds w (ok C w β2)):Br P f args β Γ Q' :=
 ⟨h.1,fun w A h1 h2 h3 h4=>(h.2 w A h1 h2 h3 h4).mono fun e w' hr=>by
  cases e with
  | returned v =>
   obtain ⟨Φ,β',hq,ho,hf⟩:=hr
   exact hQ _ _ _ _ _ hq ho hf
  | _=>exact hr⟩
theorem AIn {C:Cx}{w:World}{α:Type}{E:Enc α}{e:TypeId}{bo:Option Nat}{n cap:Nat}{cs:List Value}{l:List α}{k:Nat}(hO:Own C w β) (hn:A8 β k=some (bo,e,cs)) (hj:(Aw E ⟨bo,cap,cs⟩ n l).holds w (ok C w β)) (hby:n*E.bytes≤140737488355328) :
  (A2 E (ad bo) n cap l).holds w (ok C w (β.eraseIdx k)):=by
 obtain ⟨hl,hg,vss,hall,hc⟩:=hj
 have hsub:(β.eraseIdx k).Sublist β:=List.eraseIdx_sublist _ _
 refine ⟨hl,?_⟩
 subst hl
 rcases hg with ⟨h0,hn0,h1,h2⟩|⟨b,h0,hnc,hcm,hcs⟩
 ·have:l=[]:=List.eq_nil_of_length_eq_zero hn0
  subst this
  dsimp only at h0 h1
  subst h0;subst h1
  exact ⟨Nat.le_refl _,hby,.inl rfl⟩
 ·dsimp only at h0 hnc hcm hcs hc
  subst h0
  refine ⟨hnc,hby,.inr ⟨b,0,rfl,?_,fun i x hi=>?_⟩⟩
  ·have hlt:=hO.lt (B1 hn) rfl
   have hnew:=hO.new _ (B1 hn) b rfl
   refine ⟨?_,hlt,fun x hx e=>Jl hO.apart hn x hx e⟩
   rcases hnew with h1|h1
   ·exact .inr (.inr h1)
   ·exact .inr (.inl h1)
  ·have hlt:i<l.length:=(List.getElem?_eq_some_iff.1 hi).1
   obtain ⟨vs,hvs⟩:∃ vs,vss[i]?=some vs:=⟨vss[i]'(hall.1.symm▸hlt),by simp⟩
   have hpart:=Is (Hh hall) i vs hvs
   have hrd:=hall.2 i vs x hvs hi
   refine ⟨vs,⟨cs.toArray,e,(0,0),hO.blk _ (B1 hn) b rfl,?_,E.len hrd⟩,E.stable (fun _ hk=>⟨⟨hk.1,hk.2.1,fun x hx=>hk.2.2 x (hsub.subset hx)⟩,rfl⟩) hrd⟩
   rw [← hpart,← hc,Nat.zero_add,List.drop_take,List.take_take]
   congr 1
   have h4:(i+1)*E.size≤l.length*E.size:=Nat.mul_le_mul_right _ hlt
   rw [Nat.succ_mul] at h4
   omega
theorem Br.lend {α:Type}{E:Enc α}{e:TypeId}{r:Row}{n:Nat}{l:List α}{v0:Value}(hby:n*E.bytes≤140737488355328) (h:Br P f args [] (A2 E (ad r.bo) n r.cap l::Γ) (fun v Φ β'=>v=v0∧Φ=[]∧β'=[])) :
  Br P f args [(r.bo,e,r.cs)] (Aw E r n l::Γ) (fun v Φ β'=>v=v0∧Φ=[Aw E r n l]∧β'=[(r.bo,e,r.cs)]) :=
 ⟨h.1,fun w A hA hb hd hG=>by
  have hO:Own ⟨w,A,inB [(r.bo,e,r.cs)]⟩ w [(r.bo,e,r.cs)]:=⟨Keep.refl _ _,fun x hx b hb'=>.inr ⟨x,hx,hb'⟩,hb,hd⟩
  have hok:∀ k,(A k∧¬ inB [(r.bo,e,r.cs)] k)→ok ⟨w,A,inB [(r.bo,e,r.cs)]⟩ w [(r.bo,e,r.cs)] k:=fun k hk=>⟨.inl hk.1,hA k hk.1,fun x hx e=>hk.2 ⟨x,hx,e⟩⟩
  have hrow:(Aw E r n l).holds w (ok ⟨w,A,inB [(r.bo,e,r.cs)]⟩ w [(r.bo,e,r.cs)]):=(Aw E r n l).stable (fun k hk=>⟨hok k hk,rfl⟩) (hG _ (.head _))
  have hcall:=h.2 w (fun k=>k<w.heap.size) (fun k hk=>hk) (fun x hx=>by cases hx) trivial (fun g hg=>by
   rcases List.mem_cons.1 hg with rfl|hg
   ·refine AGT hO (.head _) (fun k hk=>⟨hk.2.1,fun ⟨x,hx,_⟩=>by cases hx⟩) (fun b hb'=>⟨hO.lt (.head _) hb',fun ⟨x,hx,_⟩=>by cases hx⟩) hrow hby
   ·exact g.stable (fun k hk=>⟨⟨hA k hk.1,fun ⟨x,hx,_⟩=>by cases hx⟩,rfl⟩) (hG g (.tail _ hg)))
  refine hcall.mono fun x w' hr=>?_
  cases x with
  | returned v =>
   obtain ⟨Φ,β',⟨rfl,rfl,rfl⟩,hO',hΦ⟩:=hr
   have hx:Ext w w':=⟨hO'.ext.os,hO'.ext.tape,hO'.ext.output,hO'.ext.size,fun k hk=>hO'.ext.block k hk (fun ⟨x,hx,_⟩=>by cases hx)⟩
   have hO2:=hO.step hx
   exact ⟨_,_,⟨rfl,rfl,rfl⟩,hO2,fun g hg=>by
    obtain rfl:=List.mem_singleton.1 hg
    exact ADi (Γ:=[Aw E r n l]) hx (fun g hg=>by obtain rfl:=List.mem_singleton.1 hg;exact hrow) _ (.head _)⟩
  | _=>exact hr⟩
theorem Br.pubR {α:Type}{E:Enc α}{e:TypeId}{n:Nat}{l:List α}(hby:n*E.bytes≤140737488355328) (h:Br P f args β Γ (fun v Φ β'=>∃ r:Row,v = .slice (ad r.bo) n r.cap∧Φ=[Aw E r n l]∧β'=[(r.bo,e,r.cs)])) :
  Br P f args β Γ (fun v Φ β'=>∃ pa ca,v = .slice pa n ca∧Φ=[A2 E pa n ca l]∧β'=[]) :=
 h.mono fun C w v Φ β' ⟨r,h1,h2,h3⟩ hO hf=>by
  subst h1;subst h2;subst h3
  have hO':Own C w []:=hO.sub (List.nil_sublist _)
  refine ⟨_,_,⟨_,_,rfl,rfl,rfl⟩,hO',fun g hg=>?_⟩
  obtain rfl:=List.mem_singleton.1 hg
  exact AIn (k:=0) hO rfl (hf _ (.head _)) hby
end
open Go.RowKit (Below)
set_option linter.unusedVariables false
def nfS (B:Code):Nat→List It→Option (List It)
 | 0,S=>some S
 | n+1,S=>match nx B S with
  | some S'=>nfS B n S'
  | none=>some S
def nfB (B:Code) (S:List It):Option (List It) :=
 match nx B S with
 | some S'=>nfS B 60 S'
 | none=>none
def AG3 {P:Program}(it:List (TypeId×IntKind)) (F:Fun P) (p:List Nat):Nat→Nat→Fr→Prop→Option (Nat×Fr×Prop)
 | 0,i,σ,q=>some (i,σ,q)
 | n+1,i,σ,q=>match V3 it F p 1 i σ q with
  | some (σ',q')=>AG3 it F p n (i+1) σ' q'
  | none=>some (i,σ,q)
def AKI {P:Program}(it:List (TypeId×IntKind)) (F:Fun P) (p:List Nat) (n i:Nat) (σ:Fr):Option (Nat×Fr×Prop) :=
 match V3 it F p 1 i σ True with
 | some (σ',q')=>AG3 it F p n (i+1) σ' q'
 | none=>none
def Rr {P:Program}(F:Fun P) (p:List Nat) (i:Nat) (σ:Fr):Option (Option Tmp×Op×TypeId) :=
 match AAB F p i with
 | some x=>some x
 | none=>match Mx F p i with
  | some (g,want,d,op,ty)=>match Fr.get g σ with
   | some (.bool true)=>match want with
    | true=>some (d,op,ty)
    | false=>none
   | some (.bool false)=>match want with
    | false=>some (d,op,ty)
    | true=>none
   | _=>none
  | none=>none
def kdO:Op→Nat
 | .load _ _=>6
 | .store _ _ _=>7
 | .indexAddr _ _ _=>8
 | .fieldAddr _ _ _=>9
 | .box _ _=>10
 | .alloc _=>11
 | .makeSlice _ _ _=>12
 | .buildSlice _ _ _=>13
 | .build _ _=>14
 | .call { callee:=.builtin .len,.. }=>15
 | .call { callee:=.builtin .append,.. }=>16
 | .call { callee:=.value (.func _),.. }=>17
 | .call _=>20
 | .slice _ _ _ _ _=>18
 | .makeFunc _ _ _=>19
 | _=>5
def kdS {P:Program}(F:Fun P):List It→Option Nat
 | .c p::S=>match sub p F.B with
  | .cond _ _ _=>some 1
  | .ret=>some 3
  | .loop _=>some 4
  | .region _ _ true=>some 2
  | _=>some 0
 | .o p i::S=>match Nat.ble (Am (sub p F.B)).length i with
  | true=>some 0
  | false=>match AAB F p i with
   | some (_,op,_)=>some (kdO op)
   | none=>some 30
 | .blk _::_=>some 0
 | _=>none
structure Kd (n:Nat) (q:Prop):Prop where
 h:q
structure Cnt (n:Nat):Prop where
 h:True
theorem Cnt.dec {n:Nat}(_:Cnt (n+1)):Cnt n:=⟨trivial⟩
structure Wr (q:Prop):Prop where
 h:q
theorem pop {a b q:Prop}(h:Wr (a∧b)) (k:Wr a→Wr b→q):q:=k ⟨h.h.1⟩ ⟨h.h.2⟩
theorem kd0 {q:Prop}(h:q):Kd 0 q:=⟨h⟩
theorem kd1 {q:Prop}(h:q):Kd 1 q:=⟨h⟩
theorem kd5 {q:Prop}(h:q):Kd 5 q:=⟨h⟩
theorem kd6 {q:Prop}(h:q):Kd 6 q:=⟨h⟩
theorem kd7 {q:Prop}(h:q):Kd 7 q:=⟨h⟩
theorem kd8 {q:Prop}(h:q):Kd 8 q:=⟨h⟩
theorem kd9 {q:Prop}(h:q):Kd 9 q:=⟨h⟩
theorem AKM {q:Prop}(h:q):Kd 10 q:=⟨h⟩
theorem AKa {q:Prop}(h:q):Kd 11 q:=⟨h⟩
theorem kd2 {q:Prop}(h:q):Kd 2 q:=⟨h⟩
theorem AK9 {q:Prop}(h:q):Kd 12 q:=⟨h⟩
theorem ALs {q:Prop}(h:q):Kd 13 q:=⟨h⟩
theorem AK7 {q:Prop}(h:q):Kd 14 q:=⟨h⟩
theorem AKw {q:Prop}(h:q):Kd 17 q:=⟨h⟩
theorem ALA {q:Prop}(h:q):Kd 19 q:=⟨h⟩
theorem ALB {q:Prop}(h:q):Kd 21 q:=⟨h⟩
theorem ALm {q:Prop}(h:q):Kd 22 q:=⟨h⟩
theorem AK5 {q:Prop}(h:q):Kd 30 q:=⟨h⟩
theorem AKf {q:Prop}(h:q):Kd 15 q:=⟨h⟩
def lk {α:Type}(t:Nat):List (Nat×α)→Option α
 | []=>none
 | (i,x)::l=>match Nat.beq i t with
  | true=>some x
  | false=>lk t l
def AAw {α:Type}(f:Nat→Option α):List (Nat×α)→Prop
 | []=>True
 | (t,x)::l=>f t=some x∧AAw f l
theorem AAw.get {α:Type}{f:Nat→Option α}{t:Nat}{x:α}:∀ {l:List (Nat×α)},AAw f l→lk t l=some x→f t=some x:=by
 intro l
 induction l with
 | nil=>intro _ h;cases h
 | cons y l ih =>
  intro ha h
  obtain ⟨i,z⟩:=y
  simp only [lk] at h
  split at h
  ·rename_i hb
   obtain rfl:=Nat.eq_of_beq_eq_true hb
   obtain rfl:=Option.some.inj h
   exact ha.1
  ·exact ih ha.2 h
def AIe (P:Program):List (Nat×List (Nat×Nat))→Prop
 | []=>True
 | (t,x)::l=>AAw (Ht P t) x∧AIe P l
theorem AIe.get {P:Program}{t:Nat}{x:List (Nat×Nat)}:∀ {l:List (Nat×List (Nat×Nat))},AIe P l→lk t l=some x→AAw (Ht P t) x:=by
 intro l
 induction l with
 | nil=>intro _ h;cases h
 | cons y l ih =>
  intro ha h
  obtain ⟨i,z⟩:=y
  simp only [lk] at h
  split at h
  ·rename_i hb
   obtain rfl:=Nat.eq_of_beq_eq_true hb
   obtain rfl:=Option.some.inj h
   exact ha.1
  ·exact ih ha.2 h
structure Tb (P:Program) where
 ld:List (Nat×Bool×Nat)
 sl:List (Nat×Nat×Nat)
 fd:List (Nat×List (Nat×Nat))
 zo:List (Nat×List Value)
 st:List (Nat×List (Nat×Nat))
 by':List (Nat×Nat)
 hld:AAw (De P) ld
 hsl:AAw (Ek P) sl
 hfd:AIe P fd
 hzo:AAw (C0 P) zo
 hst:AAw (Kl P) st
 hby:AAw (fun t=>some (P.bytesOf t)) by'
theorem Tb.ldT {P:Program}(T:Tb P) {t:Nat}{x:Bool×Nat}(h:lk t T.ld=some x):De P t=some x:=T.hld.get h
theorem Tb.slT {P:Program}(T:Tb P) {t:Nat}{x:Nat×Nat}(h:lk t T.sl=some x):Ek P t=some x:=T.hsl.get h
theorem Tb.zoT {P:Program}(T:Tb P) {t:Nat}{x:List Value}(h:lk t T.zo=some x):C0 P t=some x:=T.hzo.get h
theorem Tb.stT {P:Program}(T:Tb P) {t:Nat}{x:List (Nat×Nat)}(h:lk t T.st=some x):Kl P t=some x:=T.hst.get h
theorem Tb.byt {P:Program}(T:Tb P) {t n:Nat}(h:lk t T.by'=some n):P.bytesOf t=n:=Option.some.inj (T.hby.get h)
def fdK (fd:List (Nat×List (Nat×Nat))) (t j:Nat):Option Nat :=
 match lk t fd with
 | some l=>lk j l
 | none=>none
theorem Tb.fld {P:Program}(T:Tb P) {t j o:Nat}(h:fdK T.fd t j=some o):Ht P t j=some o:=by
 unfold fdK at h
 split at h
 ·rename_i l hl;exact (T.hfd.get hl).get h
 ·cases h
section
variable {P:Program}{F:Fun P}{C:Cx}{S S':List It}{σ:Fr}{β:List Bb}{Γ:List Fact}{R:Value→World→Prop}{p:List Nat}{i:Nat}{d:Option Tmp}{op:Op}{ty:TypeId}{K:Value→List Bb→List Fact→Prop}
theorem AIy {w:World}:∀ (n:Nat) {S S':List It},nfS F.B n S=some S'→Om F S' σ w R→Om F S σ w R:=by
 intro n
 induction n with
 | zero=>intro S S' h hr;cases h;exact hr
 | succ n ih =>
  intro S S' h hr
  simp only [nfS] at h
  cases hn:nx F.B S with
  | none=>rw [hn] at h;cases h;exact hr
  | some T=>rw [hn] at h;exact AD9 hn (ih h hr)
theorem ALp (k:Nat) (h:kdS F S=some k) (hJ:Kd k (J F C S σ β Γ R)):J F C S σ β Γ R:=hJ.h
theorem ALo (h:nfB F.B S=some S') (hJ:J F C S' σ β Γ R):J F C S σ β Γ R:=fun w ho hf=>by
 unfold nfB at h
 cases hn:nx F.B S with
 | none=>rw [hn] at h;cases h
 | some T=>rw [hn] at h;exact AD9 hn (AIy 60 h (hJ w ho hf))
theorem AJi {it:List (TypeId×IntKind)}(hit:Bw P it):∀ (n i:Nat) (σ σ':Fr) (q q':Prop) (i':Nat),AG3 it F p n i σ q=some (i',σ',q')→q'→(q→J F C (.o p i'::S) σ' β Γ R→J F C (.o p i::S) σ β Γ R)∧q:=by
 intro n
 induction n with
 | zero=>intro i σ σ' q q' i' h hq;simp only [AG3,Option.some.injEq,Prod.mk.injEq] at h;obtain ⟨rfl,rfl,rfl⟩:=h;exact ⟨fun _ h=>h,hq⟩
 | succ n ih =>
  intro i σ σ' q q' i' h hq
  simp only [AG3] at h
  split at h
  ·rename_i σ1 q1 h1
   obtain ⟨g1,g2⟩:=ih _ _ _ _ _ _ h hq
   exact ⟨fun _ hJ=>ADN hit 1 i σ σ1 q q1 h1 g2 (g1 g2 hJ),Tw _ _ _ _ _ _ h1 g2⟩
  ·simp only [Option.some.injEq,Prod.mk.injEq] at h;obtain ⟨rfl,rfl,rfl⟩:=h;exact ⟨fun _ h=>h,hq⟩
theorem Th {it:List (TypeId×IntKind)}(hit:Bw P it) (n:Nat) {i':Nat}{σ':Fr}{q:Prop}(h:AKI it F p n i σ=some (i',σ',q)) (hq:q) (hJ:J F C (.o p i'::S) σ' β Γ R):J F C (.o p i::S) σ β Γ R:=by
 unfold AKI at h
 split at h
 ·rename_i σ1 q1 h1
  obtain ⟨g1,g2⟩:=AJi (C:=C) (S:=S) (β:=β) (Γ:=Γ) (R:=R) hit _ _ _ _ _ _ _ h hq
  exact ADN hit 1 i σ σ1 True q1 h1 g2 (g1 g2 hJ)
 ·cases h
theorem Da (ho:Rr F p i σ=some (d,op,ty)) (hx:Ej P C op ty σ β Γ fun v β' Γ'=>J F C (.o p (i+1)::S) (putF d v σ) β' Γ' R):J F C (.o p i::S) σ β Γ R:=by
 unfold Rr at ho
 split at ho
 ·rename_i h1;cases ho;exact Ab h1 hx
 ·split at ho
  ·rename_i h2
   split at ho
   ·rename_i hg
    split at ho
    ·cases ho;exact Bg h2 hg hx
    ·cases ho
   ·rename_i hg
    split at ho
    ·cases ho;exact Bg h2 hg hx
    ·cases ho
   ·cases ho
  ·cases ho
class DecB (b:Bool) (q:outParam Prop):Prop where
 ok:b=true↔q
instance {q:Prop} [Decidable q]:DecB (decide q) q:=⟨decide_eq_true_iff⟩
class NDecB (b:Bool) (q:outParam Prop):Prop where
 ok:b=false↔q
instance {q:Prop} [Decidable q]:NDecB (!decide q) q:=⟨by simp⟩
theorem DecB.no {b:Bool}{q:Prop} [h:DecB b q] (hq:¬ q):b=false:=by
 cases b with
 | false=>rfl
 | true=>exact absurd (h.ok.1 rfl) hq
theorem NDecB.no {b:Bool}{q:Prop} [h:NDecB b q] (hq:¬ q):b=true:=by
 cases b with
 | true=>rfl
 | false=>exact absurd (h.ok.1 rfl) hq
theorem cur {a b q:Prop}(h:a→b→q):a∧b→q:=fun ⟨x,y⟩=>h x y
theorem n0 {α:Type}{x:α}{l:List α}:A8 (x::l) 0=some x:=rfl
theorem n1 {α:Type}{x y:α}{l:List α}{n:Nat}(h:A8 l n=some y):A8 (x::l) (n+1)=some y:=h
class NatF (m:Int) (k:outParam Nat):Prop where
 ok:True
instance {k:Nat}:NatF (k:Int) k:=⟨trivial⟩
instance:NatF 0 0:=⟨trivial⟩
instance:NatF 1 1:=⟨trivial⟩
instance:NatF 2 2:=⟨trivial⟩
instance:NatF 3 3:=⟨trivial⟩
instance:NatF 4 4:=⟨trivial⟩
instance:NatF 5 5:=⟨trivial⟩
instance:NatF 6 6:=⟨trivial⟩
instance:NatF 7 7:=⟨trivial⟩
instance:NatF 8 8:=⟨trivial⟩
instance:NatF 9 9:=⟨trivial⟩
instance:NatF 10 10:=⟨trivial⟩
instance (priority:=low) {m:Int}:NatF m m.toNat:=⟨trivial⟩
instance {a b:Int}{x y:Nat} [NatF a x] [NatF b y]:NatF (a+b) (x+y):=⟨trivial⟩
instance {a b:Int}{x y:Nat} [NatF a x] [NatF b y]:NatF (a-b) (x-y):=⟨trivial⟩
instance {a b:Int}{x y:Nat} [NatF a x] [NatF b y]:NatF (a*b) (x*y):=⟨trivial⟩
theorem ALz {c:Operand}{b:Bool}{q:Prop} [h0:DecB b q] (hc:Iw F.B p=some c) (ht:ev σ c=some (.bool b)) (hq:q) (h1:q→J F C (.c (p++[0])::S) σ β Γ R):J F C (.c p::S) σ β Γ R:=by
 rw [h0.ok.2 hq] at ht
 exact Sf hc ht (h1 hq)
theorem AJJ {c:Operand}{b:Bool}{q:Prop} [h0:DecB b q] (hc:Iw F.B p=some c) (ht:ev σ c=some (.bool b)) (hq:¬ q) (h1:¬ q→J F C (.c (p++[1])::S) σ β Γ R):J F C (.c p::S) σ β Γ R:=by
 rw [h0.no hq] at ht
 exact T5 hc ht (h1 hq)
theorem AKP {c:Operand}{b:Bool}{q:Prop} [h0:NDecB b q] (hc:Iw F.B p=some c) (ht:ev σ c=some (.bool b)) (hq:¬ q) (h1:¬ q→J F C (.c (p++[0])::S) σ β Γ R):J F C (.c p::S) σ β Γ R:=by
 rw [h0.no hq] at ht
 exact Sf hc ht (h1 hq)
theorem AHN {c:Operand}{b:Bool}{q:Prop} [h0:NDecB b q] (hc:Iw F.B p=some c) (ht:ev σ c=some (.bool b)) (hq:q) (h1:q→J F C (.c (p++[1])::S) σ β Γ R):J F C (.c p::S) σ β Γ R:=by
 rw [h0.ok.2 hq] at ht
 exact T5 hc ht (h1 hq)
theorem AI6 {c:Operand}(hc:Iw F.B p=some c) (ht:ev σ c=some (.bool true)) (h1:J F C (.c (p++[0])::S) σ β Γ R):J F C (.c p::S) σ β Γ R:=Sf hc ht h1
theorem AHI {c:Operand}(hc:Iw F.B p=some c) (ht:ev σ c=some (.bool false)) (h1:J F C (.c (p++[1])::S) σ β Γ R):J F C (.c p::S) σ β Γ R:=T5 hc ht h1
theorem AHD {k:Nat}{g:Tmp}{want:Bool}(ho:Mx F p i=some (g,want,d,op,ty)) (hb:Fr.get g σ=some undef) (h:J F C (.o p (i+1)::S) (putF d undef σ) β Γ R):J F C (.o p i::S) σ β Γ R:=Em ho hb h
theorem ALh {g:Tmp}{want:Bool}(ho:Mx F p i=some (g,want,d,op,ty)) (hb:Fr.get g σ=some (.bool want)) (h:Kd (kdO op) (J F C (.o p i::S) σ β Γ R)):J F C (.o p i::S) σ β Γ R:=h.h
theorem ALj (h:J F C S σ β Γ R):J F C S σ β Γ R:=h
theorem AKU {g:Tmp}{want b:Bool}{q:Prop} [h0:DecB b q] (ho:Mx F p i=some (g,want,d,op,ty)) (hb:Fr.get g σ=some (.bool b)) (hq:q) (h:q→J F C (.o p i::S) ((g,.bool true)::σ) β Γ R):J F C (.o p i::S) σ β Γ R:=by
 rw [h0.ok.2 hq] at hb
 exact Xt (Fr.sub_cons hb (Fr.sub_refl σ)) (h hq)
theorem AKb {g:Tmp}{want b:Bool}{q:Prop} [h0:DecB b q] (ho:Mx F p i=some (g,want,d,op,ty)) (hb:Fr.get g σ=some (.bool b)) (hq:¬ q) (h:¬ q→J F C (.o p i::S) ((g,.bool false)::σ) β Γ R):J F C (.o p i::S) σ β Γ R:=by
 rw [h0.no hq] at hb
 exact Xt (Fr.sub_cons hb (Fr.sub_refl σ)) (h hq)
theorem AJv {g:Tmp}{want b:Bool}{q:Prop} [h0:NDecB b q] (ho:Mx F p i=some (g,want,d,op,ty)) (hb:Fr.get g σ=some (.bool b)) (hq:¬ q) (h:¬ q→J F C (.o p i::S) ((g,.bool true)::σ) β Γ R):J F C (.o p i::S) σ β Γ R:=by
 rw [h0.no hq] at hb
 exact Xt (Fr.sub_cons hb (Fr.sub_refl σ)) (h hq)
theorem AJB {g:Tmp}{want b:Bool}{q:Prop} [h0:NDecB b q] (ho:Mx F p i=some (g,want,d,op,ty)) (hb:Fr.get g σ=some (.bool b)) (hq:q) (h:q→J F C (.o p i::S) ((g,.bool false)::σ) β Γ R):J F C (.o p i::S) σ β Γ R:=by
 rw [h0.ok.2 hq] at hb
 exact Xt (Fr.sub_cons hb (Fr.sub_refl σ)) (h hq)
theorem AFj {T:TypeId}{x:Operand}{cs:List Value}(ho:Rr F p i σ=some (d,.box T x,ty)) (hx:ev σ x=some (.agg cs.toArray))
  (h:∀ b,J F C (.o p (i+1)::S) (putF d (.pointer (some ⟨b,0,none⟩)) σ) ((some b,T,cs)::β) Γ R):J F C (.o p i::S) σ β Γ R:=Da ho (Lu hx h)
theorem AFI {T:TypeId}{x:Operand}{v:Value}(ho:Rr F p i σ=some (d,.box T x,ty)) (hx:ev σ x=some v) (hc:C8 v=[v])
  (h:∀ b,J F C (.o p (i+1)::S) (putF d (.pointer (some ⟨b,0,none⟩)) σ) ((some b,T,[v])::β) Γ R):J F C (.o p i::S) σ β Γ R:=Da ho (AFl hx hc h)
theorem AHQ (tb:Tb P) {t:TypeId}{j off b o:Nat}{x:Operand}(ho:Rr F p i σ=some (d,.fieldAddr t x j,ty)) (hx:ev σ x=some (.pointer (some ⟨b,o,none⟩))) (hT:fdK tb.fd t j=some off)
  (h:J F C (.o p (i+1)::S) (putF d (.pointer (some ⟨b,o+off,none⟩)) σ) β Γ R):J F C (.o p i::S) σ β Γ R:=Da ho (A3 hx (tb.fld hT) h)
theorem AKL (tb:Tb P) {t:TypeId}{x:Operand}{b o n:Nat}{T:TypeId}{cs:List Value}{v:Value}(ho:Rr F p i σ=some (d,.load t x,ty)) (hx:ev σ x=some (.pointer (some ⟨b,o,none⟩))) (hn:A8 β n=some (some b,T,cs))
  (hT:lk t tb.ld=some (false,1)) (hv:cs[o]?=some v) (h:J F C (.o p (i+1)::S) (putF d v σ) β Γ R):J F C (.o p i::S) σ β Γ R:=Da ho (Dt n hx hn (tb.hld.get hT) hv h)
theorem AE4 (tb:Tb P) {t:TypeId}{x:Operand}{b o n m:Nat}{T:TypeId}{cs vs:List Value}(ho:Rr F p i σ=some (d,.load t x,ty)) (hx:ev σ x=some (.pointer (some ⟨b,o,none⟩))) (hn:A8 β n=some (some b,T,cs))
  (hT:lk t tb.ld=some (true,m)) (hv:(cs.drop o).take m=vs) (hl:vs.length=m) (h:J F C (.o p (i+1)::S) (putF d (.agg vs.toArray) σ) β Γ R):J F C (.o p i::S) σ β Γ R:=Da ho (AA2 n hx hn (tb.hld.get hT) hv hl h)
theorem AFF (tb:Tb P) {t:TypeId}{x:Operand}{b n m:Nat}{T:TypeId}{cs:List Value}(ho:Rr F p i σ=some (d,.load t x,ty)) (hx:ev σ x=some (.pointer (some ⟨b,0,none⟩))) (hn:A8 β n=some (some b,T,cs))
  (hT:lk t tb.ld=some (true,m)) (hl:cs.length=m) (h:J F C (.o p (i+1)::S) (putF d (.agg cs.toArray) σ) β Γ R):J F C (.o p i::S) σ β Γ R:=Da ho (Jp n hx hn (tb.hld.get hT) hl h)
theorem AKR (tb:Tb P) {x:Operand}{t e:TypeId}{m n ca:Nat}{pa:Option Addr}(ho:Rr F p i σ=some (d,.call { callee:=.builtin .len,args:=#[x],argTypes:=#[t] },ty)) (hT:lk t tb.sl=some (e,m)) (hx:ev σ x=some (.slice pa n ca))
  (h:J F C (.o p (i+1)::S) (putF d (.int .i64 n) σ) β Γ R):J F C (.o p i::S) σ β Γ R:=Da ho (P1 (tb.hsl.get hT) hx h)
end
theorem Ls {Γ:List Fact}:∀ g∈([]:List Fact),g∈Γ:=fun _ h=>nomatch h
theorem Lw {f:Fact}{l Γ:List Fact}(h:f∈Γ) (h':∀ g∈l,g∈Γ):∀ g∈f::l,g∈Γ:=fun g hg=>by
 rcases List.mem_cons.1 hg with rfl|hg
 ·exact h
 ·exact h' g hg
theorem Lt {f:Fact}{l:List Fact}:f∈f::l:=.head _
theorem L6 {f g:Fact}{l:List Fact}(h:f∈l):f∈g::l:=.tail _ h
theorem Ua:∀ {l Γ:List Fact},(∀ g∈l,g∈Γ)→∃ ix,pick Γ ix=some l:=by
 intro l
 induction l with
 | nil=>intro Γ _;exact ⟨[],rfl⟩
 | cons f l ih =>
  intro Γ h
  obtain ⟨ix,hix⟩:=ih fun g hg=>h g (.tail _ hg)
  obtain ⟨n,hn⟩:=List.getElem?_of_mem (h f (.head _))
  exact ⟨n::ix,by simp only [pick,B8,hn,hix]⟩
def Ex3 (Q G:Value→List Fact→List Bb→Prop):Prop:=∀ v Φ β,Q v Φ β→G v Φ β
theorem F4 {α:Sort _}{Q:α→Value→List Fact→List Bb→Prop}{G:Value→List Fact→List Bb→Prop}(h:∀ a,Ex3 (Q a) G):Ex3 (fun v Φ β=>∃ a,Q a v Φ β) G:=fun v Φ β ⟨a,ha⟩=>h a v Φ β ha
theorem F2 {v0:Value}{Φ0:List Fact}{β0:List Bb}{G:Value→List Fact→List Bb→Prop}(h:G v0 Φ0 β0):Ex3 (fun v Φ β=>v=v0∧Φ=Φ0∧β=β0) G:=by rintro _ _ _ ⟨rfl,rfl,rfl⟩;exact h
section
variable {P:Program}{F:Fun P}{C:Cx}{S S':List It}{σ:Fr}{β:List Bb}{Γ:List Fact}{R:Value→World→Prop}{p:List Nat}{i:Nat}{d:Option Tmp}{op:Op}{ty:TypeId}{K:Value→List Bb→List Fact→Prop}
theorem K9 {f:FuncId}{xs:List Operand}{ts:Array TypeId}{args:List Value}{Γ':List Fact}{Q:Value→List Fact→List Bb→Prop}(ho:Rr F p i σ=some (d,.call { callee:=.value (.func f),args:=xs.toArray,argTypes:=ts },ty))
  (hx:evs σ xs=some args) (hp:∀ g∈Γ',g∈Γ) (hc:Br P f args [] Γ' Q) (h:Ex3 Q fun v Φ β'=>J F C (.o p (i+1)::S) (putF d v σ) (β'++β) (Φ++Γ) R):J F C (.o p i::S) σ β Γ R:=by
 obtain ⟨ix,hix⟩:=Ua hp
 exact Da ho (Ai ix hx hc hix h)
theorem Li {f:FuncId}{xs:List Operand}{ts:Array TypeId}{args:List Value}{Γ':List Fact}{blk:Bb}{n:Nat}{Q:Value→List Fact→List Bb→Prop}(ho:Rr F p i σ=some (d,.call { callee:=.value (.func f),args:=xs.toArray,argTypes:=ts },ty))
  (hx:evs σ xs=some args) (hn:A8 β n=some blk) (hp:∀ g∈Γ',g∈Γ) (hc:Br P f args [blk] Γ' Q) (h:Ex3 Q fun v Φ β'=>J F C (.o p (i+1)::S) (putF d v σ) (β'++β.eraseIdx n) (Φ++Γ) R):J F C (.o p i::S) σ β Γ R:=by
 obtain ⟨ix,hix⟩:=Ua hp
 exact Da ho (Bt n ix hn hx hc hix h)
theorem Lj {f:FuncId}{xs:List Operand}{ts:Array TypeId}{args:List Value}{Γ':List Fact}{β1:List Bb}{Q:Value→List Fact→List Bb→Prop}(ho:Rr F p i σ=some (d,.call { callee:=.value (.func f),args:=xs.toArray,argTypes:=ts },ty))
  (hx:evs σ xs=some args) (hp:∀ g∈Γ',g∈Γ) (hc:Br P f args β1 Γ' Q) (hn:β.take β1.length=β1) (h:Ex3 Q fun v Φ β'=>J F C (.o p (i+1)::S) (putF d v σ) (β'++β.drop β1.length) (Φ++Γ) R):J F C (.o p i::S) σ β Γ R:=by
 obtain ⟨ix,hix⟩:=Ua hp
 exact Da ho (F1 β1.length ix hn hx hc hix h)
theorem Eo {f:FuncId}{xs:List Operand}{ts:Array TypeId}{args:List Value}{Γ':List Fact}{Q:Value→List Fact→List Bb→Prop}
  (hx:evs σ xs=some args) (hp:∀ g∈Γ',g∈Γ) (hc:Br P f args [] Γ' Q) (h:Ex3 Q fun v Φ β'=>K v (β'++β) (Φ++Γ)):Ej P C (.call { callee:=.value (.func f),args:=xs.toArray,argTypes:=ts }) ty σ β Γ K:=by
 obtain ⟨ix,hix⟩:=Ua hp
 exact Ai ix hx hc hix h
theorem AF0 {α:Type}{E:Enc α}{t e:TypeId}{kd:IntKind}{x y:Operand}{pa:Option Addr}{len ca:Nat}{l:List α}{m:Int}{k n:Nat} [NatF m k]
  (hx:ev σ x=some (.slice pa len ca)) (hy:ev σ y=some (.int kd m)) (hn:A8 Γ n=some (A2 E pa len ca l)) (hT:Ek P t=some (e,E.size)) (hm:m=(k:Int)) (hk:k<len)
  (h:∀ z,l[k]?=some z→∀ b o,K (.pointer (some ⟨b,o,none⟩)) β (ptF E b o z::Γ)):Ej P C (.indexAddr t x y) ty σ β Γ K:=E0 n k hx hy hn hT hm hk h
theorem AIA {t e:TypeId}{kd kx ky:IntKind}{x y:Operand}{nn:Int}{k by':Nat} [NatF nn k] (hx:ev σ x=some (.int kx nn)) (hy:ev σ y=some (.int ky nn)) (hT:Ek P t=some (e,1))
  (hz:C0 P e=some [.int kd 0]) (hby:P.bytesOf e=by') (hm:nn=(k:Int)) (hk:by'*k≤281474976710656) (h63:k≤9223372036854775807)
  (h:∀ b,K (.slice (some ⟨b,0,none⟩) k k) ((some b,e,Ap kd (List.replicate k 0))::β) Γ):Ej P C (.makeSlice t x y) ty σ β Γ K:=ADv k by' hx hy hT hz hby hm hk h63 h
theorem AJD {α:Type}{E:Enc α}{t e:TypeId}{kd:IntKind}{x y:Operand}{pa:Option Addr}{len ca:Nat}{l:List α}{m:Int}{k n:Nat}{z:α} [NatF m k]
  (hx:ev σ x=some (.slice pa len ca)) (hy:ev σ y=some (.int kd m)) (hn:A8 Γ n=some (A2 E pa len ca l)) (hT:Ek P t=some (e,E.size)) (hm:m=(k:Int)) (hk:k<len) (hz:l[k]?=some z)
  (h:∀ (_:l[k]?=some z) b o,K (.pointer (some ⟨b,o,none⟩)) β (ptF E b o z::Γ)):Ej P C (.indexAddr t x y) ty σ β Γ K:=E0 n k hx hy hn hT hm hk fun z' hz' b o=>by
 obtain rfl:z=z':=Option.some.inj (hz.symm.trans hz')
 exact h hz b o
theorem Zo {t e:TypeId}{m':Nat}{x y:Operand}{b len ca k:Nat}{kd:IntKind}{m:Int} [NatF m k] (hx:ev σ x=some (.slice (some ⟨b,0,none⟩) len ca)) (hy:ev σ y=some (.int kd m)) (hT:Ek P t=some (e,m'))
  (hm:m=(k:Int)) (hk:k<len) (h:K (.pointer (some ⟨b,k*m',none⟩)) β Γ):Ej P C (.indexAddr t x y) ty σ β Γ K:=Ah k _ hx hy hT hm hk rfl h
theorem Yz {t e:TypeId}{x y:Operand}{b len ca k:Nat}{kd:IntKind}{m:Int} [NatF m k] (hx:ev σ x=some (.slice (some ⟨b,0,none⟩) len ca)) (hy:ev σ y=some (.int kd m)) (hT:Ek P t=some (e,1))
  (hm:m=(k:Int)) (hk:k<len) (h:K (.pointer (some ⟨b,k,none⟩)) β Γ):Ej P C (.indexAddr t x y) ty σ β Γ K:=Ah k k hx hy hT hm hk (Nat.mul_one _) h
end
def AJS:Op→Bool
 | .assign _=>true
 | .store _ _ _=>true
 | .call { callee:=.builtin .append,.. }=>true
 | _=>false
def AKu:Op→Bool
 | .fieldAddr _ _ _=>true
 | .indexAddr _ _ _=>true
 | _=>false
def drM:List Oper→Bool→Nat
 | [],_=>0
 | o::l,f=>match AJS o.op with
  | true=>drM l true
  | false=>match f,AKu o.op with
   | true,true=>drM l true
   | _,_=>l.length+1
def AIz (L:List Oper) (pt:List (List Nat)):Nat→Nat→Option Nat
 | 0,_=>none
 | n+1,q=>match Up L pt q with
  | true=>some q
  | false=>AIz L pt n (q+1)
def AHt (L:List Oper) (pt:List (List Nat)):Nat→Option Nat
 | 0=>none
 | n+1=>match Up L pt (n+1) with
  | true=>some (n+1)
  | false=>AHt L pt n
def drK (L:List Oper):Option Nat :=
 match drM L.reverse false with
 | 0=>AHt L (K1 L []) L.length
 | m+1=>match AIz L (K1 L []) (L.length-(m+1)) (m+1) with
  | some k=>some k
  | none=>AHt L (K1 L []) L.length
theorem AH9 {L:List Oper}{pt:List (List Nat)}{k:Nat}:∀ {n q:Nat},AIz L pt n q=some k→Up L pt k=true:=by
 intro n
 induction n with
 | zero=>intro q h;cases h
 | succ n ih =>
  intro q h
  simp only [AIz] at h
  split at h
  ·rename_i hr;cases h;exact hr
  ·exact ih h
theorem AEp {L:List Oper}{pt:List (List Nat)}{k:Nat}:∀ {n:Nat},AHt L pt n=some k→Up L pt k=true:=by
 intro n
 induction n with
 | zero=>intro h;cases h
 | succ n ih =>
  intro h
  simp only [AHt] at h
  split at h
  ·rename_i hr;cases h;exact hr
  ·exact ih h
theorem AI5 {L:List Oper}{k:Nat}(h:drK L=some k):Up L (K1 L []) k=true:=by
 unfold drK at h
 split at h
 ·exact AEp h
 ·split at h
  ·rename_i hu;cases h;exact AH9 hu
  ·exact AEp h
def AKE:List Oper→Bool
 | []=>false
 | o::l=>match o.guard with
  | some _=>true
  | none=>AKE l
def AKs:Op→Bool
 | .binOp .eql _ _ _ _=>true
 | .binOp .neq _ _ _ _=>true
 | .binOp .lss _ _ _ _=>true
 | .binOp .leq _ _ _ _=>true
 | .binOp .gtr _ _ _ _=>true
 | .binOp .geq _ _ _ _=>true
 | _=>false
def kdL (nt:Nat) (L:List Oper) (κ:Fr) (k i:Nat):Option Nat :=
 match Nat.ble k i with
 | true=>none
 | false=>match Vc nt L κ i with
  | some (_,.binOp .sub _ _ _ _,_)=>some 21
  | some (_,op,_)=>match AKs op with
   | true=>match AKE L with
    | true=>some 22
    | false=>some 5
   | false=>some (kdO op)
  | none=>some 5
section
variable {P:Program}{F:Fun P}{C:Cx}{S:List It}{R:Value→World→Prop}{β:List Bb}{Γ:List Fact}{it:List (TypeId×IntKind)}{L:List Oper}{pos:List Po}{pt:List (List Nat)}{p:List Nat}{σ κ:Fr}{fs:List (Nat×Fact)}{al:List Bb}{pb:Pb}{i k:Nat}{op:Op}{ty:TypeId}{d:Option Tmp}
theorem AHJ (hit:Bw P it) (hmx:P.follows .mixedOrders=true) (hk:drK (Am (sub p F.B))=some k) (hd:S8 F.B p=true)
  (h:Kt it F C p S (Am (sub p F.B)) (K1 (Am (sub p F.B)) []) β Γ R k 0 pos σ σ [] [] none) (hS:Xx S=false:=by rfl):J F C (.c p::S) σ β Γ R:=Ch hit hmx k hd (AI5 hk) h hS
theorem ALl (n:Nat) (hn:kdL F.fn.ntmps L κ k i=some n) (h:Kd n (Kt it F C p S L pt β Γ R k i pos κ σ fs al pb)):Kt it F C p S L pt β Γ R k i pos κ σ fs al pb:=h.h
theorem AB7 {κ' σ':Fr}{q:Prop}(h:D8 it F.fn.ntmps L 1 i [.auto] κ σ True=some ([],κ',σ',q)) (hq:q) (hL:Kt it F C p S L pt β Γ R k (i+1) pos κ' σ' fs al pb):Kt it F C p S L pt β Γ R k i (.auto::pos) κ σ fs al pb:=Ae 1 h hq hL
theorem M3 {v:Value}(ho:Vc F.fn.ntmps L κ i=some (d,op,ty)) (hJ:∀ C',Ej P C' op ty σ [] (Ut (B4 pt i) fs++Γ) (DK (fun _=>v) fun _=>[])) (h:Kt it F C p S L pt β Γ R k (i+1) pos (putF d v κ) (putF d v σ) fs al pb) :
  Kt it F C p S L pt β Γ R k i (.eq v::pos) κ σ fs al pb:=Ac ho (Bi hJ) h
theorem AAo {n:Nat}{α:Type}{E:Enc α}{l:List α}(ho:Vc F.fn.ntmps L κ i=some (d,op,ty)) (hJ:∀ C',Ej P C' op ty σ [] (Ut (B4 pt i) fs++Γ) (DK (ADp n) (ADg E n l)))
  (h:∀ pa ca,Kt it F C p S L pt β Γ R k (i+1) pos (Ho d κ) (putF d (.slice pa n ca) σ) ((i,A2 E pa n ca l)::fs) al pb) :
  Kt it F C p S L pt β Γ R k i (.fa (ADp n) (ADg E n l)::pos) κ σ fs al pb:=Dl ho (Bi hJ) h
theorem ALn {α:Type}{E:Enc α}{z:α}(ho:Vc F.fn.ntmps L κ i=some (d,op,ty)) (hJ:∀ C',Ej P C' op ty σ [] (Ut (B4 pt i) fs++Γ) (DK Fz (AFs E z)))
  (h:∀ b o,Kt it F C p S L pt β Γ R k (i+1) pos (Ho d κ) (putF d (.pointer (some ⟨b,o,none⟩)) σ) ((i,ptF E b o z)::fs) al pb) :
  Kt it F C p S L pt β Γ R k i (.fa Fz (AFs E z)::pos) κ σ fs al pb:=Ku ho (Bi hJ) h
theorem AKd {α:Type}{E:Enc α}(V:Vw E) {z:α}(ho:Vc F.fn.ntmps L κ i=some (d,op,ty)) (hJ:∀ C',Ej P C' op ty σ [] (Ut (B4 pt i) fs++Γ) (DK (fun g=>.agg (V.val z g).toArray) (V.fs z)))
  (h:∀ g,Kt it F C p S L pt β Γ R k (i+1) pos (Ho d κ) (putF d (.agg (V.val z g).toArray) σ) ((V.fs z g).map (fun f=>(i,f))++fs) al pb) :
  Kt it F C p S L pt β Γ R k i (.fa (fun g=>.agg (V.val z g).toArray) (V.fs z)::pos) κ σ fs al pb:=AJk V ho (Bi hJ) h
theorem AJo {C':Cx}{K:Value→List Bb→List Fact→Prop}(hit:Bw P it) {kd:IntKind}{m:Int}{n:Nat}{q':Prop} [NatF m n] (h:pev it σ op=some (.int kd m,q')) (hq':q') (e:m=(n:Int)) (hK:K (.int kd (n:Int)) β Γ):Ej P C' op ty σ β Γ K:=V0 hit (n:Int) h hq' e hK
end
section
variable {P:Program}{F:Fun P}{C:Cx}{S S':List It}{σ:Fr}{β:List Bb}{Γ:List Fact}{R:Value→World→Prop}{p:List Nat}
theorem AKy {vs:List Value}{Q:Value→List Fact→List Bb→Prop}{Φ:List Fact}(hp:Uk F.B p=true) (hr:No σ F.fn.results.toList=some vs) (h:Q (H4 vs) Φ []) (hl:∀ g∈Φ,g∈Γ) (hk:F.rnd=none:=by rfl):J F C (.c p::S) σ β Γ (Ga C Q):=by
 obtain ⟨ix,hix⟩:=Ua hl
 exact Gl ix hp hr hix h hk
theorem AI3 {vs:List Value}{Q:Value→List Fact→List Bb→Prop}{Φ:List Fact}(hp:Uk F.B p=true) (hr:ResJ P σ β F.fn.results.toList vs) (h:Q (H4 vs) Φ []) (hl:∀ g∈Φ,g∈Γ) (hk:F.rnd=none:=by rfl):J F C (.c p::S) σ β Γ (Ga C Q):=by
 obtain ⟨ix,hix⟩:=Ua hl
 exact Tg ix hp hr hix h hk
theorem AK4 {σ':Fr}{β':List Bb}{Γ':List Fact}(h:J F C S σ' β' Γ' R) (hb:β'=β) (hp:∀ g∈Γ',g∈Γ) (hs:Fr.sub σ' σ):J F C S σ β Γ R:=by
 subst hb
 exact Xt hs (Ww hp h)
end
end Go.Fw
namespace Go.Proofs.YteadncphjconmaaGreat
open Go Go.Fw
set_option maxRecDepth 100000
def tb:Tb Tryz.prog where
 ld:=[(0,false,1),(1,false,1),(2,false,1),(3,false,1),(4,false,1),(5,false,1),(6,false,1),(7,true,4),(8,true,4),(9,false,1),(10,false,1),(11,false,1),(12,false,1),(13,true,2),(14,true,2),(15,false,1),(16,false,1),(17,false,1),(18,true,1),(19,true,1),(20,false,1),(21,false,1),(22,false,1),(23,true,3),(24,true,3),(25,false,1),(26,true,5),(27,true,5),(28,true,1),(29,true,1),(30,true,9),(31,true,9),(32,false,1),(33,false,1),(34,false,1),(35,false,1),(36,false,1),(37,false,1),(38,false,1),(39,false,1),(40,false,1),(41,false,1),(42,false,1),(43,false,1),(44,false,1),(45,false,1),(46,false,1),(47,false,1),(48,false,1),(49,false,1),(50,false,1),(51,true,3),(52,true,3),(53,false,1),(54,false,1),(55,false,1),(56,false,1),(57,false,1),(58,false,1),(59,false,1),(60,false,1),(61,false,1),(62,false,1),(63,false,1),(64,true,2),(65,true,2),(66,false,1),(67,false,1),(68,false,1),(69,false,1),(70,false,1),(71,false,1),(72,false,1),(73,false,1),(74,false,1),(75,false,1),(76,false,1),(77,false,1),(78,false,1),(79,false,1),(80,false,1),(81,false,1),(82,false,1),(83,false,1),(84,false,1),(85,false,1),(86,false,1),(87,true,2),(88,true,2),(89,false,1),(90,false,1),(91,false,1),(92,false,1),(93,false,1),(94,false,1),(95,false,1),(96,false,1),(97,false,1),(98,false,1),(99,false,1),(100,false,1),(101,false,1),(102,false,1),(103,false,1),(104,false,1),(105,false,1),(106,true,6),(107,true,6),(108,false,1),(109,false,1),(110,false,1),(111,false,1),(112,false,1),(113,false,1),(114,false,1),(115,false,1),(116,false,1),(117,true,4),(118,true,4),(119,false,1),(120,false,1),(121,false,1),(122,false,1),(123,false,1),(124,false,1),(125,false,1),(126,false,1),(127,false,1),(128,false,1),(129,true,9),(130,true,9),(131,false,1),(132,false,1),(133,false,1),(134,false,1),(135,false,1),(136,false,1),(137,false,1),(138,false,1),(139,false,1),(140,false,1),(141,false,1),(142,false,1),(143,false,1),(144,false,1),(145,false,1),(146,false,1),(147,false,1),(148,false,1),(149,false,1),(150,false,1),(151,false,1),(152,false,1),(153,false,1),(154,false,1),(155,false,1),(156,true,12),(157,true,12),(158,false,1),(159,false,1),(160,false,1),(161,false,1),(162,false,1),(163,false,1),(164,false,1),(165,false,1),(166,false,1),(167,false,1),(168,false,1),(169,false,1),(170,false,1),(171,false,1),(172,false,1),(173,false,1),(174,false,1),(175,false,1),(176,false,1),(177,false,1),(178,false,1),(179,false,1),(180,false,1),(181,false,1),(182,false,1),(183,false,1),(184,false,1),(185,false,1),(186,false,1),(187,false,1),(188,false,1),(189,false,1),(190,false,1),(191,false,1),(192,false,1),(193,false,1),(194,true,3),(195,true,3),(196,false,1),(197,false,1),(198,false,1),(199,false,1),(200,false,1),(201,false,1),(202,false,1),(203,false,1),(204,false,1),(205,true,4),(206,true,4),(207,true,0),(208,true,0),(209,true,0),(210,false,1),(211,false,1),(212,false,1),(213,false,1),(214,false,1),(215,false,1),(216,false,1),(217,true,11),(218,true,11),(219,false,1)]
 sl:=[(22,3,1),(25,22,1),(40,25,1),(50,52,3),(67,65,2),(170,4,1),(181,88,2)]
 fd:=[(7,[(0,0),(1,1),(2,2),(3,3)]),(8,[(0,0),(1,1),(2,2),(3,3)]),(13,[(0,0),(1,1)]),(14,[(0,0),(1,1)]),(18,[(0,0)]),(19,[(0,0)]),(23,[(0,0),(1,1),(2,2)]),(24,[(0,0),(1,1),(2,2)]),(26,[(0,0),(1,3),(2,4)]),(27,[(0,0),(1,3),(2,4)]),(28,[(0,0)]),(29,[(0,0)]),(30,[(0,0),(1,5),(2,6),(3,7),(4,8)]),(31,[(0,0),(1,5),(2,6),(3,7),(4,8)]),(51,[(0,0),(1,1),(2,2)]),(52,[(0,0),(1,1),(2,2)]),(64,[(0,0),(1,1)]),(65,[(0,0),(1,1)]),(87,[(0,0),(1,1)]),(88,[(0,0),(1,1)]),(106,[(0,0),(1,3),(2,4),(3,5)]),(107,[(0,0),(1,3),(2,4),(3,5)]),(117,[(0,0),(1,1),(2,3)]),(118,[(0,0),(1,1),(2,3)]),(129,[(0,0),(1,5),(2,6),(3,7),(4,8)]),(130,[(0,0),(1,5),(2,6),(3,7),(4,8)]),(156,[(0,0),(1,1),(2,6),(3,7),(4,8),(5,9),(6,10),(7,11)]),(157,[(0,0),(1,1),(2,6),(3,7),(4,8),(5,9),(6,10),(7,11)]),(194,[(0,0),(1,1),(2,2)]),(195,[(0,0),(1,1),(2,2)]),(205,[(0,0),(1,1),(2,2),(3,3)]),(206,[(0,0),(1,1),(2,2),(3,3)]),(217,[(0,0),(1,1),(2,2),(3,3),(4,4),(5,5),(6,6),(7,7),(8,8),(9,9),(10,10)]),(218,[(0,0),(1,1),(2,2),(3,3),(4,4),(5,5),(6,6),(7,7),(8,8),(9,9),(10,10)])]
 zo:=[(0,[Value.tuple #[]]),(1,[Value.nilFunc]),(2,[Value.int IntKind.i64 0]),(3,[Value.int IntKind.i64 0]),(4,[Value.bool false]),(5,[Value.int IntKind.u8 0]),(6,[Value.int IntKind.u8 0]),(7,[Value.int IntKind.i64 0,Value.int IntKind.i64 0,Value.bool false,Value.int IntKind.u8 0]),(8,[Value.int IntKind.i64 0,Value.int IntKind.i64 0,Value.bool false,Value.int IntKind.u8 0]),(9,[Value.string { data:=#[] }]),(10,[Value.string { data:=#[] }]),(11,[Value.string { data:=#[] }]),(12,[Value.int IntKind.u64 0]),(13,[Value.string { data:=#[] },Value.int IntKind.u64 0]),(14,[Value.string { data:=#[] },Value.int IntKind.u64 0]),(15,[Value.pointer none]),(16,[Value.pointer none]),(17,[Value.pointer none]),(18,[Value.pointer none]),(19,[Value.pointer none]),(20,[Value.nilIface]),(21,[Value.int IntKind.i32 0]),(22,[Value.slice none 0 0]),(23,[Value.int IntKind.i64 0,Value.int IntKind.i64 0,Value.slice none 0 0]),(24,[Value.int IntKind.i64 0,Value.int IntKind.i64 0,Value.slice none 0 0]),(25,[Value.slice none 0 0]),(26,[Value.int IntKind.i64 0,Value.int IntKind.i64 0,Value.slice none 0 0,Value.int IntKind.i64 0,Value.slice none 0 0]),(27,[Value.int IntKind.i64 0,Value.int IntKind.i64 0,Value.slice none 0 0,Value.int IntKind.i64 0,Value.slice none 0 0]),(28,[Value.slice none 0 0]),(29,[Value.slice none 0 0]),(30,[Value.int IntKind.i64 0,Value.int IntKind.i64 0,Value.slice none 0 0,Value.int IntKind.i64 0,Value.slice none 0 0,Value.int IntKind.i64 0,Value.slice none 0 0,Value.slice none 0 0,Value.int IntKind.i64 0]),(31,[Value.int IntKind.i64 0,Value.int IntKind.i64 0,Value.slice none 0 0,Value.int IntKind.i64 0,Value.slice none 0 0,Value.int IntKind.i64 0,Value.slice none 0 0,Value.slice none 0 0,Value.int IntKind.i64 0]),(32,[Value.nilFunc]),(33,[Value.int IntKind.i64 0]),(34,[Value.nilFunc]),(35,[Value.nilFunc]),(36,[Value.tuple #[Value.int IntKind.i64 0,Value.int IntKind.i64 0]]),(37,[Value.nilFunc]),(38,[Value.nilFunc]),(39,[Value.nilFunc]),(40,[Value.slice none 0 0]),(41,[Value.tuple #[Value.slice none 0 0,Value.int IntKind.i64 0]]),(42,[Value.nilFunc]),(43,[Value.nilFunc]),(44,[Value.nilFunc]),(45,[Value.tuple #[Value.slice none 0 0,Value.slice none 0 0,Value.int IntKind.i64 0]]),(46,[Value.nilFunc]),(47,[Value.nilFunc]),(48,[Value.nilFunc]),(49,[Value.nilFunc]),(52,[Value.int IntKind.i64 0,Value.bool false,Value.slice none 0 0]),(50,[Value.slice none 0 0]),(51,[Value.int IntKind.i64 0,Value.bool false,Value.slice none 0 0]),(53,[Value.tuple #[Value.slice none 0 0,Value.int IntKind.i64 0]]),(54,[Value.nilFunc]),(55,[Value.tuple #[Value.int IntKind.i64 0,Value.int IntKind.i64 0]]),(56,[Value.nilFunc]),(57,[Value.nilFunc]),(58,[Value.nilFunc]),(59,[Value.nilFunc]),(60,[Value.nilFunc]),(61,[Value.nilFunc]),(62,[Value.nilFunc]),(63,[Value.nilFunc]),(64,[Value.int IntKind.i64 0,Value.int IntKind.i64 0]),(65,[Value.int IntKind.i64 0,Value.int IntKind.i64 0]),(66,[Value.nilFunc]),(67,[Value.slice none 0 0]),(68,[Value.nilFunc]),(69,[Value.nilFunc]),(70,[Value.nilFunc]),(71,[Value.nilFunc]),(72,[Value.nilFunc]),(73,[Value.nilFunc]),(74,[Value.nilFunc]),(75,[Value.nilFunc]),(76,[Value.pointer none]),(77,[Value.tuple #[Value.pointer none,Value.int IntKind.i64 0]]),(78,[Value.nilFunc]),(79,[Value.nilFunc]),(80,[Value.nilFunc]),(81,[Value.nilFunc]),(82,[Value.nilFunc]),(83,[Value.nilFunc]),(84,[Value.nilFunc]),(85,[Value.nilFunc]),(86,[Value.nilFunc]),(87,[Value.int IntKind.i64 0,Value.slice none 0 0]),(88,[Value.int IntKind.i64 0,Value.slice none 0 0]),(89,[Value.nilFunc]),(90,[Value.nilFunc]),(91,[Value.nilFunc]),(92,[Value.nilFunc]),(93,[Value.nilFunc]),(94,[Value.nilFunc]),(95,[Value.int IntKind.u64 0]),(96,[Value.nilFunc]),(97,[Value.nilFunc]),(98,[Value.nilFunc]),(99,[Value.nilFunc]),(100,[Value.nilFunc]),(101,[Value.nilFunc]),(102,[Value.nilFunc]),(103,[Value.nilFunc]),(104,[Value.nilFunc]),(105,[Value.nilFunc]),(106,[Value.int IntKind.i64 0,Value.int IntKind.i64 0,Value.slice none 0 0,Value.int IntKind.i64 0,Value.slice none 0 0,Value.slice none 0 0]),(107,[Value.int IntKind.i64 0,Value.int IntKind.i64 0,Value.slice none 0 0,Value.int IntKind.i64 0,Value.slice none 0 0,Value.slice none 0 0]),(108,[Value.nilFunc]),(109,[Value.nilFunc]),(110,[Value.tuple #[Value.slice none 0 0,Value.bool false]]),(111,[Value.nilFunc]),(112,[Value.nilFunc]),(113,[Value.tuple #[Value.slice none 0 0,Value.int IntKind.i64 0]]),(114,[Value.nilFunc]),(115,[Value.nilFunc]),(116,[Value.nilFunc]),(117,[Value.pointer none,Value.int IntKind.i64 0,Value.slice none 0 0,Value.slice none 0 0]),(118,[Value.pointer none,Value.int IntKind.i64 0,Value.slice none 0 0,Value.slice none 0 0]),(119,[Value.tuple #[Value.agg #[Value.pointer none,Value.int IntKind.i64 0,Value.slice none 0 0,Value.slice none 0 0],Value.int IntKind.i64 0]]),(120,[Value.nilFunc]),(121,[Value.pointer none]),(122,[Value.tuple #[Value.pointer none,Value.int IntKind.i64 0]]),(123,[Value.nilFunc]),(124,[Value.nilFunc]),(125,[Value.nilFunc]),(126,[Value.tuple #[Value.slice none 0 0,Value.slice none 0 0]]),(127,[Value.nilFunc]),(128,[Value.nilFunc]),(129,[Value.int IntKind.i64 0,Value.int IntKind.i64 0,Value.slice none 0 0,Value.int IntKind.i64 0,Value.slice none 0 0,Value.int IntKind.i64 0,Value.int IntKind.i64 0,Value.slice none 0 0,Value.bool false]),(130,[Value.int IntKind.i64 0,Value.int IntKind.i64 0,Value.slice none 0 0,Value.int IntKind.i64 0,Value.slice none 0 0,Value.int IntKind.i64 0,Value.int IntKind.i64 0,Value.slice none 0 0,Value.bool false]),(131,[Value.nilFunc]),(132,[Value.int IntKind.i64 0]),(133,[Value.tuple #[Value.int IntKind.i64 0,Value.int IntKind.i64 0]]),(134,[Value.nilFunc]),(135,[Value.nilFunc]),(136,[Value.nilFunc]),(137,[Value.nilFunc]),(138,[Value.tuple #[Value.int IntKind.i64 0,Value.bool false]]),(139,[Value.nilFunc]),(140,[Value.nilFunc]),(141,[Value.int IntKind.u32 0]),(142,[Value.nilFunc]),(143,[Value.int IntKind.u64 0]),(144,[Value.nilFunc]),(145,[Value.nilFunc]),(146,[Value.nilFunc]),(147,[Value.nilFunc]),(148,[Value.nilFunc]),(149,[Value.nilFunc]),(150,[Value.nilFunc]),(151,[Value.nilFunc]),(152,[Value.tuple #[Value.agg #[Value.int IntKind.i64 0,Value.slice none 0 0],Value.slice none 0 0,Value.int IntKind.i64 0]]),(153,[Value.nilFunc]),(154,[Value.nilFunc]),(155,[Value.nilFunc]),(156,[Value.pointer none,Value.int IntKind.i64 0,Value.int IntKind.i64 0,Value.slice none 0 0,Value.int IntKind.i64 0,Value.slice none 0 0,Value.slice none 0 0,Value.bool false,Value.int IntKind.i64 0,Value.int IntKind.i64 0,Value.slice none 0 0,Value.int IntKind.i64 0]),(157,[Value.pointer none,Value.int IntKind.i64 0,Value.int IntKind.i64 0,Value.slice none 0 0,Value.int IntKind.i64 0,Value.slice none 0 0,Value.slice none 0 0,Value.bool false,Value.int IntKind.i64 0,Value.int IntKind.i64 0,Value.slice none 0 0,Value.int IntKind.i64 0]),(158,[Value.nilFunc]),(159,[Value.nilFunc]),(160,[Value.nilFunc]),(161,[Value.int IntKind.u64 0]),(162,[Value.nilFunc]),(163,[Value.nilFunc]),(164,[Value.nilFunc]),(165,[Value.pointer none]),(166,[Value.nilFunc]),(167,[Value.nilFunc]),(168,[Value.nilFunc]),(169,[Value.nilFunc]),(170,[Value.slice none 0 0]),(171,[Value.nilFunc]),(172,[Value.tuple #[Value.slice none 0 0,Value.int IntKind.i64 0]]),(173,[Value.nilFunc]),(174,[Value.nilFunc]),(175,[Value.nilFunc]),(176,[Value.nilFunc]),(177,[Value.nilFunc]),(178,[Value.nilFunc]),(179,[Value.pointer none]),(180,[Value.nilFunc]),(181,[Value.slice none 0 0]),(182,[Value.nilFunc]),(183,[Value.nilFunc]),(184,[Value.nilFunc]),(185,[Value.nilFunc]),(186,[Value.nilFunc]),(187,[Value.nilFunc]),(188,[Value.nilFunc]),(189,[Value.nilFunc]),(190,[Value.nilFunc]),(191,[Value.nilFunc]),(192,[Value.nilFunc]),(193,[Value.pointer none]),(194,[Value.pointer none,Value.slice none 0 0,Value.slice none 0 0]),(195,[Value.pointer none,Value.slice none 0 0,Value.slice none 0 0]),(196,[Value.nilFunc]),(197,[Value.nilFunc]),(198,[Value.nilFunc]),(199,[Value.nilFunc]),(200,[Value.nilFunc]),(201,[Value.nilFunc]),(202,[Value.nilFunc]),(203,[Value.nilFunc]),(204,[Value.nilFunc]),(205,[Value.pointer none,Value.pointer none,Value.pointer none,Value.string { data:=#[] }]),(206,[Value.pointer none,Value.pointer none,Value.pointer none,Value.string { data:=#[] }]),(207,[]),(208,[]),(209,[]),(210,[Value.nilFunc]),(211,[Value.int IntKind.u8 0]),(212,[Value.int IntKind.u8 0]),(213,[Value.nilFunc]),(214,[Value.pointer none]),(215,[Value.int IntKind.i32 0]),(216,[Value.int IntKind.i32 0]),(217,[Value.int IntKind.u64 0,Value.int IntKind.u64 0,Value.int IntKind.u32 0,Value.int IntKind.u8 0,Value.int IntKind.u8 0,Value.int IntKind.u8 0,Value.int IntKind.u8 0,Value.nilFunc,Value.pointer none,Value.int IntKind.i32 0,Value.int IntKind.i32 0]),(218,[Value.int IntKind.u64 0,Value.int IntKind.u64 0,Value.int IntKind.u32 0,Value.int IntKind.u8 0,Value.int IntKind.u8 0,Value.int IntKind.u8 0,Value.int IntKind.u8 0,Value.nilFunc,Value.pointer none,Value.int IntKind.i32 0,Value.int IntKind.i32 0]),(219,[Value.pointer none])]
 st:=[(7,[(0,1),(1,1),(2,1),(3,1)]),(8,[(0,1),(1,1),(2,1),(3,1)]),(13,[(0,1),(1,1)]),(14,[(0,1),(1,1)]),(18,[(0,1)]),(19,[(0,1)]),(23,[(0,1),(1,1),(2,1)]),(24,[(0,1),(1,1),(2,1)]),(26,[(0,3),(3,1),(4,1)]),(27,[(0,3),(3,1),(4,1)]),(28,[(0,1)]),(29,[(0,1)]),(30,[(0,5),(5,1),(6,1),(7,1),(8,1)]),(31,[(0,5),(5,1),(6,1),(7,1),(8,1)]),(51,[(0,1),(1,1),(2,1)]),(52,[(0,1),(1,1),(2,1)]),(64,[(0,1),(1,1)]),(65,[(0,1),(1,1)]),(87,[(0,1),(1,1)]),(88,[(0,1),(1,1)]),(106,[(0,3),(3,1),(4,1),(5,1)]),(107,[(0,3),(3,1),(4,1),(5,1)]),(117,[(0,1),(1,2),(3,1)]),(118,[(0,1),(1,2),(3,1)]),(129,[(0,5),(5,1),(6,1),(7,1),(8,1)]),(130,[(0,5),(5,1),(6,1),(7,1),(8,1)]),(156,[(0,1),(1,5),(6,1),(7,1),(8,1),(9,1),(10,1),(11,1)]),(157,[(0,1),(1,5),(6,1),(7,1),(8,1),(9,1),(10,1),(11,1)]),(194,[(0,1),(1,1),(2,1)]),(195,[(0,1),(1,1),(2,1)]),(205,[(0,1),(1,1),(2,1),(3,1)]),(206,[(0,1),(1,1),(2,1),(3,1)]),(208,[(0,0)]),(209,[(0,0)]),(217,[(0,1),(1,1),(2,1),(3,1),(4,1),(5,1),(6,1),(7,1),(8,1),(9,1),(10,1)]),(218,[(0,1),(1,1),(2,1),(3,1),(4,1),(5,1),(6,1),(7,1),(8,1),(9,1),(10,1)])]
 by':=[(3,8),(22,24),(25,24),(52,40),(65,16),(4,1),(88,32)]
 hld:=⟨rfl,rfl,rfl,rfl,rfl,rfl,rfl,rfl,rfl,rfl,rfl,rfl,rfl,rfl,rfl,rfl,rfl,rfl,rfl,rfl,rfl,rfl,rfl,rfl,rfl,rfl,rfl,rfl,rfl,rfl,rfl,rfl,rfl,rfl,rfl,rfl,rfl,rfl,rfl,rfl,rfl,rfl,rfl,rfl,rfl,rfl,rfl,rfl,rfl,rfl,rfl,rfl,rfl,rfl,rfl,rfl,rfl,rfl,rfl,rfl,rfl,rfl,rfl,rfl,rfl,rfl,rfl,rfl,rfl,rfl,rfl,rfl,rfl,rfl,rfl,rfl,rfl,rfl,rfl,rfl,rfl,rfl,rfl,rfl,rfl,rfl,rfl,rfl,rfl,rfl,rfl,rfl,rfl,rfl,rfl,rfl,rfl,rfl,rfl,rfl,rfl,rfl,rfl,rfl,rfl,rfl,rfl,rfl,rfl,rfl,rfl,rfl,rfl,rfl,rfl,rfl,rfl,rfl,rfl,rfl,rfl,rfl,rfl,rfl,rfl,rfl,rfl,rfl,rfl,rfl,rfl,rfl,rfl,rfl,rfl,rfl,rfl,rfl,rfl,rfl,rfl,rfl,rfl,rfl,rfl,rfl,rfl,rfl,rfl,rfl,rfl,rfl,rfl,rfl,rfl,rfl,rfl,rfl,rfl,rfl,rfl,rfl,rfl,rfl,rfl,rfl,rfl,rfl,rfl,rfl,rfl,rfl,rfl,rfl,rfl,rfl,rfl,rfl,rfl,rfl,rfl,rfl,rfl,rfl,rfl,rfl,rfl,rfl,rfl,rfl,rfl,rfl,rfl,rfl,rfl,rfl,rfl,rfl,rfl,rfl,rfl,rfl,rfl,rfl,rfl,rfl,rfl,rfl,rfl,rfl,rfl,rfl,rfl,rfl,rfl,rfl,rfl,rfl,rfl,rfl,trivial⟩
 hsl:=⟨rfl,rfl,rfl,rfl,rfl,rfl,rfl,trivial⟩
 hfd:=⟨⟨rfl,rfl,rfl,rfl,trivial⟩,⟨rfl,rfl,rfl,rfl,trivial⟩,⟨rfl,rfl,trivial⟩,⟨rfl,rfl,trivial⟩,⟨rfl,trivial⟩,⟨rfl,trivial⟩,⟨rfl,rfl,rfl,trivial⟩,⟨rfl,rfl,rfl,trivial⟩,⟨rfl,rfl,rfl,trivial⟩,⟨rfl,rfl,rfl,trivial⟩,⟨rfl,trivial⟩,⟨rfl,trivial⟩,⟨rfl,rfl,rfl,rfl,rfl,trivial⟩,⟨rfl,rfl,rfl,rfl,rfl,trivial⟩,⟨rfl,rfl,rfl,trivial⟩,⟨rfl,rfl,rfl,trivial⟩,⟨rfl,rfl,trivial⟩,⟨rfl,rfl,trivial⟩,⟨rfl,rfl,trivial⟩,⟨rfl,rfl,trivial⟩,⟨rfl,rfl,rfl,rfl,trivial⟩,⟨rfl,rfl,rfl,rfl,trivial⟩,⟨rfl,rfl,rfl,trivial⟩,⟨rfl,rfl,rfl,trivial⟩,⟨rfl,rfl,rfl,rfl,rfl,trivial⟩,⟨rfl,rfl,rfl,rfl,rfl,trivial⟩,⟨rfl,rfl,rfl,rfl,rfl,rfl,rfl,rfl,trivial⟩,⟨rfl,rfl,rfl,rfl,rfl,rfl,rfl,rfl,trivial⟩,⟨rfl,rfl,rfl,trivial⟩,⟨rfl,rfl,rfl,trivial⟩,⟨rfl,rfl,rfl,rfl,trivial⟩,⟨rfl,rfl,rfl,rfl,trivial⟩,⟨rfl,rfl,rfl,rfl,rfl,rfl,rfl,rfl,rfl,rfl,rfl,trivial⟩,⟨rfl,rfl,rfl,rfl,rfl,rfl,rfl,rfl,rfl,rfl,rfl,trivial⟩,trivial⟩
 hzo:=⟨rfl,rfl,rfl,rfl,rfl,rfl,rfl,rfl,rfl,rfl,rfl,rfl,rfl,rfl,rfl,rfl,rfl,rfl,rfl,rfl,rfl,rfl,rfl,rfl,rfl,rfl,rfl,rfl,rfl,rfl,rfl,rfl,rfl,rfl,rfl,rfl,rfl,rfl,rfl,rfl,rfl,rfl,rfl,rfl,rfl,rfl,rfl,rfl,rfl,rfl,rfl,rfl,rfl,rfl,rfl,rfl,rfl,rfl,rfl,rfl,rfl,rfl,rfl,rfl,rfl,rfl,rfl,rfl,rfl,rfl,rfl,rfl,rfl,rfl,rfl,rfl,rfl,rfl,rfl,rfl,rfl,rfl,rfl,rfl,rfl,rfl,rfl,rfl,rfl,rfl,rfl,rfl,rfl,rfl,rfl,rfl,rfl,rfl,rfl,rfl,rfl,rfl,rfl,rfl,rfl,rfl,rfl,rfl,rfl,rfl,rfl,rfl,rfl,rfl,rfl,rfl,rfl,rfl,rfl,rfl,rfl,rfl,rfl,rfl,rfl,rfl,rfl,rfl,rfl,rfl,rfl,rfl,rfl,rfl,rfl,rfl,rfl,rfl,rfl,rfl,rfl,rfl,rfl,rfl,rfl,rfl,rfl,rfl,rfl,rfl,rfl,rfl,rfl,rfl,rfl,rfl,rfl,rfl,rfl,rfl,rfl,rfl,rfl,rfl,rfl,rfl,rfl,rfl,rfl,rfl,rfl,rfl,rfl,rfl,rfl,rfl,rfl,rfl,rfl,rfl,rfl,rfl,rfl,rfl,rfl,rfl,rfl,rfl,rfl,rfl,rfl,rfl,rfl,rfl,rfl,rfl,rfl,rfl,rfl,rfl,rfl,rfl,rfl,rfl,rfl,rfl,rfl,rfl,rfl,rfl,rfl,rfl,rfl,rfl,rfl,rfl,rfl,rfl,rfl,rfl,trivial⟩
 hst:=⟨rfl,rfl,rfl,rfl,rfl,rfl,rfl,rfl,rfl,rfl,rfl,rfl,rfl,rfl,rfl,rfl,rfl,rfl,rfl,rfl,rfl,rfl,rfl,rfl,rfl,rfl,rfl,rfl,rfl,rfl,rfl,rfl,rfl,rfl,rfl,rfl,trivial⟩
 hby:=⟨rfl,rfl,rfl,rfl,rfl,rfl,rfl,trivial⟩
set_option maxHeartbeats 8000000
set_option linter.unusedVariables false
theorem wk {G H T:Prop}(n:Nat) (c:T) (h:H) (s:Cnt n→Wr T→Wr H→G := by
  intro zn zc zh
  repeat (
    replace zn := zn.dec
    refine ALp _ rfl ?_
    try (refine AK5 ?_; first
      | refine AHD rfl rfl ?_
      | refine AKU rfl rfl (by omega) fun zz => ?_
      | refine AKb rfl rfl (by omega) fun zz => ?_
      | refine AJv rfl rfl (by omega) fun zz => ?_
      | refine AJB rfl rfl (by omega) fun zz => ?_
      | refine Th it 40 rfl (by simp; first|done|fail) ?_
      | refine Th it 40 rfl (by (repeat' first|exact trivial|apply And.intro|omega); first|done|fail) ?_
      | refine Th it 0 rfl (by simp; first|done|fail) ?_
      | refine Th it 0 rfl (by (repeat' first|exact trivial|apply And.intro|omega); first|done|fail) ?_
      | refine ALh rfl rfl ?_)
    first
    | (refine kd0 ?_; refine ALo rfl ?_)
    | (refine kd5 ?_; first
      | refine Th it 40 rfl (by simp; first|done|fail) ?_
      | refine Th it 40 rfl (by (repeat' first|exact trivial|apply And.intro|omega); first|done|fail) ?_
      | refine Th it 0 rfl (by simp; first|done|fail) ?_
      | refine Th it 0 rfl (by (repeat' first|exact trivial|apply And.intro|omega); first|done|fail) ?_)
    | (refine kd1 ?_; first
      | refine ALz rfl rfl (by omega) fun zz => ?_
      | refine AKP rfl rfl (by omega) fun zz => ?_
      | refine AJJ rfl rfl (by omega) fun zz => ?_
      | refine AHN rfl rfl (by omega) fun zz => ?_
      | refine AI6 rfl rfl ?_
      | refine AHI rfl rfl ?_)
    | (refine kd6 ?_; first
      | (refine Da rfl (Aj _ rfl (by (repeat first|exact n0|apply n1); first|done|fail) (tb.ldT rfl) ?_); refine cur fun zz zz => ?_)
      | refine Da rfl (Jz _ rfl (by (repeat first|exact n0|apply n1); first|done|fail) (tb.ldT rfl) fun zz zz => ?_)
      | (refine Da rfl (AC1 _ rfl (by (repeat first|exact n0|apply n1); first|done|fail) (tb.ldT rfl) ?_); refine cur fun zz zz => ?_)
      | refine Da rfl (AAT _ rfl (by (repeat first|exact n0|apply n1); first|done|fail) (tb.ldT rfl) ?_)
      | refine Da rfl (ACj _ _ _ rfl (by (repeat first|exact n0|apply n1); first|done|fail) (by (repeat first|exact n0|apply n1); first|done|fail) (tb.ldT rfl) rfl (by assumption) ?_)
      | refine Da rfl (Lv _ _ _ rfl (by (repeat first|exact n0|apply n1); first|done|fail) (by (repeat first|exact n0|apply n1); first|done|fail) (tb.ldT rfl) rfl (by assumption) fun zz => ?_)
      | refine Da rfl (Hu _ _ _ rfl (by (repeat first|exact n0|apply n1); first|done|fail) (by (repeat first|exact n0|apply n1); first|done|fail) (tb.ldT rfl) rfl (by omega) fun zz zz zz zz => ?_)
      | refine Da rfl (Xn _ rfl (by (repeat first|exact n0|apply n1); first|done|fail) (tb.ldT rfl) (by omega) fun zz zz => ?_)
      | refine Da rfl (ABg _ rfl (by (repeat first|exact n0|apply n1); first|done|fail) (tb.ldT rfl) (by omega) fun zz zz => ?_)
      | refine AKL tb rfl rfl (by (repeat first|exact n0|apply n1); first|done|fail) rfl rfl ?_
      | refine AFF tb rfl rfl (by (repeat first|exact n0|apply n1); first|done|fail) rfl rfl ?_
      | refine AE4 tb rfl rfl (by (repeat first|exact n0|apply n1); first|done|fail) rfl rfl rfl ?_
      | refine Da rfl (AKF _ rfl (by (repeat first|exact n0|apply n1); first|done|fail) (tb.ldT rfl) rfl ?_)
      | refine Da rfl (AJC _ rfl (by (repeat first|exact n0|apply n1); first|done|fail) (tb.ldT rfl) rfl rfl ?_)
      | refine Da rfl (T4 ABp _ rfl (by (repeat first|exact n0|apply n1); first|done|fail) (tb.ldT rfl) fun zz => ?_)
      | refine Da rfl (T4 ACb _ rfl (by (repeat first|exact n0|apply n1); first|done|fail) (tb.ldT rfl) fun zz => ?_)
      | refine Da rfl (T4 AGQ _ rfl (by (repeat first|exact n0|apply n1); first|done|fail) (tb.ldT rfl) fun zz => ?_)
      | refine Da rfl (T4 AIE _ rfl (by (repeat first|exact n0|apply n1); first|done|fail) (tb.ldT rfl) fun zz => ?_)
      | refine Da rfl (AG7 _ rfl (by (repeat first|exact n0|apply n1); first|done|fail) (tb.ldT rfl) fun zz => ?_))
    | (refine kd7 ?_; first
      | refine Da rfl (Oo _ rfl rfl (by (repeat first|exact n0|apply n1); first|done|fail) (tb.ldT rfl) rfl rfl (by simp [Value.oneCell']; first|done|fail) ?_)
      | refine Da rfl (AEm _ rfl rfl (by (repeat first|exact n0|apply n1); first|done|fail) rfl (tb.ldT rfl) (by simp [Value.oneCell']; first|done|fail) (Nat.le_of_ble_eq_true rfl) rfl ?_)
      | refine Da rfl (Qd _ rfl rfl (by (repeat first|exact n0|apply n1); first|done|fail) rfl (tb.ldT rfl) rfl (Nat.le_of_ble_eq_true rfl) ?_)
      | refine Da rfl (Tn _ _ rfl rfl (by (repeat first|exact n0|apply n1); first|done|fail) (tb.ldT rfl) rfl (by omega) ?_)
      | refine Da rfl (AAM _ rfl rfl (by (repeat first|exact n0|apply n1); first|done|fail) (tb.ldT rfl) (by omega) ?_))
    | (refine kd8 ?_; first
      | refine Da rfl (AJD rfl rfl (by (repeat first|exact n0|apply n1); first|done|fail) (tb.slT rfl) (by omega) (by omega) (by assumption) fun zz zz zz => ?_)
      | refine Da rfl (AF0 rfl rfl (by (repeat first|exact n0|apply n1); first|done|fail) (tb.slT rfl) (by omega) (by omega) fun zz zz zz zz => ?_)
      | refine Da rfl (Yz rfl rfl (tb.slT rfl) (by omega) (by omega) ?_)
      | refine Da rfl (Zo rfl rfl (tb.slT rfl) (by omega) (by omega) ?_))
    | (refine kd9 ?_; refine AHQ tb rfl rfl rfl ?_)
    | (refine AKM ?_; first
      | refine AFj rfl rfl fun zz => ?_
      | refine AFI rfl rfl rfl fun zz => ?_)
    | (refine AKa ?_; refine Da rfl (Qh (tb.zoT rfl) fun zz => ?_))
    | (refine ALs ?_; first
      | refine Da rfl (ACX (tb.slT rfl) (tb.zoT rfl) rfl rfl rfl rfl (by decide) (by decide) rfl fun zz => ?_)
      | refine Da rfl (ADt (tb.slT rfl) fun zz => ?_))
    | (refine AK9 ?_; first
      | refine Da rfl (AIA rfl rfl (tb.slT rfl) (tb.zoT rfl) (tb.byt rfl) (by omega) (by omega) (by omega) fun zz => ?_))
    | (refine AK7 ?_; refine Da rfl (Tq (tb.stT rfl) (tb.zoT rfl) rfl rfl ?_))
    | (refine AKf ?_; refine AKR tb rfl rfl rfl ?_)
    | (refine ALA ?_; refine Da rfl (AJE rfl ?_))
    | (refine AKw ?_; refine pop zc fun zd zc => ?_;
              (first
         | refine K9 rfl rfl (by (repeat first|exact Ls|refine Lw (by (repeat first|exact Lt|refine L6 ?_); first|done|fail) ?_); first|done|fail) zd.h ?_
         | refine K9 rfl rfl (by (repeat first|exact Ls|refine Lw (by (repeat first|exact Lt|refine L6 ?_); first|done|fail) ?_); first|done|fail) (zd.h (by first|omega|assumption|rfl)) ?_
         | refine K9 rfl rfl (by (repeat first|exact Ls|refine Lw (by (repeat first|exact Lt|refine L6 ?_); first|done|fail) ?_); first|done|fail) (zd.h (by first|omega|assumption|rfl) (by first|omega|assumption|rfl)) ?_
         | refine K9 rfl rfl (by (repeat first|exact Ls|refine Lw (by (repeat first|exact Lt|refine L6 ?_); first|done|fail) ?_); first|done|fail) (zd.h (by first|omega|assumption|rfl) (by first|omega|assumption|rfl) (by first|omega|assumption|rfl)) ?_
         | refine K9 rfl rfl (by (repeat first|exact Ls|refine Lw (by (repeat first|exact Lt|refine L6 ?_); first|done|fail) ?_); first|done|fail) (zd.h (by first|omega|assumption|rfl) (by first|omega|assumption|rfl) (by first|omega|assumption|rfl) (by first|omega|assumption|rfl)) ?_
         | refine K9 rfl rfl (by (repeat first|exact Ls|refine Lw (by (repeat first|exact Lt|refine L6 ?_); first|done|fail) ?_); first|done|fail) (zd.h (by first|omega|assumption|rfl) (by first|omega|assumption|rfl) (by first|omega|assumption|rfl) (by first|omega|assumption|rfl) (by first|omega|assumption|rfl)) ?_
         | refine K9 rfl rfl (by (repeat first|exact Ls|refine Lw (by (repeat first|exact Lt|refine L6 ?_); first|done|fail) ?_); first|done|fail) (zd.h (by first|omega|assumption|rfl) (by first|omega|assumption|rfl) (by first|omega|assumption|rfl) (by first|omega|assumption|rfl) (by first|omega|assumption|rfl) (by first|omega|assumption|rfl)) ?_
         | refine K9 rfl rfl (by (repeat first|exact Ls|refine Lw (by (repeat first|exact Lt|refine L6 ?_); first|done|fail) ?_); first|done|fail) (zd.h (by first|omega|assumption|rfl) (by first|omega|assumption|rfl) (by first|omega|assumption|rfl) (by first|omega|assumption|rfl) (by first|omega|assumption|rfl) (by first|omega|assumption|rfl) (by first|omega|assumption|rfl)) ?_
         | refine K9 rfl rfl (by (repeat first|exact Ls|refine Lw (by (repeat first|exact Lt|refine L6 ?_); first|done|fail) ?_); first|done|fail) (zd.h (by first|omega|assumption|rfl) (by first|omega|assumption|rfl) (by first|omega|assumption|rfl) (by first|omega|assumption|rfl) (by first|omega|assumption|rfl) (by first|omega|assumption|rfl) (by first|omega|assumption|rfl) (by first|omega|assumption|rfl)) ?_
         | refine Li rfl rfl (by (repeat first|exact n0|apply n1); first|done|fail) (by (repeat first|exact Ls|refine Lw (by (repeat first|exact Lt|refine L6 ?_); first|done|fail) ?_); first|done|fail) zd.h ?_
         | refine Li rfl rfl (by (repeat first|exact n0|apply n1); first|done|fail) (by (repeat first|exact Ls|refine Lw (by (repeat first|exact Lt|refine L6 ?_); first|done|fail) ?_); first|done|fail) (zd.h (by first|omega|assumption|rfl)) ?_
         | refine Li rfl rfl (by (repeat first|exact n0|apply n1); first|done|fail) (by (repeat first|exact Ls|refine Lw (by (repeat first|exact Lt|refine L6 ?_); first|done|fail) ?_); first|done|fail) (zd.h (by first|omega|assumption|rfl) (by first|omega|assumption|rfl)) ?_
         | refine Li rfl rfl (by (repeat first|exact n0|apply n1); first|done|fail) (by (repeat first|exact Ls|refine Lw (by (repeat first|exact Lt|refine L6 ?_); first|done|fail) ?_); first|done|fail) (zd.h (by first|omega|assumption|rfl) (by first|omega|assumption|rfl) (by first|omega|assumption|rfl)) ?_
         | refine Li rfl rfl (by (repeat first|exact n0|apply n1); first|done|fail) (by (repeat first|exact Ls|refine Lw (by (repeat first|exact Lt|refine L6 ?_); first|done|fail) ?_); first|done|fail) (zd.h (by first|omega|assumption|rfl) (by first|omega|assumption|rfl) (by first|omega|assumption|rfl) (by first|omega|assumption|rfl)) ?_
         | refine Li rfl rfl (by (repeat first|exact n0|apply n1); first|done|fail) (by (repeat first|exact Ls|refine Lw (by (repeat first|exact Lt|refine L6 ?_); first|done|fail) ?_); first|done|fail) (zd.h (by first|omega|assumption|rfl) (by first|omega|assumption|rfl) (by first|omega|assumption|rfl) (by first|omega|assumption|rfl) (by first|omega|assumption|rfl)) ?_
         | refine Li rfl rfl (by (repeat first|exact n0|apply n1); first|done|fail) (by (repeat first|exact Ls|refine Lw (by (repeat first|exact Lt|refine L6 ?_); first|done|fail) ?_); first|done|fail) (zd.h (by first|omega|assumption|rfl) (by first|omega|assumption|rfl) (by first|omega|assumption|rfl) (by first|omega|assumption|rfl) (by first|omega|assumption|rfl) (by first|omega|assumption|rfl)) ?_
         | refine Li rfl rfl (by (repeat first|exact n0|apply n1); first|done|fail) (by (repeat first|exact Ls|refine Lw (by (repeat first|exact Lt|refine L6 ?_); first|done|fail) ?_); first|done|fail) (zd.h (by first|omega|assumption|rfl) (by first|omega|assumption|rfl) (by first|omega|assumption|rfl) (by first|omega|assumption|rfl) (by first|omega|assumption|rfl) (by first|omega|assumption|rfl) (by first|omega|assumption|rfl)) ?_
         | refine Li rfl rfl (by (repeat first|exact n0|apply n1); first|done|fail) (by (repeat first|exact Ls|refine Lw (by (repeat first|exact Lt|refine L6 ?_); first|done|fail) ?_); first|done|fail) (zd.h (by first|omega|assumption|rfl) (by first|omega|assumption|rfl) (by first|omega|assumption|rfl) (by first|omega|assumption|rfl) (by first|omega|assumption|rfl) (by first|omega|assumption|rfl) (by first|omega|assumption|rfl) (by first|omega|assumption|rfl)) ?_
         | refine Lj rfl rfl (by (repeat first|exact Ls|refine Lw (by (repeat first|exact Lt|refine L6 ?_); first|done|fail) ?_); first|done|fail) zd.h rfl ?_
         | refine Lj rfl rfl (by (repeat first|exact Ls|refine Lw (by (repeat first|exact Lt|refine L6 ?_); first|done|fail) ?_); first|done|fail) (zd.h (by first|omega|assumption|rfl)) rfl ?_
         | refine Lj rfl rfl (by (repeat first|exact Ls|refine Lw (by (repeat first|exact Lt|refine L6 ?_); first|done|fail) ?_); first|done|fail) (zd.h (by first|omega|assumption|rfl) (by first|omega|assumption|rfl)) rfl ?_
         | refine Lj rfl rfl (by (repeat first|exact Ls|refine Lw (by (repeat first|exact Lt|refine L6 ?_); first|done|fail) ?_); first|done|fail) (zd.h (by first|omega|assumption|rfl) (by first|omega|assumption|rfl) (by first|omega|assumption|rfl)) rfl ?_
         | refine Lj rfl rfl (by (repeat first|exact Ls|refine Lw (by (repeat first|exact Lt|refine L6 ?_); first|done|fail) ?_); first|done|fail) (zd.h (by first|omega|assumption|rfl) (by first|omega|assumption|rfl) (by first|omega|assumption|rfl) (by first|omega|assumption|rfl)) rfl ?_
         | refine Lj rfl rfl (by (repeat first|exact Ls|refine Lw (by (repeat first|exact Lt|refine L6 ?_); first|done|fail) ?_); first|done|fail) (zd.h (by first|omega|assumption|rfl) (by first|omega|assumption|rfl) (by first|omega|assumption|rfl) (by first|omega|assumption|rfl) (by first|omega|assumption|rfl)) rfl ?_
         | refine Lj rfl rfl (by (repeat first|exact Ls|refine Lw (by (repeat first|exact Lt|refine L6 ?_); first|done|fail) ?_); first|done|fail) (zd.h (by first|omega|assumption|rfl) (by first|omega|assumption|rfl) (by first|omega|assumption|rfl) (by first|omega|assumption|rfl) (by first|omega|assumption|rfl) (by first|omega|assumption|rfl)) rfl ?_
         | refine Lj rfl rfl (by (repeat first|exact Ls|refine Lw (by (repeat first|exact Lt|refine L6 ?_); first|done|fail) ?_); first|done|fail) (zd.h (by first|omega|assumption|rfl) (by first|omega|assumption|rfl) (by first|omega|assumption|rfl) (by first|omega|assumption|rfl) (by first|omega|assumption|rfl) (by first|omega|assumption|rfl) (by first|omega|assumption|rfl)) rfl ?_
         | refine Lj rfl rfl (by (repeat first | exact Ls | refine Lw (by (repeat first | exact Lt | refine L6 ?_); first | done | fail) ?_); first | done | fail) (zd.h (by first | omega | assumption | rfl) (by first | omega | assumption | rfl) (by first | omega | assumption | rfl) (by first | omega | assumption | rfl) (by first | omega | assumption | rfl) (by first | omega | assumption | rfl) (by first | omega | assumption | rfl) (by first | omega | assumption | rfl)) rfl ?_);
                        (repeat refine F4 fun zz => ?_); refine F2 ?_)
    | (refine kd2 ?_; apply AHJ it mx; (· rfl); (· rfl)
       repeat (
         apply ALl; (· rfl)
         first
         | (apply kd5; first
           | (apply AB7; (· rfl); (· simp; first|done|fail))
           | (apply AB7; (· rfl); (· exact (by (repeat' first|exact trivial|apply And.intro|omega); first|done|fail)))
           | (apply M3; (· rfl); (· exact fun _ => Sx it rfl (by trivial) Af)))
         | (apply ALB; first
           | (apply M3; (· rfl); (· exact fun _ => AJo it rfl (by (repeat' first|exact trivial|apply And.intro|omega); first|done|fail) (by omega) Af))
           | (apply AB7; (· rfl); (· exact (by (repeat' first|exact trivial|apply And.intro|omega); first|done|fail))))
         | (apply ALm; first
           | (apply M3; (· rfl); (· exact fun _ => AJd it rfl (by trivial) (by omega) Af))
           | (apply M3; (· rfl); (· exact fun _ => Tm it rfl (by trivial) (by omega) Af))
           | (apply M3; (· rfl); (· exact fun _ => AHE it rfl (by trivial) (by omega) Af))
           | (apply M3; (· rfl); (· exact fun _ => AHh it rfl (by trivial) (by omega) Af))
           | (apply AB7; (· rfl); (· simp; first|done|fail)))
         | (apply kd6; first
           | (apply M3; (· rfl); (· exact fun _ => Aj _ rfl (by (repeat first|exact n0|apply n1); first|done|fail) (tb.ldT rfl) fun _ => Af))
           | (apply AAo; (· rfl); (· exact fun _ => Jz _ rfl (by (repeat first|exact n0|apply n1); first|done|fail) (tb.ldT rfl) fun _ _ => E7 0 rfl); intro zz zz)
           | (apply M3; (· rfl); (· exact fun _ => AC1 _ rfl (by (repeat first|exact n0|apply n1); first|done|fail) (tb.ldT rfl) fun _ => Af))
           | (apply M3; (· rfl); (· exact fun _ => AAT _ rfl (by (repeat first|exact n0|apply n1); first|done|fail) (tb.ldT rfl) Af))
           | (apply Ac; (· rfl); (· exact Bn _ rfl (by (repeat first|exact n0|apply n1); first|done|fail) (tb.ldT rfl) rfl))
           | (apply Ac; (· rfl); (· exact B2 _ rfl (by (repeat first|exact n0|apply n1); first|done|fail) (tb.ldT rfl) rfl))
           | (apply Ac; (· rfl); (· exact AAN _ rfl (by (repeat first|exact n0|apply n1); first|done|fail) (tb.ldT rfl) rfl rfl))
           | (apply Ac; (· rfl); (· exact AFd _ rfl (by (repeat first|exact n0|apply n1); first|done|fail) (tb.ldT rfl) (by assumption)))
           | (apply Ac; (· rfl); (· exact AFi _ rfl (by (repeat first|exact n0|apply n1); first|done|fail) (tb.ldT rfl) (by assumption)))
           | (apply Ac; (· rfl); (· exact AEt _ rfl (by (repeat first|exact n0|apply n1); first|done|fail) (tb.ldT rfl) rfl))
           | (apply Ac; (· rfl); (· exact AI2 _ rfl (by (repeat first|exact n0|apply n1); first|done|fail) (tb.ldT rfl) rfl rfl))
           | (apply Ac; (· rfl); (· exact Hk _ _ _ rfl (by (repeat first|exact n0|apply n1); first|done|fail) (by (repeat first|exact n0|apply n1); first|done|fail) (tb.ldT rfl) rfl (by assumption)))
           | (apply Ac; (· rfl); (· exact A6 _ _ _ rfl (by (repeat first|exact n0|apply n1); first|done|fail) (by (repeat first|exact n0|apply n1); first|done|fail) (tb.ldT rfl) rfl (by assumption)))
           | (apply Dl; (· rfl); (· exact Sk _ _ _ rfl (by (repeat first|exact n0|apply n1); first|done|fail) (by (repeat first|exact n0|apply n1); first|done|fail) (tb.ldT rfl) rfl (by assumption)); intro zz zz)
           | (apply AKd ABp; (· rfl); (· exact fun _ => T4 ABp _ rfl (by (repeat first|exact n0|apply n1); first|done|fail) (tb.ldT rfl) fun _ => AIK _); intro zz)
           | (apply AKd ACb; (· rfl); (· exact fun _ => T4 ACb _ rfl (by (repeat first|exact n0|apply n1); first|done|fail) (tb.ldT rfl) fun _ => AIK _); intro zz))
         | (apply kd8; first
           | (apply ALn; (· rfl); (· exact fun _ => AF0 rfl rfl (by (repeat first|exact n0|apply n1); first|done|fail) (tb.slT rfl) (by omega) (by omega) fun z hz b o => Ky default hz 0 rfl); intro zz zz)
           | (apply M3; (· rfl); (· exact fun _ => Yz rfl rfl (tb.slT rfl) (by omega) (by omega) Af))
           | (apply M3; (· rfl); (· exact fun _ => Zo rfl rfl (tb.slT rfl) (by omega) (by omega) Af)))
         | (apply kd9; (apply M3; (· rfl); (· exact fun _ => A3 rfl (tb.fld rfl) Af)))
         | (apply AKM; (apply AH5; (· rfl); (· rfl); (· rfl); intro zz))
         | (apply AKa; (apply Ws; (· rfl); (· exact tb.zoT rfl); intro zz))
         | (apply AKf; (apply M3; (· rfl); (· exact fun _ => P1 (tb.slT rfl) rfl Af)))
         | (apply AKw; (apply pop zc; intro zd zc); first
           | (apply M3; (· rfl); (· exact fun _ => Eo rfl (by (repeat first|exact Ls|refine Lw (by (repeat first|exact Lt|refine L6 ?_); first|done|fail) ?_); first|done|fail) zd.h (F2 Af)))
           | (apply M3; (· rfl); (· exact fun _ => Eo rfl (by (repeat first|exact Ls|refine Lw (by (repeat first|exact Lt|refine L6 ?_); first|done|fail) ?_); first|done|fail) (zd.h (by first|omega|assumption|rfl)) (F2 Af)))
           | (apply M3; (· rfl); (· exact fun _ => Eo rfl (by (repeat first|exact Ls|refine Lw (by (repeat first|exact Lt|refine L6 ?_); first|done|fail) ?_); first|done|fail) (zd.h (by first|omega|assumption|rfl) (by first|omega|assumption|rfl)) (F2 Af)))
           | (apply M3; (· rfl); (· exact fun _ => Eo rfl (by (repeat first|exact Ls|refine Lw (by (repeat first|exact Lt|refine L6 ?_); first|done|fail) ?_); first|done|fail) (zd.h (by first|omega|assumption|rfl) (by first|omega|assumption|rfl) (by first|omega|assumption|rfl)) (F2 Af)))
           | (apply M3; (· rfl); (· exact fun _ => Eo rfl (by (repeat first|exact Ls|refine Lw (by (repeat first|exact Lt|refine L6 ?_); first|done|fail) ?_); first|done|fail) (zd.h (by first|omega|assumption|rfl) (by first|omega|assumption|rfl) (by first|omega|assumption|rfl) (by first|omega|assumption|rfl)) (F2 Af)))
           | (apply M3; (· rfl); (· exact fun _ => Eo rfl (by (repeat first|exact Ls|refine Lw (by (repeat first|exact Lt|refine L6 ?_); first|done|fail) ?_); first|done|fail) (zd.h (by first|omega|assumption|rfl) (by first|omega|assumption|rfl) (by first|omega|assumption|rfl) (by first|omega|assumption|rfl) (by first|omega|assumption|rfl)) (F2 Af)))
           | (apply M3; (· rfl); (· exact fun _ => Eo rfl (by (repeat first|exact Ls|refine Lw (by (repeat first|exact Lt|refine L6 ?_); first|done|fail) ?_); first|done|fail) (zd.h (by first|omega|assumption|rfl) (by first|omega|assumption|rfl) (by first|omega|assumption|rfl) (by first|omega|assumption|rfl) (by first|omega|assumption|rfl) (by first|omega|assumption|rfl)) (F2 Af)))
           | (apply M3; (· rfl); (· exact fun _ => Eo rfl (by (repeat first|exact Ls|refine Lw (by (repeat first|exact Lt|refine L6 ?_); first|done|fail) ?_); first|done|fail) (zd.h (by first|omega|assumption|rfl) (by first|omega|assumption|rfl) (by first|omega|assumption|rfl) (by first|omega|assumption|rfl) (by first|omega|assumption|rfl) (by first|omega|assumption|rfl) (by first|omega|assumption|rfl)) (F2 Af)))
           | (apply M3; (· rfl); (· exact fun _ => Eo rfl (by (repeat first|exact Ls|refine Lw (by (repeat first|exact Lt|refine L6 ?_); first|done|fail) ?_); first|done|fail) (zd.h (by first|omega|assumption|rfl) (by first|omega|assumption|rfl) (by first|omega|assumption|rfl) (by first|omega|assumption|rfl) (by first|omega|assumption|rfl) (by first|omega|assumption|rfl) (by first|omega|assumption|rfl) (by first|omega|assumption|rfl)) (F2 Af)))
           | (apply AAo; (· rfl); (· exact fun _ => Eo rfl (by (repeat first|exact Ls|refine Lw (by (repeat first|exact Lt|refine L6 ?_); first|done|fail) ?_); first|done|fail) zd.h (F4 fun _ => F4 fun _ => F2 (E7 0 rfl))); intro zz zz)
           | (apply AAo; (· rfl); (· exact fun _ => Eo rfl (by (repeat first|exact Ls|refine Lw (by (repeat first|exact Lt|refine L6 ?_); first|done|fail) ?_); first|done|fail) (zd.h (by first|omega|assumption|rfl)) (F4 fun _ => F4 fun _ => F2 (E7 0 rfl))); intro zz zz)
           | (apply AAo; (· rfl); (· exact fun _ => Eo rfl (by (repeat first|exact Ls|refine Lw (by (repeat first|exact Lt|refine L6 ?_); first|done|fail) ?_); first|done|fail) (zd.h (by first|omega|assumption|rfl) (by first|omega|assumption|rfl)) (F4 fun _ => F4 fun _ => F2 (E7 0 rfl))); intro zz zz)
           | (apply AAo; (· rfl); (· exact fun _ => Eo rfl (by (repeat first|exact Ls|refine Lw (by (repeat first|exact Lt|refine L6 ?_); first|done|fail) ?_); first|done|fail) (zd.h (by first|omega|assumption|rfl) (by first|omega|assumption|rfl) (by first|omega|assumption|rfl)) (F4 fun _ => F4 fun _ => F2 (E7 0 rfl))); intro zz zz)
           | (apply AAo; (· rfl); (· exact fun _ => Eo rfl (by (repeat first|exact Ls|refine Lw (by (repeat first|exact Lt|refine L6 ?_); first|done|fail) ?_); first|done|fail) (zd.h (by first|omega|assumption|rfl) (by first|omega|assumption|rfl) (by first|omega|assumption|rfl) (by first|omega|assumption|rfl)) (F4 fun _ => F4 fun _ => F2 (E7 0 rfl))); intro zz zz)
           | (apply AAo; (· rfl); (· exact fun _ => Eo rfl (by (repeat first|exact Ls|refine Lw (by (repeat first|exact Lt|refine L6 ?_); first|done|fail) ?_); first|done|fail) (zd.h (by first|omega|assumption|rfl) (by first|omega|assumption|rfl) (by first|omega|assumption|rfl) (by first|omega|assumption|rfl) (by first|omega|assumption|rfl)) (F4 fun _ => F4 fun _ => F2 (E7 0 rfl))); intro zz zz)
           | (apply AAo; (· rfl); (· exact fun _ => Eo rfl (by (repeat first|exact Ls|refine Lw (by (repeat first|exact Lt|refine L6 ?_); first|done|fail) ?_); first|done|fail) (zd.h (by first|omega|assumption|rfl) (by first|omega|assumption|rfl) (by first|omega|assumption|rfl) (by first|omega|assumption|rfl) (by first|omega|assumption|rfl) (by first|omega|assumption|rfl)) (F4 fun _ => F4 fun _ => F2 (E7 0 rfl))); intro zz zz)
           | (apply AAo; (· rfl); (· exact fun _ => Eo rfl (by (repeat first|exact Ls|refine Lw (by (repeat first|exact Lt|refine L6 ?_); first|done|fail) ?_); first|done|fail) (zd.h (by first|omega|assumption|rfl) (by first|omega|assumption|rfl) (by first|omega|assumption|rfl) (by first|omega|assumption|rfl) (by first|omega|assumption|rfl) (by first|omega|assumption|rfl) (by first|omega|assumption|rfl)) (F4 fun _ => F4 fun _ => F2 (E7 0 rfl))); intro zz zz)
           | (apply AAo; (· rfl); (· exact fun _ => Eo rfl (by (repeat first|exact Ls|refine Lw (by (repeat first|exact Lt|refine L6 ?_); first|done|fail) ?_); first|done|fail) (zd.h (by first|omega|assumption|rfl) (by first|omega|assumption|rfl) (by first|omega|assumption|rfl) (by first|omega|assumption|rfl) (by first|omega|assumption|rfl) (by first|omega|assumption|rfl) (by first|omega|assumption|rfl) (by first|omega|assumption|rfl)) (F4 fun _ => F4 fun _ => F2 (E7 0 rfl))); intro zz zz))
         )
       refine B7 rfl ?_)
    | refine ALj ?_)
  repeat (revert zz)
  exact zh.h):G := s ⟨trivial⟩ ⟨c⟩ ⟨h⟩
theorem ge {G:Prop}(s:G := by
  refine AKy rfl rfl (by (repeat refine Exists.intro _ ?_); exact ⟨rfl, rfl, rfl⟩) (by (repeat first|exact Ls|refine Lw (by (repeat first|exact Lt|refine L6 ?_); first|done|fail) ?_); first|done|fail)):G := s
theorem gc {G:Prop}(s:G := by
  refine AI3 rfl (by (repeat first|exact .nil|refine .tmp rfl ?_|refine .agg _ rfl (by (repeat first|exact n0|apply n1); first|done|fail) (tb.ldT rfl) rfl ?_|refine .one _ rfl (by (repeat first|exact n0|apply n1); first|done|fail) (tb.ldT rfl) ?_); first|done|fail) (by (repeat refine Exists.intro _ ?_); exact ⟨rfl, rfl, rfl⟩) (by (repeat first|exact Ls|refine Lw (by (repeat first|exact Lt|refine L6 ?_); first|done|fail) ?_); first|done|fail)):G := s
theorem tw {G A:Prop}(a:A) (s:A→G := by
  intro za
  refine AK4 za rfl (by (repeat first|exact Ls|refine Lw (by (repeat first|exact Lt|refine L6 ?_); first|done|fail) ?_); first|done|fail) (by first|exact Zr rfl|((repeat first|exact fzz _|refine fcc rfl ?_|refine fii rfl (by omega) ?_|refine fss rfl (by omega) (by omega) ?_); first|done|fail))):G := s a
theorem cz:True := trivial
theorem ct {a b:Prop}(x:a) (y:b):a∧b := ⟨x, y⟩
end Go.Proofs.YteadncphjconmaaGreat
namespace Go.Fw
open Go.ChangeShapes Go.WideShapes Go.RowKit
def Mq {α:Type}(P:Program) (t:TypeId) (E:Enc α):Prop :=
 P.cellsOf t=E.size∧P.bytesOf t=E.bytes∧∀ {H:Type}(enc:TypeId×Value→H) (W:World) (fuel:Nat) (cs:List Value) (d:DataW H) (ps:List MemPlace),
  DataW.trod enc P W 0 (fun _=>true) true fuel t cs=some (d,ps)→(∀ n∈d.weights P t,n≤reachBytes)→∃ x:α,E.rd W (fun k=>k<W.heap.size) cs x
theorem AAV {k:IntKind}{n:Int}(h:(Lit.int k n).wf=true):Bf k n:=by
 cases k <;> simp [Lit.wf,IntKind.min,IntKind.max,IntKind.bits,IntKind.signed] at h <;> simp only [Bf] <;> omega
section
variable {P:Program}{t:TypeId}
theorem AFv {k:IntKind}{by':Nat}(ht:P.underlying t=some (.int k)) (hc:P.cellsOf t=1) (hb:P.bytesOf t=by'):Mq P t (Ca k by') :=
 ⟨hc,hb,fun enc W fuel cs d ps h _=>by
  obtain ⟨n,rfl,_,hw⟩:=DataW.trod_int ht h
  exact ⟨n,rfl,AAV hw⟩⟩
theorem Np {W:World}{a:Addr}{n:Nat}{cs:List Value}(h:W.cells? 0 a n=some cs) (hn:0<n):a.spot=none∧a.block<W.heap.size∧Fg W a.block a.off n cs:=by
 obtain ⟨_,hl,hc⟩:=World.cells?_some h
 have h0:=hc 0 hn
 rw [List.getElem?_eq_getElem (by omega)] at h0
 have e0:a.add 0=a:=rfl
 rw [e0] at h0
 unfold World.cell? at h0
 split at h0
 ·rename_i c T fr hb
  split at h0
  ·cases h0
  ·rename_i hs
   have hs':a.spot=none:=by cases ha:a.spot with
    | none=>rfl
    | some _=>rw [ha] at hs;simp at hs
   refine ⟨hs',?_,c,T,fr,hb,?_,hl⟩
   ·rcases Nat.lt_or_ge a.block W.heap.size with h|h
    ·exact h
    ·rw [Array.getElem?_eq_none h] at hb;cases hb
   ·apply List.ext_getElem?
    intro i
    by_cases hi:i<n
    ·have:=hc i hi
     unfold World.cell? Addr.add at this
     rw [List.getElem?_take,if_pos hi,List.getElem?_drop,← this]
     by_cases h0:i=0
     ·subst h0;simp [hb,hs']
     ·simp [h0,hb]
    ·rw [List.getElem?_take,if_neg hi,List.getElem?_eq_none (by omega)]
 ·cases h0
theorem ACS {α:Type}:∀ (n:Nat) (p:Nat→α→Prop),(∀ i,i<n→∃ x,p i x)→∃ l:List α,l.length=n∧∀ i x,l[i]?=some x→p i x:=by
 intro n p h
 refine ⟨List.ofFn (fun i:Fin n=>Classical.choose (h i.1 i.2)),by simp,fun i x hx=>?_⟩
 have hi:i<n:=by
  have:=(List.getElem?_eq_some_iff.1 hx).1
  simpa using this
 have e:x=Classical.choose (h i hi):=by
  rw [List.getElem?_eq_getElem (by simpa using hi),List.getElem_ofFn] at hx
  exact (Option.some.inj hx).symm
 rw [e]
 exact Classical.choose_spec (h i hi)
theorem Un {H:Type}{e:TypeId}:∀ {l:List (DataW H)}{d:DataW H},d∈l→∀ n∈d.weights P e,n∈DataW.weightsAll P e l
 | [],_,hd,_,_=>by cases hd
 | x::l,d,hd,n,hn=>by
  simp only [DataW.weightsAll,List.mem_append]
  rcases List.mem_cons.1 hd with rfl|hd
  ·exact .inl hn
  ·exact .inr (Un hd n hn)
theorem ACu {α:Type}{E:Enc α}{e:TypeId}(ht:P.underlying t=some (.slice e)) (hE:Mq P e E) (hc:P.cellsOf t=1) (hb:P.bytesOf t=24) (hs:0<E.size):Mq P t (Ar E) :=
 ⟨hc,hb,fun enc W fuel cs d ps h hw=>by
  obtain ⟨he,hby,hE⟩:=hE
  rcases Deep.open_slice ht h with ⟨rfl,_⟩|⟨a,len,cap,m,n,D,Pl,rfl,_,hl,_,hm,hx,hel⟩
  ·exact ⟨[],none,0,rfl,Nat.zero_le _,by simp,.inl rfl⟩
  ·simp only [Prod.mk.injEq] at hx
   obtain ⟨rfl,_⟩:=hx
   simp only [if_true] at hm
   subst hm
   have hsz:len*E.bytes≤140737488355328:=by
    have h1:((List.range len).map D).length+((List.range (m-len)).map fun j=>D (len+j)).length=m:=by simp;omega
    have h2:=hw (m*P.bytesOf e) (by rw [DataW.weights,ht];show m*P.bytesOf e∈_::_;rw [h1];exact List.mem_cons_self)
    rw [hby] at h2
    exact Nat.le_trans (Nat.mul_le_mul_right _ hl) (Nat.le_trans h2 (by decide))
   have each:∀ i,i<len→∃ x:α,(a.spot=none∧a.block<W.heap.size)∧∃ vs,Fg W a.block (a.off+i*E.size) E.size vs∧E.rd W (fun k=>k<W.heap.size) vs x:=by
    intro i hi
    obtain ⟨cs',h1,h2⟩:=hel i (by omega)
    obtain ⟨x,hxr⟩:=hE enc W n cs' _ _ h2 (fun k hk=>hw k (by
     rw [DataW.weights,ht]
     refine List.mem_cons_of_mem _ (List.mem_append_left _ (Un (List.mem_map.2 ⟨i,List.mem_range.2 hi,rfl⟩) k hk))))
    rw [he] at h1
    obtain ⟨hsp,hlt,hca⟩:=Np h1 hs
    have hadd:(a.add (i*E.size)).block=a.block∧(a.add (i*E.size)).off=a.off+i*E.size:=by
     unfold Addr.add
     split
     ·rename_i h;rw [h];exact ⟨rfl,rfl⟩
     ·exact ⟨rfl,rfl⟩
    rw [hadd.1] at hlt
    rw [hadd.1,hadd.2] at hca
    have hsp0:a.spot=none:=by
     obtain ⟨cs0,h10,_⟩:=hel 0 (by omega)
     rw [he,Nat.zero_mul] at h10
     exact (Np h10 hs).1
    exact ⟨x,⟨hsp0,hlt⟩,cs',hca,hxr⟩
   obtain ⟨l,hll,hlx⟩:=ACS len _ each
   refine ⟨l,some a,m,by rw [hll],by omega,by rw [hll];exact hsz,?_⟩
   cases l with
   | nil=>exact .inl rfl
   | cons y l =>
    obtain ⟨⟨h1,h2⟩,_⟩:=hlx 0 y rfl
    refine .inr ⟨a.block,a.off,?_,h2,fun i x hi=>(hlx i x hi).2⟩
    cases a;simp_all⟩
def Wj {α:Type}(P:Program) (fs:List Field) (off:Nat) (E:Enc α):Prop :=
 ∀ {H:Type}(enc:TypeId×Value→H) (W:World) (n:Nat) (cs:List Value) (xs:List (DataW H×List MemPlace)),xs.length=fs.length →
  (∀ (i:Nat) (f:Field),fs[i]?=some f→DataW.trod enc P W 0 (fun _=>true) true n f.type ((cs.drop f.offset).take (P.cellsOf f.type))=xs[i]?)→cs.length=off+E.size →
  (∀ n∈DataW.weightsEach P (fs.map fun f:Field=>f.type) (xs.map (·.1)),n≤reachBytes)→∃ x:α,E.rd W (fun k=>k<W.heap.size) (cs.drop off) x
theorem K6 {α:Type}{E:Enc α}{f:Field}{off:Nat}(hf:f.offset=off) (hE:Mq P f.type E):Wj P [f] off E:=fun enc W n cs xs hl h hc hw=>by
 match xs,hl with
 | [x],_ =>
  have h0:=h 0 f rfl
  obtain ⟨d,ps⟩:=x
  rw [hf,hE.1,List.take_of_length_le (by rw [List.length_drop];omega)] at h0
  exact hE.2.2 enc W n _ d ps h0 (fun k hk=>hw k (by simp [DataW.weightsEach,hk]))
theorem Eh {α β:Type}{E:Enc α}{F:Enc β}{f:Field}{fs:List Field}{off:Nat}(by':Nat) (hf:f.offset=off) (hE:Mq P f.type E) (hF:Wj P fs (off+E.size) F):Wj P (f::fs) off (C7 E F by'):=fun enc W n cs xs hl h hc hw=>by
 match xs,hl with
 | x::xs,hl =>
  have h0:=h 0 f rfl
  obtain ⟨d,ps⟩:=x
  rw [hf,hE.1] at h0
  have hc':cs.length=off+(E.size+F.size):=hc
  obtain ⟨y,hy⟩:=hE.2.2 enc W n _ d ps h0 (fun k hk=>hw k (by simp [DataW.weightsEach,hk]))
  obtain ⟨z,hz⟩:=hF enc W n cs xs (by simpa using hl) (fun i g hg=>by simpa using h (i+1) g (by simpa using hg)) (by omega) (fun k hk=>hw k (by
   simp only [List.map_cons,DataW.weightsEach,List.mem_append];exact .inr hk))
  refine ⟨(y,z),_,_,?_,hy,hz⟩
  rw [← List.drop_drop,List.take_append_drop]
theorem K4 {α:Type}{E:Enc α}{fs:Array Field}(ht:P.underlying t=some (.struct fs)) (hE:Wj P fs.toList 0 E) (hc:P.cellsOf t=E.size) (hb:P.bytesOf t=E.bytes):Mq P t E :=
 ⟨hc,hb,fun enc W fuel cs d ps h hw=>by
  obtain ⟨xs,n,_,hx,hl,hlen,hf⟩:=DataW.trod_struct ht h
  simp only [Prod.mk.injEq] at hx
  obtain ⟨rfl,_⟩:=hx
  obtain ⟨x,hx⟩:=hE enc W n cs xs (by simpa using hlen) (fun i f hi=>hf i f (by simpa using hi)) (by rw [hl,hc];omega) (fun k hk=>hw k (by rw [DataW.weights,ht];exact hk))
  exact ⟨x,by simpa using hx⟩⟩
def Arg (P:Program) (W:World) (t:TypeId) (v:Value):Prop :=
 (∃ b,Value.okWide P W .any b t v)∧∃ (H:Type) (enc:TypeId×Value→H) (d:DataW H) (p:List MemPlace),DataW.Trod enc P W 0 (fun _=>true) true t v d p∧∀ n∈d.weights P t,n≤reachBytes
def AHz (P:Program) (W:World):List TypeId→List Value→Prop
 | [],[]=>True
 | t::ts,v::vs=>Arg P W t v∧AHz P W ts vs
 | _,_=>False
variable {W:World}{v:Value}
theorem Arg.slice {α:Type}{E:Enc α}{e:TypeId}(h:Arg P W t v) (ht:P.underlying t=some (.slice e)) (hE:Mq P t (Ar E)):∃ pa ca l,v = .slice pa l.length ca∧(A2 E pa l.length ca l).holds W (fun k=>k<W.heap.size):=by
 obtain ⟨⟨b,hv⟩,H,enc,d,p,⟨fuel,hf⟩,hw⟩:=h
 obtain ⟨a,len,cap,rfl⟩:=okWide_slice ht hv
 obtain ⟨l,pa,ca,e1,hs⟩:=hE.2.2 enc W fuel _ d p hf hw
 have e2:Value.slice a len cap = .slice pa l.length ca:=by simpa [Value.cells] using e1
 exact ⟨pa,ca,l,e2,rfl,hs⟩
theorem Arg.int {k:IntKind}(h:Arg P W t v) (ht:P.underlying t=some (.int k)):∃ n,v = .int k n∧Bf k n:=by
 obtain ⟨⟨b,hv⟩,H,enc,d,p,hf,hw⟩:=h
 obtain ⟨n,e,_,_,hn⟩:=open_int ht hv hf
 exact ⟨n,e,AAV hn⟩
theorem Arg.bool (h:Arg P W t v) (ht:P.underlying t=some .bool):∃ b,v = .bool b:=by
 obtain ⟨⟨b,hv⟩,H,enc,d,p,hf,hw⟩:=h
 obtain ⟨n,e,_⟩:=open_bool ht hv hf
 exact ⟨n,e⟩
theorem Arg.agg {α:Type}{E:Enc α}{fs:Array Field}(h:Arg P W t v) (ht:P.underlying t=some (.struct fs)) (hE:Mq P t E):∃ vs x,v = .agg vs.toArray∧(vF E vs x).holds W (fun k=>k<W.heap.size):=by
 obtain ⟨⟨b,hv⟩,H,enc,d,p,⟨fuel,hf⟩,hw⟩:=h
 obtain ⟨cs,rfl,_⟩:=okWide_struct ht hv
 obtain ⟨x,hx⟩:=hE.2.2 enc W fuel _ d p hf hw
 have hx':E.rd W (fun k=>k<W.heap.size) cs.toList x:=hx
 exact ⟨cs.toList,x,by simp,hx'⟩
end
theorem Ul {H:Type}{enc:TypeId×Value→H}{P:Program}(hl:laidOutB P=true) {W W':World}(hb:Below W.heap.size W W'):∀ {ts:List TypeId}{vs:List Value}{ds:List (DataW H)}{ps:List MemPlace},
  (ts.all fun t=>P.readableRec t && decide (t<P.types.size))=true→DataW.TrodAll enc P W 0 (fun _=>true) true ts vs ds ps→DataW.TrodAll enc P W' 0 (fun b=>decide (b<W.heap.size)) true ts vs ds ps
 | [],[],[],_,_,h=>h
 | t::ts,v::vs,d::ds,ps,ha,⟨p,q,h1,h2,e⟩=>by
  simp only [List.all_cons,Bool.and_eq_true,decide_eq_true_eq] at ha
  refine ⟨p,q,Below.trod hl ha.1.1 ha.1.2 h1 hb ?_,Ul hl hb (by simpa using ha.2) h2,e⟩
  obtain ⟨m,hm⟩:=h1
  exact DataW.trod_lt m _ _ _ hm
 | [],_::_,_,_,_,h=>h.elim
 | [],[],_::_,_,_,h=>h.elim
 | _::_,[],_,_,_,h=>h.elim
 | _::_,_::_,[],_,_,h=>h.elim
theorem AEH {H:Type}{enc:TypeId×Value→H}{P:Program}{W:World}{base:Nat}:∀ (ts:List TypeId) (vs:List Value) (ds:List (DataW H)) (ps:List MemPlace),
  (∀ (j:Nat) t v,ts[j]?=some t→vs[j]?=some v→Value.okWide P W .any base t v)→DataW.TrodAll enc P W 0 (fun _=>true) true ts vs ds ps→(∀ n∈DataW.weightsEach P ts ds,n≤reachBytes)→AHz P W ts vs
 | [],[],[],_,_,_,_=>trivial
 | t::ts,v::vs,d::ds,ps,hv,⟨p,q,h1,h2,e⟩,hw=>by
  refine ⟨⟨⟨base,hv 0 t v rfl rfl⟩,H,enc,d,p,h1,fun n hn=>hw n (by simp only [DataW.weightsEach,List.mem_append];exact .inl hn)⟩,AEH ts vs ds q (fun j t v ht hv'=>hv (j+1) t v (by simpa using ht) (by simpa using hv')) h2 (fun n hn=>hw n (by simp only [DataW.weightsEach,List.mem_append];exact .inr hn))⟩
 | [],_::_,_,_,_,h,_=>h.elim
 | [],[],_::_,_,_,h,_=>h.elim
 | _::_,[],_,_,_,h,_=>h.elim
 | _::_,_::_,[],_,_,h,_=>h.elim
def AEd (P:Program) (f:FuncId) (fn:Func):Prop :=
 ∀ (W:World) (args:List Value),AHz P W fn.params.toList args→Calls P f args.toArray W (Ret fun v W'=>v = .bool true∧Below W.heap.size W W')
theorem ABP {P:Program}{f:FuncId}{args:List Value}{Γ:List Fact}{W:World}{Q:Value→List Fact→List Bb→Prop}(h:Br P f args [] Γ Q) (hq:∀ v Φ β,Q v Φ β→v = .bool true) (hG:∀ g∈Γ,g.holds W (fun k=>k<W.heap.size)) :
  Calls P f args.toArray W (Ret fun v W'=>v = .bool true∧Below W.heap.size W W'):=by
 refine (h.2 W (fun k=>k<W.heap.size) (fun k hk=>hk) (fun x hx=>by cases hx) trivial (fun g hg=>g.stable (fun k hk=>⟨⟨hk,fun ⟨x,hx,_⟩=>by cases hx⟩,rfl⟩) (hG g hg))).mono ?_
 intro e w' he
 cases e <;> try exact he.elim
 obtain ⟨Φ,β,hQ,hO,_⟩:=he
 exact ⟨hq _ _ _ hQ,hO.ext.os,hO.ext.tape,hO.ext.output,hO.ext.size,fun k hk=>hO.ext.block k hk (fun ⟨x,hx,_⟩=>by cases hx)⟩
theorem AF9 {H:Type}{enc:TypeId×Value→H}{C:Checked}{f:FuncId}{fn:Func}{s:ChangeSpec}{tb:TypeId}{os:Os}{conds:List PathCond}
  (own:ownKnob C.prog.godebug=none) (started:os.Started) (noInit:C.prog.inits.idxOf? f=none) (hfn:C.prog.funcs[f]?=some fn)
  (witness:∃ (w:World) (tape:Tape) (i:Input),w.os=os∧(w.forCall tape i).Shaped C.prog∧i.vars=[]∧Input.okWide C.prog (w.forCall tape i) .any w.heap.size f i ∧
   s.pre6 enc C.prog fn conds false (w.forCall tape i).memory i.args∧(Assume.holds {} C.prog (lone (Frame.enter C.prog f i.args .normal) [] (w.forCall tape i))))
  (laid:laidOutB C.prog=true) (hvars:s.vars=[]) (hts:(fn.params.toList.all fun t=>C.prog.readableRec t && decide (t<C.prog.types.size))=true)
  (hres:fn.resultTypes=#[tb]) (htb:C.prog.underlying tb=some .bool)
  (hspec:∀ ds:List (DataW H),ds.length=fn.params.toList.length→s.fn H ds={ results:=[.lit (.bool true)],args:=ds })
  (walk:AEd C.prog f fn) :
  ReturnsInHanded {} C os f .any (s.pre6 enc C.prog fn conds false) (s.post enc C.prog fn false true false false):=by
 refine returnsInHanded_of_change_sized own started noInit hfn witness ?_
 intro W base args ds gs before hval hW _ hsz _
 have hW':=hW
 obtain ⟨p,q,hA,hV,rfl,_,_⟩:=hW
 rw [hvars] at hV
 obtain ⟨rfl,rfl⟩:=trodVars_none hV
 have hlen:∀ {ts:List TypeId}{vs:List Value}{ds:List (DataW H)}{ps:List MemPlace},DataW.TrodAll enc C.prog W 0 (fun _=>true) true ts vs ds ps→ds.length=ts.length:=by
  intro ts
  induction ts with
  | nil=>intro vs ds ps h;cases vs <;> cases ds <;> first|rfl|exact h.elim
  | cons t ts ih =>
   intro vs ds ps h
   cases vs <;> cases ds <;> try exact h.elim
   obtain ⟨p,q,_,h2,_⟩:=h
   simp [ih h2]
 have hw:∀ n∈DataW.weightsEach C.prog fn.params.toList ds,n≤reachBytes:=fun n hn=>by
  have e:s.plain.varTypes C.prog=[]:=by
   unfold DataSpec.varTypes ChangeSpec.plain
   rw [hvars];rfl
  rw [e,List.append_nil,List.append_nil] at hsz
  simpa using List.all_eq_true.1 hsz n hn
 have:=walk W args.toList (AEH fn.params.toList args.toList ds p (fun j t v ht hv=>hval j t v (by simpa using ht) (by simpa using hv)) hA hw)
 rw [Array.toArray_toList] at this
 refine this.mono fun e W' he=>?_
 cases e <;> try exact he.elim
 obtain ⟨rfl,hb⟩:=he
 refine ⟨_,rfl,ds,[],p++[],[],p,[],hW',?_,?_,?_,hb.frame _,fun h=>by cases h⟩
 ·rw [List.append_nil,hspec ds (hlen hA),hres]
  exact trodAll_mk1 (shut_bool htb _)
 ·rw [List.append_nil,hspec ds (hlen hA)]
  exact Ul laid hb hts hA
 ·rw [List.append_nil,hspec ds (hlen hA),hvars]
  rfl
end Go.Fw
namespace Go.Proofs.YteadncphjconmaaGreat
set_option maxRecDepth 100000
set_option linter.unusedVariables false
set_option linter.unusedSimpArgs false
def Vd:List Rat→List Rat→Rat
 | a::l,b::m=>a*b+Vd l m
 | _,_=>0
theorem V9 (l:List Rat):Vd l []=0:=by cases l <;> rfl
theorem AHS (l:List Rat):Vd [] l=0:=rfl
theorem Pq (a b:Rat) (l m:List Rat):Vd (a::l) (b::m)=a*b+Vd l m:=rfl
theorem AGY:∀ (l m:List Rat),Vd l m=Vd m l:=by
 intro l
 induction l with
 | nil=>intro m;rw [V9];rfl
 | cons a l ih =>
  intro m
  cases m with
  | nil=>rfl
  | cons b m=>rw [Pq,Pq,ih,Rat.mul_comm]
def leL:List Rat→List Rat→Prop
 | a::l,b::m=>a≤b∧leL l m
 | [],[]=>True
 | _,_=>False
def ADT (l:List Rat):Prop:=∀ x∈l,0≤x
theorem AHb {a b x:Rat}(h:a≤b) (hx:0≤x):a*x≤b*x:=by
 have:=Rat.mul_nonneg (a:=b-a) (b:=x) (by grind) hx
 grind
theorem ACK:∀ {a b x:List Rat},leL a b→ADT x→Vd a x≤Vd b x:=by
 intro a
 induction a with
 | nil =>
  intro b x h hx
  cases b with
  | nil=>exact Rat.le_refl
  | cons b l=>exact h.elim
 | cons a l ih =>
  intro b x h hx
  cases b with
  | nil=>exact h.elim
  | cons b m =>
   cases x with
   | nil=>rw [V9,V9];exact Rat.le_refl
   | cons y x =>
    rw [Pq,Pq]
    have h1:=AHb h.1 (hx y (.head _))
    have h2:=ih h.2 (fun z hz=>hx z (.tail _ hz))
    grind
def ADL (y:List Rat) (A:List (List Rat)) (j:Nat):Rat:=Vd y (A.map fun r=>r.getD j 0)
def AJs (y:List Rat) (A:List (List Rat)) (n:Nat):List Rat:=(List.range n).map (ADL y A)
def Aa (A:List (List Rat)) (x:List Rat):List Rat:=A.map fun r=>Vd r x
theorem AJg (y F G b P Q:Rat):(y*F+G)*b+(y*P+Q)=y*(F*b+P)+(G*b+Q):=by grind
theorem AHF (y0:Rat) (f g:Nat→Rat):∀ (n:Nat) (s:Nat) (x:List Rat),Vd ((List.range' s n).map fun j=>y0*f j+g j) x=y0*Vd ((List.range' s n).map f) x+Vd ((List.range' s n).map g) x:=by
 intro n
 induction n with
 | zero=>intro s x;simp [Vd,Rat.mul_zero,Rat.add_zero]
 | succ n ih =>
  intro s x
  rw [List.range'_succ]
  cases x with
  | nil=>simp only [V9];grind
  | cons b x =>
   simp only [List.map_cons,Pq]
   rw [ih]
   generalize Vd ((List.range' (s+1) n).map f) x=P
   generalize Vd ((List.range' (s+1) n).map g) x=Q
   generalize f s=F
   generalize g s=G
   exact AJg _ _ _ _ _ _
theorem AGB {r:List Rat}{n:Nat}(h:r.length=n):(List.range n).map (fun j=>r.getD j 0)=r:=by
 subst h
 refine List.ext_getElem (by simp) fun i h1 h2=>?_
 simp [List.getD,h2]
theorem AAR (n:Nat) (x:List Rat):∀ s,Vd ((List.range' s n).map fun _=>(0:Rat)) x=0:=by
 induction n generalizing x with
 | zero=>intro s;rfl
 | succ n ih =>
  intro s
  rw [List.range'_succ]
  cases x with
  | nil=>rfl
  | cons b x=>simp only [List.map_cons,Pq];rw [ih];grind
theorem AGV {n:Nat}{x:List Rat}:∀ {y:List Rat}{A:List (List Rat)},(∀ r∈A,r.length=n)→Vd (AJs y A n) x=Vd y (Aa A x):=by
 intro y
 induction y with
 | nil =>
  intro A _
  show Vd ((List.range n).map fun j=>Vd [] _) x=_
  simp only [AHS]
  rw [List.range_eq_range']
  exact AAR n x 0
 | cons y0 y ih =>
  intro A h
  cases A with
  | nil =>
   show Vd ((List.range n).map fun j=>Vd (y0::y) []) x=Vd (y0::y) []
   rw [V9,List.range_eq_range']
   exact AAR n x 0
  | cons r A =>
   have h1:=ih (A:=A) fun r' hr=>h r' (.tail _ hr)
   have hr:=h r (.head _)
   show Vd ((List.range n).map fun j=>y0*r.getD j 0+ADL y A j) x=y0*Vd r x+Vd y (Aa A x)
   rw [← h1,AJs]
   conv=>rhs;rw [← AGB hr]
   rw [List.range_eq_range']
   exact AHF y0 (fun j=>r.getD j 0) (ADL y A) n 0 x
structure Lp where
 C:List Rat
 A:List (List Rat)
 B:List Rat
structure Lp.Ok (l:Lp):Prop where
 len:l.A.length=l.B.length
 row:∀ r∈l.A,r.length=l.C.length
structure Feas (l:Lp) (b x:List Rat):Prop where
 len:x.length=l.C.length
 pos:ADT x
 le:leL (Aa l.A x) b
structure Cov (l:Lp) (c y:List Rat):Prop where
 len:y.length=l.A.length
 pos:ADT y
 le:leL c (AJs y l.A l.C.length)
theorem weak {l:Lp}(hl:l.Ok) {b c x y:List Rat}(hx:Feas l b x) (hy:Cov l c y):Vd c x≤Vd b y:=by
 have h1:=ACK hy.le hx.pos
 rw [AGV hl.row,AGY y] at h1
 have h2:=ACK hx.le hy.pos
 exact Rat.le_trans h1 h2
def val:List Nat→Nat
 | []=>0
 | x::l=>x+4294967296*val l
def AFU (n:Nat):List Nat:=if _h:n=0 then [] else n % 4294967296::AFU (n / 4294967296)
termination_by n
decreasing_by omega
def Ci:Nat→Nat→Nat
 | _,0=>1
 | 0,_+1=>0
 | n+1,k+1=>Ci n k+Ci n (k+1)
theorem U6 (n:Nat):Ci n 0=1:=by cases n <;> rfl
theorem L9 (n k:Nat):Ci (n+1) (k+1)=Ci n k+Ci n (k+1):=rfl
theorem Kk:∀ (n k:Nat),n<k→Ci n k=0:=by
 intro n
 induction n with
 | zero=>intro k h;cases k with
  | zero=>omega
  | succ k=>rfl
 | succ n ih=>intro k h;cases k with
  | zero=>omega
  | succ k=>rw [L9,ih k (by omega),ih (k+1) (by omega)]
def lin (a:Int) (f:Nat→Int):Nat→Int
 | 0=>f 0
 | k+1=>f (k+1)+a*f k
def dl:Nat→Int
 | 0=>1
 | _+1=>0
def AJm (a:Int):Nat→(Nat→Int)→(Nat→Int)
 | 0,f=>f
 | n+1,f=>lin a (AJm a n f)
def pw (a:Int) (m x:Nat):Nat→Int:=AJm a m (AJm (-1) x dl)
def kr (a:Int) (n k x:Nat):Int:=pw a (n-x) x k
def sm:Nat→(Nat→Int)→Int
 | 0,_=>0
 | n+1,f=>sm n f+f n
theorem Sh {n:Nat}{f g:Nat→Int}(h:∀ i,i<n→f i=g i):sm n f=sm n g:=by
 induction n with
 | zero=>rfl
 | succ n ih=>rw [sm,sm,ih fun i hi=>h i (by omega),h n (by omega)]
theorem AJL (n:Nat) (f g:Nat→Int):sm n (fun i=>f i+g i)=sm n f+sm n g:=by
 induction n with
 | zero=>rfl
 | succ n ih=>simp only [sm,ih];omega
theorem AJG (n:Nat) (f g:Nat→Int):sm n (fun i=>f i-g i)=sm n f-sm n g:=by
 induction n with
 | zero=>rfl
 | succ n ih=>simp only [sm,ih];omega
theorem Vk (n:Nat):sm n (fun _=>0)=0:=by
 induction n with
 | zero=>rfl
 | succ n ih=>simp only [sm,ih];rfl
theorem AIs (n m:Nat) (f:Nat→Nat→Int):sm n (fun i=>sm m (fun j=>f i j))=sm m (fun j=>sm n (fun i=>f i j)):=by
 induction n with
 | zero=>simp only [sm];exact (Vk m).symm
 | succ n ih=>simp only [sm,ih,AJL]
def conv (f g:Nat→Int) (k:Nat):Int:=sm (k+1) (fun j=>f j*g (k-j))
def bf (f:Nat→Int):Nat→Int
 | 0=>0
 | k+1=>f k
def ALk (a:Int) (n r s:Nat):Int:=sm (n+1) (fun i=>(Ci n i:Int)*a ^ i*(kr a n r i*kr a n s i))
abbrev Vz:=Nat→Int
def Xk (Y:Vz→Vz):Prop:=∀ (a b:Int) (u v:Vz),Y (fun j=>a*u j+b*v j)=fun j=>a*Y u j+b*Y v j
theorem Xk.add {Y:Vz→Vz}(h:Xk Y) (u v:Vz):Y (fun j=>u j+v j)=fun j=>Y u j+Y v j:=by
 have:=h 1 1 u v
 simp only [Int.one_mul] at this
 exact this
theorem Xk.mul {Y:Vz→Vz}(h:Xk Y) (a:Int) (u:Vz):Y (fun j=>a*u j)=fun j=>a*Y u j:=by
 have:=h a 0 u u
 simp only [Int.zero_mul,Int.add_zero] at this
 exact this
theorem Xk.zero {Y:Vz→Vz}(h:Xk Y):Y (fun _=>0)=fun _=>0:=by
 have:=h 0 0 (fun _=>0) (fun _=>0)
 simp only [Int.zero_mul,Int.add_zero] at this
 exact this
def Bl (Y:Vz→Vz):List Int→Vz→Vz
 | [],_=>fun _=>0
 | a::F,w=>fun j=>a*w j+Y (Bl Y F w) j
theorem K3 {Y:Vz→Vz}(h:Xk Y):∀ F,Xk (Bl Y F)
 | []=>fun a b u v=>by funext j;simp [Bl]
 | c::F=>fun a b u v=>by
  funext j
  simp only [Bl]
  rw [K3 h F a b u v,h]
  grind
theorem AG2 {Y:Vz→Vz}(h:Xk Y):∀ (F:List Int) (w:Vz),Y (Bl Y F w)=Bl Y F (Y w)
 | [],w=>h.zero
 | c::F,w=>by
  have e:Bl Y (c::F) w=fun j=>c*w j+1*Y (Bl Y F w) j:=by funext j;simp only [Bl,Int.one_mul]
  rw [e,h]
  funext j
  simp only [Bl,Int.one_mul]
  rw [AG2 h F w]
theorem Kg {Y:Vz→Vz}(h:Xk Y):∀ (F G:List Int) (w:Vz),Bl Y F (Bl Y G w)=Bl Y G (Bl Y F w)
 | [],G,w=>(K3 h G).zero.symm
 | a::F,G,w=>by
  have e:Bl Y (a::F) w=fun j=>a*w j+1*Y (Bl Y F w) j:=by funext j;simp only [Bl,Int.one_mul]
  rw [e,K3 h G,← AG2 h G,← Kg h F G w]
  funext j
  simp only [Bl,Int.one_mul]
def I3 (Y:Vz→Vz):Nat→Vz→Vz
 | 0,w=>w
 | n+1,w=>Y (I3 Y n w)
theorem Hv {Y:Vz→Vz}(h:Xk Y) (c:Int) (w:Vz):∀ F:List Int,Bl Y (F++[c]) w=fun j=>Bl Y F w j+c*I3 Y F.length w j
 | []=>by
  funext j
  show c*w j+Y (fun _=>0) j=0+c*w j
  rw [h.zero];simp
 | a::F=>by
  funext j
  show a*w j+Y (Bl Y (F++[c]) w) j=a*w j+Y (Bl Y F w) j+c*Y (I3 Y F.length w) j
  have e:(fun j=>Bl Y F w j+c*I3 Y F.length w j)=fun j=>1*Bl Y F w j+c*I3 Y F.length w j:=by funext j;rw [Int.one_mul]
  rw [Hv h c w F,e,h]
  grind
theorem AEf {Y:Vz→Vz}(h:Xk Y) (c:Int) (w:Vz):∀ {u g:List Int},u.length=g.length→Bl Y (List.zipWith (fun x y=>x-c*y) u g) w=fun j=>Bl Y u w j-c*Bl Y g w j
 | [],[],_=>by funext j;simp [Bl]
 | a::u,b::g,e=>by
  have ih:=AEf h c w (u:=u) (g:=g) (by simpa using e)
  funext j
  show (a-c*b)*w j+Y (Bl Y (List.zipWith (fun x y=>x-c*y) u g) w) j=a*w j+Y (Bl Y u w) j-c*(b*w j+Y (Bl Y g w) j)
  have e2:(fun j=>Bl Y u w j-c*Bl Y g w j)=fun j=>1*Bl Y u w j+(-c)*Bl Y g w j:=by funext j;grind
  rw [ih,e2,h]
  grind
def Nw (g:List Int):List Int→List Int→List Int×List Int
 | [],r=>([],r)
 | a::F,r0 =>
  let x:=Nw g F r0
  let c:=x.2.getLastD 0
  (c::x.1,List.zipWith (fun x y=>x-c*y) (a::x.2.dropLast) g)
theorem V1 {g:List Int}:∀ {F r0:List Int},1≤g.length→r0.length=g.length→(Nw g F r0).1.length=F.length∧(Nw g F r0).2.length=g.length
 | [],r0,_,h=>⟨rfl,h⟩
 | a::F,r0,h1,h=>by
  obtain ⟨e1,e2⟩:=V1 (F:=F) h1 h
  refine ⟨by simp [Nw,e1],?_⟩
  simp only [Nw,List.length_zipWith,List.length_cons,List.length_dropLast]
  omega
theorem On {l:List Int}(h:1≤l.length):l=l.dropLast++[l.getLastD 0]:=by
 have hne:l≠[]:=fun e=>by rw [e] at h;simp at h
 have:=(List.dropLast_concat_getLast hne).symm
 rw [List.getLastD_eq_getLast?,List.getLast?_eq_some_getLast hne]
 exact this
theorem ABC {Y:Vz→Vz}(h:Xk Y) {g:List Int}(h1:1≤g.length) (w:Vz):∀ {F r0:List Int},r0.length=g.length →
  Bl Y (F++r0) w=fun j=>Bl Y (Nw g F r0).1 (Bl Y (g++[1]) w) j+Bl Y (Nw g F r0).2 w j
 | [],r0,_=>by funext j;simp [Nw,Bl]
 | a::F,r0,hr=>by
  have ih:=ABC h h1 w (F:=F) hr
  obtain ⟨_,l2⟩:=V1 (F:=F) h1 hr
  funext j
  show a*w j+Y (Bl Y (F++r0) w) j=_
  rw [ih,h.add]
  simp only [Nw]
  generalize (Nw g F r0).1=s at *
  generalize hx:(Nw g F r0).2=r at *
  have hl:=On (l:=r) (by omega)
  generalize hc:r.getLastD 0=c at *
  rw [AEf h c w (by simp only [List.length_cons,List.length_dropLast];omega)]
  have e1:Bl Y r w=fun j=>Bl Y r.dropLast w j+c*I3 Y r.dropLast.length w j:=by
   conv=>lhs;rw [hl]
   exact Hv h c w _
  have e2:Bl Y (g++[1]) w=fun j=>Bl Y g w j+1*I3 Y g.length w j:=Hv h 1 w _
  have e3:(fun j=>Bl Y r.dropLast w j+c*I3 Y r.dropLast.length w j)=fun j=>1*Bl Y r.dropLast w j+c*I3 Y r.dropLast.length w j:=by funext j;rw [Int.one_mul]
  have e4:Y (I3 Y r.dropLast.length w) j=I3 Y g.length w j:=by
   rw [show g.length=r.dropLast.length+1 by rw [List.length_dropLast];omega];rfl
  rw [e1,e3,h]
  show a*w j+(Y (Bl Y s (Bl Y (g++[1]) w)) j+(1*Y (Bl Y r.dropLast w) j+c*Y (I3 Y r.dropLast.length w) j))=c*Bl Y (g++[1]) w j+Y (Bl Y s (Bl Y (g++[1]) w)) j+(a*w j+Y (Bl Y r.dropLast w) j-c*Bl Y g w j)
  rw [e4]
  generalize Y (Bl Y s (Bl Y (g++[1]) w)) j=z
  rw [e2]
  grind
theorem Z7 (g:List Int):∀ {F r0:List Int},1≤F.length→(Nw g F r0).1.getLastD 0=r0.getLastD 0
 | [a],r0,_=>by simp [Nw]
 | a::b::F,r0,_=>by
  have ih:=Z7 g (F:=b::F) (r0:=r0) (by simp)
  rw [← ih]
  show List.getLastD (_::(Nw g (b::F) r0).1) 0=_
  have:(Nw g (b::F) r0).1=((Nw g F r0).2.getLastD 0)::(Nw g F r0).1:=rfl
  rw [this]
  simp only [List.getLastD_cons]
def Xg (g:List Int) (v:Vz):Vz:=fun j=>if j<g.length then (if j=0 then 0 else v (j-1))-g.getD j 0*v (g.length-1) else 0
def Bs:Vz:=fun j=>if j=0 then 1 else 0
def Ec (u:List Int):Vz:=fun j=>u.getD j 0
theorem Ed (g:List Int):Xk (Xg g):=fun a b u v=>by
 funext j
 simp only [Xg]
 by_cases h:j<g.length
 ·simp only [if_pos h]
  by_cases h0:j=0
  ·simp only [if_pos h0];grind
  ·simp only [if_neg h0];grind
 ·simp only [if_neg h];grind
theorem AHs (a:Int) (u:List Int) (j:Nat):Ec (a::u) j=if j=0 then a else Ec u (j-1):=by
 cases j with
 | zero=>rfl
 | succ j=>simp [Ec]
theorem Lf {u:List Int}{j:Nat}(h:u.length≤j):Ec u j=0:=by
 rw [Ec,List.getD_eq_getElem?_getD,List.getElem?_eq_none h];rfl
theorem Oc {g:List Int}:∀ {u:List Int},u.length≤g.length→Bl (Xg g) u Bs=Ec u
 | [],_=>by funext j;simp [Bl,Ec]
 | a::u,h=>by
  have h:u.length+1≤g.length:=h
  have ih:=Oc (g:=g) (u:=u) (by omega)
  funext j
  show a*Bs j+Xg g (Bl (Xg g) u Bs) j=Ec (a::u) j
  rw [ih,AHs,Xg,Lf (u:=u) (j:=g.length-1) (by omega),Int.mul_zero,Int.sub_zero]
  by_cases h0:j=0
  ·subst h0
   rw [if_pos rfl,if_pos (by omega),if_pos rfl,Bs,if_pos rfl];omega
  ·rw [if_neg h0,if_neg h0,Bs,if_neg h0,Int.mul_zero,Int.zero_add]
   by_cases hj:j<g.length
   ·rw [if_pos hj]
   ·rw [if_neg hj,Lf (by omega)]
theorem AHq {g:List Int}:∀ {k:Nat},k<g.length→I3 (Xg g) k Bs=fun j=>if j=k then 1 else 0
 | 0,_=>rfl
 | k+1,h=>by
  funext j
  show Xg g (I3 (Xg g) k Bs) j=_
  rw [AHq (k:=k) (by omega),Xg,if_neg (show ¬ g.length-1=k by omega),Int.mul_zero,Int.sub_zero]
  by_cases h0:j=0
  ·subst h0;rw [if_pos (by omega),if_pos rfl,if_neg (by omega)]
  ·by_cases hj:j<g.length
   ·rw [if_pos hj,if_neg h0]
    by_cases e:j=k+1
    ·rw [if_pos e,if_pos (by omega)]
    ·rw [if_neg e,if_neg (by omega)]
   ·rw [if_neg hj,if_neg (by omega)]
theorem AGo {g:List Int}(h:1≤g.length):I3 (Xg g) g.length Bs=fun j=>-Ec g j:=by
 obtain ⟨k,hk⟩:∃ k,g.length=k+1:=⟨g.length-1,by omega⟩
 rw [hk]
 funext j
 show Xg g (I3 (Xg g) k Bs) j=_
 rw [AHq (k:=k) (by omega),Xg,if_pos (show g.length-1=k by omega),Int.mul_one]
 by_cases hj:j<g.length
 ·rw [if_pos hj]
  by_cases h0:j=0
  ·rw [if_pos h0];show 0-Ec g j=_;omega
  ·rw [if_neg h0,if_neg (by omega)];show 0-Ec g j=_;omega
 ·rw [if_neg hj,Lf (by omega)];rfl
theorem Si {g:List Int}(h:1≤g.length):Bl (Xg g) (g++[1]) Bs=fun _=>0:=by
 rw [Hv (Ed g),Oc (Nat.le_refl _),AGo h]
 funext j
 show Ec g j+1*(-Ec g j)=0
 omega
theorem Pg {g:List Int}{v:Vz}(h:∀ j,g.length≤j→v j=0):Bl (Xg g) ((List.range g.length).map v) Bs=v:=by
 rw [Oc (by simp)]
 funext j
 rw [Ec,List.getD_eq_getElem?_getD,List.getElem?_map]
 by_cases hj:j<g.length
 ·rw [List.getElem?_range hj];rfl
 ·rw [List.getElem?_eq_none (by simpa using hj),h j (by omega)];rfl
theorem AFA {g:List Int}(h1:1≤g.length) {v:Vz}(h:∀ j,g.length≤j→v j=0):Bl (Xg g) (g++[1]) v=fun _=>0:=by
 rw [← Pg h,Kg (Ed g),Si h1,(K3 (Ed g) _).zero]
def Prm (p:Nat):Prop:=2≤p∧∀ d,2≤d→d<p→¬ d∣p
theorem bez:∀ (a b:Nat),∃ x y:Int,(Nat.gcd a b:Int)=a*x+b*y:=by
 intro a
 induction a using Nat.strongRecOn with
 | _ a ih =>
  intro b
  by_cases h:a=0
  ·subst h;exact ⟨0,1,by simp⟩
  ·obtain ⟨x,y,e⟩:=ih (b % a) (Nat.mod_lt _ (by omega)) a
   refine ⟨y-(b / a:Nat)*x,x,?_⟩
   rw [Nat.gcd_rec,e]
   have h2:(b:Int)=a*(b / a:Nat)+(b % a:Nat):=by
    have:=Nat.div_add_mod b a
    omega
   have h3:((b % a:Nat):Int)=b-a*(b / a:Nat):=by omega
   rw [h3]
   grind
theorem AEC {p c:Nat}(hp:Prm p) (h:¬ p∣c):Nat.gcd c p=1:=by
 have h1:Nat.gcd c p∣p:=Nat.gcd_dvd_right c p
 have h0:0<Nat.gcd c p:=Nat.gcd_pos_of_pos_right c (by have:=hp.1;omega)
 have h2:=Nat.le_of_dvd (by have:=hp.1;omega) h1
 refine Classical.byContradiction fun hne=>?_
 by_cases e:Nat.gcd c p=p
 ·exact h (by rw [← e];exact Nat.gcd_dvd_left c p)
 ·exact hp.2 _ (by omega) (by omega) h1
theorem AHP {p:Nat}(hp:Prm p) {c:Int}(h:¬ (p:Int)∣c):∃ c':Int,(p:Int)∣c*c'-1:=by
 have h1:¬ p∣c.natAbs:=fun e=>h (Int.ofNat_dvd_left.2 e)
 obtain ⟨x,y,e⟩:=bez c.natAbs p
 rw [AEC hp h1] at e
 rcases Int.natAbs_eq c with hc|hc
 ·refine ⟨x,⟨-y,?_⟩⟩
  rw [← hc] at e
  have:c*x=1-p*y:=by omega
  rw [this];grind
 ·refine ⟨-x,⟨-y,?_⟩⟩
  have h2:((c.natAbs:Nat):Int)=-c:=by omega
  rw [h2] at e
  have:c*-x=1-p*y:=by grind
  rw [this];grind
def cg (p:Nat) (u:Vz):Prop:=∀ j,(p:Int)∣u j
theorem ABL (p:Nat):cg p (fun _=>0):=fun _=>Int.dvd_zero _
theorem AAd {p:Nat}{Y:Vz→Vz}(h:Xk Y) {u:Vz}(hu:cg p u):cg p (Y u):=by
 have e:u=fun j=>(p:Int)*(u j / p):=by funext j;exact (Int.mul_ediv_cancel' (hu j)).symm
 rw [e,h.mul]
 exact fun j=>⟨_,rfl⟩
theorem AD2 {p:Nat}{u v:Vz}(hu:cg p u) (hv:cg p v):cg p (fun j=>u j+v j):=fun j=>Int.dvd_add (hu j) (hv j)
theorem AJe {p:Nat}(a:Int) {u:Vz}(hu:cg p u):cg p (fun j=>a*u j):=fun j=>Int.dvd_mul_of_dvd_right (hu j)
theorem Yl {p:Nat}{Y:Vz→Vz}(h:Xk Y) (w:Vz):∀ {F:List Int},(∀ x∈F,(p:Int)∣x)→cg p (Bl Y F w)
 | [],_=>ABL p
 | a::F,hF=>AD2 (fun j=>Int.dvd_mul_of_dvd_left (hF a (.head _))) (AAd h (Yl h w fun x hx=>hF x (.tail _ hx)))
theorem AE7 {p:Nat}{u v:Vz}(h:cg p (fun j=>u j+v j)) (hv:cg p v):cg p u:=fun j=>by
 have:=Int.dvd_sub (h j) (hv j)
 rwa [show u j+v j-v j=u j by omega] at this
theorem W5 {p:Nat}:∀ (n:Nat) (r:List Int),r.length=n→(∃ x∈r,¬ (p:Int)∣x)→∃ r1:List Int,1≤r1.length∧r1.length≤r.length∧¬ (p:Int)∣r1.getLastD 0∧∀ (Y:Vz→Vz) (w:Vz),Xk Y→cg p (Bl Y r w)→cg p (Bl Y r1 w)
 | 0,r,h,⟨x,hx,_⟩=>by rw [List.length_eq_zero_iff.1 h] at hx;cases hx
 | n+1,r,h,⟨x,hx,hn⟩=>by
  by_cases hl:(p:Int)∣r.getLastD 0
  ·have hs:=On (l:=r) (by omega)
   have hx':x∈r.dropLast:=by
    rw [hs] at hx
    rcases List.mem_append.1 hx with h1|h1
    ·exact h1
    ·rw [List.mem_singleton.1 h1] at hn;exact absurd hl hn
   obtain ⟨r1,a1,a2,a3,a4⟩:=W5 n r.dropLast (by rw [List.length_dropLast];omega) ⟨x,hx',hn⟩
   refine ⟨r1,a1,by rw [List.length_dropLast] at a2;omega,a3,fun Y w hY hc=>a4 Y w hY ?_⟩
   rw [hs,Hv hY] at hc
   exact AE7 hc fun j=>Int.dvd_mul_of_dvd_left hl
  ·exact ⟨r,by omega,Nat.le_refl _,hl,fun _ _ _ h=>h⟩
theorem AEE {Y:Vz→Vz}(h:Xk Y) (c:Int) (w:Vz):∀ F:List Int,Bl Y (F.map (c*·)) w=fun j=>c*Bl Y F w j
 | []=>by funext j;simp [Bl]
 | a::F=>by
  funext j
  show c*a*w j+Y (Bl Y (F.map (c*·)) w) j=c*(a*w j+Y (Bl Y F w) j)
  rw [AEE h c w F,h.mul]
  grind
def ABz (p:Nat) (f:List Int):Prop:=∃ g s:List Int,1≤g.length∧1≤s.length∧g.length+s.length=f.length∧cg p (Bl (Xg g) (f++[1]) Bs)∧cg p (Bl (Xg s) (f++[1]) Bs)
theorem AHk {p:Nat}(hp:Prm p) {f:List Int}(hf:1≤f.length) {b:Vz}(hb:∀ j,f.length≤j→b j=0) (hb0:¬ cg p b) :
  ∀ (n:Nat) (F:List Int),F.length=n→1≤n→n≤f.length→¬ (p:Int)∣F.getLastD 0→cg p (Bl (Xg f) F b)→ABz p f:=by
 intro n
 induction n using Nat.strongRecOn with
 | _ n ih =>
  intro F hn h1 h2 hl hc
  have hX:=Ed f
  have hs:=On (l:=F) (by omega)
  obtain ⟨c',hc'⟩:=AHP hp hl
  generalize hF0:F.dropLast=F0 at hs
  have hF0l:F0.length+1=n:=by rw [← hF0,List.length_dropLast];omega
  generalize hcc:F.getLastD 0=c at *
  -- made monic
  have hm:cg p (Bl (Xg f) (F0.map (c'*·)++[1]) b):=by
   rw [hs,Hv hX] at hc
   have h3:=AJe c' hc
   rw [Hv hX,AEE hX,List.length_map]
   refine fun j=>?_
   have e:c'*Bl (Xg f) F0 b j+1*I3 (Xg f) F0.length b j=c'*(Bl (Xg f) F0 b j+c*I3 (Xg f) F0.length b j)-(c*c'-1)*I3 (Xg f) F0.length b j:=by grind
   show (p:Int)∣c'*Bl (Xg f) F0 b j+1*I3 (Xg f) F0.length b j
   rw [e]
   exact Int.dvd_sub (h3 j) (Int.dvd_mul_of_dvd_left hc')
  generalize hg:F0.map (c'*·)=g at hm
  have hgl:g.length=F0.length:=by rw [← hg,List.length_map]
  by_cases hg0:g.length=0
  ·exfalso
   rw [List.length_eq_zero_iff.1 hg0] at hm
   refine hb0 fun j=>?_
   have:=hm j
   have e:Bl (Xg f) ([]++[1]) b j=b j:=by
    show 1*b j+Xg f (fun _=>0) j=b j
    rw [hX.zero];simp
   rwa [e] at this
  -- division
  let d:=g.length
  let A:=(f++[1]).take (f.length+1-d)
  let r0:=(f++[1]).drop (f.length+1-d)
  have hA:A.length=f.length+1-d:=by simp only [A,List.length_take,List.length_append,List.length_singleton];omega
  have hr0:r0.length=d:=by simp only [r0,List.length_drop,List.length_append,List.length_singleton];omega
  have hAr:f++[1]=A++r0:=(List.take_append_drop _ _).symm
  have hlast:r0.getLastD 0=1:=by
   have h3:r0=(f.drop (f.length+1-d))++[1]:=by
    simp only [r0]
    rw [List.drop_append_of_le_length (by omega)]
   rw [h3];simp
  obtain ⟨q1,q2⟩:=V1 (g:=g) (F:=A) (r0:=r0) (by omega) hr0
  have ev:=fun {Y:Vz→Vz}(hY:Xk Y) (w:Vz)=>ABC hY (g:=g) (by omega) w (F:=A) (r0:=r0) hr0
  have qt:=Z7 g (F:=A) (r0:=r0) (by omega)
  rw [hlast] at qt
  rw [← hAr] at ev
  generalize (Nw g A r0).1=s' at *
  generalize (Nw g A r0).2=r at *
  have hr:cg p (Bl (Xg f) r b):=by
   have h3:=ev hX b
   rw [AFA hf hb] at h3
   have h4:cg p (Bl (Xg f) s' (Bl (Xg f) (g++[1]) b)):=AAd (K3 hX s') hm
   refine fun j=>?_
   have h5:=congrFun h3 j
   have e:Bl (Xg f) r b j=-(Bl (Xg f) s' (Bl (Xg f) (g++[1]) b) j):=by
    have h5:(0:Int)=Bl (Xg f) s' (Bl (Xg f) (g++[1]) b) j+Bl (Xg f) r b j:=h5
    omega
   rw [e];exact (Int.dvd_neg).2 (h4 j)
  by_cases hz:∃ x∈r,¬ (p:Int)∣x
  ·obtain ⟨r1,a1,a2,a3,a4⟩:=W5 r.length r rfl hz
   exact ih r1.length (by omega) r1 rfl a1 (by omega) a3 (a4 _ _ hX hr)
  ·have hz:∀ x∈r,(p:Int)∣x:=fun x hx=>Classical.byContradiction fun h=>hz ⟨x,hx,h⟩
   have hss:=On (l:=s') (by omega)
   rw [qt] at hss
   have q3:s'.dropLast.length=s'.length-1:=List.length_dropLast
   generalize s'.dropLast=s at *
   refine ⟨g,s,by omega,by omega,by omega,?_,?_⟩
   ·rw [ev (Ed g) Bs,Si (by omega),(K3 (Ed g) s').zero]
    exact AD2 (ABL p) (Yl (Ed g) Bs hz)
   ·have hY:=Ed s
    rw [ev hY Bs]
    refine AD2 ?_ (Yl hY Bs hz)
    rw [Kg hY,hss,Si (by omega),(K3 hY _).zero]
    exact ABL p
theorem AH2 {p:Nat}(hp:Prm p) {f:List Int}(hf:1≤f.length) (hs:¬ ABz p f) {a:List Int}(ha:a.length≤f.length) {b:Vz}(hb:∀ j,f.length≤j→b j=0) (h:cg p (Bl (Xg f) a b)) :
  (∀ x∈a,(p:Int)∣x)∨cg p b:=by
 by_cases hb0:cg p b
 ·exact .inr hb0
 ·refine .inl fun x hx=>Classical.byContradiction fun hn=>?_
  obtain ⟨r1,a1,a2,a3,a4⟩:=W5 a.length a rfl ⟨x,hx,hn⟩
  exact hs (AHk hp hf hb hb0 r1.length r1 rfl a1 (by omega) a3 (a4 _ _ (Ed f) h))
def Dh (p:Nat):Nat→Nat→List Nat
 | 0,_=>[]
 | n+1,x=>x % p::Dh p n (x / p)
def Fz (p:Nat):List Nat→Nat
 | []=>0
 | d::l=>d+p*Fz p l
theorem Di (p:Nat):∀ (n x:Nat),(Dh p n x).length=n
 | 0,_=>rfl
 | n+1,x=>by rw [Dh,List.length_cons,Di p n]
theorem Kw {p:Nat}(hp:0<p):∀ {n x:Nat},∀ d∈Dh p n x,d<p
 | 0,_,d,h=>by cases h
 | n+1,x,d,h=>by
  rcases List.mem_cons.1 h with rfl|h
  ·exact Nat.mod_lt _ hp
  ·exact Kw hp d h
theorem AC6 {p:Nat}(hp:0<p):∀ {n x:Nat},x<p ^ n→Fz p (Dh p n x)=x
 | 0, x, h => by have : x = 0 := by simpa using h
                 rw [this]; rfl
 | n+1,x,h=>by
  rw [Dh,Fz,AC6 hp (by rw [Nat.div_lt_iff_lt_mul hp];rwa [Nat.pow_succ] at h)]
  exact Nat.mod_add_div x p
theorem AAh {p:Nat}(hp:0<p):∀ {l:List Nat},(∀ d∈l,d<p)→Dh p l.length (Fz p l)=l
 | [],_=>rfl
 | d::l,h=>by
  have hd:=h d (.head _)
  rw [List.length_cons,Dh,Fz,Nat.add_mul_mod_self_left,Nat.mod_eq_of_lt hd,Nat.add_mul_div_left _ _ hp,Nat.div_eq_of_lt hd,Nat.zero_add,AAh hp fun e he=>h e (.tail _ he)]
theorem Nu {p:Nat}(hp:0<p):∀ {l:List Nat},(∀ d∈l,d<p)→Fz p l<p ^ l.length
 | [],_=>by simp [Fz]
 | d::l,h=>by
  have hd:=h d (.head _)
  have ih:=Nu hp (l:=l) fun e he=>h e (.tail _ he)
  rw [Fz,List.length_cons,Nat.pow_succ]
  have h2:p*(Fz p l+1)≤p*p ^ l.length:=Nat.mul_le_mul_left p ih
  rw [Nat.mul_add,Nat.mul_one] at h2
  rw [Nat.mul_comm (p ^ l.length)]
  omega
theorem Yy (p:Nat):∀ n,Dh p n 0=List.replicate n 0
 | 0=>rfl
 | n+1=>by rw [Dh,Nat.zero_mod,Nat.zero_div,Yy p n];rfl
def Bz (l:List Nat):List Int:=l.map fun x:Nat=>(x:Int)
def C3 (p m x:Nat):Vz:=Ec (Bz (Dh p m x))
def un (p m:Nat) (v:Vz):Nat:=Fz p ((List.range m).map fun j=>(v j % p).toNat)
theorem We {p m x j:Nat}(h:m≤j):C3 p m x j=0:=Lf (by rw [Bz,List.length_map,Di];exact h)
theorem Qa {p m x j:Nat}(h:j<m):C3 p m x j=(((Dh p m x).getD j 0:Nat):Int):=by
 rw [C3,Ec,Bz,List.getD_eq_getElem?_getD,List.getElem?_map,List.getD_eq_getElem?_getD]
 rw [List.getElem?_eq_getElem (by rw [Di];exact h)];rfl
theorem ABr {p m:Nat}(hp:0<p) (v:Vz):∀ d∈(List.range m).map fun j=>(v j % p).toNat,d<p:=fun d hd=>by
 obtain ⟨j,_,rfl⟩:=List.mem_map.1 hd
 have h1:=Int.emod_lt_of_pos (v j) (show (0:Int)<p by omega)
 have h2:=Int.emod_nonneg (v j) (show (p:Int)≠0 by omega)
 omega
theorem Xr {p m:Nat}(hp:0<p) (v:Vz):un p m v<p ^ m:=by
 have:=Nu hp (ABr (m:=m) hp v)
 rwa [List.length_map,List.length_range] at this
theorem AJT {p m j:Nat}(hp:0<p) (v:Vz) (h:j<m):C3 p m (un p m v) j=v j % p:=by
 have e:=AAh hp (ABr (m:=m) hp v)
 rw [List.length_map,List.length_range] at e
 rw [Qa h,un,e,List.getD_eq_getElem?_getD,List.getElem?_map,List.getElem?_range h]
 show (((v j % p).toNat:Nat):Int)=_
 have h2:=Int.emod_nonneg (v j) (show (p:Int)≠0 by omega)
 omega
theorem Gc {p m:Nat}{u v:Vz}(h:∀ j,j<m→(p:Int)∣u j-v j):un p m u=un p m v:=by
 rw [un,un]
 congr 1
 refine List.map_congr_left fun j hj=>?_
 rw [(Int.emod_eq_emod_iff_emod_sub_eq_zero).2 (Int.emod_eq_zero_of_dvd (h j (List.mem_range.1 hj)))]
theorem Q4 {p m x:Nat}(hp:0<p) (h:x<p ^ m):un p m (C3 p m x)=x:=by
 have e:(List.range m).map (fun j=>(C3 p m x j % p).toNat)=Dh p m x:=by
  refine List.ext_getElem? fun j=>?_
  rw [List.getElem?_map]
  by_cases hj:j<m
  ·rw [List.getElem?_range hj]
   show some ((C3 p m x j % p).toNat)=_
   rw [Qa hj]
   have hl:j<(Dh p m x).length:=by rw [Di];exact hj
   rw [List.getElem?_eq_getElem hl,List.getD_eq_getElem?_getD,List.getElem?_eq_getElem hl]
   have hd:=Kw hp _ (List.getElem_mem hl)
   congr 1
   simp only [Option.getD_some]
   rw [Int.emod_eq_of_lt (by omega) (by omega)]
   omega
  ·rw [List.getElem?_eq_none (by simpa using hj),List.getElem?_eq_none (by rw [Di];omega)];rfl
 rw [un,e,AC6 hp h]
theorem Dj {p m:Nat}(hp:0<p) (v:Vz) {j:Nat}(h:j<m):(p:Int)∣C3 p m (un p m v) j-v j:=by
 rw [AJT hp v h]
 have:=Int.emod_add_mul_ediv (v j) p
 exact ⟨-(v j / p),by rw [Int.mul_neg];omega⟩
theorem AEJ {p m x y:Nat}(hp:0<p) (hx:x<p ^ m) (hy:y<p ^ m) (h:∀ j,j<m→(p:Int)∣C3 p m x j-C3 p m y j):x=y:=by
 rw [← Q4 hp hx,← Q4 hp hy];exact Gc h
theorem Hl (p m:Nat) (j:Nat):C3 p m 0 j=0:=by
 by_cases h:j<m
 ·rw [Qa h,Yy,List.getD_eq_getElem?_getD,List.getElem?_replicate,if_pos h];rfl
 ·exact We (by omega)
structure Fld (q:Nat) (A M:Nat→Nat→Nat):Prop where
 q2:2≤q
 al:∀ x y,x<q→y<q→A x y<q
 ac:∀ x y,x<q→y<q→A x y=A y x
 aa:∀ x y z,x<q→y<q→z<q→A (A x y) z=A x (A y z)
 a0:∀ x,x<q→A x 0=x
 an:∀ x,x<q→∃ y,y<q∧A x y=0
 ml:∀ x y,x<q→y<q→M x y<q
 mc:∀ x y,x<q→y<q→M x y=M y x
 ma:∀ x y z,x<q→y<q→z<q→M (M x y) z=M x (M y z)
 md:∀ x y z,x<q→y<q→z<q→M x (A y z)=A (M x y) (M x z)
 m1:∀ x,x<q→M x 1=x
 nz:∀ x y,x<q→y<q→M x y=0→x=0∨y=0
def fA (p m x y:Nat):Nat:=un p m fun j=>C3 p m x j+C3 p m y j
def Co (f:List Int) (u v:Vz):Vz:=Bl (Xg f) ((List.range f.length).map u) v
def fM (p:Nat) (f:List Int) (x y:Nat):Nat:=un p f.length (Co f (C3 p f.length x) (C3 p f.length y))
theorem Vt (f:List Int) (u:Vz):Xk (Co f u):=K3 (Ed f) _
theorem Oq {f:List Int}{u v:Vz}(hu:∀ j,f.length≤j→u j=0) (hv:∀ j,f.length≤j→v j=0):Co f u v=Co f v u:=by
 rw [Co,Co]
 conv=>lhs;rw [← Pg (g:=f) hv]
 conv=>rhs;rw [← Pg (g:=f) hu]
 exact Kg (Ed f) _ _ _
theorem AGP {g:List Int}{v:Vz}{j:Nat}(h:g.length≤j):Xg g v j=0:=if_neg (by omega)
theorem AHH {g:List Int}:∀ {F:List Int}{v:Vz},(∀ j,g.length≤j→v j=0)→∀ j,g.length≤j→Bl (Xg g) F v j=0
 | [],_,_,_,_=>rfl
 | a::F,v,hv,j,hj=>by
  show a*v j+Xg g (Bl (Xg g) F v) j=0
  rw [hv j hj,AGP hj];simp
theorem ACM {f:List Int}{u v:Vz}(hv:∀ j,f.length≤j→v j=0):∀ j,f.length≤j→Co f u v j=0:=AHH hv
theorem Nn {p:Nat}{f:List Int}(u:Vz) {v w:Vz}(h:cg p fun j=>v j-w j):cg p fun j=>Co f u v j-Co f u w j:=by
 have e:(fun j=>Co f u v j-Co f u w j)=Co f u (fun j=>v j-w j):=by
  have:=Vt f u 1 (-1) v w
  have e1:(fun j=>1*v j+-1*w j)=fun j=>v j-w j:=by funext j;omega
  rw [e1] at this
  rw [this];funext j;omega
 rw [e]
 exact AAd (Vt f u) h
theorem AJO {p m:Nat}{u v:Vz}(hu:∀ j,m≤j→u j=0) (hv:∀ j,m≤j→v j=0) (h:∀ j,j<m→(p:Int)∣u j-v j):cg p fun j=>u j-v j:=fun j=>by
 by_cases hj:j<m
 ·exact h j hj
 ·show (p:Int)∣u j-v j
  rw [hu j (by omega),hv j (by omega)];exact Int.dvd_zero _
theorem Er {a b c:Int}(h:a∣b) (e:b=c):a∣c:=e▸h
theorem AEn {m:Nat}{u v:Vz}(hu:∀ j,m≤j→u j=0) (hv:∀ j,m≤j→v j=0):∀ j,m≤j→(fun j=>u j+v j) j=0:=fun j hj=>by
 show u j+v j=0
 rw [hu j hj,hv j hj];rfl
theorem rp (p m x:Nat):∀ j,m≤j→C3 p m x j=0:=fun _ h=>We h
theorem Ib {p m:Nat}(hp:0<p) {v:Vz}(hv:∀ j,m≤j→v j=0):cg p fun j=>C3 p m (un p m v) j-v j:=AJO (rp p m _) hv fun _ h=>Dj hp v h
theorem AED {p m:Nat}(hp:2≤p) (hm:1≤m):C3 p m 1=Bs:=by
 obtain ⟨k,rfl⟩:∃ k,m=k+1:=⟨m-1,by omega⟩
 funext j
 by_cases hj:j<k+1
 ·rw [Qa hj,Dh,Nat.mod_eq_of_lt (by omega),Nat.div_eq_of_lt (by omega),Yy]
  cases j with
  | zero=>rfl
  | succ j=>rw [List.getD_cons_succ,List.getD_eq_getElem?_getD,List.getElem?_replicate,if_pos (by omega)];rfl
 ·rw [We (by omega),Bs,if_neg (by omega)]
theorem AJU {p:Nat}(hp:Prm p) {f:List Int}(hf:1≤f.length) (hs:¬ ABz p f):Fld (p ^ f.length) (fA p f.length) (fM p f):=by
 have hp0:0<p:=by have:=hp.1;omega
 generalize hm:f.length=m at *
 have hq:1<p ^ m:=Nat.one_lt_pow (by omega) hp.1
 have uc:∀ {u v:Vz},(cg p fun j=>u j-v j)→un p m u=un p m v:=fun h=>Gc fun j _=>h j
 have mo:∀ {u v:Vz},(∀ j,m≤j→v j=0)→∀ j,m≤j→Co f u v j=0:=fun hv=>by rw [← hm] at hv ⊢;exact ACM hv
 have mcm:∀ {u v:Vz},(∀ j,m≤j→u j=0)→(∀ j,m≤j→v j=0)→Co f u v=Co f v u:=fun hu hv=>by rw [← hm] at hu hv;exact Oq hu hv
 have fMe:∀ x y,fM p f x y=un p m (Co f (C3 p m x) (C3 p m y)):=fun x y=>by rw [fM,hm]
 have mass:∀ {u v w:Vz},(∀ j,m≤j→u j=0)→(∀ j,m≤j→v j=0)→(∀ j,m≤j→w j=0)→Co f (Co f u v) w=Co f u (Co f v w):=fun {u v w} hu hv hw=>by
  rw [mcm (mo hv) hw,mcm hv hw]
  exact Kg (Ed f) _ _ _
 refine ⟨by omega,fun x y _ _=>Xr hp0 _,fun x y _ _=>?_,fun x y z _ _ _=>?_,fun x hx=>?_,fun x hx=>?_,fun x y _ _=>by rw [fMe];exact Xr hp0 _,fun x y _ _=>?_,fun x y z _ _ _=>?_,fun x y z _ _ _=>?_,fun x hx=>?_,fun x y hx hy h=>?_⟩
 ·exact congrArg (un p m) (funext fun j=>Int.add_comm _ _)
 ·refine Gc fun j hj=>?_
  have h1:=Dj hp0 (fun j=>C3 p m x j+C3 p m y j) hj
  have h2:=Dj hp0 (fun j=>C3 p m y j+C3 p m z j) hj
  have:=Int.dvd_sub h1 h2
  rw [fA,fA]
  exact Er this (by omega)
 ·rw [fA,show (fun j=>C3 p m x j+C3 p m 0 j)=C3 p m x from funext fun j=>by rw [Hl];omega]
  exact Q4 hp0 hx
 ·refine ⟨un p m fun j=>-C3 p m x j,Xr hp0 _,?_⟩
  rw [fA]
  have:un p m (fun j=>C3 p m x j+C3 p m (un p m fun j=>-C3 p m x j) j)=un p m (C3 p m 0):=Gc fun j hj=>by
   have h1:=Dj hp0 (fun j=>-C3 p m x j) hj
   rw [Hl]
   exact Er h1 (by omega)
  rw [this,Q4 hp0 (by omega)]
 ·rw [fMe,fMe,mcm (rp p m x) (rp p m y)]
 ·rw [fMe,fMe,fMe,fMe]
  have e1:un p m (Co f (C3 p m (un p m (Co f (C3 p m x) (C3 p m y)))) (C3 p m z))=un p m (Co f (Co f (C3 p m x) (C3 p m y)) (C3 p m z)):=by
   rw [mcm (rp p m _) (rp p m z),mcm (mo (rp p m y)) (rp p m z)]
   exact uc (Nn _ (Ib hp0 (mo (rp p m y))))
  have e2:un p m (Co f (C3 p m x) (C3 p m (un p m (Co f (C3 p m y) (C3 p m z)))))=un p m (Co f (C3 p m x) (Co f (C3 p m y) (C3 p m z))):=uc (Nn _ (Ib hp0 (mo (rp p m z))))
  rw [e1,e2,mass (rp p m x) (rp p m y) (rp p m z)]
 ·rw [fMe,fMe,fMe,fA,fA]
  have e1:un p m (Co f (C3 p m x) (C3 p m (un p m fun j=>C3 p m y j+C3 p m z j)))=un p m (Co f (C3 p m x) (fun j=>C3 p m y j+C3 p m z j)):=uc (Nn _ (Ib hp0 (AEn (rp p m y) (rp p m z))))
  rw [e1,(Vt f _).add]
  refine Gc fun j hj=>?_
  have h1:=Dj hp0 (Co f (C3 p m x) (C3 p m y)) hj
  have h2:=Dj hp0 (Co f (C3 p m x) (C3 p m z)) hj
  have h3:=Int.dvd_add h1 h2
  exact Er (Int.dvd_neg.2 h3) (by omega)
 ·rw [fMe,AED hp.1 hf,Co,Pg (g:=f) (fun j hj=>rp p m x j (by omega)),Q4 hp0 hx]
 ·rw [fMe] at h
  have hc:cg p (Co f (C3 p m x) (C3 p m y)):=fun j=>by
   by_cases hj:j<m
   ·have h1:=Dj hp0 (Co f (C3 p m x) (C3 p m y)) hj
    rw [h,Hl] at h1
    have:=Int.dvd_neg.2 h1
    rwa [show -(0-Co f (C3 p m x) (C3 p m y) j)=Co f (C3 p m x) (C3 p m y) j by omega] at this
   ·rw [mo (rp p m y) j (by omega)];exact Int.dvd_zero _
  rcases AH2 hp (by omega) hs (by simp) (fun j hj=>rp p m y j (by omega)) hc with h1|h1
  ·refine .inl (AEJ hp0 hx (by omega) fun j hj=>?_)
   rw [Hl,Int.sub_zero]
   exact h1 _ (List.mem_map.2 ⟨j,List.mem_range.2 (by omega),rfl⟩)
  ·refine .inr (AEJ hp0 hy (by omega) fun j hj=>?_)
   rw [Hl,Int.sub_zero]
   exact h1 j
def sg (neg:Bool) (n:Nat):Int:=if neg then -(n:Int) else n
abbrev Rt3:=Bool×List Nat×List Nat
def vq (r:Rt3):Rat:=mkRat (sg r.1 (val r.2.1)) (val r.2.2)
def rt (q:Rat):Rt3:=(decide (q.num<0),AFU q.num.natAbs,AFU q.den)
abbrev Zs:=Bool×Nat
def AKS (a b:Zs):Zs:=if a.1=b.1 then (a.1,a.2+b.2) else if a.2<b.2 then (b.1,b.2-a.2) else (a.1,a.2-b.2)
def AF6 (a b:Zs):Zs:=AKS a (!b.1,b.2)
def AJP (a b:Zs):Zs:=(a.1 != b.1,a.2*b.2)
def iv (a:Zs):Int:=sg a.1 a.2
def AEN (q:Nat) (f:Nat→Zs):Nat→Zs
 | 0=>f 0
 | k+1=>AF6 (AF6 (f (k+1)) (f k)) (AJP (false,q-1) (AEN q f k))
def tz (q n:Nat):Nat→Nat→Zs
 | 0=>fun k=>(false,Ci n k*(q-1) ^ k)
 | x+1=>AEN q (tz q n x)
def qAt (L:List Rt3) (i:Nat):Rat:=vq (L.getD i default)
def wz (L:List Rt3) (D i:Nat):Zs:=(decide ((qAt L i).num<0),(qAt L i).num.natAbs*(D / (qAt L i).den))
def rs:Nat→(Nat→Rat)→Rat
 | 0,_=>0
 | n+1,f=>rs n f+f n
def pk (a:Int):List Int→List Int→(Nat→Int)
 | x::u,y::v=>lin (if x=y then a else -1) (pk a u v)
 | _,_=>dl
def Oh (q:Nat) (x y:Int):Int:=if x=y then (q:Int)-1 else -1
theorem ACC (n:Nat) (c:Int):sm n (fun _=>c)=n*c:=by
 induction n with
 | zero=>simp [sm]
 | succ n ih=>rw [sm,ih];grind
theorem AFh {n:Nat}{f:Nat→Int}(h:∀ i,i<n→0≤f i):0≤sm n f:=by
 induction n with
 | zero=>exact Int.le_refl 0
 | succ n ih =>
  have h1:=ih fun i hi=>h i (by omega)
  have h2:=h n (by omega)
  rw [sm];omega
theorem AEu {n x:Nat}(h:x<n) (g:Nat→Int):sm n (fun d=>if x=d then g d else 0)=g x:=by
 induction n with
 | zero=>omega
 | succ n ih =>
  rw [sm]
  by_cases e:x=n
  ·subst e
   rw [if_pos rfl,Sh (g:=fun _=>0) fun i hi=>if_neg (show ¬ x=i by omega),Vk];omega
  ·rw [if_neg e,ih (by omega)];omega
end Go.Proofs.YteadncphjconmaaGreat
