/-
The fifteenth text of the frame: several blocks handed to a callee; own blocks lent to a callee that reads alone; rows of rows of one's own. What the table of types of the program says, a closed fact each. The functions of the program, each with its body. The sixteenth text of the frame: function values, and calls of them. The seventeenth text of the frame: blocks that are given up and known cell by cell, such as a struct behind a pointer. The eighteenth text of the frame: several facts as one, for functions that are handed a function value. The frame's steps taken by themselves: what comes next in a walk is read off the place, and its law is applied. The table of types as lists that are looked up. A walk taken by itself, as far as its laws reach: each default proof is a script of ordinary tactics. The frame's last text: from a contract of a law to the given statement: arguments are opened, and read the same afterwards. Linear programs over the fractions: weak duality, the lemma of Farkas, rays, complementary slackness. Numbers as lists of limbs to the base 2^32: their values, the canonical lists, and how lists are cut. The canonical list of limbs of a number, and how it goes with values. Binomial coefficients. Krawtchouk numbers: the coefficients of (1 + a z)^m (1 - z)^x, and their laws. Residues of whole polynomials by a monic one, as a module with an operator; products of polynomials by their values at the operator; division. Residues of polynomials by a prime and a monic polynomial: where a product of two others is 0, the polynomial has a divisor. Numbers as lists of digits; the field of residues on numbers: its laws. Fractions: what a sign, a numerator and a denominator in limbs say, and the canonical form. Numbers with a sign, as the program has them; the program's table of Krawtchouk numbers. Integers among the fractions. The transform of a distribution, as the program reckons it. Sums of fractions; the transform of the transform. Delsarte's inequalities, the linear programming bound, the certificate of Singleton.
-/
import Derived.Test.YteadncphjconmaaGreatProg
import Derived.Laws.CopyRow
import Derived.Laws.IdiomCopy
import Derived.Lib.LazyBuf
import Derived.Calls
import Derived.SizedLaws
import Derived.OpenShut
import Derived.ChangeOld
import Derived.Carry
import Derived.ChangeArms
import Derived.Deep.Slices
import Derived.Test.YteadncphjconmaaGreatRY2
set_option linter.unusedVariables false
set_option linter.unusedSimpArgs false
namespace Go.Fw
open Go.RowKit (Below)
set_option linter.unusedVariables false
abbrev Hd:=Option Nat×Nat×Nat
def Sr:Enc Hd where
 size:=1
 bytes:=24
 rd:=fun _ _ vs h=>vs=[.slice (ad h.1) h.2.1 h.2.2]
 len:=fun h=>by rw [h];rfl
 one:=fun h v hv=>by rw [h] at hv;obtain rfl:=List.mem_singleton.1 hv;rfl
 stable:=fun _ h=>h
theorem Xe {w:World}{A:Nat→Prop}(bo:Option Nat) (n c:Nat):Sr.rd w A [.slice (ad bo) n c] (bo,n,c):=rfl
def Fu {α:Type}(f:Nat→α) (i:Nat) (v:α):Nat→α:=fun j=>if j=i then v else f j
theorem Cp {α:Type}(f:Nat→α) (i:Nat) (v:α):Fu f i v i=v:=if_pos rfl
theorem D7 {α:Type}{f:Nat→α}{i j:Nat}{v:α}(h:j≠i):Fu f i v j=f j:=if_neg h
def Jm (hd:Nat→Hd) (m:Nat):List Hd:=(List.range m).map hd
theorem Se {hd:Nat→Hd}{m:Nat}:(Jm hd m).length=m:=by simp [Jm]
theorem Pc {hd:Nat→Hd}{m i:Nat}(h:i<m):(Jm hd m)[i]?=some (hd i):=by
 rw [Jm,List.getElem?_map,List.getElem?_range h];rfl
theorem R5 {hd:Nat→Hd}{m i:Nat}{z:Hd}:(Jm hd m).set i z=Jm (Fu hd i z) m:=by
 refine List.ext_getElem? fun j=>?_
 rw [List.getElem?_set]
 by_cases e:i=j
 ·subst e
  by_cases h:i<m
  ·rw [if_pos rfl,if_pos (by rw [Se];exact h),Pc h,Cp]
  ·rw [if_pos rfl,if_neg (by rw [Se];exact h),List.getElem?_eq_none (by rw [Se];omega)]
 ·rw [if_neg e]
  by_cases h:j<m
  ·rw [Pc h,Pc h,D7 fun h=>e h.symm]
  ·rw [List.getElem?_eq_none (by rw [Se];omega),List.getElem?_eq_none (by rw [Se];omega)]
def C9 (e:TypeId) (hd:Nat→Hd) (cs:Nat→List Value) (m:Nat) (sk:List Nat):List A1 :=
 ((List.range m).filter fun i=>!Bm i sk).map fun i=>((hd i).1,e,cs i)
def D1 {α:Type}(E:Enc α) (hd:Nat→Hd) (cs:Nat→List Value) (ls:Nat→List α) (m:Nat) (sk:List Nat):Fact where
 holds:=fun w A=>∀ i,i<m→Bm i sk=false→(A6 E ⟨(hd i).1,(hd i).2.2,cs i⟩ (hd i).2.1 (ls i)).holds w A
 stable:=fun h hh i hi hs=>(A6 E _ _ (ls i)).stable h (hh i hi hs)
theorem Ar {i j:Nat}{sk:List Nat}:Bm i (j::sk)=(decide (i=j) || Bm i sk):=by
 simp only [Bm]
 by_cases h:i=j
 ·subst h;simp
 ·have:Nat.beq i j=false:=by
   cases hb:Nat.beq i j with
   | true=>exact absurd (Nat.eq_of_beq_eq_true hb) h
   | false=>rfl
  simp [this,h]
theorem AAZ {l:List Nat}(hl:l.Nodup) {i:Nat}{sk:List Nat}(hi:i∈l) (hs:Bm i sk=false) :
  (i::l.filter fun j=>!Bm j (i::sk)).Perm (l.filter fun j=>!Bm j sk):=by
 induction l with
 | nil=>cases hi
 | cons x l ih =>
  have hx:=List.nodup_cons.1 hl
  by_cases e:x=i
  ·subst e
   have h1:l.filter (fun j=>!Bm j (x::sk))=l.filter (fun j=>!Bm j sk):=by
    refine List.filter_congr fun j hj=>?_
    have:j≠x:=fun h=>hx.1 (h▸hj)
    rw [Ar];simp [this]
   rw [List.filter_cons_of_neg (by rw [Ar];simp),List.filter_cons_of_pos (by simp [hs]),h1]
  ·have hi':i∈l:=(List.mem_cons.1 hi).resolve_left fun h=>e h.symm
   have ih:=ih hx.2 hi'
   by_cases hxs:Bm x sk=true
   ·rw [List.filter_cons_of_neg (by rw [Ar];simp [hxs]),List.filter_cons_of_neg (by simp [hxs])]
    exact ih
   ·have hxs:Bm x sk=false:=by simpa using hxs
    rw [List.filter_cons_of_pos (by rw [Ar];simp [hxs,e]),List.filter_cons_of_pos (by simp [hxs])]
    exact (List.Perm.swap x i _).trans (List.Perm.cons x ih)
theorem X8 {e:TypeId}{hd:Nat→Hd}{cs:Nat→List Value}{m i:Nat}{sk:List Nat}(hi:i<m) (hs:Bm i sk=false) :
  (((hd i).1,e,cs i)::C9 e hd cs m (i::sk)).Perm (C9 e hd cs m sk) :=
 (AAZ List.nodup_range (List.mem_range.2 hi) hs).map fun i=>(((hd i).1,e,cs i):A1)
theorem AFo {e:TypeId}{hd hd':Nat→Hd}{cs cs':Nat→List Value}{m:Nat}{sk:List Nat}(h:∀ j,j<m→Bm j sk=false→(hd j).1=(hd' j).1∧cs j=cs' j):C9 e hd cs m sk=C9 e hd' cs' m sk:=by
 refine List.map_congr_left fun j hj=>?_
 obtain ⟨h1,h2⟩:=List.mem_filter.1 hj
 obtain ⟨h3,h4⟩:=h j (List.mem_range.1 h1) (by simpa using h2)
 rw [h3,h4]
section
variable {P:Program}{F:Fun P}{C:Cx}{S:List It}{σ:Fr}{β:List A1}{Γ:List Fact}{R:Value→World→Prop}{p:List Nat}{i:Nat}{d:Option Tmp}{op:Op}{ty:TypeId}{K:Value→List A1→List Fact→Prop}
theorem AGN {α:Type}{E:Enc α}{e:TypeId}{pre post:List A1}{hd:Nat→Hd}{cs:Nat→List Value}{ls:Nat→List α}{m:Nat}{sk:List Nat}(i j N:Nat) (hβ:β=pre++(C9 e hd cs m sk++post)) (hj:A3 Γ j=some (D1 E hd cs ls m sk)) (hi:i<m) (hs:Bm i sk=false) (hN:(hd i).2.1=N)
  (h:∀ r:Row,(Jm hd m)[i]?=some (r.bo,N,r.cap)→J F C S σ ((r.bo,e,r.cs)::(pre++(C9 e hd cs m (i::sk)++post))) (A6 E r N (ls i)::D1 E hd cs ls m (i::sk)::Γ) R):J F C S σ β Γ R:=by
 subst hβ
 have hp:(((hd i).1,e,cs i)::(pre++(C9 e hd cs m (i::sk)++post))).Perm (pre++(C9 e hd cs m sk++post)) :=
  List.Perm.trans List.perm_middle.symm (List.Perm.append_left pre (List.Perm.append_right post (X8 (e:=e) (hd:=hd) (cs:=cs) hi hs)))
 refine AF8 hp ?_
 refine G9 (D1 E hd cs ls m (i::sk)) (fun w A hG k hk hks=>?_) ?_
 ·rw [Ar] at hks
  simp only [Bool.or_eq_false_iff,decide_eq_false_iff_not] at hks
  exact hG _ (Ai hj) k hk hks.2
 ·refine G9 (A6 E ⟨(hd i).1,(hd i).2.2,cs i⟩ N (ls i)) (fun w A hG=>?_) ?_
  ·have:=hG _ (.tail _ (Ai hj)) i hi hs
   rwa [hN] at this
  ·exact h ⟨(hd i).1,(hd i).2.2,cs i⟩ (by rw [Pc hi,← hN])
theorem AHw {β:List A1}{k:Nat}{x:A1}(h:A3 β k=some x):(x::β.eraseIdx k).Perm β:=by
 rw [By] at h
 induction β generalizing k with
 | nil=>simp at h
 | cons y l ih =>
  cases k with
  | zero=>simp at h;subst h;exact List.Perm.refl _
  | succ k =>
   rw [List.eraseIdx_cons_succ]
   exact List.Perm.trans (List.Perm.swap y x _) (List.Perm.cons y (ih (by simpa using h)))
theorem AEs {α:Type}{E:Enc α}{e:TypeId}{pre post:List A1}{hd:Nat→Hd}{cs:Nat→List Value}{ls:Nat→List α}{m:Nat}{sk:List Nat}{r:Row}{N:Nat}{l:List α}(i k j1 j2:Nat) (hk:A3 β k=some (r.bo,e,r.cs)) (hβ:β.eraseIdx k=pre++(C9 e hd cs m (i::sk)++post))
  (h1:A3 Γ j1=some (A6 E r N l)) (h2:A3 Γ j2=some (D1 E hd cs ls m (i::sk))) (hi:i<m) (hs:Bm i sk=false)
  (h:J F C S σ (pre++(C9 e (Fu hd i (r.bo,N,r.cap)) (Fu cs i r.cs) m sk++post)) (D1 E (Fu hd i (r.bo,N,r.cap)) (Fu cs i r.cs) (Fu ls i l) m sk::Γ) R):J F C S σ β Γ R:=by
 have e0:C9 e hd cs m (i::sk)=C9 e (Fu hd i (r.bo,N,r.cap)) (Fu cs i r.cs) m (i::sk):=AFo fun j _ hj=>by
  rw [Ar] at hj
  simp only [Bool.or_eq_false_iff,decide_eq_false_iff_not] at hj
  rw [D7 hj.1,D7 hj.1];exact ⟨rfl,rfl⟩
 have hp:(pre++(C9 e (Fu hd i (r.bo,N,r.cap)) (Fu cs i r.cs) m sk++post)).Perm β:=by
  refine List.Perm.trans ?_ (AHw hk)
  rw [hβ,e0]
  have:=X8 (e:=e) (hd:=Fu hd i (r.bo,N,r.cap)) (cs:=Fu cs i r.cs) hi hs
  rw [Cp,Cp] at this
  have h2:((r.bo,e,r.cs)::(C9 e (Fu hd i (r.bo,N,r.cap)) (Fu cs i r.cs) m (i::sk)++post)).Perm (C9 e (Fu hd i (r.bo,N,r.cap)) (Fu cs i r.cs) m sk++post):=List.Perm.append_right post this
  exact List.Perm.symm (List.Perm.trans List.perm_middle.symm (List.Perm.append_left pre h2))
 refine AF8 hp (G9 (D1 E (Fu hd i (r.bo,N,r.cap)) (Fu cs i r.cs) (Fu ls i l) m sk) (fun w A hG q hq hqs=>?_) h)
 by_cases e1:q=i
 ·subst e1
  rw [Cp,Cp,Cp]
  exact hG _ (Ai h1)
 ·rw [D7 e1,D7 e1,D7 e1]
  exact hG _ (Ai h2) q hq (by rw [Ar];simp [e1,hqs])
theorem ACw {t e:TypeId}{x:Operand}{b o n cap:Nat}{cs:List Value}{l:List Hd}{z:Hd}(k j i:Nat)
  (hx:ev σ x=some (.pointer (some ⟨b,o,none⟩))) (hn:A3 β k=some (some b,e,cs)) (hj:A3 Γ j=some (A6 Sr ⟨some b,cap,cs⟩ n l)) (hT:Dc P t=some (false,1)) (ho:o=i) (hz:l[i]?=some z)
  (h:K (.slice (ad z.1) z.2.1 z.2.2) β Γ):Ea P C (.load t x) ty σ β Γ K:=fun w hO hG=>by
 subst ho
 obtain ⟨hl,_⟩:=id (hG _ (Ai hj))
 have hi:o<n:=by rw [hl];exact (List.getElem?_eq_some_iff.1 hz).1
 obtain ⟨z',vs,hz',hp,e1⟩:=Oo (hG _ (Ai hj)) hi
 obtain rfl:z=z':=Option.some.inj (hz.symm.trans hz')
 have e2:vs=[.slice (ad z.1) z.2.1 z.2.2]:=e1
 subst e2
 have e3:Sr.size=1:=rfl
 rw [e3,Nat.mul_one] at hp
 have hc:cs[o]?=some (.slice (ad z.1) z.2.1 z.2.2):=by
  have:=congrArg (·[0]?) hp
  simpa [List.getElem?_take,List.getElem?_drop] using this
 exact Da k hx hn hT hc h w hO hG
theorem Kx {kd:IntKind}{by':Nat}{t e:TypeId}{x:Operand}{b o n cap:Nat}{cs:List Value}{l:List Int}{z:Int}(k j i:Nat)
  (hx:ev σ x=some (.pointer (some ⟨b,o,none⟩))) (hn:A3 β k=some (some b,e,cs)) (hj:A3 Γ j=some (A6 (Bt kd by') ⟨some b,cap,cs⟩ n l)) (hT:Dc P t=some (false,1)) (ho:o=i) (hz:l[i]?=some z)
  (h:Cg kd z→K (.int kd z) β Γ):Ea P C (.load t x) ty σ β Γ K:=fun w hO hG=>by
 subst ho
 obtain ⟨hl,_⟩:=id (hG _ (Ai hj))
 have hi:o<n:=by rw [hl];exact (List.getElem?_eq_some_iff.1 hz).1
 obtain ⟨z',vs,hz',hp,e1,e4⟩:=Oo (hG _ (Ai hj)) hi
 obtain rfl:z=z':=Option.some.inj (hz.symm.trans hz')
 subst e1
 have e3:(Bt kd by').size=1:=rfl
 rw [e3,Nat.mul_one] at hp
 have hc:cs[o]?=some (.int kd z):=by
  have:=congrArg (·[0]?) hp
  simpa [List.getElem?_take,List.getElem?_drop] using this
 exact Da k hx hn hT hc (h e4) w hO hG
theorem Gz {t e:TypeId}{x:Operand}{b o n cap:Nat}{cs:List Value}{l:List Hd}{z:Hd}(k j i:Nat)
  (hx:ev σ x=some (.pointer (some ⟨b,o,none⟩))) (hn:A3 β k=some (some b,e,cs)) (hj:A3 Γ j=some (A6 Sr ⟨some b,cap,cs⟩ n l)) (hT:Dc P t=some (false,1)) (ho:o=i) (hz:l[i]?=some z) :
  JD P (.load t x) ty σ β Γ (fun _=>.slice (ad z.1) z.2.1 z.2.2) (fun _=>[]):=fun C w hO hG=>by
 subst ho
 obtain ⟨hl,_⟩:=id (hG _ (Ai hj))
 have hi:o<n:=by rw [hl];exact (List.getElem?_eq_some_iff.1 hz).1
 obtain ⟨z',vs,hz',hp,e1⟩:=Oo (hG _ (Ai hj)) hi
 obtain rfl:z=z':=Option.some.inj (hz.symm.trans hz')
 have e2:vs=[.slice (ad z.1) z.2.1 z.2.2]:=e1
 subst e2
 have e3:Sr.size=1:=rfl
 rw [e3,Nat.mul_one] at hp
 have hc:cs[o]?=some (.slice (ad z.1) z.2.1 z.2.2):=by
  have:=congrArg (·[0]?) hp
  simpa [List.getElem?_take,List.getElem?_drop] using this
 exact (E4 (P:=P) (ty:=ty) (t:=t) hT hx (N2 hO hn hc)).ex.mono fun u w' ⟨h1,h2⟩=>by
  subst h1;subst h2
  exact ⟨Below.refl _ _,default,rfl,fun g hg=>by cases hg⟩
theorem K2 {kd:IntKind}{by':Nat}{t e:TypeId}{x:Operand}{b o n cap:Nat}{cs:List Value}{l:List Int}{z:Int}(k j i:Nat)
  (hx:ev σ x=some (.pointer (some ⟨b,o,none⟩))) (hn:A3 β k=some (some b,e,cs)) (hj:A3 Γ j=some (A6 (Bt kd by') ⟨some b,cap,cs⟩ n l)) (hT:Dc P t=some (false,1)) (ho:o=i) (hz:l[i]?=some z) :
  JD P (.load t x) ty σ β Γ (fun _=>.int kd z) (fun _=>[]):=fun C w hO hG=>by
 subst ho
 obtain ⟨hl,_⟩:=id (hG _ (Ai hj))
 have hi:o<n:=by rw [hl];exact (List.getElem?_eq_some_iff.1 hz).1
 obtain ⟨z',vs,hz',hp,e1,e4⟩:=Oo (hG _ (Ai hj)) hi
 obtain rfl:z=z':=Option.some.inj (hz.symm.trans hz')
 subst e1
 have e3:(Bt kd by').size=1:=rfl
 rw [e3,Nat.mul_one] at hp
 have hc:cs[o]?=some (.int kd z):=by
  have:=congrArg (·[0]?) hp
  simpa [List.getElem?_take,List.getElem?_drop] using this
 exact (E4 (P:=P) (ty:=ty) (t:=t) hT hx (N2 hO hn hc)).ex.mono fun u w' ⟨h1,h2⟩=>by
  subst h1;subst h2
  exact ⟨Below.refl _ _,default,rfl,fun g hg=>by cases hg⟩
theorem AD7 {f:FuncId}{xs:List Operand}{ts:Array TypeId}{args:List Value}{Γ':List Fact}{β1 β2:List A1}{Q:Value→List Fact→List A1→Prop}(l:List Nat) (hn:(β1++β2).Perm β)
  (hx:Yb σ xs=some args) (hc:Bk P f args β1 Γ' Q) (hp:pick Γ l=some Γ')
  (h:∀ v Φ β',Q v Φ β'→K v (β'++β2) (Φ++Γ)):Ea P C (.call { callee:=.value (.func f),args:=xs.toArray,argTypes:=ts }) ty σ β Γ K:=by
 intro w hO0 hG0
 have hO:Own C w (β1++β2):=⟨hO0.ext,fun x hx=>hO0.new x (hn.subset hx),fun x hx=>hO0.blk x (hn.subset hx),by
  rw [Bw]
  exact (hn.pairwise_iff (fun {x y} hxy b hb e=>hxy b e hb)).2 (Bw.1 hO0.apart)⟩
 have hG:∀ f∈Γ,f.holds w (ok C w (β1++β2)):=fun f hf=>f.stable (fun k hk=>⟨⟨hk.1,hk.2.1,fun x hx=>hk.2.2 x (hn.subset hx)⟩,rfl⟩) (hG0 f hf)
 have hs1:β1.Sublist (β1++β2):=List.sublist_append_left _ _
 have hs2:β2.Sublist (β1++β2):=List.sublist_append_right _ _
 have hO2:Own C w β2:=hO.sub hs2
 have hapart:∀ x∈β1,∀ y∈β2,∀ b,x.1=some b→y.1≠some b:=by
  have:=Bw.1 hO.apart
  rw [List.pairwise_append] at this
  exact fun x hx y hy b hb=>this.2.2 x hx y hy b hb
 have hcall:=hc.2 w (ok C w (β1++β2)) (fun k hk=>hk.2.1) (fun x hx b hb=>hO.blk x (hs1.subset hx) b hb)
  (hO.sub hs1).apart (fun g hg=>g.stable (fun k hk=>⟨⟨hk,fun ⟨x,hx,e⟩=>hk.2.2 x (hs1.subset hx) e⟩,rfl⟩) (hG g (D3 hp g hg)))
 refine (ABe hc.1 hx hcall).mono ?_
 rintro v w' ⟨Φ,β',hQ,hO',hΦ⟩
 have hkeep:∀ k,k<w.heap.size→¬ Sv β1 k→w'.heap[k]?=w.heap[k]?:=fun k hk hne=>hO'.ext.block k hk hne
 have hnb:∀ x∈β2,∀ b,x.1=some b→¬ Sv β1 b:=fun x hx b hb ⟨y,hy,e⟩=>hapart y hy x hx b e hb
 have hnew:∀ x∈β',∀ b,x.1=some b→w.heap.size≤b∨Sv β1 b:=fun x hx b hb=>hO'.new x hx b hb
 refine ⟨_,_,h v Φ β' hQ,⟨⟨hO'.ext.os.trans hO.ext.os,hO'.ext.tape.trans hO.ext.tape,hO'.ext.output.trans hO.ext.output,Nat.le_trans hO.ext.size hO'.ext.size,fun k hk hm=>?_⟩,?_,?_,?_⟩,?_⟩
 ·rw [hkeep k (Nat.lt_of_lt_of_le hk hO.ext.size) (fun ⟨y,hy,e⟩=>?_)]
  ·exact hO.ext.block k hk hm
  ·rcases hO.new y (hs1.subset hy) k e with h|h
   ·omega
   ·exact hm h
 ·intro x hm b hb
  rcases List.mem_append.1 hm with hm|hm
  ·rcases hnew x hm b hb with h|⟨y,hy,e⟩
   ·exact .inl (Nat.le_trans hO.ext.size h)
   ·exact hO.new y (hs1.subset hy) b e
  ·exact hO2.new x hm b hb
 ·intro x hm b hb
  rcases List.mem_append.1 hm with hm|hm
  ·exact hO'.blk x hm b hb
  ·rw [hkeep b (hO2.lt hm hb) (hnb x hm b hb)]
   exact hO2.blk x hm b hb
 ·refine hO'.apart.append hO2.apart fun x hx y hy b hb e=>?_
  rcases hnew x hx b hb with h1|h1
  ·have h2:=hO2.lt hy e
   omega
  ·exact hnb y hy b e h1
 ·intro g hg
  rcases List.mem_append.1 hg with hg|hg
  ·refine g.stable (fun k hk=>⟨⟨?_,hk.2.1,fun x hx=>?_⟩,rfl⟩) (hΦ g hg)
   ·rcases hk.1 with h1|⟨y,hy,e⟩|h1
    ·exact h1.1
    ·rcases hO.new y (hs1.subset hy) k e with h|h
     ·exact .inr (.inr h)
     ·exact .inr (.inl h)
    ·exact .inr (.inr (Nat.le_trans hO.ext.size h1))
   ·rcases List.mem_append.1 hx with hx|hx
    ·exact hk.2.2 x hx
    ·intro e
     rcases hk.1 with h1|h1|h1
     ·exact h1.2.2 x (hs2.subset hx) e
     ·exact hnb x hx k e h1
     ·have h2:=hO2.lt hx e
      have h1':w.heap.size≤k:=h1
      omega
  ·refine g.stable (fun k hk=>⟨⟨hk.1,Nat.lt_of_lt_of_le hk.2.1 hO'.ext.size,fun x hx=>?_⟩,hkeep k hk.2.1 (fun ⟨y,hy,e⟩=>hk.2.2 y (hs1.subset hy) e)⟩) (hG g hg)
   rcases List.mem_append.1 hx with hx|hx
   ·intro e
    rcases hnew x hx k e with h1|⟨y,hy,e2⟩
    ·have:=hk.2.1
     omega
    ·exact hk.2.2 y (hs1.subset hy) e2
   ·exact hk.2.2 x (hs2.subset hx)
theorem AGh {α:Type}{E:Enc α}{e:TypeId}{w:World}{r:Row}{n:Nat}{l:List α}{A:Nat→Prop}(hO:Own C w β) (hm:(r.bo,e,r.cs)∈β) (hA:∀ k,ok C w β k→A k) (hb:∀ b,r.bo=some b→A b) (h:(A6 E r n l).holds w (ok C w β)) (hby:n*E.bytes≤140737488355328) :
  (As E (ad r.bo) n r.cap l).holds w A:=by
 obtain ⟨hl,hg,vss,hall,ht⟩:=h
 subst hl
 refine ⟨rfl,?_⟩
 rcases hg with ⟨h1,hn0,h3,h4⟩|⟨b,h1,hnc,hcm,hcs⟩
 ·have:l=[]:=List.eq_nil_of_length_eq_zero hn0
  subst this
  exact ⟨Nat.zero_le _,hby,.inl rfl⟩
 ·refine ⟨hnc,hby,.inr ⟨b,0,by rw [h1];rfl,hb b h1,fun i x hi=>?_⟩⟩
  have hlt:i<l.length:=(List.getElem?_eq_some_iff.1 hi).1
  obtain ⟨vs,hvs⟩:∃ vs,vss[i]?=some vs:=⟨vss[i]'(hall.1.symm▸hlt),by simp⟩
  have hpart:=Hz (G8 hall) i vs hvs
  have hrd:=hall.2 i vs x hvs hi
  refine ⟨vs,⟨r.cs.toArray,e,(0,0),hO.blk _ hm b h1,?_,E.len hrd⟩,E.stable (fun k hk=>⟨hA k hk,rfl⟩) hrd⟩
  rw [← hpart,← ht,Nat.zero_add,List.drop_take,List.take_take]
  congr 1
  have h4:(i+1)*E.size≤l.length*E.size:=Nat.mul_le_mul_right _ hlt
  rw [Nat.succ_mul] at h4
  omega
theorem AFY {α:Type}{E:Enc α}{e:TypeId}{post:List A1}{hd:Nat→Hd}{cs:Nat→List Value}{ls:Nat→List α}{m:Nat}{sk:List Nat}(k i j N:Nat) (hβ:β.drop k=C9 e hd cs m sk++post) (hj:A3 Γ j=some (D1 E hd cs ls m sk)) (hi:i<m) (hs:Bm i sk=false) (hN:(hd i).2.1=N)
  (h:∀ r:Row,(Jm hd m)[i]?=some (r.bo,N,r.cap)→J F C S σ ((r.bo,e,r.cs)::(β.take k++(C9 e hd cs m (i::sk)++post))) (A6 E r N (ls i)::D1 E hd cs ls m (i::sk)::Γ) R):J F C S σ β Γ R :=
 AGN (pre:=β.take k) (post:=post) i j N (by rw [← hβ,List.take_append_drop]) hj hi hs hN h
theorem Fl {α:Type}{E:Enc α}{e:TypeId}{hd:Nat→Hd}{cs:Nat→List Value}{ls:Nat→List α}{m:Nat}{sk:List Nat}(k i j N:Nat) (hβ:β.drop k=C9 e hd cs m sk) (hj:A3 Γ j=some (D1 E hd cs ls m sk)) (hi:i<m) (hs:Bm i sk=false) (hN:(hd i).2.1=N)
  (h:∀ r:Row,(Jm hd m)[i]?=some (r.bo,N,r.cap)→J F C S σ ((r.bo,e,r.cs)::(β.take k++C9 e hd cs m (i::sk))) (A6 E r N (ls i)::D1 E hd cs ls m (i::sk)::Γ) R):J F C S σ β Γ R :=
 AFY (post:=[]) k i j N (by rw [hβ,List.append_nil]) hj hi hs hN fun r hr=>by rw [List.append_nil];exact h r hr
theorem AC2 {α:Type}{E:Enc α}{e:TypeId}{post:List A1}{hd:Nat→Hd}{cs:Nat→List Value}{ls:Nat→List α}{m:Nat}{sk:List Nat}{r:Row}{N:Nat}{l:List α}(q i k j1 j2:Nat) (hk:A3 β k=some (r.bo,e,r.cs)) (hβ:(β.eraseIdx k).drop q=C9 e hd cs m (i::sk)++post)
  (h1:A3 Γ j1=some (A6 E r N l)) (h2:A3 Γ j2=some (D1 E hd cs ls m (i::sk))) (hi:i<m) (hs:Bm i sk=false)
  (h:J F C S σ ((β.eraseIdx k).take q++(C9 e (Fu hd i (r.bo,N,r.cap)) (Fu cs i r.cs) m sk++post)) (D1 E (Fu hd i (r.bo,N,r.cap)) (Fu cs i r.cs) (Fu ls i l) m sk::Γ) R):J F C S σ β Γ R :=
 AEs (pre:=(β.eraseIdx k).take q) (post:=post) i k j1 j2 hk (by rw [← hβ,List.take_append_drop]) h1 h2 hi hs h
theorem Ct {α:Type}{E:Enc α}{e:TypeId}{hd:Nat→Hd}{cs:Nat→List Value}{ls:Nat→List α}{m:Nat}{sk:List Nat}{r:Row}{N:Nat}{l:List α}(q i k j1 j2:Nat) (hk:A3 β k=some (r.bo,e,r.cs)) (hβ:(β.eraseIdx k).drop q=C9 e hd cs m (i::sk))
  (h1:A3 Γ j1=some (A6 E r N l)) (h2:A3 Γ j2=some (D1 E hd cs ls m (i::sk))) (hi:i<m) (hs:Bm i sk=false)
  (h:J F C S σ ((β.eraseIdx k).take q++C9 e (Fu hd i (r.bo,N,r.cap)) (Fu cs i r.cs) m sk) (D1 E (Fu hd i (r.bo,N,r.cap)) (Fu cs i r.cs) (Fu ls i l) m sk::Γ) R):J F C S σ β Γ R :=
 AC2 (post:=[]) q i k j1 j2 hk (by rw [hβ,List.append_nil]) h1 h2 hi hs (by rw [List.append_nil];exact h)
theorem Yu {α:Type}(E:Enc α) (e:TypeId) (m:Nat) (h:J F C S σ (β++C9 e (fun _=>(none,0,0)) (fun _=>[]) m []) (D1 E (fun _=>(none,0,0)) (fun _=>[]) (fun _=>[]) m []::Γ) R):J F C S σ β Γ R:=fun w hO hG=>by
 have hn:∀ x∈C9 e (fun _=>(none,0,0)) (fun _=>[]) m [],x.1=none:=fun x hx=>by
  obtain ⟨i,_,rfl⟩:=List.mem_map.1 hx
  rfl
 have hok:∀ k,ok C w β k→ok C w (β++C9 e (fun _=>(none,0,0)) (fun _=>[]) m []) k:=fun k hk=>⟨hk.1,hk.2.1,fun x hx=>by
  rcases List.mem_append.1 hx with hx|hx
  ·exact hk.2.2 x hx
  ·rw [hn x hx];intro h;cases h⟩
 refine h w ⟨hO.ext,fun x hx b hb=>?_,fun x hx b hb=>?_,?_⟩ fun f hf=>?_
 ·rcases List.mem_append.1 hx with hx|hx
  ·exact hO.new x hx b hb
  ·rw [hn x hx] at hb;cases hb
 ·rcases List.mem_append.1 hx with hx|hx
  ·exact hO.blk x hx b hb
  ·rw [hn x hx] at hb;cases hb
 ·refine hO.apart.append ?_ fun x _ y hy b _=>by rw [hn y hy];intro h;cases h
  rw [Bw,List.pairwise_iff_getElem]
  intro i j hi hj _ b hb
  rw [hn _ (List.getElem_mem hi)] at hb;cases hb
 ·rcases List.mem_cons.1 hf with rfl|hf
  ·exact fun i _ _=>⟨rfl,Lo.nil _,[],C8,by simp⟩
  ·exact f.stable (fun k hk=>⟨hok k hk,rfl⟩) (hG f hf)
theorem AFs {e:TypeId}{b n:Nat}(k:Nat) (hn:A3 β k=some (some b,e,(List.replicate n [Value.slice none 0 0]).flatten)) (h63:n≤9223372036854775807)
  (h:∀ cs,J F C S σ (setB β k cs) (A6 Sr ⟨some b,n,cs⟩ n (Jm (fun _=>(none,0,0)) n)::Γ) R):J F C S σ β Γ R:=by
 have e1:setB β k (List.replicate n [Value.slice none 0 0]).flatten=β:=by
  have key:∀ (β:List A1) (k:Nat),A3 β k=some (some b,e,(List.replicate n [Value.slice none 0 0]).flatten)→setB β k (List.replicate n [Value.slice none 0 0]).flatten=β:=by
   intro β
   induction β with
   | nil=>intro k h;simp [A3] at h
   | cons x l ih =>
    intro k h
    cases k with
    | zero =>
     have:x=(some b,e,(List.replicate n [Value.slice none 0 0]).flatten):=by simpa [A3] using h
     subst this;rfl
    | succ k =>
     have h':A3 l k=some (some b,e,(List.replicate n [Value.slice none 0 0]).flatten):=h
     show x::setB l k _=x::l
     rw [ih k h']
  exact key β k hn
 have h2:=h (List.replicate n [Value.slice none 0 0]).flatten
 rw [e1] at h2
 refine G9 _ (fun w A _=>?_) h2
 refine ⟨by simp [Jm],.inr ⟨b,rfl,Nat.le_refl _,h63,?_⟩,List.replicate n [Value.slice none 0 0],?_,?_⟩
 ·show (List.replicate n [Value.slice none 0 0]).flatten.length=n*1
  rw [Gb (m:=1) (fun v hv=>by rw [(List.mem_replicate.1 hv).2];rfl),List.length_replicate]
 ·have e2:Jm (fun _=>((none,0,0):Hd)) n=List.replicate n (none,0,0):=by
   simp only [Jm]
   refine List.ext_getElem? fun i=>?_
   by_cases hi:i<n
   ·simp [hi]
   ·simp [hi]
  rw [e2]
  exact AEy (E:=Sr) (Xe none 0 0) n
 ·show List.take (n*1) (List.replicate n [Value.slice none 0 0]).flatten=_
  rw [List.take_of_length_le]
  rw [Gb (m:=1) (fun v hv=>by rw [(List.mem_replicate.1 hv).2];rfl),List.length_replicate];omega
theorem AFa {α:Type}{E:Enc α}{e e2:TypeId}{post:List A1}{r:Row}{hd:Nat→Hd}{cs:Nat→List Value}{ls:Nat→List α}{m:Nat}(q k j1 j2:Nat) (hβ:β.drop q=C9 e hd cs m []++post) (hk:A3 β k=some (r.bo,e2,r.cs)) (h1:A3 Γ j1=some (A6 Sr r m (Jm hd m))) (h2:A3 Γ j2=some (D1 E hd cs ls m []))
  (hby:∀ i,i<m→(hd i).2.1*E.bytes≤140737488355328) (h:J F C S σ (β.take q++post) (A6 (Af E) r m ((List.range m).map ls)::Γ) R):J F C S σ β Γ R:=fun w hO hG=>by
 have hβ':β=β.take q++(C9 e hd cs m []++post):=by rw [← hβ,List.take_append_drop]
 have hsub:(β.take q++post).Sublist β:=by
  conv=>rhs;rw [hβ']
  exact List.Sublist.append_left (List.sublist_append_right _ _) _
 refine h w (hO.sub hsub) fun f hf=>?_
 rcases List.mem_cons.1 hf with rfl|hf
 ·obtain ⟨hl,hg,vss,hall,ht⟩:=hG _ (Ai h1)
  have hmat:=hG _ (Ai h2)
  refine ⟨by simp,hg,vss,⟨by rw [hall.1,Se];simp,fun i vs x hv hx=>?_⟩,ht⟩
  have hlt:i<m:=by
   have:=(List.getElem?_eq_some_iff.1 hx).1
   simpa using this
  rw [List.getElem?_map,List.getElem?_range hlt] at hx
  obtain rfl:ls i=x:=Option.some.inj hx
  have hvs:vs=[.slice (ad (hd i).1) (hd i).2.1 (hd i).2.2]:=hall.2 i vs _ hv (Pc hlt)
  subst hvs
  have hmem0:((hd i).1,e,cs i)∈C9 e hd cs m []:=List.mem_map.2 ⟨i,List.mem_filter.2 ⟨List.mem_range.2 hlt,rfl⟩,rfl⟩
  have hmem:((hd i).1,e,cs i)∈β:=by rw [hβ'];exact List.mem_append_right _ (List.mem_append_left _ hmem0)
  have hd2:∀ b,(hd i).1=some b→∀ x∈β.take q++post,x.1≠some b:=fun b hb x hx=>by
   have hap:=hO.apart
   rw [hβ',Bw,List.pairwise_append] at hap
   rcases List.mem_append.1 hx with hx|hx
   ·intro hx2
    exact hap.2.2 x hx _ (List.mem_append_left _ hmem0) b hx2 hb
   ·have:=hap.2.1
    rw [List.pairwise_append] at this
    exact this.2.2 _ hmem0 x hx b hb
  refine Dg (AGh (r:=⟨(hd i).1,(hd i).2.2,cs i⟩) hO hmem (fun k hk=>⟨hk.1,hk.2.1,fun x hx=>hk.2.2 x (hsub.subset hx)⟩) (fun b hb=>⟨?_,hO.lt hmem hb,hd2 b hb⟩) (hmat i hlt rfl) (hby i hlt))
  rcases hO.new _ hmem b hb with h|h
  ·exact .inr (.inr h)
  ·exact .inr (.inl h)
 ·exact Sp hsub hG f hf
theorem V5 {α:Type}{E:Enc α}{e e2:TypeId}{r:Row}{hd:Nat→Hd}{cs:Nat→List Value}{ls:Nat→List α}{m:Nat}(q k j1 j2:Nat) (hβ:β.drop q=C9 e hd cs m []) (hk:A3 β k=some (r.bo,e2,r.cs)) (h1:A3 Γ j1=some (A6 Sr r m (Jm hd m))) (h2:A3 Γ j2=some (D1 E hd cs ls m []))
  (hby:∀ i,i<m→(hd i).2.1*E.bytes≤140737488355328) (h:J F C S σ (β.take q) (A6 (Af E) r m ((List.range m).map ls)::Γ) R):J F C S σ β Γ R :=
 AFa (post:=[]) q k j1 j2 (by rw [hβ,List.append_nil]) hk h1 h2 hby (by rw [List.append_nil];exact h)
theorem Cs {α:Type}{E:Enc α}{hd:Nat→Hd}{cs:Nat→List Value}{ls:Nat→List α}{m:Nat}{sk:List Nat}(ls':Nat→List α) (j:Nat) (hj:A3 Γ j=some (D1 E hd cs ls m sk)) (he:∀ i,i<m→ls i=ls' i) (h:J F C S σ β (D1 E hd cs ls' m sk::Γ) R):J F C S σ β Γ R :=
 G9 _ (fun w A hG i hi hs=>by rw [← he i hi];exact hG _ (Ai hj) i hi hs) h
theorem Hw {α:Type}{E:Enc α}{hd:Nat→Hd}{cs:Nat→List Value}{ls:Nat→List α}{m:Nat}{sk:List Nat}(j:Nat) (hj:A3 Γ j=some (D1 E hd cs ls m sk)) (h:(∀ i,i<m→Bm i sk=false→(hd i).2.1=(ls i).length)→J F C S σ β Γ R):J F C S σ β Γ R :=
 Yn (fun w A hG i hi hs=>(hG _ (Ai hj) i hi hs).1) h
theorem Na {β1:List A1}(k:Nat) (ix:List Nat) (hf:Pr ix=true) (hp:Lk (β.take k) ix=some β1) (h:J F C S σ (β1++β.drop k) Γ R):J F C S σ β Γ R:=fun w hO hG=>by
 have hsub1:∀ y∈β1,y∈β.take k:=fun y hy=>by
  obtain ⟨n,_,hn⟩:=Sc hp y hy
  exact Bs hn
 have hsub:∀ y∈β1++β.drop k,y∈β:=fun y hy=>by
  rcases List.mem_append.1 hy with hy|hy
  ·exact List.mem_of_mem_take (hsub1 y hy)
  ·exact List.mem_of_mem_drop hy
 have hap:Ay (β.take k++β.drop k):=by rw [List.take_append_drop];exact hO.apart
 rw [Bw,List.pairwise_append] at hap
 have hd:Ay (β1++β.drop k):=(K7 (Bw.2 hap.1) hp hf).append (Bw.2 hap.2.1) fun x hx y hy b hb=>hap.2.2 x (hsub1 x hx) y hy b hb
 refine h w ⟨hO.ext,fun x hx=>hO.new x (hsub x hx),fun x hx=>hO.blk x (hsub x hx),hd⟩ fun f hf=>?_
 exact f.stable (fun k hk=>⟨⟨hk.1,hk.2.1,fun x hx=>hk.2.2 x (hsub x hx)⟩,rfl⟩) (hG f hf)
theorem Nb {σ':Fr}{β1 β':List A1}{Γ':List Fact}(k:Nat) (ix l:List Nat) (hs:Fr.sub σ' σ) (hf:Pr ix=true) (hb:Lk (β.take k) ix=some β1) (he:β'=β1++β.drop k) (hp:pick Γ l=some Γ') (h:J F C S σ' β' Γ' R):J F C S σ β Γ R :=
 Na k ix hf hb (AJQ l hs he hp h)
theorem ABS {β1:List A1}{w:World}(k:Nat) (ix:List Nat) (hf:Pr ix=true) (hp:Lk (β.take k) ix=some β1) (hO:Own C w β):Own C w (β1++β.drop k)∧∀ y∈β1++β.drop k,y∈β:=by
 have hsub1:∀ y∈β1,y∈β.take k:=fun y hy=>by
  obtain ⟨n,_,hn⟩:=Sc hp y hy
  exact Bs hn
 have hsub:∀ y∈β1++β.drop k,y∈β:=fun y hy=>by
  rcases List.mem_append.1 hy with hy|hy
  ·exact List.mem_of_mem_take (hsub1 y hy)
  ·exact List.mem_of_mem_drop hy
 have hap:Ay (β.take k++β.drop k):=by rw [List.take_append_drop];exact hO.apart
 rw [Bw,List.pairwise_append] at hap
 have hd:Ay (β1++β.drop k):=(K7 (Bw.2 hap.1) hp hf).append (Bw.2 hap.2.1) fun x hx y hy b hb=>hap.2.2 x (hsub1 x hx) y hy b hb
 exact ⟨⟨hO.ext,fun x hx=>hO.new x (hsub x hx),fun x hx=>hO.blk x (hsub x hx),hd⟩,hsub⟩
theorem Bz {vs:List Value}{Q:Value→List Fact→List A1→Prop}{Φ:List Fact}{β1:List A1}(k:Nat) (ix l:List Nat) (hp:Q6 F.B p=true) (hr:ResJ P σ β F.fn.results.toList vs) (hf:Pr ix=true) (hb:Lk (β.take k) ix=some β1) (hl:pick Γ l=some Φ)
  (h:Q (Gc vs) Φ (β1++β.drop k)) (hk:F.rnd=none:=by rfl):J F C (.c p::S) σ β Γ (Fq C Q) :=
 fun _ hO hG=>Tf (hk:=hk) hp (fun _ ha w5 hs=>hr.all ha fun x hx b hb=>hs _ _ _ _ (hO.blk x hx b hb)) ⟨Φ,β1++β.drop k,h,(ABS k ix hf hb hO).1,fun f hf2=>f.stable (fun _ hk'=>⟨⟨hk'.1,hk'.2.1,fun x hx=>hk'.2.2 x ((ABS k ix hf hb hO).2 x hx)⟩,rfl⟩) (hG f (D3 hl f hf2))⟩
theorem AHb {α:Type}{E:Enc α}{t e:TypeId}{x y:Operand}{r:Row}{n m c:Nat}{pa:Option Addr}{zs:List Value}{l l2:List α}(i j:Nat)
  (hi:A3 Γ i=some (A6 E r n l)) (hj:A3 Γ j=some (As E pa m c l2)) (hx:ev σ x=some (.slice (ad r.bo) n r.cap)) (hy:ev σ y=some (.slice pa m c))
  (hT:Dr P t=some (e,E.size)) (hz:Ci P e=some zs) (hzl:zs.length=E.size) (hm:0<m)
  (hmax:n+m≤9223372036854775807) (by':Nat) (hbe:P.bytesOf e=by') (hby:(n+m)*by'≤140737488355328) :
  JG P (.call { callee:=.builtin .append,args:=#[x,y],argTypes:=#[t,t] }) ty σ (some [(r.bo,e,r.cs)]) Γ (fun g=>[(some (g 0).2.1,e,(g 0).2.2.2)]) (fun g=>.slice (some ⟨(g 0).2.1,0,none⟩) (n+m) (g 0).2.2.1)
   (fun g=>[A6 E ⟨some (g 0).2.1,(g 0).2.2.1,(g 0).2.2.2⟩ (n+m) (l++l2)]):=by
 intro w A hA hpb _ hG
 subst hbe
 obtain ⟨hl,hg,vss,hall,ht⟩:=hG _ (Ai hi)
 obtain ⟨hml,_,_,hs⟩:=hG _ (Ai hj)
 obtain ⟨vs2,hall2,hcell⟩:∃ vs2,Fp E vs2 l2 w A∧(m=0∨∃ a,pa=some a∧∀ jj u,vs2.flatten[jj]?=some u→w.cell? (a.add jj)=some u):=by
  rcases hs with rfl|⟨b,o,rfl,_,hel⟩
  ·exact ⟨[],⟨rfl,fun i vs x hv=>by simp at hv⟩,.inl (by simpa using hml)⟩
  ·obtain ⟨vss,h1,h2⟩:=Ln.all (A:=A) hel
   exact ⟨vss,h1,.inr ⟨_,rfl,fun jj u hu=>by rw [Addr.add_mid];exact h2 jj u hu⟩⟩
 have hlen:vs2.flatten.length=m*E.size:=by rw [Gb (G8 hall2),hall2.1,hml]
 have hO:Own ⟨w,A,Tj (some [(r.bo,e,r.cs)])⟩ w [(r.bo,e,r.cs)]:=⟨Keep.refl _ _,fun x hx b hb=>.inr ⟨x,hx,hb⟩,hpb,⟨fun y hy=>(by cases hy),trivial⟩⟩
 obtain ⟨bo',cap',cs',w',hr,h2,h3,h4,_⟩:=Pq (P:=P) (ty':=ty) (cx:=c) (px:=pa) (Γ:=[]) hT hz hzl hO (fun f hf=>by cases hf) (k:=0) rfl hg hlen hcell (X6 hall2) hmax hby
 obtain ⟨b',rfl⟩:∃ b',bo'=some b':=by
  rcases h2 with ⟨_,h,_⟩|⟨b,h,_⟩
  ·omega
  ·exact ⟨b,h⟩
 refine N5 hx hy hr ⟨fun _=>(none,b',cap',cs'),rfl,h4.ext,⟨fun y hy=>(by cases hy),trivial⟩,fun y hy b hb=>?_,fun g hg=>?_⟩
 ·obtain rfl:=List.mem_singleton.1 hy
  exact ⟨h4.new _ (.head _) b hb,h4.blk _ (.head _) b hb⟩
 ·obtain rfl:=List.mem_singleton.1 hg
  have same:∀ k,A k→((A k∨w.heap.size≤k)∧k<w'.heap.size∧∀ y∈[((some b',e,cs'):A1)],y.1≠some k)∧w'.heap[k]?=w.heap[k]?:=fun k hk =>
   ⟨⟨.inl hk,Nat.lt_of_lt_of_le (hA k hk).1 h4.ext.size,fun y hy e=>by
    obtain rfl:=List.mem_singleton.1 hy
    rcases h4.new _ (.head _) k e with h|h
    ·have:=(hA k hk).1
     have h:w.heap.size≤k:=h
     omega
    ·exact (hA k hk).2 h⟩,h4.ext.block k (hA k hk).1 (hA k hk).2⟩
  refine ⟨by simp [hl,hml],h2,vss++vs2,(M8 E (vss++vs2) (l++l2)).stable same (Vp hall hall2),?_⟩
  show cs'.take _=_
  rw [h3,ht];simp
theorem AGd {it:List (TypeId×IntKind)}{L:List Oper}{pos:List Po}{pt:List (List Nat)}{κ:Fr}{fs:List (Nat×Fact)}{al:List A1}{k:Nat}{x0:List A1}{bl:Gh→List A1}{val:Gh→Value}{f:Gh→List Fact}(ho:Tv F.fn.ntmps L κ i=some (d,op,ty)) (hJ:JG P op ty σ (some x0) (Ta (Bv pt i) fs++Γ) bl val f)
  (h:∀ x,Jy it F C p S L pt β Γ R k (i+1) pos (G1 d κ) (putF d (val x) σ) ((f x).map (fun g=>(i,g))++fs) (bl x++al) none):Jy it F C p S L pt β Γ R k i (.sg bl val f::pos) κ σ fs al (some x0):=by
 refine ⟨by have:=(h default).1;simp only [List.length_cons];omega,?_⟩
 unfold Tv at ho
 cases hn:A3 L i with
 | none=>rw [hn] at ho;simp at ho
 | some o =>
  rw [hn] at ho
  simp only at ho
  cases hout:Qc o.dst F.fn.ntmps with
  | false=>rw [hout] at ho;simp at ho
  | true =>
   rw [hout] at ho
   cases hg:gd L κ o with
   | none=>rw [hg] at ho;simp at ho
   | some g =>
    cases g with
    | false=>rw [hg] at ho;simp at ho
    | true =>
     rw [hg] at ho
     obtain ⟨rfl,rfl,rfl⟩:o.dst=d∧o.op=op∧o.type=ty:=by simpa using ho
     simp only [Lx,hn,hout,hg]
     exact ⟨rfl,hJ,fun x=>(h x).2⟩
theorem AG8 {α:Type}{E:Enc α}{it:List (TypeId×IntKind)}{L:List Oper}{pos:List Po}{pt:List (List Nat)}{κ:Fr}{fs:List (Nat×Fact)}{al:List A1}{k:Nat}{t e:TypeId}{x y:Operand}{r:Row}{n m c:Nat}{pa:Option Addr}{zs:List Value}{l l2:List α}(q j:Nat)
  (ho:Tv F.fn.ntmps L κ i=some (d,.call { callee:=.builtin .append,args:=#[x,y],argTypes:=#[t,t] },ty))
  (hi:A3 (Ta (Bv pt i) fs++Γ) q=some (A6 E r n l)) (hj:A3 (Ta (Bv pt i) fs++Γ) j=some (As E pa m c l2)) (hx:ev σ x=some (.slice (ad r.bo) n r.cap)) (hy:ev σ y=some (.slice pa m c))
  (hT:Dr P t=some (e,E.size)) (hz:Ci P e=some zs) (hzl:zs.length=E.size) (hm:0<m)
  (hmax:n+m≤9223372036854775807) (by':Nat) (hbe:P.bytesOf e=by') (hby:(n+m)*by'≤140737488355328)
  (h:∀ b cap cs,Jy it F C p S L pt β Γ R k (i+1) pos (G1 d κ) (putF d (.slice (some ⟨b,0,none⟩) (n+m) cap) σ) ((i,A6 E ⟨some b,cap,cs⟩ (n+m) (l++l2))::fs) ((some b,e,cs)::al) none) :
  Jy it F C p S L pt β Γ R k i (.sg (fun g=>[(some (g 0).2.1,e,(g 0).2.2.2)]) (fun g=>.slice (some ⟨(g 0).2.1,0,none⟩) (n+m) (g 0).2.2.1) (fun g=>[A6 E ⟨some (g 0).2.1,(g 0).2.2.1,(g 0).2.2.2⟩ (n+m) (l++l2)])::pos) κ σ fs al (some [(r.bo,e,r.cs)]) :=
 AGd ho (AHb q j hi hj hx hy hT hz hzl hm hmax by' hbe hby) fun x=>h _ _ _
theorem R7 {K:Value→List A1→List Fact→Prop}{f:FuncId}{xs:List Operand}{ts:Array TypeId}{args:List Value}{Γ':List Fact}{β1:List A1}{Q:Value→List Fact→List A1→Prop}(n:Nat) (l:List Nat) (hn:β.take n=β1)
  (hx:Yb σ xs=some args) (hc:Bk P f args β1 Γ' Q) (hp:pick Γ l=some Γ')
  (h:∀ v Φ β',Q v Φ β'→K v (β'++β.drop n) (Φ++Γ)):Ea P C (.call { callee:=.value (.func f),args:=xs.toArray,argTypes:=ts }) ty σ β Γ K :=
 AD7 l (by rw [← hn,List.take_append_drop]) hx hc hp h
theorem Y5 {it:List (TypeId×IntKind)}(hit:Bl P it) (hmx:P.follows .mixedOrders=true) {pos:List Po}{x0:List A1}(n k:Nat) (hb:β.take n=x0) (hd:Re F.B p=true) (hc:S2 (Ao (sub p F.B)) (J5 (Ao (sub p F.B)) []) k=true)
  (h:Jy it F C p S (Ao (sub p F.B)) (J5 (Ao (sub p F.B)) []) (β.drop n) Γ R k 0 pos σ σ [] [] (some x0)) (hS:Wh S=false:=by rfl):J F C (.c p::S) σ β Γ R:=by
 have e:β=T5 (some x0)++β.drop n:=by show β=x0++_;rw [← hb,List.take_append_drop]
 rw [e]
 exact AFq (pb:=some x0) hit hmx pos hd (by have:=h.1;rw [Nat.zero_add] at this;rw [this];exact hc) h.2 hS
theorem Hl {α:Type}{f:Nat→α}{i:Nat}{x:α}(h:f i=x):Fu f i x=f:=by
 funext k
 by_cases e:k=i
 ·subst e;rw [Cp,h]
 ·rw [D7 e]
theorem Jx {hd:Nat→Hd}{m i:Nat}{x:Hd}(h:(Jm hd m)[i]?=some x) (hi:i<m):hd i=x:=by
 rw [Jm,List.getElem?_map,List.getElem?_range hi] at h
 exact Option.some.inj h
theorem Uj {K:Value→List A1→List Fact→Prop}{f:FuncId}{xs:List Operand}{ts:Array TypeId}{args:List Value}{Γ':List Fact}{β1:List A1}{Q:Value→List Fact→List A1→Prop}(n:Nat) (l:List Nat) (hn:β.drop n=β1)
  (hx:Yb σ xs=some args) (hc:Bk P f args β1 Γ' Q) (hp:pick Γ l=some Γ')
  (h:∀ v Φ β',Q v Φ β'→K v (β.take n++β') (Φ++Γ)):Ea P C (.call { callee:=.value (.func f),args:=xs.toArray,argTypes:=ts }) ty σ β Γ K:=fun w hO hG =>
 (AD7 (β2:=β.take n) (K:=fun v b G=>∃ Φ β',Q v Φ β'∧b=β'++β.take n∧G=Φ++Γ) l (by
  have e:β=β.take n++β1:=by rw [← hn,List.take_append_drop]
  have h:=List.perm_append_comm (l₁:=β1) (l₂:=β.take n)
  rwa [← e] at h) hx hc hp (fun v Φ β' q=>⟨Φ,β',q,rfl,rfl⟩) w hO hG).mono fun v w' ⟨_,_,⟨Φ,β',q,e1,e2⟩,hO',hG'⟩=>by
  subst e1;subst e2
  have hp':(β.take n++β').Perm (β'++β.take n):=List.perm_append_comm
  exact ⟨_,_,h v Φ β' q,⟨hO'.ext,fun x hx=>hO'.new x (hp'.subset hx),fun x hx=>hO'.blk x (hp'.subset hx),by
   rw [Bw]
   exact (hp'.symm.pairwise_iff (fun {x y} hxy b hb e=>hxy b e hb)).1 (Bw.1 hO'.apart)⟩,
   fun f hf=>f.stable (fun k hk=>⟨⟨hk.1,hk.2.1,fun x hx=>hk.2.2 x (hp'.subset hx)⟩,rfl⟩) (hG' f hf)⟩
theorem AEV {e:TypeId}{hd:Nat→Hd}{cs:Nat→List Value}{m:Nat}:C9 e hd cs (m+1) [m]=C9 e hd cs m []:=by
 show ((List.range (m+1)).filter _).map _=((List.range m).filter _).map _
 rw [List.range_succ,List.filter_append,List.filter_cons_of_neg (by rw [Ar];simp),List.filter_nil,List.append_nil]
 congr 1
 refine List.filter_congr fun j hj=>?_
 have:=List.mem_range.1 hj
 rw [Ar,decide_eq_false (by omega)];rfl
theorem AF4 {α:Type}{E:Enc α}{e:TypeId}{hd:Nat→Hd}{cs:Nat→List Value}{ls:Nat→List α}{m:Nat}{r:Row}{N:Nat}{l:List α}(q k j1 j2:Nat) (hk:A3 β k=some (r.bo,e,r.cs)) (hβ:(β.eraseIdx k).drop q=C9 e hd cs m [])
  (h1:A3 Γ j1=some (A6 E r N l)) (h2:A3 Γ j2=some (D1 E hd cs ls m []))
  (h:J F C S σ ((β.eraseIdx k).take q++C9 e (Fu hd m (r.bo,N,r.cap)) (Fu cs m r.cs) (m+1) []) (D1 E (Fu hd m (r.bo,N,r.cap)) (Fu cs m r.cs) (Fu ls m l) (m+1) []::Γ) R):J F C S σ β Γ R:=by
 refine G9 (D1 E hd cs ls (m+1) [m]) (fun w A hG i hi hs=>?_) ?_
 ·have hne:i≠m:=fun e=>by rw [e,Ar,decide_eq_true rfl] at hs;cases hs
  exact hG _ (Ai h2) i (by omega) rfl
 ·refine Ct (hd:=hd) (cs:=cs) (ls:=ls) (m:=m+1) (sk:=[]) (r:=r) (N:=N) (l:=l) q m k (j1+1) 0 hk (by rw [hβ,AEV]) h1 rfl (Nat.lt_succ_self m) rfl ?_
  exact fun w hO hG=>h w hO fun f hf=>by
   rcases List.mem_cons.1 hf with rfl|hf
   ·exact hG _ (.head _)
   ·exact hG _ (.tail _ (.tail _ hf))
theorem Zy {K:Value→List A1→List Fact→Prop}{t e:TypeId}{m:Nat}{x y:Operand}{b o len ca:Nat}{ky:IntKind}{hi:Int}(k:Nat) (hx:ev σ x=some (.slice (some ⟨b,o,none⟩) len ca)) (hy:ev σ y=some (.int ky hi))
  (hT:Dr P t=some (e,m)) (hk:hi=(k:Int)) (h2:k≤len) (h3:len≤ca)
  (h:K (.slice (some ⟨b,o,none⟩) k ca) β Γ):Ea P C (.slice t x none (some y) none) ty σ β Γ K :=
 Ew (fun w ρ hρ=>by
  obtain ⟨hu,_⟩:=B1 hT
  subst hk
  have:=run_slice_h (P:=P) w t (some ⟨b,o,none⟩) len ca (by rw [Kn hu];exact hu) ky k (by omega) (by omega)
  have e1:sliced (some ⟨b,o,none⟩) 0 k ca m = .slice (some ⟨b,o,none⟩) k ca:=by simp [sliced,Addr.add]
  simp [execOp,Ck,hρ _ _ hx,hρ _ _ hy,F8 hT,this,Ge hT,e1]) h
theorem Zk {K:Value→List A1→List Fact→Prop}{t e:TypeId}{m:Nat}{x y:Operand}{b len ca:Nat}{ky:IntKind}{lo:Int}(k:Nat) (hx:ev σ x=some (.slice (some ⟨b,0,none⟩) len ca)) (hy:ev σ y=some (.int ky lo))
  (hT:Dr P t=some (e,m)) (hk:lo=(k:Int)) (h2:k≤len) (h3:len≤ca)
  (h:K (.slice (if ca=k then some ⟨b,0,none⟩ else some ⟨b,k*m,none⟩) (len-k) (ca-k)) β Γ):Ea P C (.slice t x (some y) none none) ty σ β Γ K :=
 Ew (fun w ρ hρ=>by
  obtain ⟨hu,_⟩:=B1 hT
  subst hk
  have:=run_slice_l (P:=P) w t (some ⟨b,0,none⟩) len ca (by rw [Kn hu];exact hu) ky k (by omega) (by omega)
  have e1:sliced (some ⟨b,0,none⟩) k len ca m = .slice (if ca=k then some ⟨b,0,none⟩ else some ⟨b,k*m,none⟩) (len-k) (ca-k):=by
   by_cases h:ca=k
   ·simp [sliced,h]
   ·simp [sliced,h,Addr.add]
    exact fun e=>e.symm
  simp [execOp,Ck,hρ _ _ hx,hρ _ _ hy,F8 hT,this,Ge hT,e1]) h
def Su (e:TypeId) (b:Nat) (cs:List Value):List A1 :=
 match b with
 | 0=>[]
 | b+1=>[(some b,e,cs)]
def ABA {α:Type}(E:Enc α) (pa:Option Addr) (n cap b:Nat) (cs:List Value) (l:List α):Fact where
 holds:=fun w A=>match b with
  | 0=>cap=n∧(As E pa n cap l).holds w A
  | b+1=>pa=some ⟨b,0,none⟩∧(A6 E ⟨some b,cap,cs⟩ n l).holds w A
 stable:=fun {w w' A A'} h hs=>by
  cases b with
  | zero=>exact ⟨hs.1,(As E pa n cap l).stable h hs.2⟩
  | succ b=>exact ⟨hs.1,(A6 E ⟨some b,cap,cs⟩ n l).stable h hs.2⟩
theorem ACE {w:World}{t ty' e:TypeId}{n m size cx:Nat}{olds news:List Value}{pa px:Option Addr}{zs:List Value}(hT:Dr P t=some (e,size)) (hz:Ci P e=some zs) (hzl:zs.length=size)
  (ho:olds.length=n*size) (hx0:n=0∨∃ a,pa=some a∧∀ j u,olds[j]?=some u→w.cell? (a.add j)=some u)
  (hl:news.length=m*size) (hx:∃ a,px=some a∧∀ j u,news[j]?=some u→w.cell? (a.add j)=some u) (hm:0<m)
  (hmax:n+m≤9223372036854775807) (hby:(n+m)*P.bytesOf e≤140737488355328) :
  ∃ cap' cs',(Builtin.append_ #[t,t] ty' #[.slice pa n n,.slice px m cx]).run P w = .ok (.slice (some ⟨w.heap.size,0,none⟩) (n+m) cap') (w.drew.alloc (.cells cs'.toArray e))∧Lo (some w.heap.size) (n+m) cap' size cs'∧cs'.take ((n+m)*size)=olds++news:=by
 obtain ⟨hu,i,hi,hsz⟩:=B1 hT
 obtain ⟨i',z,hi',hz',hzc⟩:=Ff hz
 obtain rfl:i=i':=Option.some.inj (hi.symm.trans hi')
 have hbi:P.bytesOf e=i.bytes:=by simp [Program.bytesOf,hi]
 rw [hbi] at hby
 have hzs:z.cells.size=size:=by rw [← Array.length_toList,Df,hzc,hzl]
 obtain ⟨a,rfl,hnews⟩:=hx
 have fresh:∀ (C':Nat),n+m≤C'→C'≤9223372036854775807 →
   Lo (some w.heap.size) (n+m) C' size (olds++news++(Builtin.zeroCells z.cells (C'-(n+m))).toList)∧(olds++news++(Builtin.zeroCells z.cells (C'-(n+m))).toList).take ((n+m)*size)=olds++news:=by
  intro C' hC hCm
  have hlen:(olds++news).length=(n+m)*size:=by rw [List.length_append,ho,hl,Nat.add_mul]
  refine ⟨.inr ⟨_,rfl,hC,hCm,?_⟩,?_⟩
  ·rw [List.length_append,hlen,Array.length_toList,size_zeroCells,hzs,← Nat.add_mul]
   congr 1;omega
  ·rw [← hlen,List.take_left]
 cases pa with
 | none =>
  have hn:n=0:=by
   rcases hx0 with h|⟨_,h,_⟩
   ·exact h
   ·cases h
  subst hn
  have hol:olds=[]:=List.eq_nil_of_length_eq_zero (by simpa using ho)
  subst hol
  have hr:=run_append_nil (P:=P) w t ty' e i z hu hi hz' a m cx news (by rw [hsz];exact hl) hnews (by omega) (by omega) (by simp only [Nat.zero_add] at hby;omega)
  have hge:=grownCap_ge w m 0 e
  have hle:=grownCap_le_maxLen w m 0 e (by simp only [maxLen];omega)
  obtain ⟨f1,f2⟩:=fresh (grownCap w m 0 e) (by omega) (by simpa [maxLen] using hle)
  refine ⟨_,_,?_,f1,f2⟩
  simp only [Nat.zero_add,List.nil_append] at *
  have e1:(news++(Builtin.zeroCells z.cells (grownCap w m 0 e-m)).toList).toArray=news.toArray++Builtin.zeroCells z.cells (grownCap w m 0 e-m):=by
   apply Array.ext';simp
  rw [e1]
  exact hr
 | some a0 =>
  have holds:∀ j u,olds[j]?=some u→w.cell? (a0.add j)=some u:=by
   rcases hx0 with h|⟨a',h,h'⟩
   ·subst h
    have hol:olds=[]:=List.eq_nil_of_length_eq_zero (by simpa using ho)
    subst hol
    intro j u hu'
    simp at hu'
   ·obtain rfl:=Option.some.inj h
    exact h'
  have hr:=run_append_grow (P:=P) w t ty' e i z hu hi hz' a0 n n olds (by rw [ho,hsz]) holds a m cx news (by rw [hsz];exact hl) hnews (by omega) (by omega) (growslice_fits (by omega) hby)
  have hge:=grownCap_ge w (n+m) n e
  have hle:=grownCap_le_maxLen w (n+m) n e (by simp only [maxLen];omega)
  obtain ⟨f1,f2⟩:=fresh (grownCap w (n+m) n e) (by omega) (by simpa [maxLen] using hle)
  refine ⟨_,_,?_,f1,f2⟩
  have e1:(olds++news++(Builtin.zeroCells z.cells (grownCap w (n+m) n e-(n+m))).toList).toArray=olds.toArray++news.toArray++Builtin.zeroCells z.cells (grownCap w (n+m) n e-(n+m)):=by
   apply Array.ext';simp
  rw [e1]
  exact hr
theorem Ln.cells {α:Type}{E:Enc α}{w:World}{A:Nat→Prop}{pa:Option Addr}{ca n:Nat}{l:List α}(hs:Ln E w A pa ca l) (hl:n=l.length):∃ vss,Fp E vss l w A∧(n=0∨∃ a,pa=some a∧∀ jj u,vss.flatten[jj]?=some u→w.cell? (a.add jj)=some u):=by
 rcases hs.2.2 with rfl|⟨b,o,rfl,_,hel⟩
 ·exact ⟨[],⟨rfl,fun i vs x hv=>by simp at hv⟩,.inl (by simpa using hl)⟩
 ·obtain ⟨vss,h1,h2⟩:=Ln.all (A:=A) hel
  exact ⟨vss,h1,.inr ⟨_,rfl,fun jj u hu=>by rw [Addr.add_mid];exact h2 jj u hu⟩⟩
theorem AHs {α:Type}{E:Enc α}{t e:TypeId}{x y:Operand}{n m c cap b:Nat}{cs:List Value}{pa px:Option Addr}{zs:List Value}{l l2:List α}(keep:List A1) (j:Nat)
  (hi:∀ w A,(∀ g∈Γ,g.holds w A)→(ABA E pa n cap b cs l).holds w A) (hj:A3 Γ j=some (As E px m c l2)) (hx:ev σ x=some (.slice pa n cap)) (hy:ev σ y=some (.slice px m c))
  (hT:Dr P t=some (e,E.size)) (hz:Ci P e=some zs) (hzl:zs.length=E.size)
  (hmax:n+m≤9223372036854775807) (by':Nat) (hbe:P.bytesOf e=by') (hby:(n+m)*by'≤140737488355328) :
  JG P (.call { callee:=.builtin .append,args:=#[x,y],argTypes:=#[t,t] }) ty σ (some (Su e b cs++keep)) Γ (fun g=>Su e (g 0).2.1 (g 0).2.2.2++keep) (fun g=>.slice (g 0).1 (n+m) (g 0).2.2.1)
   (fun g=>[ABA E (g 0).1 (n+m) (g 0).2.2.1 (g 0).2.1 (g 0).2.2.2 (l++l2)]):=by
 intro w A hA hpb hd hG
 subst hbe
 have hrow:=hi w A hG
 obtain ⟨hml,hs2⟩:=hG _ (Ai hj)
 obtain ⟨vs2,hall2,hcell2⟩:=hs2.cells hml
 have hlen2:vs2.flatten.length=m*E.size:=by rw [Gb (G8 hall2),hall2.1,hml]
 obtain ⟨hu,i,hi',hsz⟩:=B1 hT
 have hO:Own ⟨w,A,Tj (some (Su e b cs++keep))⟩ w (Su e b cs++keep):=⟨Keep.refl _ _,fun x hx b hb=>.inr ⟨x,hx,hb⟩,hpb,hd⟩
 by_cases hm:m=0
 ·subst hm
  have hl2:l2=[]:=List.eq_nil_of_length_eq_zero hml.symm
  have hncap:n≤cap:=by
   cases b with
   | zero=>rw [hrow.1];exact Nat.le_refl _
   | succ b=>exact hrow.2.2.1.le
  refine N5 hx hy (P9 hu hi' hncap) ⟨fun _=>(pa,b,cap,cs),rfl,Keep.refl _ _,hd,fun y hy bb hb=>⟨.inr ⟨y,hy,hb⟩,hpb y hy bb hb⟩,fun g hg=>?_⟩
  obtain rfl:=List.mem_singleton.1 hg
  rw [hl2]
  have e0:l++[]=l:=List.append_nil l
  rw [e0]
  exact (ABA E pa n cap b cs l).stable (fun k hk=>⟨⟨.inl hk,(hA k hk).1,fun y hy e=>(hA k hk).2 ⟨y,hy,e⟩⟩,rfl⟩) hrow
 ·have tail:∀ (vss:List (List Value)) (b' cap':Nat) (cs':List Value) (w':World),Fp E vss l w A→(Builtin.append_ #[t,t] ty #[.slice pa n cap,.slice px m c]).run P w = .ok (.slice (some ⟨b',0,none⟩) (n+m) cap') w'→Lo (some b') (n+m) cap' E.size cs' →
    cs'.take ((n+m)*E.size)=vss.flatten++vs2.flatten→n=l.length→Own ⟨w,A,Tj (some (Su e b cs++keep))⟩ w' ((some b',e,cs')::keep)→Ex P (.call { callee:=.builtin .append,args:=#[x,y],argTypes:=#[t,t] }) ty σ w fun v w'=>∃ x:Gh,v = .slice (x 0).1 (n+m) (x 0).2.2.1∧Keep w (Tj (some (Su e b cs++keep))) w'∧Ay (Su e (x 0).2.1 (x 0).2.2.2++keep)∧(∀ y∈Su e (x 0).2.1 (x 0).2.2.2++keep,∀ bb,y.1=some bb→(w.heap.size≤bb∨Tj (some (Su e b cs++keep)) bb)∧w'.heap[bb]?=some (.cells y.2.2.toArray y.2.1 (0,0))) ∧
     ∀ g∈[ABA E (x 0).1 (n+m) (x 0).2.2.1 (x 0).2.1 (x 0).2.2.2 (l++l2)],g.holds w' (fun k=>(A k∨w.heap.size≤k)∧k<w'.heap.size∧∀ y∈Su e (x 0).2.1 (x 0).2.2.2++keep,y.1≠some k):=by
   intro vss b' cap' cs' w' hall hr hg ht hnl h4
   refine N5 hx hy hr ⟨fun _=>(some ⟨b',0,none⟩,b'+1,cap',cs'),rfl,h4.ext,h4.apart,fun y hy bb hb=>⟨h4.new y hy bb hb,h4.blk y hy bb hb⟩,fun g hg'=>?_⟩
   obtain rfl:=List.mem_singleton.1 hg'
   refine ⟨rfl,by simp [hnl,hml],hg,vss++vs2,(M8 E (vss++vs2) (l++l2)).stable (fun k hk=>⟨⟨.inl hk,Nat.lt_of_lt_of_le (hA k hk).1 h4.ext.size,fun y hy e=>?_⟩,h4.ext.block k (hA k hk).1 (hA k hk).2⟩) (Vp hall hall2),?_⟩
   ·rcases h4.new y hy k e with h|h
    ·have:=(hA k hk).1
     have h:w.heap.size≤k:=h
     omega
    ·exact (hA k hk).2 h
   ·show cs'.take _=_
    rw [ht];simp
  cases b with
  | zero =>
   obtain ⟨rfl,hln,hs1⟩:=hrow
   obtain ⟨vss,hall,hcell⟩:=hs1.cells hln
   have hlen:vss.flatten.length=cap*E.size:=by rw [Gb (G8 hall),hall.1,hln]
   obtain ⟨cap',cs',hr,hg,ht⟩:=ACE (P:=P) (ty':=ty) (cx:=c) (w:=w) hT hz hzl hlen hcell hlen2 (hcell2.resolve_left hm) (by omega) hmax hby
   exact tail vss _ _ _ _ hall hr hg ht hln ((hO.drew).push e cs')
  | succ b =>
   obtain ⟨rfl,hln,hg,vss,hall,ht⟩:=hrow
   obtain ⟨bo',cap',cs',w',hr,h2,h3,h4,_⟩:=Pq (P:=P) (ty':=ty) (cx:=c) (px:=px) (Γ:=[]) hT hz hzl hO (fun f hf=>by cases hf) (k:=0) rfl hg hlen2 hcell2 (X6 hall2) hmax hby
   obtain ⟨b',rfl⟩:∃ b',bo'=some b':=by
    rcases h2 with ⟨_,h,_⟩|⟨b,h,_⟩
    ·omega
    ·exact ⟨b,h⟩
   exact tail vss _ _ _ _ hall hr h2 (by rw [h3,ht]) hln h4
theorem AIK {it:List (TypeId×IntKind)}{L:List Oper}{pos:List Po}{pt:List (List Nat)}{κ:Fr}{fs:List (Nat×Fact)}{al:List A1}{k:Nat}{x0:List A1}{bl:Gh→List A1}{val:Gh→Value}{f:Gh→List Fact}(ho:Tv F.fn.ntmps L κ i=some (d,op,ty)) (hJ:JG P op ty σ (some x0) (Ta (Bv pt i) fs++Γ) bl val f)
  (h:∀ x,Jy it F C p S L pt β Γ R k (i+1) pos (G1 d κ) (putF d (val x) σ) ((f x).map (fun g=>(i,g))++fs) (bl x++al) (some [])) (hc:I7 pt i (i+1) pos=true):Jy it F C p S L pt β Γ R k i (.si bl val f::pos) κ σ fs al (some x0):=by
 refine ⟨by have:=(h default).1;simp only [List.length_cons];omega,?_⟩
 unfold Tv at ho
 cases hn:A3 L i with
 | none=>rw [hn] at ho;simp at ho
 | some o =>
  rw [hn] at ho
  simp only at ho
  cases hout:Qc o.dst F.fn.ntmps with
  | false=>rw [hout] at ho;simp at ho
  | true =>
   rw [hout] at ho
   cases hg:gd L κ o with
   | none=>rw [hg] at ho;simp at ho
   | some g =>
    cases g with
    | false=>rw [hg] at ho;simp at ho
    | true =>
     rw [hg] at ho
     obtain ⟨rfl,rfl,rfl⟩:o.dst=d∧o.op=op∧o.type=ty:=by simpa using ho
     simp only [Lx,hn,hout,hg]
     exact ⟨⟨rfl,hc⟩,hJ,fun x=>(h x).2⟩
theorem AHH {α:Type}{E:Enc α}{t e:TypeId}{x y:Operand}{n m c cap b:Nat}{cs:List Value}{pa px:Option Addr}{zs:List Value}{l l2:List α}(j:Nat)
  (hi:∀ w A,(∀ g∈Γ,g.holds w A)→(ABA E pa n cap b cs l).holds w A) (hj:A3 Γ j=some (As E px m c l2)) (hx:ev σ x=some (.slice pa n cap)) (hy:ev σ y=some (.slice px m c))
  (hT:Dr P t=some (e,E.size)) (hz:Ci P e=some zs) (hzl:zs.length=E.size)
  (hmax:n+m≤9223372036854775807) (by':Nat) (hbe:P.bytesOf e=by') (hby:(n+m)*by'≤140737488355328) :
  JG P (.call { callee:=.builtin .append,args:=#[x,y],argTypes:=#[t,t] }) ty σ (some (Su e b cs++[])) Γ (fun g=>Su e (g 0).2.1 (g 0).2.2.2) (fun g=>.slice (g 0).1 (n+m) (g 0).2.2.1)
   (fun g=>[ABA E (g 0).1 (n+m) (g 0).2.2.1 (g 0).2.1 (g 0).2.2.2 (l++l2)]):=by
 have h:=AHs (P:=P) (σ:=σ) (Γ:=Γ) (ty:=ty) [] j hi hj hx hy hT hz hzl hmax by' hbe hby
 simp only [List.append_nil] at h ⊢
 exact h
theorem AES {α:Type}{E:Enc α}{it:List (TypeId×IntKind)}{L:List Oper}{pos:List Po}{pt:List (List Nat)}{κ:Fr}{fs:List (Nat×Fact)}{al:List A1}{k:Nat}{t e:TypeId}{x y:Operand}{n m c:Nat}{pa px:Option Addr}{zs:List Value}{l l2:List α}(q j:Nat)
  (ho:Tv F.fn.ntmps L κ i=some (d,.call { callee:=.builtin .append,args:=#[x,y],argTypes:=#[t,t] },ty))
  (hi:A3 (Ta (Bv pt i) fs++Γ) q=some (As E pa n n l)) (hj:A3 (Ta (Bv pt i) fs++Γ) j=some (As E px m c l2)) (hx:ev σ x=some (.slice pa n n)) (hy:ev σ y=some (.slice px m c))
  (hT:Dr P t=some (e,E.size)) (hz:Ci P e=some zs) (hzl:zs.length=E.size)
  (hmax:n+m≤9223372036854775807) (by':Nat) (hbe:P.bytesOf e=by') (hby:(n+m)*by'≤140737488355328)
  (h:∀ pa cap b cs,Jy it F C p S L pt β Γ R k (i+1) pos (G1 d κ) (putF d (.slice pa (n+m) cap) σ) ((i,ABA E pa (n+m) cap b cs (l++l2))::fs) (Su e b cs++al) (some [])) (hc:I7 pt i (i+1) pos=true) :
  Jy it F C p S L pt β Γ R k i (.si (fun g=>Su e (g 0).2.1 (g 0).2.2.2) (fun g=>.slice (g 0).1 (n+m) (g 0).2.2.1) (fun g=>[ABA E (g 0).1 (n+m) (g 0).2.2.1 (g 0).2.1 (g 0).2.2.2 (l++l2)])::pos) κ σ fs al (some []) :=
 AIK (x0:=[]) ho (AHH (b:=0) (cs:=[]) j (fun w A hG=>⟨rfl,hG _ (Ai hi)⟩) hj hx hy hT hz hzl hmax by' hbe hby) (fun x=>h _ _ _ _) hc
theorem AFd {α:Type}(E:Enc α) {it:List (TypeId×IntKind)}{L:List Oper}{pos:List Po}{pt:List (List Nat)}{κ:Fr}{fs:List (Nat×Fact)}{al:List A1}{pb:Pb}{k:Nat}{t e:TypeId}{m:Nat}
  (ho:Tv F.fn.ntmps L κ i=some (d,.buildSlice t 0 #[],ty)) (hT:Dr P t=some (e,m))
  (h:∀ pa,Jy it F C p S L pt β Γ R k (i+1) pos (G1 d κ) (putF d (.slice pa 0 0) σ) ((i,As E pa 0 0 [])::fs) al pb) :
  Jy it F C p S L pt β Γ R k i (.fa (fun g=>.slice (g 0).1 0 0) (fun g=>[As E (g 0).1 0 0 []])::pos) κ σ fs al pb :=
 M9 ho (Bj fun _=>ADg hT fun b _ _ _ _=>⟨fun _=>(some ⟨b,0,none⟩,0,0,[]),rfl,fun g hg=>by
  obtain rfl:=List.mem_singleton.1 hg
  exact ⟨rfl,Nat.le_refl _,by simp,.inl rfl⟩⟩) fun x=>h _
theorem AFL {it:List (TypeId×IntKind)}{L:List Oper}{pt:List (List Nat)}{κ:Fr}{fs:List (Nat×Fact)}{al:List A1}{x0:List A1}{k:Nat}(hk:i=k) (h:J F C (.o p k::S) σ (al++(x0++β)) (fs.map (·.2)++Γ) R) (hS:Wh S=false:=by rfl):Jy it F C p S L pt β Γ R k i [] κ σ fs al (some x0) :=
 ⟨by simpa using hk,by subst hk;simp only [Lx,Ye hS];exact h⟩
theorem AIM {α:Type}{E:Enc α}{e:TypeId}{n cap b:Nat}{cs:List Value}{pa:Option Addr}{l:List α}{β2:List A1}(q j:Nat) (hβ:β.drop q=Su e b cs++β2) (hj:A3 Γ j=some (ABA E pa n cap b cs l)) (hby:n*E.bytes≤140737488355328)
  (h:J F C S σ (β.take q++β2) (As E pa n cap l::Γ) R):J F C S σ β Γ R:=by
 have hβ':β=β.take q++(Su e b cs++β2):=by rw [← hβ,List.take_append_drop]
 generalize β.take q=β1 at hβ' h
 subst hβ'
 cases b with
 | zero=>exact G9 _ (fun w A hG=>(hG _ (Ai hj)).2) h
 | succ b =>
  intro w hO hG
  obtain ⟨rfl,hrow⟩:=hG _ (Ai hj)
  have e1:(β1++((some b,e,cs)::β2)).eraseIdx β1.length=β1++β2:=by
   rw [List.eraseIdx_append_of_length_le (Nat.le_refl _),Nat.sub_self,List.eraseIdx_cons_zero]
  refine W4 (E:=E) (e:=e) (cs:=cs) (l:=l) β1.length 0 (by show A3 (β1++((some b,e,cs)::β2)) β1.length=some (some b,e,cs);rw [By];simp) (Γ:=A6 E ⟨some b,cap,cs⟩ n l::Γ) rfl hby ?_ w hO fun f hf=>?_
  ·show J F C S σ ((β1++((some b,e,cs)::β2)).eraseIdx β1.length) _ R
   rw [e1]
   exact Vl (fun f hf=>by
    rcases List.mem_cons.1 hf with rfl|hf
    ·exact .head _
    ·exact .tail _ (.tail _ hf)) h
  ·rcases List.mem_cons.1 hf with rfl|hf
   ·exact hrow
   ·exact hG f hf
end
end Go.Fw
namespace Go.Proofs.YteadncphjconmaaGreat
open Go Go.Fw
set_option maxRecDepth 100000
theorem zo3:Ci Tryz.prog 3=some [Value.int IntKind.i64 0]:=rfl
theorem B4:Dc Tryz.prog 3=some (Bool.false,1):=rfl
theorem ld4:Dc Tryz.prog 4=some (Bool.false,1):=rfl
theorem Cf:Dr Tryz.prog 22=some (3,1):=rfl
theorem F2:Ci Tryz.prog 3=some [Value.int IntKind.i64 0]:=rfl
theorem Gs:Program.bytesOf Tryz.prog 3=8:=rfl
theorem D8:Dc Tryz.prog 22=some (Bool.false,1):=rfl
theorem AKi:Jk Tryz.prog 24=some [(0,1),(1,1),(2,1)]:=rfl
theorem Tm:Gp Tryz.prog 24 0=some 0:=rfl
theorem Vd:Gp Tryz.prog 24 1=some 1:=rfl
theorem AH9:Gp Tryz.prog 24 2=some 2:=rfl
theorem AKo:Ci Tryz.prog 24=some [Value.int IntKind.i64 0,Value.int IntKind.i64 0,Value.slice none 0 0]:=rfl
theorem V2:Dc Tryz.prog 24=some (Bool.true,3):=rfl
theorem Ep:Dr Tryz.prog 25=some (22,1):=rfl
theorem Xv:Ci Tryz.prog 22=some [Value.slice none 0 0]:=rfl
theorem Z8:Program.bytesOf Tryz.prog 22=24:=rfl
theorem Ll:Dc Tryz.prog 25=some (Bool.false,1):=rfl
theorem ACM:Gp Tryz.prog 27 0=some 0:=rfl
theorem Ps:Gp Tryz.prog 27 1=some 3:=rfl
theorem AAD:Gp Tryz.prog 27 2=some 4:=rfl
theorem AEE:Dc Tryz.prog 27=some (Bool.true,5):=rfl
theorem AJn:Dc Tryz.prog 29=some (Bool.true,1):=rfl
theorem Ti:Gp Tryz.prog 31 0=some 0:=rfl
theorem AJo:Dc Tryz.prog 31=some (Bool.true,9):=rfl
theorem AJz:Dr Tryz.prog 40=some (25,1):=rfl
theorem AHZ:Ci Tryz.prog 25=some [Value.slice none 0 0]:=rfl
theorem AH0:Program.bytesOf Tryz.prog 25=24:=rfl
theorem AKJ:Ci Tryz.prog 40=some [Value.slice none 0 0]:=rfl
theorem AKk:Ci Tryz.prog 76=some [Value.pointer none]:=rfl
theorem Y0:Dc Tryz.prog 76=some (Bool.false,1):=rfl
theorem AJR:Jk Tryz.prog 88=some [(0,1),(1,1)]:=rfl
theorem AGs:Gp Tryz.prog 88 0=some 0:=rfl
theorem ACW:Gp Tryz.prog 88 1=some 1:=rfl
theorem AF2:Ci Tryz.prog 88=some [Value.int IntKind.i64 0,Value.slice none 0 0]:=rfl
theorem ABB:Dc Tryz.prog 88=some (Bool.true,2):=rfl
theorem AJP:Jk Tryz.prog 107=some [(0,3),(3,1),(4,1),(5,1)]:=rfl
theorem ABf:Gp Tryz.prog 107 0=some 0:=rfl
theorem AJy:Ci Tryz.prog 107=some [Value.int IntKind.i64 0,Value.int IntKind.i64 0,Value.slice none 0 0,Value.int IntKind.i64 0,Value.slice none 0 0,Value.slice none 0 0]:=rfl
theorem AJv:Jk Tryz.prog 118=some [(0,1),(1,2),(3,1)]:=rfl
theorem AHR:Ci Tryz.prog 118=some [Value.pointer none,Value.int IntKind.i64 0,Value.slice none 0 0,Value.slice none 0 0]:=rfl
theorem ADF:Dc Tryz.prog 118=some (Bool.true,4):=rfl
theorem ACA:Dc Tryz.prog 130=some (Bool.true,9):=rfl
theorem W6:Gp Tryz.prog 157 1=some 1:=rfl
theorem Mz:Gp Tryz.prog 157 6=some 10:=rfl
theorem Mw:Gp Tryz.prog 157 7=some 11:=rfl
theorem AJA:Dr Tryz.prog 170=some (4,1):=rfl
theorem AIP:Ci Tryz.prog 4=some [Value.bool false]:=rfl
theorem AIE:Program.bytesOf Tryz.prog 4=1:=rfl
theorem AJX:Dr Tryz.prog 181=some (88,2):=rfl
theorem AI5:Ci Tryz.prog 88=some [Value.int IntKind.i64 0,Value.slice none 0 0]:=rfl
theorem ABx:Gp Tryz.prog 195 0=some 0:=rfl
theorem AGS:Gp Tryz.prog 195 1=some 1:=rfl
abbrev itl:List (TypeId×IntKind):=[(2,.i64),(3,.i64),(5,.u8),(6,.u8),(12,.u64),(21,.i32),(33,.i64),(95,.u64),(132,.i64),(141,.u32),(143,.u64),(161,.u64),(211,.u8),(212,.u8),(215,.i32),(216,.i32)]
theorem it:Bl Tryz.prog itl:=Bl.cons (t:=2) (k:=.i64) rfl (Bl.cons (t:=3) (k:=.i64) rfl (Bl.cons (t:=5) (k:=.u8) rfl (Bl.cons (t:=6) (k:=.u8) rfl (Bl.cons (t:=12) (k:=.u64) rfl (Bl.cons (t:=21) (k:=.i32) rfl (Bl.cons (t:=33) (k:=.i64) rfl (Bl.cons (t:=95) (k:=.u64) rfl (Bl.cons (t:=132) (k:=.i64) rfl (Bl.cons (t:=141) (k:=.u32) rfl (Bl.cons (t:=143) (k:=.u64) rfl (Bl.cons (t:=161) (k:=.u64) rfl (Bl.cons (t:=211) (k:=.u8) rfl (Bl.cons (t:=212) (k:=.u8) rfl (Bl.cons (t:=215) (k:=.i32) rfl (Bl.cons (t:=216) (k:=.i32) rfl (Bl.nil _))))))))))))))))
theorem mx:Tryz.prog.follows .mixedOrders=true:=rfl
noncomputable def Iq:Fun Tryz.prog:=⟨6,Tryz.f6,_,Tryz.func6,rfl,rfl,none,[]⟩
noncomputable def O0:Fun Tryz.prog:=⟨9,Tryz.f9,_,Tryz.func9,rfl,rfl,none,[]⟩
noncomputable def Sy:Fun Tryz.prog:=⟨10,Tryz.f10,_,Tryz.func10,rfl,rfl,none,[]⟩
noncomputable def Jl:Fun Tryz.prog:=⟨11,Tryz.f11,_,Tryz.func11,rfl,rfl,none,[]⟩
noncomputable def Qu:Fun Tryz.prog:=⟨12,Tryz.f12,_,Tryz.func12,rfl,rfl,none,[]⟩
noncomputable def Yw:Fun Tryz.prog:=⟨17,Tryz.f17,_,Tryz.func17,rfl,rfl,none,[]⟩
noncomputable def Hc:Fun Tryz.prog:=⟨18,Tryz.f18,_,Tryz.func18,rfl,rfl,none,[]⟩
noncomputable def Jc:Fun Tryz.prog:=⟨19,Tryz.f19,_,Tryz.func19,rfl,rfl,none,[]⟩
noncomputable def Jw:Fun Tryz.prog:=⟨22,Tryz.f22,_,Tryz.func22,rfl,rfl,none,[]⟩
noncomputable def ABp:Fun Tryz.prog:=⟨26,Tryz.f26,_,Tryz.func26,rfl,rfl,none,[]⟩
noncomputable def L0:Fun Tryz.prog:=⟨27,Tryz.f27,_,Tryz.func27,rfl,rfl,none,[]⟩
noncomputable def Wj:Fun Tryz.prog:=⟨28,Tryz.f28,_,Tryz.func28,rfl,rfl,none,[]⟩
noncomputable def O3:Fun Tryz.prog:=⟨29,Tryz.f29,_,Tryz.func29,rfl,rfl,none,[]⟩
noncomputable def Oa:Fun Tryz.prog:=⟨30,Tryz.f30,_,Tryz.func30,rfl,rfl,none,[]⟩
noncomputable def Ia:Fun Tryz.prog:=⟨31,Tryz.f31,_,Tryz.func31,rfl,rfl,none,[]⟩
noncomputable def Pp:Fun Tryz.prog:=⟨32,Tryz.f32,_,Tryz.func32,rfl,rfl,none,[]⟩
noncomputable def Ox:Fun Tryz.prog:=⟨33,Tryz.f33,_,Tryz.func33,rfl,rfl,none,[]⟩
noncomputable def X9:Fun Tryz.prog:=⟨40,Tryz.f40,_,Tryz.func40,rfl,rfl,none,[]⟩
noncomputable def Me:Fun Tryz.prog:=⟨41,Tryz.f41,_,Tryz.func41,rfl,rfl,none,[]⟩
noncomputable def Mf:Fun Tryz.prog:=⟨42,Tryz.f42,_,Tryz.func42,rfl,rfl,none,[]⟩
noncomputable def ACg:Fun Tryz.prog:=⟨45,Tryz.f45,_,Tryz.func45,rfl,rfl,none,[]⟩
noncomputable def Hx:Fun Tryz.prog:=⟨46,Tryz.f46,_,Tryz.func46,rfl,rfl,none,[]⟩
noncomputable def X0:Fun Tryz.prog:=⟨48,Tryz.f48,_,Tryz.func48,rfl,rfl,none,[]⟩
noncomputable def Kq:Fun Tryz.prog:=⟨52,Tryz.f52,_,Tryz.func52,rfl,rfl,none,[]⟩
noncomputable def Mh:Fun Tryz.prog:=⟨53,Tryz.f53,_,Tryz.func53,rfl,rfl,none,[]⟩
noncomputable def Qk:Fun Tryz.prog:=⟨54,Tryz.f54,_,Tryz.func54,rfl,rfl,none,[]⟩
noncomputable def S3:Fun Tryz.prog:=⟨55,Tryz.f55,_,Tryz.func55,rfl,rfl,none,[]⟩
noncomputable def Zz:Fun Tryz.prog:=⟨56,Tryz.f56,_,Tryz.func56,rfl,rfl,none,[]⟩
noncomputable def Zc:Fun Tryz.prog:=⟨57,Tryz.f57,_,Tryz.func57,rfl,rfl,none,[]⟩
noncomputable def ADi:Fun Tryz.prog:=⟨58,Tryz.f58,_,Tryz.func58,rfl,rfl,none,[]⟩
noncomputable def Ql:Fun Tryz.prog:=⟨59,Tryz.f59,_,Tryz.func59,rfl,rfl,none,[]⟩
noncomputable def Tt:Fun Tryz.prog:=⟨60,Tryz.f60,_,Tryz.func60,rfl,rfl,none,[]⟩
noncomputable def Zo:Fun Tryz.prog:=⟨61,Tryz.f61,_,Tryz.func61,rfl,rfl,none,[]⟩
noncomputable def Oh:Fun Tryz.prog:=⟨62,Tryz.f62,_,Tryz.func62,rfl,rfl,none,[]⟩
noncomputable def Ot:Fun Tryz.prog:=⟨63,Tryz.f63,_,Tryz.func63,rfl,rfl,none,[]⟩
noncomputable def Ki:Fun Tryz.prog:=⟨64,Tryz.f64,_,Tryz.func64,rfl,rfl,none,[]⟩
noncomputable def Lg:Fun Tryz.prog:=⟨65,Tryz.f65,_,Tryz.func65,rfl,rfl,none,[]⟩
noncomputable def Vi:Fun Tryz.prog:=⟨71,Tryz.f71,_,Tryz.func71,rfl,rfl,none,[]⟩
noncomputable def L9:Fun Tryz.prog:=⟨72,Tryz.f72,_,Tryz.func72,rfl,rfl,none,[]⟩
noncomputable def Zj:Fun Tryz.prog:=⟨73,Tryz.f73,_,Tryz.func73,rfl,rfl,none,[]⟩
noncomputable def R0:Fun Tryz.prog:=⟨74,Tryz.f74,_,Tryz.func74,rfl,rfl,none,[]⟩
noncomputable def Ns:Fun Tryz.prog:=⟨75,Tryz.f75,_,Tryz.func75,rfl,rfl,none,[]⟩
noncomputable def Zq:Fun Tryz.prog:=⟨77,Tryz.f77,_,Tryz.func77,rfl,rfl,none,[]⟩
noncomputable def Ze:Fun Tryz.prog:=⟨78,Tryz.f78,_,Tryz.func78,rfl,rfl,none,[]⟩
noncomputable def M0:Fun Tryz.prog:=⟨79,Tryz.f79,_,Tryz.func79,rfl,rfl,none,[]⟩
noncomputable def Jg:Fun Tryz.prog:=⟨80,Tryz.f80,_,Tryz.func80,rfl,rfl,none,[]⟩
noncomputable def Jz:Fun Tryz.prog:=⟨81,Tryz.f81,_,Tryz.func81,rfl,rfl,none,[]⟩
noncomputable def Pt:Fun Tryz.prog:=⟨85,Tryz.f85,_,Tryz.func85,rfl,rfl,none,[]⟩
noncomputable def Nl:Fun Tryz.prog:=⟨88,Tryz.f88,_,Tryz.func88,rfl,rfl,none,[]⟩
noncomputable def Om:Fun Tryz.prog:=⟨89,Tryz.f89,_,Tryz.func89,rfl,rfl,none,[]⟩
noncomputable def Pi:Fun Tryz.prog:=⟨90,Tryz.f90,_,Tryz.func90,rfl,rfl,none,[]⟩
noncomputable def Iy:Fun Tryz.prog:=⟨91,Tryz.f91,_,Tryz.func91,rfl,rfl,none,[]⟩
noncomputable def Md:Fun Tryz.prog:=⟨92,Tryz.f92,_,Tryz.func92,rfl,rfl,none,[]⟩
noncomputable def Nv:Fun Tryz.prog:=⟨93,Tryz.f93,_,Tryz.func93,rfl,rfl,none,[]⟩
noncomputable def Ow:Fun Tryz.prog:=⟨94,Tryz.f94,_,Tryz.func94,rfl,rfl,none,[]⟩
noncomputable def I5:Fun Tryz.prog:=⟨95,Tryz.f95,_,Tryz.func95,rfl,rfl,none,[]⟩
noncomputable def Oi:Fun Tryz.prog:=⟨96,Tryz.f96,_,Tryz.func96,rfl,rfl,none,[]⟩
noncomputable def N4:Fun Tryz.prog:=⟨97,Tryz.f97,_,Tryz.func97,rfl,rfl,none,[]⟩
noncomputable def K9:Fun Tryz.prog:=⟨98,Tryz.f98,_,Tryz.func98,rfl,rfl,none,[]⟩
noncomputable def O7:Fun Tryz.prog:=⟨99,Tryz.f99,_,Tryz.func99,rfl,rfl,none,[]⟩
noncomputable def H7:Fun Tryz.prog:=⟨100,Tryz.f100,_,Tryz.func100,rfl,rfl,none,[]⟩
noncomputable def Ke:Fun Tryz.prog:=⟨112,Tryz.f112,_,Tryz.func112,rfl,rfl,none,[]⟩
noncomputable def AB1:Fun Tryz.prog:=⟨113,Tryz.f113,_,Tryz.func113,rfl,rfl,none,[]⟩
noncomputable def ABb:Fun Tryz.prog:=⟨114,Tryz.f114,_,Tryz.func114,rfl,rfl,none,[]⟩
noncomputable def Qq:Fun Tryz.prog:=⟨115,Tryz.f115,_,Tryz.func115,rfl,rfl,none,[]⟩
noncomputable def Ww:Fun Tryz.prog:=⟨116,Tryz.f116,_,Tryz.func116,rfl,rfl,none,[]⟩
noncomputable def Yx:Fun Tryz.prog:=⟨117,Tryz.f117,_,Tryz.func117,rfl,rfl,none,[]⟩
noncomputable def V6:Fun Tryz.prog:=⟨118,Tryz.f118,_,Tryz.func118,rfl,rfl,none,[]⟩
noncomputable def Ml:Fun Tryz.prog:=⟨119,Tryz.f119,_,Tryz.func119,rfl,rfl,none,[]⟩
noncomputable def G7:Fun Tryz.prog:=⟨123,Tryz.f123,_,Tryz.func123,rfl,rfl,none,[]⟩
noncomputable def Rw:Fun Tryz.prog:=⟨124,Tryz.f124,_,Tryz.func124,rfl,rfl,none,[]⟩
noncomputable def La:Fun Tryz.prog:=⟨125,Tryz.f125,_,Tryz.func125,rfl,rfl,none,[]⟩
noncomputable def Ek:Fun Tryz.prog:=⟨126,Tryz.f126,_,Tryz.func126,rfl,rfl,none,[]⟩
noncomputable def Mk:Fun Tryz.prog:=⟨127,Tryz.f127,_,Tryz.func127,rfl,rfl,none,[]⟩
noncomputable def Oz:Fun Tryz.prog:=⟨128,Tryz.f128,_,Tryz.func128,rfl,rfl,none,[]⟩
noncomputable def Hb:Fun Tryz.prog:=⟨129,Tryz.f129,_,Tryz.func129,rfl,rfl,none,[]⟩
noncomputable def L7:Fun Tryz.prog:=⟨130,Tryz.f130,_,Tryz.func130,rfl,rfl,none,[]⟩
noncomputable def F1:Fun Tryz.prog:=⟨131,Tryz.f131,_,Tryz.func131,rfl,rfl,none,[]⟩
noncomputable def Lv:Fun Tryz.prog:=⟨132,Tryz.f132,_,Tryz.func132,rfl,rfl,none,[]⟩
noncomputable def H8:Fun Tryz.prog:=⟨133,Tryz.f133,_,Tryz.func133,rfl,rfl,none,[]⟩
noncomputable def Zi:Fun Tryz.prog:=⟨140,Tryz.f140,_,Tryz.func140,rfl,rfl,none,[]⟩
noncomputable def S1:Fun Tryz.prog:=⟨141,Tryz.f141,_,Tryz.func141,rfl,rfl,none,[]⟩
noncomputable def Vh:Fun Tryz.prog:=⟨142,Tryz.f142,_,Tryz.func142,rfl,rfl,none,[]⟩
noncomputable def ABu:Fun Tryz.prog:=⟨143,Tryz.f143,_,Tryz.func143,rfl,rfl,none,[]⟩
noncomputable def Vj:Fun Tryz.prog:=⟨144,Tryz.f144,_,Tryz.func144,rfl,rfl,none,[]⟩
noncomputable def Wq:Fun Tryz.prog:=⟨145,Tryz.f145,_,Tryz.func145,rfl,rfl,none,[]⟩
noncomputable def Xi:Fun Tryz.prog:=⟨146,Tryz.f146,_,Tryz.func146,rfl,rfl,none,[]⟩
noncomputable def Hk:Fun Tryz.prog:=⟨147,Tryz.f147,_,Tryz.func147,rfl,rfl,none,[]⟩
noncomputable def Xq:Fun Tryz.prog:=⟨149,Tryz.f149,_,Tryz.func149,rfl,rfl,none,[]⟩
noncomputable def M3:Fun Tryz.prog:=⟨150,Tryz.f150,_,Tryz.func150,rfl,rfl,none,[]⟩
noncomputable def F4:Fun Tryz.prog:=⟨151,Tryz.f151,_,Tryz.func151,rfl,rfl,none,[]⟩
noncomputable def P2:Fun Tryz.prog:=⟨152,Tryz.f152,_,Tryz.func152,rfl,rfl,none,[]⟩
noncomputable def N9:Fun Tryz.prog:=⟨153,Tryz.f153,_,Tryz.func153,rfl,rfl,none,[]⟩
noncomputable def Qg:Fun Tryz.prog:=⟨154,Tryz.f154,_,Tryz.func154,rfl,rfl,none,[]⟩
noncomputable def Q1:Fun Tryz.prog:=⟨155,Tryz.f155,_,Tryz.func155,rfl,rfl,none,[]⟩
noncomputable def Ik:Fun Tryz.prog:=⟨156,Tryz.f156,_,Tryz.func156,rfl,rfl,none,[]⟩
noncomputable def Jj:Fun Tryz.prog:=⟨157,Tryz.f157,_,Tryz.func157,rfl,rfl,none,[]⟩
noncomputable def P0:Fun Tryz.prog:=⟨158,Tryz.f158,_,Tryz.func158,rfl,rfl,none,[]⟩
noncomputable def Xb:Fun Tryz.prog:=⟨160,Tryz.f160,_,Tryz.func160,rfl,rfl,none,[]⟩
noncomputable def Un:Fun Tryz.prog:=⟨161,Tryz.f161,_,Tryz.func161,rfl,rfl,none,[]⟩
noncomputable def Gk:Fun Tryz.prog:=⟨162,Tryz.f162,_,Tryz.func162,rfl,rfl,none,[]⟩
noncomputable def Gd:Fun Tryz.prog:=⟨163,Tryz.f163,_,Tryz.func163,rfl,rfl,none,[]⟩
noncomputable def Rm:Fun Tryz.prog:=⟨164,Tryz.f164,_,Tryz.func164,rfl,rfl,none,[]⟩
noncomputable def Wx:Fun Tryz.prog:=⟨165,Tryz.f165,_,Tryz.func165,rfl,rfl,none,[]⟩
noncomputable def Ws:Fun Tryz.prog:=⟨166,Tryz.f166,_,Tryz.func166,rfl,rfl,none,[]⟩
noncomputable def Wy:Fun Tryz.prog:=⟨167,Tryz.f167,_,Tryz.func167,rfl,rfl,none,[]⟩
noncomputable def Rt:Fun Tryz.prog:=⟨168,Tryz.f168,_,Tryz.func168,rfl,rfl,none,[]⟩
noncomputable def Mx:Fun Tryz.prog:=⟨169,Tryz.f169,_,Tryz.func169,rfl,rfl,none,[]⟩
noncomputable def Ri:Fun Tryz.prog:=⟨170,Tryz.f170,_,Tryz.func170,rfl,rfl,none,[]⟩
noncomputable def L6:Fun Tryz.prog:=⟨171,Tryz.f171,_,Tryz.func171,rfl,rfl,none,[]⟩
noncomputable def Nf:Fun Tryz.prog:=⟨174,Tryz.f174,_,Tryz.func174,rfl,rfl,none,[]⟩
noncomputable def Ra:Fun Tryz.prog:=⟨175,Tryz.f175,_,Tryz.func175,rfl,rfl,none,[]⟩
noncomputable def Rb:Fun Tryz.prog:=⟨176,Tryz.f176,_,Tryz.func176,rfl,rfl,none,[]⟩
noncomputable def Wm:Fun Tryz.prog:=⟨180,Tryz.f180,_,Tryz.func180,rfl,rfl,none,[]⟩
noncomputable def Y6:Fun Tryz.prog:=⟨181,Tryz.f181,_,Tryz.func181,rfl,rfl,none,[]⟩
noncomputable def Pe:Fun Tryz.prog:=⟨182,Tryz.f182,_,Tryz.func182,rfl,rfl,none,[]⟩
noncomputable def L1:Fun Tryz.prog:=⟨183,Tryz.f183,_,Tryz.func183,rfl,rfl,none,[]⟩
noncomputable def P5:Fun Tryz.prog:=⟨187,Tryz.f187,_,Tryz.func187,rfl,rfl,none,[]⟩
noncomputable def Wl:Fun Tryz.prog:=⟨188,Tryz.f188,_,Tryz.func188,rfl,rfl,none,[]⟩
noncomputable def M2:Fun Tryz.prog:=⟨189,Tryz.f189,_,Tryz.func189,rfl,rfl,none,[]⟩
end Go.Proofs.YteadncphjconmaaGreat
namespace Go.Fw
set_option linter.unusedVariables false
variable {P:Program}{C:Cx}{σ:Fr}{ty:TypeId}{β:List A1}{Γ:List Fact}
theorem Sl (σ:Fr):∀ l:List Value,Yb σ (l.map Operand.const)=some l
 | []=>rfl
 | v::l=>by
  have h:=Sl σ l
  simp [Yb,ev,h]
theorem ABj {K:Value→List A1→List Fact→Prop}{f:FuncId}{x:Operand}{xs:List Operand}{ts:Array TypeId}{args caps:List Value}(hv:ev σ x=some (.func (.func f) #[] caps.toArray)) (hx:Yb σ xs=some args)
  (h:Ea P C (.call { callee:=.value (.func f),args:=((args++caps).map Operand.const).toArray,argTypes:=ts }) ty σ β Γ K):Ea P C (.call { callee:=.value x,args:=xs.toArray,argTypes:=ts }) ty σ β Γ K:=by
 intro w hO hG ρ hρ
 have h1:=h w hO hG ρ hρ
 have hc:ρ (.func f) = .func (.func f) #[] #[]:=hρ _ _ rfl
 have hv':ρ x = .func (.func f) #[] caps.toArray:=hρ _ _ hv
 have ha:xs.toArray.map ρ=args.toArray:=by rw [List.map_toArray,Pn hρ hx]
 have hb:((args++caps).map Operand.const).toArray.map ρ=(args++caps).toArray:=by rw [List.map_toArray,Pn hρ (Sl σ _)]
 simp only [execOp,Ck,resolve,hb,hc,Deferred.ofValue,Sem.run_bind,Sem.run_pure,Result.andThen_ok,invoke,Array.append_empty,Array.empty_append] at h1
 simp only [execOp,Ck,resolve,ha,hv',Deferred.ofValue,Sem.run_bind,Sem.run_pure,Result.andThen_ok,invoke,Array.append_empty,Array.empty_append]
 rw [List.append_toArray]
 exact h1
theorem AIv {K:Value→List A1→List Fact→Prop}{f:FuncId}{cs:List Operand}{caps:List Value}(hx:Yb σ cs=some caps) (h:K (.func (.func f) #[] caps.toArray) β Γ):Ea P C (.makeFunc (.func f) #[] cs.toArray) ty σ β Γ K :=
 Ew (fun w ρ hρ=>by
  have ha:cs.toArray.map ρ=caps.toArray:=by rw [List.map_toArray,Pn hρ hx]
  simp [execOp,Ck,ha,Instr.makeFunc]) h
open Go.RowKit (Below)
def Kh (b:Nat) (cs:List Value):Fact where
 holds:=fun w A=>A b∧Ev w b 0 cs.length cs
 stable:=fun h ⟨hb,h1⟩=>⟨(h _ hb).1,h1.same (h _ hb).2⟩
section
variable {P:Program}{F:Fun P}{C:Cx}{S:List It}{σ:Fr}{ty:TypeId}{β:List A1}{Γ:List Fact}{R:Value→World→Prop}
theorem Rx {e:TypeId}{b:Nat}{cs:List Value}(k:Nat) (hn:A3 β k=some (some b,e,cs)) (h:J F C S σ (β.eraseIdx k) (Kh b cs::Γ) R):J F C S σ β Γ R:=fun w hO hG=>by
 have hsub:(β.eraseIdx k).Sublist β:=List.eraseIdx_sublist _ _
 refine h w (hO.sub hsub) fun f hf=>?_
 rcases List.mem_cons.1 hf with rfl|hf
 ·refine ⟨?_,cs.toArray,e,(0,0),hO.blk _ (Bs hn) b rfl,by simp,rfl⟩
  have hlt:=hO.lt (Bs hn) rfl
  have hnew:=hO.new _ (Bs hn) b rfl
  refine ⟨?_,hlt,fun x hx e=>Ix hO.apart hn x hx e⟩
  rcases hnew with h1|h1
  ·exact .inr (.inr h1)
  ·exact .inr (.inl h1)
 ·exact Sp hsub hG f hf
theorem AAW {w:World}{A:Nat→Prop}{b o:Nat}{cs:List Value}{v:Value}(h:(Kh b cs).holds w A) (hv:cs[o]?=some v):w.cell? ⟨b,o,none⟩=some v:=by
 have:=h.2.rangeAt o v hv
 rwa [Nat.zero_add] at this
theorem AAv {w:World}{A:Nat→Prop}{b o m:Nat}{cs vs:List Value}(h:(Kh b cs).holds w A) (hv:(cs.drop o).take m=vs):w.rangeAt b o vs:=by
 intro j v hj
 refine AAW h ?_
 rw [← hv,List.getElem?_take] at hj
 split at hj
 ·rwa [List.getElem?_drop] at hj
 ·cases hj
theorem AHU {K:Value→List A1→List Fact→Prop}{t:TypeId}{x:Operand}{b o:Nat}{cs:List Value}{v:Value}(n:Nat) (hx:ev σ x=some (.pointer (some ⟨b,o,none⟩))) (hn:A3 Γ n=some (Kh b cs))
  (hT:Dc P t=some (false,1)) (hv:cs[o]?=some v) (h:K v β Γ):Ea P C (.load t x) ty σ β Γ K:=fun w hO hG =>
 Gv.done (E4 hT hx (AAW (hG _ (Ai hn)) hv)) h hO hG
theorem AIb {K:Value→List A1→List Fact→Prop}{t:TypeId}{x:Operand}{b o m:Nat}{cs vs:List Value}(n:Nat) (hx:ev σ x=some (.pointer (some ⟨b,o,none⟩))) (hn:A3 Γ n=some (Kh b cs))
  (hT:Dc P t=some (true,m)) (hv:(cs.drop o).take m=vs) (hl:vs.length=m) (h:K (.agg vs.toArray) β Γ):Ea P C (.load t x) ty σ β Γ K:=fun w hO hG =>
 Gv.done (Ft hT hl hx (AAv (hG _ (Ai hn)) hv)) h hO hG
theorem Wa {t:TypeId}{x:Operand}{b o:Nat}{cs:List Value}{v:Value}(n:Nat) (hx:ev σ x=some (.pointer (some ⟨b,o,none⟩))) (hn:A3 Γ n=some (Kh b cs))
  (hT:Dc P t=some (false,1)) (hv:cs[o]?=some v):JD P (.load t x) ty σ β Γ (fun _=>v) (fun _=>[]):=fun _ w hO hG =>
 (E4 hT hx (AAW (hG _ (Ai hn)) hv)).ex.mono fun u w' ⟨h1,h2⟩=>by subst h1;subst h2;exact ⟨Below.refl _ _,fun _=>default,rfl,fun g hg=>by cases hg⟩
theorem AGg {t:TypeId}{x:Operand}{b o m:Nat}{cs vs:List Value}(n:Nat) (hx:ev σ x=some (.pointer (some ⟨b,o,none⟩))) (hn:A3 Γ n=some (Kh b cs))
  (hT:Dc P t=some (true,m)) (hv:(cs.drop o).take m=vs) (hl:vs.length=m):JD P (.load t x) ty σ β Γ (fun _=>.agg vs.toArray) (fun _=>[]):=fun _ w hO hG =>
 (Ft hT hl hx (AAv (hG _ (Ai hn)) hv)).ex.mono fun u w' ⟨h1,h2⟩=>by subst h1;subst h2;exact ⟨Below.refl _ _,fun _=>default,rfl,fun g hg=>by cases hg⟩
end
section
variable {P:Program}{σ:Fr}{ty:TypeId}{β:List A1}{Γ:List Fact}
theorem AEr {t:TypeId}{x:Operand}{b o:Nat}{z:Int}{T:TypeId}{kd:IntKind}{l:List Int}(n:Nat) (hx:ev σ x=some (.pointer (some ⟨b,o,none⟩))) (hn:A3 β n=some (some b,T,Al kd l))
  (hT:Dc P t=some (false,1)) (ho:l[o]?=some z):JD P (.load t x) ty σ β Γ (fun _=>.int kd z) (fun _=>[]) :=
 Bd n hx hn hT (by simp [Al,ho])
end
theorem AFI (k:IntKind) (n:Nat):(List.replicate n [Value.int k 0]).flatten=Al k (List.replicate n 0):=by
 induction n with
 | zero=>rfl
 | succ n ih=>rw [List.replicate_succ,List.flatten_cons,ih,List.replicate_succ];rfl
section
variable {P:Program}{F:Fun P}{C:Cx}{S:List It}{σ:Fr}{ty:TypeId}{β:List A1}{Γ:List Fact}{R:Value→World→Prop}
theorem AE4 {K:Value→List A1→List Fact→Prop}{x y:Operand}{t u:TypeId}{m n:Int}(a b:Nat) (hx:ev σ x=some (.int .i64 m)) (hy:ev σ y=some (.int .i64 n)) (hm:m=a) (hn:n=b) (ha:a<256) (hb:b<256)
  (h:K (.int .i64 ((a ^^^ b:Nat):Int)) β Γ):Ea P C (.binOp .xor t x y u) ty σ β Γ K :=
 Ew (fun w ρ hρ=>by
  subst hm;subst hn
  have h1:a ^^^ b<256:=Nat.xor_lt_two_pow (n:=8) ha hb
  have h2:IntKind.wrap .i64 ((a ^^^ b:Nat):Int)=((a ^^^ b:Nat):Int):=Mt (by simp only [Cg];omega)
  simp only [execOp,Ck,hρ _ _ hx,hρ _ _ hy,eqGuard,Go.binOp,Op.intBits]
  have e:(BitVec.ofNat 64 a ^^^ BitVec.ofNat 64 b).toNat=a ^^^ b:=by rw [BitVec.toNat_xor,BitVec.toNat_ofNat,BitVec.toNat_ofNat,Nat.mod_eq_of_lt (by omega),Nat.mod_eq_of_lt (by omega)]
  simp [IntKind.bits]
  exact (congrArg (fun z:Nat=>IntKind.wrap .i64 (z:Int)) e).trans h2) h
theorem T4 {K:Value→List A1→List Fact→Prop}{t e u:TypeId}{m:Nat}{x y:Operand}{a:Addr}{n c:Nat}(hT:Dr P t=some (e,m)) (hx:ev σ x=some (.slice (some a) n c)) (hy:ev σ y=some (.slice none 0 0)) (h:K (.bool false) β Γ):Ea P C (.binOp .eql t x y u) ty σ β Γ K :=
 Ew (fun w ρ hρ=>by
  have:=run_eql_slice_nil (P:=P) w t e (some a) n c (B1 hT).1
  simp [execOp,Ck,hρ _ _ hx,hρ _ _ hy,eqGuard,this]) h
theorem Xr {K:Value→List A1→List Fact→Prop}{t e u:TypeId}{m:Nat}{x y:Operand}{n c:Nat}(hT:Dr P t=some (e,m)) (hx:ev σ x=some (.slice none n c)) (hy:ev σ y=some (.slice none 0 0)) (h:K (.bool true) β Γ):Ea P C (.binOp .eql t x y u) ty σ β Γ K :=
 Ew (fun w ρ hρ=>by
  have:=run_eql_slice_nil (P:=P) w t e none n c (B1 hT).1
  simp [execOp,Ck,hρ _ _ hx,hρ _ _ hy,eqGuard,this]) h
theorem AFC {α:Type}{E:Enc α}{pa:Option Addr}{n ca:Nat}{l:List α}(j:Nat) (hj:A3 Γ j=some (As E pa n ca l)) (hn:0<n) (h:∀ b o,pa=some ⟨b,o,none⟩→J F C S σ β Γ R):J F C S σ β Γ R:=fun w hO hG=>by
 obtain ⟨hl,_,_,hs⟩:=hG _ (Ai hj)
 rcases hs with rfl|⟨b,o,e,_⟩
 ·simp at hl;omega
 ·exact h b o e w hO hG
end
def cpL {α:Type}(cs:List α) (o1 o2 n:Nat):List α:=cs.take o1++(cs.drop o2).take n++cs.drop (o1+n)
theorem AGf {α:Type}(cs:List α) (o1 o2:Nat):cpL cs o1 o2 0=cs:=by simp [cpL]
theorem ADD {α:Type}{cs:List α}{o1 o2 n:Nat}(h1:o1+n≤cs.length) (h2:o2+n≤cs.length):(cpL cs o1 o2 n).length=cs.length:=by
 simp only [cpL,List.length_append,List.length_take,List.length_drop];omega
theorem AG6 (k:IntKind) (l:List Int) (o1 o2 n:Nat):cpL (Al k l) o1 o2 n=Al k (cpL l o1 o2 n):=by
 simp only [cpL,Al,List.map_append,List.map_take,List.map_drop]
theorem AGT (k:IntKind) (l:List Nat) (o1 o2 n:Nat):cpL (An k l) o1 o2 n=An k (cpL l o1 o2 n):=by
 simp only [cpL,An,List.map_append,List.map_take,List.map_drop]
theorem ABv (k:IntKind) (l:List Nat):∀ v∈An k l,v.oneCell'=true:=fun v hv=>by
 obtain ⟨x,_,rfl⟩:=List.mem_map.1 hv;rfl
theorem AA9 (k:IntKind) (l:List Int):∀ v∈Al k l,v.oneCell'=true:=fun v hv=>by
 obtain ⟨x,_,rfl⟩:=List.mem_map.1 hv;rfl
theorem AHd {α:Type}{cs:List α}{o1 o2 n j:Nat}(h1:o1+n≤cs.length) (h2:o2+n≤cs.length):(cpL cs o1 o2 n)[j]?=if j<o1 then cs[j]? else if j<o1+n then cs[o2+(j-o1)]? else cs[j]?:=by
 have l1:(cs.take o1).length=o1:=by rw [List.length_take];omega
 have l2:((cs.drop o2).take n).length=n:=by rw [List.length_take,List.length_drop];omega
 rw [cpL]
 by_cases h:j<o1
 ·rw [if_pos h,List.append_assoc,List.getElem?_append_left (by omega),List.getElem?_take,if_pos h]
 ·rw [if_neg h,List.append_assoc,List.getElem?_append_right (by omega),l1]
  by_cases h3:j<o1+n
  ·rw [if_pos h3,List.getElem?_append_left (by omega),List.getElem?_take,if_pos (by omega),List.getElem?_drop]
  ·rw [if_neg h3,List.getElem?_append_right (by omega),l2,List.getElem?_drop]
   congr 1;omega
section
variable {P:Program}{F:Fun P}{C:Cx}{S:List It}{σ:Fr}{ty:TypeId}{β:List A1}{Γ:List Fact}{R:Value→World→Prop}{p:List Nat}{i:Nat}{d:Option Tmp}
theorem AGU {t t2 e:TypeId}{x y:Operand}{b o1 o2 n1 c1 n2 c2 n:Nat}{T:TypeId}{cs:List Value}{p1 p2:Option Addr}(hx:ev σ x=some (.slice p1 n1 c1)) (hy:ev σ y=some (.slice p2 n2 c2)) (hT:Dr P t=some (e,1))
  (hn:Nat.min n2 n1=n) (hp:n=0∨(p1=some ⟨b,o1,none⟩∧p2=some ⟨b,o2,none⟩)) (h1:o1+n≤cs.length) (h2:o2+n≤cs.length) (hone:∀ v∈cs,v.oneCell'=true) :
  JG P (.call { callee:=.builtin .copy,args:=#[x,y],argTypes:=#[t,t2] }) ty σ (some [(some b,T,cs)]) Γ (fun _=>[(some b,T,cpL cs o1 o2 n)]) (fun _=>.int .i64 n) (fun _=>[]):=by
 intro w A hA hpb _ hG
 obtain ⟨hu,inf,hi,hs⟩:=B1 hT
 have hsz:(P.info? e).map (·.size)=some 1:=by rw [hi];simp [hs]
 have hblk:w.heap[b]?=some (.cells cs.toArray T (0,0)):=hpb _ (.head _) b rfl
 have key:∃ w',(Builtin.copy_ #[t,t2] ty #[.slice p1 n1 c1,.slice p2 n2 c2]).run P w = .ok (goInt n) w'∧Other b w w'∧w'.heap[b]?=some (.cells (cpL cs o1 o2 n).toArray T (0,0)):=by
  rcases Nat.eq_zero_or_pos n with h0|h0
  ·subst h0
   refine ⟨w,run_copy_none (P:=P) w t t2 ty e p1 p2 n1 c1 n2 c2 hu hsz hn,⟨rfl,rfl,rfl,rfl,fun _ _=>rfl⟩,?_⟩
   rw [AGf];exact hblk
  ·obtain ⟨rfl,rfl⟩:=hp.resolve_left (by omega)
   have hl:((cs.drop o2).take n).length=n:=by rw [List.length_take,List.length_drop];omega
   have hr:=run_copy_row (P:=P) w t t2 ty e b o1 n1 c1 ⟨b,o2,none⟩ n2 c2 cs.toArray T ((cs.drop o2).take n) hu hsz hblk (by rw [hl,hn]) (fun j v hv=>by
    rw [Addr.add_mid]
    rw [List.getElem?_take] at hv
    split at hv
    ·rw [List.getElem?_drop] at hv
     simp [World.cell?,hblk,hv]
    ·cases hv) (by rw [hl];simpa using h1) (fun v hv=>hone v (List.mem_of_mem_drop (List.mem_of_mem_take hv)))
   rw [hl] at hr
   refine ⟨_,hr,⟨rfl,rfl,rfl,by simp [World.setRow],fun k hk=>setRow_other w b k _ hk⟩,?_⟩
   exact setRow_heap w b _ _ T _ hblk
 obtain ⟨w',hr,ho,hb'⟩:=key
 intro ρ hρ
 simp only [execOp,Ck,resolve,invoke,builtin,Sem.run_bind,Sem.run_pure,Result.andThen_ok,List.map_toArray,List.map_cons,List.map_nil,hρ _ _ hx,hρ _ _ hy,hr]
 refine ⟨fun _=>default,rfl,⟨ho.os,ho.tape,ho.output,Nat.le_of_eq ho.size.symm,fun k hk hm=>ho.block k fun e=>hm ⟨_,.head _,by rw [e]⟩⟩,⟨fun y hy=>(by cases hy),trivial⟩,fun y hy bb hb=>?_,fun g hg=>by cases hg⟩
 obtain rfl:=List.mem_singleton.1 hy
 obtain rfl:=Option.some.inj hb
 exact ⟨.inr ⟨_,.head _,rfl⟩,hb'⟩
theorem AGu {it:List (TypeId×IntKind)}{L:List Oper}{pos:List Po}{pt:List (List Nat)}{κ:Fr}{fs:List (Nat×Fact)}{al:List A1}{k:Nat}{t t2 e:TypeId}{x y:Operand}{b o1 o2 n1 c1 n2 c2:Nat}{T:TypeId}{cs:List Value}{p1 p2:Option Addr}(n:Nat)
  (ho:Tv F.fn.ntmps L κ i=some (d,.call { callee:=.builtin .copy,args:=#[x,y],argTypes:=#[t,t2] },ty)) (hx:ev σ x=some (.slice p1 n1 c1)) (hy:ev σ y=some (.slice p2 n2 c2)) (hT:Dr P t=some (e,1))
  (hn:Nat.min n2 n1=n) (hp:n=0∨(p1=some ⟨b,o1,none⟩∧p2=some ⟨b,o2,none⟩)) (h1:o1+n≤cs.length) (h2:o2+n≤cs.length) (hone:∀ v∈cs,v.oneCell'=true)
  (h:Jy it F C p S L pt β Γ R k (i+1) pos (G1 d κ) (putF d (.int .i64 n) σ) fs ((some b,T,cpL cs o1 o2 n)::al) none) :
  Jy it F C p S L pt β Γ R k i (.sg (fun _=>[(some b,T,cpL cs o1 o2 n)]) (fun _=>.int .i64 n) (fun _=>[])::pos) κ σ fs al (some [(some b,T,cs)]) :=
 AGd ho (AGU hx hy hT hn hp h1 h2 hone) fun _=>h
end
set_option linter.unusedVariables false
def Uc (l:List Fact):Fact where
 holds:=fun w A=>∀ g∈l,g.holds w A
 stable:=fun h hs g hg=>g.stable h (hs g hg)
section
variable {P:Program}{F:Fun P}{C:Cx}{S:List It}{σ:Fr}{β:List A1}{Γ:List Fact}{R:Value→World→Prop}
theorem Xs {l:List Fact}(ix:List Nat) (hp:pick Γ ix=some l) (h:J F C S σ β (Uc l::Γ) R):J F C S σ β Γ R :=
 G9 (Uc l) (fun w A hG g hg=>hG g (D3 hp g hg)) h
theorem ABL {l:List Fact}(k:Nat) (hk:A3 Γ k=some (Uc l)) (h:J F C S σ β (l++Γ) R):J F C S σ β Γ R :=
 fun w hO hG=>h w hO fun g hg=>by
  rcases List.mem_append.1 hg with hg|hg
  ·exact hG _ (Ai hk) g hg
  ·exact hG g hg
end
section
variable {P:Program}{f:FuncId}{args:List Value}{β:List A1}{Γ:List Fact}{Q:Value→List Fact→List A1→Prop}
theorem Bk.conj (h:Bk P f args β Γ Q):Bk P f args β [Uc Γ] Q:=⟨h.1,fun w A h1 h2 h3 h4=>h.2 w A h1 h2 h3 (h4 _ (.head _))⟩
theorem Bk.mono {Q':Value→List Fact→List A1→Prop}(h:Bk P f args β Γ Q) (hQ:∀ (C:Cx) (w:World) v Φ β',Q v Φ β'→Own C w β'→(∀ g∈Φ,g.holds w (ok C w β'))→∃ Φ2 β2,Q' v Φ2 β2∧Own C w β2∧∀ g∈Φ2,g.holds w (ok C w β2)):Bk P f args β Γ Q' :=
 ⟨h.1,fun w A h1 h2 h3 h4=>(h.2 w A h1 h2 h3 h4).mono fun e w' hr=>by
  cases e with
  | returned v =>
   obtain ⟨Φ,β',hq,ho,hf⟩:=hr
   exact hQ _ _ _ _ _ hq ho hf
  | _=>exact hr⟩
theorem AHt {C:Cx}{w:World}{α:Type}{E:Enc α}{e:TypeId}{bo:Option Nat}{n cap:Nat}{cs:List Value}{l:List α}{k:Nat}(hO:Own C w β) (hn:A3 β k=some (bo,e,cs)) (hj:(A6 E ⟨bo,cap,cs⟩ n l).holds w (ok C w β)) (hby:n*E.bytes≤140737488355328) :
  (As E (ad bo) n cap l).holds w (ok C w (β.eraseIdx k)):=by
 obtain ⟨hl,hg,vss,hall,hc⟩:=hj
 have hsub:(β.eraseIdx k).Sublist β:=List.eraseIdx_sublist _ _
 refine ⟨hl,?_⟩
 subst hl
 rcases hg with ⟨h0,hn0,h1,h2⟩|⟨b,h0,hnc,hcm,hcs⟩
 ·have:l=[]:=List.eq_nil_of_length_eq_zero hn0
  subst this
  dsimp only at h0 h1
  subst h0;subst h1
  exact ⟨Nat.le_refl _,hby,.inl rfl⟩
 ·dsimp only at h0 hnc hcm hcs hc
  subst h0
  refine ⟨hnc,hby,.inr ⟨b,0,rfl,?_,fun i x hi=>?_⟩⟩
  ·have hlt:=hO.lt (Bs hn) rfl
   have hnew:=hO.new _ (Bs hn) b rfl
   refine ⟨?_,hlt,fun x hx e=>Ix hO.apart hn x hx e⟩
   rcases hnew with h1|h1
   ·exact .inr (.inr h1)
   ·exact .inr (.inl h1)
  ·have hlt:i<l.length:=(List.getElem?_eq_some_iff.1 hi).1
   obtain ⟨vs,hvs⟩:∃ vs,vss[i]?=some vs:=⟨vss[i]'(hall.1.symm▸hlt),by simp⟩
   have hpart:=Hz (G8 hall) i vs hvs
   have hrd:=hall.2 i vs x hvs hi
   refine ⟨vs,⟨cs.toArray,e,(0,0),hO.blk _ (Bs hn) b rfl,?_,E.len hrd⟩,E.stable (fun _ hk=>⟨⟨hk.1,hk.2.1,fun x hx=>hk.2.2 x (hsub.subset hx)⟩,rfl⟩) hrd⟩
   rw [← hpart,← hc,Nat.zero_add,List.drop_take,List.take_take]
   congr 1
   have h4:(i+1)*E.size≤l.length*E.size:=Nat.mul_le_mul_right _ hlt
   rw [Nat.succ_mul] at h4
   omega
theorem Bk.lend {α:Type}{E:Enc α}{e:TypeId}{r:Row}{n:Nat}{l:List α}{v0:Value}(hby:n*E.bytes≤140737488355328) (h:Bk P f args [] (As E (ad r.bo) n r.cap l::Γ) (fun v Φ β'=>v=v0∧Φ=[]∧β'=[])) :
  Bk P f args [(r.bo,e,r.cs)] (A6 E r n l::Γ) (fun v Φ β'=>v=v0∧Φ=[A6 E r n l]∧β'=[(r.bo,e,r.cs)]) :=
 ⟨h.1,fun w A hA hb hd hG=>by
  have hO:Own ⟨w,A,Sv [(r.bo,e,r.cs)]⟩ w [(r.bo,e,r.cs)]:=⟨Keep.refl _ _,fun x hx b hb'=>.inr ⟨x,hx,hb'⟩,hb,hd⟩
  have hok:∀ k,(A k∧¬ Sv [(r.bo,e,r.cs)] k)→ok ⟨w,A,Sv [(r.bo,e,r.cs)]⟩ w [(r.bo,e,r.cs)] k:=fun k hk=>⟨.inl hk.1,hA k hk.1,fun x hx e=>hk.2 ⟨x,hx,e⟩⟩
  have hrow:(A6 E r n l).holds w (ok ⟨w,A,Sv [(r.bo,e,r.cs)]⟩ w [(r.bo,e,r.cs)]):=(A6 E r n l).stable (fun k hk=>⟨hok k hk,rfl⟩) (hG _ (.head _))
  have hcall:=h.2 w (fun k=>k<w.heap.size) (fun k hk=>hk) (fun x hx=>by cases hx) trivial (fun g hg=>by
   rcases List.mem_cons.1 hg with rfl|hg
   ·refine AGh hO (.head _) (fun k hk=>⟨hk.2.1,fun ⟨x,hx,_⟩=>by cases hx⟩) (fun b hb'=>⟨hO.lt (.head _) hb',fun ⟨x,hx,_⟩=>by cases hx⟩) hrow hby
   ·exact g.stable (fun k hk=>⟨⟨hA k hk.1,fun ⟨x,hx,_⟩=>by cases hx⟩,rfl⟩) (hG g (.tail _ hg)))
  refine hcall.mono fun x w' hr=>?_
  cases x with
  | returned v =>
   obtain ⟨Φ,β',⟨rfl,rfl,rfl⟩,hO',hΦ⟩:=hr
   have hx:Ext w w':=⟨hO'.ext.os,hO'.ext.tape,hO'.ext.output,hO'.ext.size,fun k hk=>hO'.ext.block k hk (fun ⟨x,hx,_⟩=>by cases hx)⟩
   have hO2:=hO.step hx
   exact ⟨_,_,⟨rfl,rfl,rfl⟩,hO2,fun g hg=>by
    obtain rfl:=List.mem_singleton.1 hg
    exact ADd (Γ:=[A6 E r n l]) hx (fun g hg=>by obtain rfl:=List.mem_singleton.1 hg;exact hrow) _ (.head _)⟩
  | _=>exact hr⟩
theorem Bk.pubR {α:Type}{E:Enc α}{e:TypeId}{n:Nat}{l:List α}(hby:n*E.bytes≤140737488355328) (h:Bk P f args β Γ (fun v Φ β'=>∃ r:Row,v = .slice (ad r.bo) n r.cap∧Φ=[A6 E r n l]∧β'=[(r.bo,e,r.cs)])) :
  Bk P f args β Γ (fun v Φ β'=>∃ pa ca,v = .slice pa n ca∧Φ=[As E pa n ca l]∧β'=[]) :=
 h.mono fun C w v Φ β' ⟨r,h1,h2,h3⟩ hO hf=>by
  subst h1;subst h2;subst h3
  have hO':Own C w []:=hO.sub (List.nil_sublist _)
  refine ⟨_,_,⟨_,_,rfl,rfl,rfl⟩,hO',fun g hg=>?_⟩
  obtain rfl:=List.mem_singleton.1 hg
  exact AHt (k:=0) hO rfl (hf _ (.head _)) hby
end
open Go.RowKit (Below)
set_option linter.unusedVariables false
def nfS (B:Code):Nat→List It→Option (List It)
 | 0,S=>some S
 | n+1,S=>match nx B S with
  | some S'=>nfS B n S'
  | none=>some S
def nfB (B:Code) (S:List It):Option (List It) :=
 match nx B S with
 | some S'=>nfS B 60 S'
 | none=>none
def AFu {P:Program}(it:List (TypeId×IntKind)) (F:Fun P) (p:List Nat):Nat→Nat→Fr→Prop→Option (Nat×Fr×Prop)
 | 0,i,σ,q=>some (i,σ,q)
 | n+1,i,σ,q=>match T1 it F p 1 i σ q with
  | some (σ',q')=>AFu it F p n (i+1) σ' q'
  | none=>some (i,σ,q)
def AJB {P:Program}(it:List (TypeId×IntKind)) (F:Fun P) (p:List Nat) (n i:Nat) (σ:Fr):Option (Nat×Fr×Prop) :=
 match T1 it F p 1 i σ True with
 | some (σ',q')=>AFu it F p n (i+1) σ' q'
 | none=>none
def P6 {P:Program}(F:Fun P) (p:List Nat) (i:Nat) (σ:Fr):Option (Option Tmp×Op×TypeId) :=
 match Yg F p i with
 | some x=>some x
 | none=>match Lm F p i with
  | some (g,want,d,op,ty)=>match Fr.get g σ with
   | some (.bool true)=>match want with
    | true=>some (d,op,ty)
    | false=>none
   | some (.bool false)=>match want with
    | false=>some (d,op,ty)
    | true=>none
   | _=>none
  | none=>none
def kdO:Op→Nat
 | .load _ _=>6
 | .store _ _ _=>7
 | .indexAddr _ _ _=>8
 | .fieldAddr _ _ _=>9
 | .box _ _=>10
 | .alloc _=>11
 | .makeSlice _ _ _=>12
 | .buildSlice _ _ _=>13
 | .build _ _=>14
 | .call { callee:=.builtin .len,.. }=>15
 | .call { callee:=.builtin .append,.. }=>16
 | .call { callee:=.value (.func _),.. }=>17
 | .call _=>20
 | .slice _ _ _ _ _=>18
 | .makeFunc _ _ _=>19
 | _=>5
def kdS {P:Program}(F:Fun P):List It→Option Nat
 | .c p::S=>match sub p F.B with
  | .cond _ _ _=>some 1
  | .ret=>some 3
  | .loop _=>some 4
  | .region _ _ true=>some 2
  | _=>some 0
 | .o p i::S=>match Nat.ble (Ao (sub p F.B)).length i with
  | true=>some 0
  | false=>match Yg F p i with
   | some (_,op,_)=>some (kdO op)
   | none=>some 30
 | .blk _::_=>some 0
 | _=>none
structure Kd (n:Nat) (q:Prop):Prop where
 h:q
structure Cnt (n:Nat):Prop where
 h:True
theorem Cnt.dec {n:Nat}(_:Cnt (n+1)):Cnt n:=⟨trivial⟩
structure Wr (q:Prop):Prop where
 h:q
theorem pop {a b q:Prop}(h:Wr (a∧b)) (k:Wr a→Wr b→q):q:=k ⟨h.h.1⟩ ⟨h.h.2⟩
theorem kd0 {q:Prop}(h:q):Kd 0 q:=⟨h⟩
theorem kd1 {q:Prop}(h:q):Kd 1 q:=⟨h⟩
theorem kd5 {q:Prop}(h:q):Kd 5 q:=⟨h⟩
theorem kd6 {q:Prop}(h:q):Kd 6 q:=⟨h⟩
theorem kd7 {q:Prop}(h:q):Kd 7 q:=⟨h⟩
theorem kd8 {q:Prop}(h:q):Kd 8 q:=⟨h⟩
theorem kd9 {q:Prop}(h:q):Kd 9 q:=⟨h⟩
theorem AJp {q:Prop}(h:q):Kd 10 q:=⟨h⟩
theorem AJ3 {q:Prop}(h:q):Kd 11 q:=⟨h⟩
theorem kd2 {q:Prop}(h:q):Kd 2 q:=⟨h⟩
theorem AKl {q:Prop}(h:q):Kd 12 q:=⟨h⟩
theorem AKg {q:Prop}(h:q):Kd 13 q:=⟨h⟩
theorem AKr {q:Prop}(h:q):Kd 14 q:=⟨h⟩
theorem AJ4 {q:Prop}(h:q):Kd 17 q:=⟨h⟩
theorem AKI {q:Prop}(h:q):Kd 19 q:=⟨h⟩
theorem AKH {q:Prop}(h:q):Kd 21 q:=⟨h⟩
theorem AKB {q:Prop}(h:q):Kd 22 q:=⟨h⟩
theorem AKK {q:Prop}(h:q):Kd 30 q:=⟨h⟩
theorem AJO {q:Prop}(h:q):Kd 15 q:=⟨h⟩
def lk {α:Type}(t:Nat):List (Nat×α)→Option α
 | []=>none
 | (i,x)::l=>match Nat.beq i t with
  | true=>some x
  | false=>lk t l
def Zx {α:Type}(f:Nat→Option α):List (Nat×α)→Prop
 | []=>True
 | (t,x)::l=>f t=some x∧Zx f l
theorem Zx.get {α:Type}{f:Nat→Option α}{t:Nat}{x:α}:∀ {l:List (Nat×α)},Zx f l→lk t l=some x→f t=some x:=by
 intro l
 induction l with
 | nil=>intro _ h;cases h
 | cons y l ih =>
  intro ha h
  obtain ⟨i,z⟩:=y
  simp only [lk] at h
  split at h
  ·rename_i hb
   obtain rfl:=Nat.eq_of_beq_eq_true hb
   obtain rfl:=Option.some.inj h
   exact ha.1
  ·exact ih ha.2 h
def AHq (P:Program):List (Nat×List (Nat×Nat))→Prop
 | []=>True
 | (t,x)::l=>Zx (Gp P t) x∧AHq P l
theorem AHq.get {P:Program}{t:Nat}{x:List (Nat×Nat)}:∀ {l:List (Nat×List (Nat×Nat))},AHq P l→lk t l=some x→Zx (Gp P t) x:=by
 intro l
 induction l with
 | nil=>intro _ h;cases h
 | cons y l ih =>
  intro ha h
  obtain ⟨i,z⟩:=y
  simp only [lk] at h
  split at h
  ·rename_i hb
   obtain rfl:=Nat.eq_of_beq_eq_true hb
   obtain rfl:=Option.some.inj h
   exact ha.1
  ·exact ih ha.2 h
structure Tb (P:Program) where
 ld:List (Nat×Bool×Nat)
 sl:List (Nat×Nat×Nat)
 fd:List (Nat×List (Nat×Nat))
 zo:List (Nat×List Value)
 st:List (Nat×List (Nat×Nat))
 by':List (Nat×Nat)
 hld:Zx (Dc P) ld
 hsl:Zx (Dr P) sl
 hfd:AHq P fd
 hzo:Zx (Ci P) zo
 hst:Zx (Jk P) st
 hby:Zx (fun t=>some (P.bytesOf t)) by'
theorem Tb.ldT {P:Program}(T:Tb P) {t:Nat}{x:Bool×Nat}(h:lk t T.ld=some x):Dc P t=some x:=T.hld.get h
theorem Tb.slT {P:Program}(T:Tb P) {t:Nat}{x:Nat×Nat}(h:lk t T.sl=some x):Dr P t=some x:=T.hsl.get h
theorem Tb.zoT {P:Program}(T:Tb P) {t:Nat}{x:List Value}(h:lk t T.zo=some x):Ci P t=some x:=T.hzo.get h
theorem Tb.stT {P:Program}(T:Tb P) {t:Nat}{x:List (Nat×Nat)}(h:lk t T.st=some x):Jk P t=some x:=T.hst.get h
theorem Tb.byt {P:Program}(T:Tb P) {t n:Nat}(h:lk t T.by'=some n):P.bytesOf t=n:=Option.some.inj (T.hby.get h)
def fdK (fd:List (Nat×List (Nat×Nat))) (t j:Nat):Option Nat :=
 match lk t fd with
 | some l=>lk j l
 | none=>none
theorem Tb.fld {P:Program}(T:Tb P) {t j o:Nat}(h:fdK T.fd t j=some o):Gp P t j=some o:=by
 unfold fdK at h
 split at h
 ·rename_i l hl;exact (T.hfd.get hl).get h
 ·cases h
section
variable {P:Program}{F:Fun P}{C:Cx}{S S':List It}{σ:Fr}{β:List A1}{Γ:List Fact}{R:Value→World→Prop}{p:List Nat}{i:Nat}{d:Option Tmp}{op:Op}{ty:TypeId}{K:Value→List A1→List Fact→Prop}
theorem AHI {w:World}:∀ (n:Nat) {S S':List It},nfS F.B n S=some S'→Ly F S' σ w R→Ly F S σ w R:=by
 intro n
 induction n with
 | zero=>intro S S' h hr;cases h;exact hr
 | succ n ih =>
  intro S S' h hr
  simp only [nfS] at h
  cases hn:nx F.B S with
  | none=>rw [hn] at h;cases h;exact hr
  | some T=>rw [hn] at h;exact ADh hn (ih h hr)
theorem AKf (k:Nat) (h:kdS F S=some k) (hJ:Kd k (J F C S σ β Γ R)):J F C S σ β Γ R:=hJ.h
theorem AKu (h:nfB F.B S=some S') (hJ:J F C S' σ β Γ R):J F C S σ β Γ R:=fun w ho hf=>by
 unfold nfB at h
 cases hn:nx F.B S with
 | none=>rw [hn] at h;cases h
 | some T=>rw [hn] at h;exact ADh hn (AHI 60 h (hJ w ho hf))
theorem AIh {it:List (TypeId×IntKind)}(hit:Bl P it):∀ (n i:Nat) (σ σ':Fr) (q q':Prop) (i':Nat),AFu it F p n i σ q=some (i',σ',q')→q'→(q→J F C (.o p i'::S) σ' β Γ R→J F C (.o p i::S) σ β Γ R)∧q:=by
 intro n
 induction n with
 | zero=>intro i σ σ' q q' i' h hq;simp only [AFu,Option.some.injEq,Prod.mk.injEq] at h;obtain ⟨rfl,rfl,rfl⟩:=h;exact ⟨fun _ h=>h,hq⟩
 | succ n ih =>
  intro i σ σ' q q' i' h hq
  simp only [AFu] at h
  split at h
  ·rename_i σ1 q1 h1
   obtain ⟨g1,g2⟩:=ih _ _ _ _ _ _ h hq
   exact ⟨fun _ hJ=>ACN hit 1 i σ σ1 q q1 h1 g2 (g1 g2 hJ),R9 _ _ _ _ _ _ h1 g2⟩
  ·simp only [Option.some.injEq,Prod.mk.injEq] at h;obtain ⟨rfl,rfl,rfl⟩:=h;exact ⟨fun _ h=>h,hq⟩
theorem R1 {it:List (TypeId×IntKind)}(hit:Bl P it) (n:Nat) {i':Nat}{σ':Fr}{q:Prop}(h:AJB it F p n i σ=some (i',σ',q)) (hq:q) (hJ:J F C (.o p i'::S) σ' β Γ R):J F C (.o p i::S) σ β Γ R:=by
 unfold AJB at h
 split at h
 ·rename_i σ1 q1 h1
  obtain ⟨g1,g2⟩:=AIh (C:=C) (S:=S) (β:=β) (Γ:=Γ) (R:=R) hit _ _ _ _ _ _ _ h hq
  exact ACN hit 1 i σ σ1 True q1 h1 g2 (g1 g2 hJ)
 ·cases h
theorem Cy (ho:P6 F p i σ=some (d,op,ty)) (hx:Ea P C op ty σ β Γ fun v β' Γ'=>J F C (.o p (i+1)::S) (putF d v σ) β' Γ' R):J F C (.o p i::S) σ β Γ R:=by
 unfold P6 at ho
 split at ho
 ·rename_i h1;cases ho;exact Ab h1 hx
 ·split at ho
  ·rename_i h2
   split at ho
   ·rename_i hg
    split at ho
    ·cases ho;exact A8 h2 hg hx
    ·cases ho
   ·rename_i hg
    split at ho
    ·cases ho;exact A8 h2 hg hx
    ·cases ho
   ·cases ho
  ·cases ho
class DecB (b:Bool) (q:outParam Prop):Prop where
 ok:b=true↔q
instance {q:Prop} [Decidable q]:DecB (decide q) q:=⟨decide_eq_true_iff⟩
class NDecB (b:Bool) (q:outParam Prop):Prop where
 ok:b=false↔q
instance {q:Prop} [Decidable q]:NDecB (!decide q) q:=⟨by simp⟩
theorem DecB.no {b:Bool}{q:Prop} [h:DecB b q] (hq:¬ q):b=false:=by
 cases b with
 | false=>rfl
 | true=>exact absurd (h.ok.1 rfl) hq
theorem NDecB.no {b:Bool}{q:Prop} [h:NDecB b q] (hq:¬ q):b=true:=by
 cases b with
 | true=>rfl
 | false=>exact absurd (h.ok.1 rfl) hq
theorem cur {a b q:Prop}(h:a→b→q):a∧b→q:=fun ⟨x,y⟩=>h x y
theorem n0 {α:Type}{x:α}{l:List α}:A3 (x::l) 0=some x:=rfl
theorem n1 {α:Type}{x y:α}{l:List α}{n:Nat}(h:A3 l n=some y):A3 (x::l) (n+1)=some y:=h
class NatF (m:Int) (k:outParam Nat):Prop where
 ok:True
instance {k:Nat}:NatF (k:Int) k:=⟨trivial⟩
instance:NatF 0 0:=⟨trivial⟩
instance:NatF 1 1:=⟨trivial⟩
instance:NatF 2 2:=⟨trivial⟩
instance:NatF 3 3:=⟨trivial⟩
instance:NatF 4 4:=⟨trivial⟩
instance:NatF 5 5:=⟨trivial⟩
instance:NatF 6 6:=⟨trivial⟩
instance:NatF 7 7:=⟨trivial⟩
instance:NatF 8 8:=⟨trivial⟩
instance:NatF 9 9:=⟨trivial⟩
instance:NatF 10 10:=⟨trivial⟩
instance (priority:=low) {m:Int}:NatF m m.toNat:=⟨trivial⟩
instance {a b:Int}{x y:Nat} [NatF a x] [NatF b y]:NatF (a+b) (x+y):=⟨trivial⟩
instance {a b:Int}{x y:Nat} [NatF a x] [NatF b y]:NatF (a-b) (x-y):=⟨trivial⟩
instance {a b:Int}{x y:Nat} [NatF a x] [NatF b y]:NatF (a*b) (x*y):=⟨trivial⟩
theorem AKz {c:Operand}{b:Bool}{q:Prop} [h0:DecB b q] (hc:H5 F.B p=some c) (ht:ev σ c=some (.bool b)) (hq:q) (h1:q→J F C (.c (p++[0])::S) σ β Γ R):J F C (.c p::S) σ β Γ R:=by
 rw [h0.ok.2 hq] at ht
 exact Pf hc ht (h1 hq)
theorem AIC {c:Operand}{b:Bool}{q:Prop} [h0:DecB b q] (hc:H5 F.B p=some c) (ht:ev σ c=some (.bool b)) (hq:¬ q) (h1:¬ q→J F C (.c (p++[1])::S) σ β Γ R):J F C (.c p::S) σ β Γ R:=by
 rw [h0.no hq] at ht
 exact Pu hc ht (h1 hq)
theorem AJF {c:Operand}{b:Bool}{q:Prop} [h0:NDecB b q] (hc:H5 F.B p=some c) (ht:ev σ c=some (.bool b)) (hq:¬ q) (h1:¬ q→J F C (.c (p++[0])::S) σ β Γ R):J F C (.c p::S) σ β Γ R:=by
 rw [h0.no hq] at ht
 exact Pf hc ht (h1 hq)
theorem AHl {c:Operand}{b:Bool}{q:Prop} [h0:NDecB b q] (hc:H5 F.B p=some c) (ht:ev σ c=some (.bool b)) (hq:q) (h1:q→J F C (.c (p++[1])::S) σ β Γ R):J F C (.c p::S) σ β Γ R:=by
 rw [h0.ok.2 hq] at ht
 exact Pu hc ht (h1 hq)
theorem AIz {c:Operand}(hc:H5 F.B p=some c) (ht:ev σ c=some (.bool true)) (h1:J F C (.c (p++[0])::S) σ β Γ R):J F C (.c p::S) σ β Γ R:=Pf hc ht h1
theorem AHN {c:Operand}(hc:H5 F.B p=some c) (ht:ev σ c=some (.bool false)) (h1:J F C (.c (p++[1])::S) σ β Γ R):J F C (.c p::S) σ β Γ R:=Pu hc ht h1
theorem AHk {k:Nat}{g:Tmp}{want:Bool}(ho:Lm F p i=some (g,want,d,op,ty)) (hb:Fr.get g σ=some undef) (h:J F C (.o p (i+1)::S) (putF d undef σ) β Γ R):J F C (.o p i::S) σ β Γ R:=D5 ho hb h
theorem AKG {g:Tmp}{want:Bool}(ho:Lm F p i=some (g,want,d,op,ty)) (hb:Fr.get g σ=some (.bool want)) (h:Kd (kdO op) (J F C (.o p i::S) σ β Γ R)):J F C (.o p i::S) σ β Γ R:=h.h
theorem AKm (h:J F C S σ β Γ R):J F C S σ β Γ R:=h
theorem AJl {g:Tmp}{want b:Bool}{q:Prop} [h0:DecB b q] (ho:Lm F p i=some (g,want,d,op,ty)) (hb:Fr.get g σ=some (.bool b)) (hq:q) (h:q→J F C (.o p i::S) ((g,.bool true)::σ) β Γ R):J F C (.o p i::S) σ β Γ R:=by
 rw [h0.ok.2 hq] at hb
 exact Wf (Fr.sub_cons hb (Fr.sub_refl σ)) (h hq)
theorem AJV {g:Tmp}{want b:Bool}{q:Prop} [h0:DecB b q] (ho:Lm F p i=some (g,want,d,op,ty)) (hb:Fr.get g σ=some (.bool b)) (hq:¬ q) (h:¬ q→J F C (.o p i::S) ((g,.bool false)::σ) β Γ R):J F C (.o p i::S) σ β Γ R:=by
 rw [h0.no hq] at hb
 exact Wf (Fr.sub_cons hb (Fr.sub_refl σ)) (h hq)
theorem AIt {g:Tmp}{want b:Bool}{q:Prop} [h0:NDecB b q] (ho:Lm F p i=some (g,want,d,op,ty)) (hb:Fr.get g σ=some (.bool b)) (hq:¬ q) (h:¬ q→J F C (.o p i::S) ((g,.bool true)::σ) β Γ R):J F C (.o p i::S) σ β Γ R:=by
 rw [h0.no hq] at hb
 exact Wf (Fr.sub_cons hb (Fr.sub_refl σ)) (h hq)
theorem AH7 {g:Tmp}{want b:Bool}{q:Prop} [h0:NDecB b q] (ho:Lm F p i=some (g,want,d,op,ty)) (hb:Fr.get g σ=some (.bool b)) (hq:q) (h:q→J F C (.o p i::S) ((g,.bool false)::σ) β Γ R):J F C (.o p i::S) σ β Γ R:=by
 rw [h0.ok.2 hq] at hb
 exact Wf (Fr.sub_cons hb (Fr.sub_refl σ)) (h hq)
theorem AEL {T:TypeId}{x:Operand}{cs:List Value}(ho:P6 F p i σ=some (d,.box T x,ty)) (hx:ev σ x=some (.agg cs.toArray))
  (h:∀ b,J F C (.o p (i+1)::S) (putF d (.pointer (some ⟨b,0,none⟩)) σ) ((some b,T,cs)::β) Γ R):J F C (.o p i::S) σ β Γ R:=Cy ho (K1 hx h)
theorem AEw {T:TypeId}{x:Operand}{v:Value}(ho:P6 F p i σ=some (d,.box T x,ty)) (hx:ev σ x=some v) (hc:Cr v=[v])
  (h:∀ b,J F C (.o p (i+1)::S) (putF d (.pointer (some ⟨b,0,none⟩)) σ) ((some b,T,[v])::β) Γ R):J F C (.o p i::S) σ β Γ R:=Cy ho (AE1 hx hc h)
theorem AHo (tb:Tb P) {t:TypeId}{j off b o:Nat}{x:Operand}(ho:P6 F p i σ=some (d,.fieldAddr t x j,ty)) (hx:ev σ x=some (.pointer (some ⟨b,o,none⟩))) (hT:fdK tb.fd t j=some off)
  (h:J F C (.o p (i+1)::S) (putF d (.pointer (some ⟨b,o+off,none⟩)) σ) β Γ R):J F C (.o p i::S) σ β Γ R:=Cy ho (Au hx (tb.fld hT) h)
theorem AJm (tb:Tb P) {t:TypeId}{x:Operand}{b o n:Nat}{T:TypeId}{cs:List Value}{v:Value}(ho:P6 F p i σ=some (d,.load t x,ty)) (hx:ev σ x=some (.pointer (some ⟨b,o,none⟩))) (hn:A3 β n=some (some b,T,cs))
  (hT:lk t tb.ld=some (false,1)) (hv:cs[o]?=some v) (h:J F C (.o p (i+1)::S) (putF d v σ) β Γ R):J F C (.o p i::S) σ β Γ R:=Cy ho (Da n hx hn (tb.hld.get hT) hv h)
theorem AEP (tb:Tb P) {t:TypeId}{x:Operand}{b o n m:Nat}{T:TypeId}{cs vs:List Value}(ho:P6 F p i σ=some (d,.load t x,ty)) (hx:ev σ x=some (.pointer (some ⟨b,o,none⟩))) (hn:A3 β n=some (some b,T,cs))
  (hT:lk t tb.ld=some (true,m)) (hv:(cs.drop o).take m=vs) (hl:vs.length=m) (h:J F C (.o p (i+1)::S) (putF d (.agg vs.toArray) σ) β Γ R):J F C (.o p i::S) σ β Γ R:=Cy ho (Vr n hx hn (tb.hld.get hT) hv hl h)
theorem AEF (tb:Tb P) {t:TypeId}{x:Operand}{b n m:Nat}{T:TypeId}{cs:List Value}(ho:P6 F p i σ=some (d,.load t x,ty)) (hx:ev σ x=some (.pointer (some ⟨b,0,none⟩))) (hn:A3 β n=some (some b,T,cs))
  (hT:lk t tb.ld=some (true,m)) (hl:cs.length=m) (h:J F C (.o p (i+1)::S) (putF d (.agg cs.toArray) σ) β Γ R):J F C (.o p i::S) σ β Γ R:=Cy ho (Iw n hx hn (tb.hld.get hT) hl h)
theorem AJq (tb:Tb P) {x:Operand}{t e:TypeId}{m n ca:Nat}{pa:Option Addr}(ho:P6 F p i σ=some (d,.call { callee:=.builtin .len,args:=#[x],argTypes:=#[t] },ty)) (hT:lk t tb.sl=some (e,m)) (hx:ev σ x=some (.slice pa n ca))
  (h:J F C (.o p (i+1)::S) (putF d (.int .i64 n) σ) β Γ R):J F C (.o p i::S) σ β Γ R:=Cy ho (Lt (tb.hsl.get hT) hx h)
end
theorem Kr {Γ:List Fact}:∀ g∈([]:List Fact),g∈Γ:=fun _ h=>nomatch h
theorem Kt {f:Fact}{l Γ:List Fact}(h:f∈Γ) (h':∀ g∈l,g∈Γ):∀ g∈f::l,g∈Γ:=fun g hg=>by
 rcases List.mem_cons.1 hg with rfl|hg
 ·exact h
 ·exact h' g hg
theorem Ks {f:Fact}{l:List Fact}:f∈f::l:=.head _
theorem Ky {f g:Fact}{l:List Fact}(h:f∈l):f∈g::l:=.tail _ h
theorem Sa:∀ {l Γ:List Fact},(∀ g∈l,g∈Γ)→∃ ix,pick Γ ix=some l:=by
 intro l
 induction l with
 | nil=>intro Γ _;exact ⟨[],rfl⟩
 | cons f l ih =>
  intro Γ h
  obtain ⟨ix,hix⟩:=ih fun g hg=>h g (.tail _ hg)
  obtain ⟨n,hn⟩:=List.getElem?_of_mem (h f (.head _))
  exact ⟨n::ix,by simp only [pick,By,hn,hix]⟩
def Ex3 (Q G:Value→List Fact→List A1→Prop):Prop:=∀ v Φ β,Q v Φ β→G v Φ β
theorem Fk {α:Sort _}{Q:α→Value→List Fact→List A1→Prop}{G:Value→List Fact→List A1→Prop}(h:∀ a,Ex3 (Q a) G):Ex3 (fun v Φ β=>∃ a,Q a v Φ β) G:=fun v Φ β ⟨a,ha⟩=>h a v Φ β ha
theorem Fg {v0:Value}{Φ0:List Fact}{β0:List A1}{G:Value→List Fact→List A1→Prop}(h:G v0 Φ0 β0):Ex3 (fun v Φ β=>v=v0∧Φ=Φ0∧β=β0) G:=by rintro _ _ _ ⟨rfl,rfl,rfl⟩;exact h
section
variable {P:Program}{F:Fun P}{C:Cx}{S S':List It}{σ:Fr}{β:List A1}{Γ:List Fact}{R:Value→World→Prop}{p:List Nat}{i:Nat}{d:Option Tmp}{op:Op}{ty:TypeId}{K:Value→List A1→List Fact→Prop}
theorem J8 {f:FuncId}{xs:List Operand}{ts:Array TypeId}{args:List Value}{Γ':List Fact}{Q:Value→List Fact→List A1→Prop}(ho:P6 F p i σ=some (d,.call { callee:=.value (.func f),args:=xs.toArray,argTypes:=ts },ty))
  (hx:Yb σ xs=some args) (hp:∀ g∈Γ',g∈Γ) (hc:Bk P f args [] Γ' Q) (h:Ex3 Q fun v Φ β'=>J F C (.o p (i+1)::S) (putF d v σ) (β'++β) (Φ++Γ) R):J F C (.o p i::S) σ β Γ R:=by
 obtain ⟨ix,hix⟩:=Sa hp
 exact Cy ho (Ae ix hx hc hix h)
theorem Kp {f:FuncId}{xs:List Operand}{ts:Array TypeId}{args:List Value}{Γ':List Fact}{blk:A1}{n:Nat}{Q:Value→List Fact→List A1→Prop}(ho:P6 F p i σ=some (d,.call { callee:=.value (.func f),args:=xs.toArray,argTypes:=ts },ty))
  (hx:Yb σ xs=some args) (hn:A3 β n=some blk) (hp:∀ g∈Γ',g∈Γ) (hc:Bk P f args [blk] Γ' Q) (h:Ex3 Q fun v Φ β'=>J F C (.o p (i+1)::S) (putF d v σ) (β'++β.eraseIdx n) (Φ++Γ) R):J F C (.o p i::S) σ β Γ R:=by
 obtain ⟨ix,hix⟩:=Sa hp
 exact Cy ho (Dh n ix hn hx hc hix h)
theorem J7 {f:FuncId}{xs:List Operand}{ts:Array TypeId}{args:List Value}{Γ':List Fact}{β1:List A1}{Q:Value→List Fact→List A1→Prop}(ho:P6 F p i σ=some (d,.call { callee:=.value (.func f),args:=xs.toArray,argTypes:=ts },ty))
  (hx:Yb σ xs=some args) (hp:∀ g∈Γ',g∈Γ) (hc:Bk P f args β1 Γ' Q) (hn:β.take β1.length=β1) (h:Ex3 Q fun v Φ β'=>J F C (.o p (i+1)::S) (putF d v σ) (β'++β.drop β1.length) (Φ++Γ) R):J F C (.o p i::S) σ β Γ R:=by
 obtain ⟨ix,hix⟩:=Sa hp
 exact Cy ho (R7 β1.length ix hn hx hc hix h)
theorem D9 {f:FuncId}{xs:List Operand}{ts:Array TypeId}{args:List Value}{Γ':List Fact}{Q:Value→List Fact→List A1→Prop}
  (hx:Yb σ xs=some args) (hp:∀ g∈Γ',g∈Γ) (hc:Bk P f args [] Γ' Q) (h:Ex3 Q fun v Φ β'=>K v (β'++β) (Φ++Γ)):Ea P C (.call { callee:=.value (.func f),args:=xs.toArray,argTypes:=ts }) ty σ β Γ K:=by
 obtain ⟨ix,hix⟩:=Sa hp
 exact Ae ix hx hc hix h
theorem AFF {α:Type}{E:Enc α}{t e:TypeId}{kd:IntKind}{x y:Operand}{pa:Option Addr}{len ca:Nat}{l:List α}{m:Int}{k n:Nat} [NatF m k]
  (hx:ev σ x=some (.slice pa len ca)) (hy:ev σ y=some (.int kd m)) (hn:A3 Γ n=some (As E pa len ca l)) (hT:Dr P t=some (e,E.size)) (hm:m=(k:Int)) (hk:k<len)
  (h:∀ z,l[k]?=some z→∀ b o,K (.pointer (some ⟨b,o,none⟩)) β (ptF E b o z::Γ)):Ea P C (.indexAddr t x y) ty σ β Γ K:=E7 n k hx hy hn hT hm hk h
theorem AGW {t e:TypeId}{kd kx ky:IntKind}{x y:Operand}{nn:Int}{k by':Nat} [NatF nn k] (hx:ev σ x=some (.int kx nn)) (hy:ev σ y=some (.int ky nn)) (hT:Dr P t=some (e,1))
  (hz:Ci P e=some [.int kd 0]) (hby:P.bytesOf e=by') (hm:nn=(k:Int)) (hk:by'*k≤281474976710656) (h63:k≤9223372036854775807)
  (h:∀ b,K (.slice (some ⟨b,0,none⟩) k k) ((some b,e,An kd (List.replicate k 0))::β) Γ):Ea P C (.makeSlice t x y) ty σ β Γ K:=Yc k by' hx hy hT hz hby hm hk h63 h
theorem AIe {α:Type}{E:Enc α}{t e:TypeId}{kd:IntKind}{x y:Operand}{pa:Option Addr}{len ca:Nat}{l:List α}{m:Int}{k n:Nat}{z:α} [NatF m k]
  (hx:ev σ x=some (.slice pa len ca)) (hy:ev σ y=some (.int kd m)) (hn:A3 Γ n=some (As E pa len ca l)) (hT:Dr P t=some (e,E.size)) (hm:m=(k:Int)) (hk:k<len) (hz:l[k]?=some z)
  (h:∀ (_:l[k]?=some z) b o,K (.pointer (some ⟨b,o,none⟩)) β (ptF E b o z::Γ)):Ea P C (.indexAddr t x y) ty σ β Γ K:=E7 n k hx hy hn hT hm hk fun z' hz' b o=>by
 obtain rfl:z=z':=Option.some.inj (hz.symm.trans hz')
 exact h hz b o
theorem Yh {t e:TypeId}{m':Nat}{x y:Operand}{b len ca k:Nat}{kd:IntKind}{m:Int} [NatF m k] (hx:ev σ x=some (.slice (some ⟨b,0,none⟩) len ca)) (hy:ev σ y=some (.int kd m)) (hT:Dr P t=some (e,m'))
  (hm:m=(k:Int)) (hk:k<len) (h:K (.pointer (some ⟨b,k*m',none⟩)) β Γ):Ea P C (.indexAddr t x y) ty σ β Γ K:=Bo k _ hx hy hT hm hk rfl h
theorem Ym {t e:TypeId}{x y:Operand}{b len ca k:Nat}{kd:IntKind}{m:Int} [NatF m k] (hx:ev σ x=some (.slice (some ⟨b,0,none⟩) len ca)) (hy:ev σ y=some (.int kd m)) (hT:Dr P t=some (e,1))
  (hm:m=(k:Int)) (hk:k<len) (h:K (.pointer (some ⟨b,k,none⟩)) β Γ):Ea P C (.indexAddr t x y) ty σ β Γ K:=Bo k k hx hy hT hm hk (Nat.mul_one _) h
end
def AIr:Op→Bool
 | .assign _=>true
 | .store _ _ _=>true
 | .call { callee:=.builtin .append,.. }=>true
 | _=>false
def AJM:Op→Bool
 | .fieldAddr _ _ _=>true
 | .indexAddr _ _ _=>true
 | _=>false
def drM:List Oper→Bool→Nat
 | [],_=>0
 | o::l,f=>match AIr o.op with
  | true=>drM l true
  | false=>match f,AJM o.op with
   | true,true=>drM l true
   | _,_=>l.length+1
def AGK (L:List Oper) (pt:List (List Nat)):Nat→Nat→Option Nat
 | 0,_=>none
 | n+1,q=>match S2 L pt q with
  | true=>some q
  | false=>AGK L pt n (q+1)
def AFU (L:List Oper) (pt:List (List Nat)):Nat→Option Nat
 | 0=>none
 | n+1=>match S2 L pt (n+1) with
  | true=>some (n+1)
  | false=>AFU L pt n
def drK (L:List Oper):Option Nat :=
 match drM L.reverse false with
 | 0=>AFU L (J5 L []) L.length
 | m+1=>match AGK L (J5 L []) (L.length-(m+1)) (m+1) with
  | some k=>some k
  | none=>AFU L (J5 L []) L.length
theorem AHM {L:List Oper}{pt:List (List Nat)}{k:Nat}:∀ {n q:Nat},AGK L pt n q=some k→S2 L pt k=true:=by
 intro n
 induction n with
 | zero=>intro q h;cases h
 | succ n ih =>
  intro q h
  simp only [AGK] at h
  split at h
  ·rename_i hr;cases h;exact hr
  ·exact ih h
theorem AD0 {L:List Oper}{pt:List (List Nat)}{k:Nat}:∀ {n:Nat},AFU L pt n=some k→S2 L pt k=true:=by
 intro n
 induction n with
 | zero=>intro h;cases h
 | succ n ih =>
  intro h
  simp only [AFU] at h
  split at h
  ·rename_i hr;cases h;exact hr
  ·exact ih h
theorem AIQ {L:List Oper}{k:Nat}(h:drK L=some k):S2 L (J5 L []) k=true:=by
 unfold drK at h
 split at h
 ·exact AD0 h
 ·split at h
  ·rename_i hu;cases h;exact AHM hu
  ·exact AD0 h
def AJ2:List Oper→Bool
 | []=>false
 | o::l=>match o.guard with
  | some _=>true
  | none=>AJ2 l
def AJN:Op→Bool
 | .binOp .eql _ _ _ _=>true
 | .binOp .neq _ _ _ _=>true
 | .binOp .lss _ _ _ _=>true
 | .binOp .leq _ _ _ _=>true
 | .binOp .gtr _ _ _ _=>true
 | .binOp .geq _ _ _ _=>true
 | _=>false
def kdL (nt:Nat) (L:List Oper) (κ:Fr) (k i:Nat):Option Nat :=
 match Nat.ble k i with
 | true=>none
 | false=>match Tv nt L κ i with
  | some (_,.binOp .sub _ _ _ _,_)=>some 21
  | some (_,op,_)=>match AJN op with
   | true=>match AJ2 L with
    | true=>some 22
    | false=>some 5
   | false=>some (kdO op)
  | none=>some 5
section
variable {P:Program}{F:Fun P}{C:Cx}{S:List It}{R:Value→World→Prop}{β:List A1}{Γ:List Fact}{it:List (TypeId×IntKind)}{L:List Oper}{pos:List Po}{pt:List (List Nat)}{p:List Nat}{σ κ:Fr}{fs:List (Nat×Fact)}{al:List A1}{pb:Pb}{i k:Nat}{op:Op}{ty:TypeId}{d:Option Tmp}
theorem AHF (hit:Bl P it) (hmx:P.follows .mixedOrders=true) (hk:drK (Ao (sub p F.B))=some k) (hd:Re F.B p=true)
  (h:Jy it F C p S (Ao (sub p F.B)) (J5 (Ao (sub p F.B)) []) β Γ R k 0 pos σ σ [] [] none) (hS:Wh S=false:=by rfl):J F C (.c p::S) σ β Γ R:=Cc hit hmx k hd (AIQ hk) h hS
theorem AKj (n:Nat) (hn:kdL F.fn.ntmps L κ k i=some n) (h:Kd n (Jy it F C p S L pt β Γ R k i pos κ σ fs al pb)):Jy it F C p S L pt β Γ R k i pos κ σ fs al pb:=h.h
theorem ABm {κ' σ':Fr}{q:Prop}(h:Dt it F.fn.ntmps L 1 i [.auto] κ σ True=some ([],κ',σ',q)) (hq:q) (hL:Jy it F C p S L pt β Γ R k (i+1) pos κ' σ' fs al pb):Jy it F C p S L pt β Γ R k i (.auto::pos) κ σ fs al pb:=Ak 1 h hq hL
theorem Ma {v:Value}(ho:Tv F.fn.ntmps L κ i=some (d,op,ty)) (hJ:∀ C',Ea P C' op ty σ [] (Ta (Bv pt i) fs++Γ) (DK (fun _=>v) fun _=>[])) (h:Jy it F C p S L pt β Γ R k (i+1) pos (putF d v κ) (putF d v σ) fs al pb) :
  Jy it F C p S L pt β Γ R k i (.eq v::pos) κ σ fs al pb:=Ac ho (Bj hJ) h
theorem Zd {n:Nat}{α:Type}{E:Enc α}{l:List α}(ho:Tv F.fn.ntmps L κ i=some (d,op,ty)) (hJ:∀ C',Ea P C' op ty σ [] (Ta (Bv pt i) fs++Γ) (DK (ADB n) (ADs E n l)))
  (h:∀ pa ca,Jy it F C p S L pt β Γ R k (i+1) pos (G1 d κ) (putF d (.slice pa n ca) σ) ((i,As E pa n ca l)::fs) al pb) :
  Jy it F C p S L pt β Γ R k i (.fa (ADB n) (ADs E n l)::pos) κ σ fs al pb:=Cu ho (Bj hJ) h
theorem AKt {α:Type}{E:Enc α}{z:α}(ho:Tv F.fn.ntmps L κ i=some (d,op,ty)) (hJ:∀ C',Ea P C' op ty σ [] (Ta (Bv pt i) fs++Γ) (DK Fi (AEJ E z)))
  (h:∀ b o,Jy it F C p S L pt β Γ R k (i+1) pos (G1 d κ) (putF d (.pointer (some ⟨b,o,none⟩)) σ) ((i,ptF E b o z)::fs) al pb) :
  Jy it F C p S L pt β Γ R k i (.fa Fi (AEJ E z)::pos) κ σ fs al pb:=K4 ho (Bj hJ) h
theorem AJW {α:Type}{E:Enc α}(V:Vw E) {z:α}(ho:Tv F.fn.ntmps L κ i=some (d,op,ty)) (hJ:∀ C',Ea P C' op ty σ [] (Ta (Bv pt i) fs++Γ) (DK (fun g=>.agg (V.val z g).toArray) (V.fs z)))
  (h:∀ g,Jy it F C p S L pt β Γ R k (i+1) pos (G1 d κ) (putF d (.agg (V.val z g).toArray) σ) ((V.fs z g).map (fun f=>(i,f))++fs) al pb) :
  Jy it F C p S L pt β Γ R k i (.fa (fun g=>.agg (V.val z g).toArray) (V.fs z)::pos) κ σ fs al pb:=AId V ho (Bj hJ) h
theorem AI8 {C':Cx}{K:Value→List A1→List Fact→Prop}(hit:Bl P it) {kd:IntKind}{m:Int}{n:Nat}{q':Prop} [NatF m n] (h:Zl it σ op=some (.int kd m,q')) (hq':q') (e:m=(n:Int)) (hK:K (.int kd (n:Int)) β Γ):Ea P C' op ty σ β Γ K:=ABR hit (n:Int) h hq' e hK
end
section
variable {P:Program}{F:Fun P}{C:Cx}{S S':List It}{σ:Fr}{β:List A1}{Γ:List Fact}{R:Value→World→Prop}{p:List Nat}
theorem AJT {vs:List Value}{Q:Value→List Fact→List A1→Prop}{Φ:List Fact}(hp:Q6 F.B p=true) (hr:Lq σ F.fn.results.toList=some vs) (h:Q (Gc vs) Φ []) (hl:∀ g∈Φ,g∈Γ) (hk:F.rnd=none:=by rfl):J F C (.c p::S) σ β Γ (Fq C Q):=by
 obtain ⟨ix,hix⟩:=Sa hl
 exact Cz ix hp hr hix h hk
theorem AI0 {vs:List Value}{Q:Value→List Fact→List A1→Prop}{Φ:List Fact}(hp:Q6 F.B p=true) (hr:ResJ P σ β F.fn.results.toList vs) (h:Q (Gc vs) Φ []) (hl:∀ g∈Φ,g∈Γ) (hk:F.rnd=none:=by rfl):J F C (.c p::S) σ β Γ (Fq C Q):=by
 obtain ⟨ix,hix⟩:=Sa hl
 exact Ts ix hp hr hix h hk
theorem AKL {σ':Fr}{β':List A1}{Γ':List Fact}(h:J F C S σ' β' Γ' R) (hb:β'=β) (hp:∀ g∈Γ',g∈Γ) (hs:Fr.sub σ' σ):J F C S σ β Γ R:=by
 subst hb
 exact Wf hs (Vl hp h)
end
end Go.Fw
namespace Go.Proofs.YteadncphjconmaaGreat
open Go Go.Fw
set_option maxRecDepth 100000
def tb:Tb Tryz.prog where
 ld:=[(0,false,1),(1,false,1),(2,false,1),(3,false,1),(4,false,1),(5,false,1),(6,false,1),(7,true,4),(8,true,4),(9,false,1),(10,false,1),(11,false,1),(12,false,1),(13,true,2),(14,true,2),(15,false,1),(16,false,1),(17,false,1),(18,true,1),(19,true,1),(20,false,1),(21,false,1),(22,false,1),(23,true,3),(24,true,3),(25,false,1),(26,true,5),(27,true,5),(28,true,1),(29,true,1),(30,true,9),(31,true,9),(32,false,1),(33,false,1),(34,false,1),(35,false,1),(36,false,1),(37,false,1),(38,false,1),(39,false,1),(40,false,1),(41,false,1),(42,false,1),(43,false,1),(44,false,1),(45,false,1),(46,false,1),(47,false,1),(48,false,1),(49,false,1),(50,false,1),(51,true,3),(52,true,3),(53,false,1),(54,false,1),(55,false,1),(56,false,1),(57,false,1),(58,false,1),(59,false,1),(60,false,1),(61,false,1),(62,false,1),(63,false,1),(64,true,2),(65,true,2),(66,false,1),(67,false,1),(68,false,1),(69,false,1),(70,false,1),(71,false,1),(72,false,1),(73,false,1),(74,false,1),(75,false,1),(76,false,1),(77,false,1),(78,false,1),(79,false,1),(80,false,1),(81,false,1),(82,false,1),(83,false,1),(84,false,1),(85,false,1),(86,false,1),(87,true,2),(88,true,2),(89,false,1),(90,false,1),(91,false,1),(92,false,1),(93,false,1),(94,false,1),(95,false,1),(96,false,1),(97,false,1),(98,false,1),(99,false,1),(100,false,1),(101,false,1),(102,false,1),(103,false,1),(104,false,1),(105,false,1),(106,true,6),(107,true,6),(108,false,1),(109,false,1),(110,false,1),(111,false,1),(112,false,1),(113,false,1),(114,false,1),(115,false,1),(116,false,1),(117,true,4),(118,true,4),(119,false,1),(120,false,1),(121,false,1),(122,false,1),(123,false,1),(124,false,1),(125,false,1),(126,false,1),(127,false,1),(128,false,1),(129,true,9),(130,true,9),(131,false,1),(132,false,1),(133,false,1),(134,false,1),(135,false,1),(136,false,1),(137,false,1),(138,false,1),(139,false,1),(140,false,1),(141,false,1),(142,false,1),(143,false,1),(144,false,1),(145,false,1),(146,false,1),(147,false,1),(148,false,1),(149,false,1),(150,false,1),(151,false,1),(152,false,1),(153,false,1),(154,false,1),(155,false,1),(156,true,12),(157,true,12),(158,false,1),(159,false,1),(160,false,1),(161,false,1),(162,false,1),(163,false,1),(164,false,1),(165,false,1),(166,false,1),(167,false,1),(168,false,1),(169,false,1),(170,false,1),(171,false,1),(172,false,1),(173,false,1),(174,false,1),(175,false,1),(176,false,1),(177,false,1),(178,false,1),(179,false,1),(180,false,1),(181,false,1),(182,false,1),(183,false,1),(184,false,1),(185,false,1),(186,false,1),(187,false,1),(188,false,1),(189,false,1),(190,false,1),(191,false,1),(192,false,1),(193,false,1),(194,true,3),(195,true,3),(196,false,1),(197,false,1),(198,false,1),(199,false,1),(200,false,1),(201,false,1),(202,false,1),(203,false,1),(204,false,1),(205,true,4),(206,true,4),(207,true,0),(208,true,0),(209,true,0),(210,false,1),(211,false,1),(212,false,1),(213,false,1),(214,false,1),(215,false,1),(216,false,1),(217,true,11),(218,true,11),(219,false,1)]
 sl:=[(22,3,1),(25,22,1),(40,25,1),(50,52,3),(67,65,2),(170,4,1),(181,88,2)]
 fd:=[(7,[(0,0),(1,1),(2,2),(3,3)]),(8,[(0,0),(1,1),(2,2),(3,3)]),(13,[(0,0),(1,1)]),(14,[(0,0),(1,1)]),(18,[(0,0)]),(19,[(0,0)]),(23,[(0,0),(1,1),(2,2)]),(24,[(0,0),(1,1),(2,2)]),(26,[(0,0),(1,3),(2,4)]),(27,[(0,0),(1,3),(2,4)]),(28,[(0,0)]),(29,[(0,0)]),(30,[(0,0),(1,5),(2,6),(3,7),(4,8)]),(31,[(0,0),(1,5),(2,6),(3,7),(4,8)]),(51,[(0,0),(1,1),(2,2)]),(52,[(0,0),(1,1),(2,2)]),(64,[(0,0),(1,1)]),(65,[(0,0),(1,1)]),(87,[(0,0),(1,1)]),(88,[(0,0),(1,1)]),(106,[(0,0),(1,3),(2,4),(3,5)]),(107,[(0,0),(1,3),(2,4),(3,5)]),(117,[(0,0),(1,1),(2,3)]),(118,[(0,0),(1,1),(2,3)]),(129,[(0,0),(1,5),(2,6),(3,7),(4,8)]),(130,[(0,0),(1,5),(2,6),(3,7),(4,8)]),(156,[(0,0),(1,1),(2,6),(3,7),(4,8),(5,9),(6,10),(7,11)]),(157,[(0,0),(1,1),(2,6),(3,7),(4,8),(5,9),(6,10),(7,11)]),(194,[(0,0),(1,1),(2,2)]),(195,[(0,0),(1,1),(2,2)]),(205,[(0,0),(1,1),(2,2),(3,3)]),(206,[(0,0),(1,1),(2,2),(3,3)]),(217,[(0,0),(1,1),(2,2),(3,3),(4,4),(5,5),(6,6),(7,7),(8,8),(9,9),(10,10)]),(218,[(0,0),(1,1),(2,2),(3,3),(4,4),(5,5),(6,6),(7,7),(8,8),(9,9),(10,10)])]
 zo:=[(0,[Value.tuple #[]]),(1,[Value.nilFunc]),(2,[Value.int IntKind.i64 0]),(3,[Value.int IntKind.i64 0]),(4,[Value.bool false]),(5,[Value.int IntKind.u8 0]),(6,[Value.int IntKind.u8 0]),(7,[Value.int IntKind.i64 0,Value.int IntKind.i64 0,Value.bool false,Value.int IntKind.u8 0]),(8,[Value.int IntKind.i64 0,Value.int IntKind.i64 0,Value.bool false,Value.int IntKind.u8 0]),(9,[Value.string { data:=#[] }]),(10,[Value.string { data:=#[] }]),(11,[Value.string { data:=#[] }]),(12,[Value.int IntKind.u64 0]),(13,[Value.string { data:=#[] },Value.int IntKind.u64 0]),(14,[Value.string { data:=#[] },Value.int IntKind.u64 0]),(15,[Value.pointer none]),(16,[Value.pointer none]),(17,[Value.pointer none]),(18,[Value.pointer none]),(19,[Value.pointer none]),(20,[Value.nilIface]),(21,[Value.int IntKind.i32 0]),(22,[Value.slice none 0 0]),(23,[Value.int IntKind.i64 0,Value.int IntKind.i64 0,Value.slice none 0 0]),(24,[Value.int IntKind.i64 0,Value.int IntKind.i64 0,Value.slice none 0 0]),(25,[Value.slice none 0 0]),(26,[Value.int IntKind.i64 0,Value.int IntKind.i64 0,Value.slice none 0 0,Value.int IntKind.i64 0,Value.slice none 0 0]),(27,[Value.int IntKind.i64 0,Value.int IntKind.i64 0,Value.slice none 0 0,Value.int IntKind.i64 0,Value.slice none 0 0]),(28,[Value.slice none 0 0]),(29,[Value.slice none 0 0]),(30,[Value.int IntKind.i64 0,Value.int IntKind.i64 0,Value.slice none 0 0,Value.int IntKind.i64 0,Value.slice none 0 0,Value.int IntKind.i64 0,Value.slice none 0 0,Value.slice none 0 0,Value.int IntKind.i64 0]),(31,[Value.int IntKind.i64 0,Value.int IntKind.i64 0,Value.slice none 0 0,Value.int IntKind.i64 0,Value.slice none 0 0,Value.int IntKind.i64 0,Value.slice none 0 0,Value.slice none 0 0,Value.int IntKind.i64 0]),(32,[Value.nilFunc]),(33,[Value.int IntKind.i64 0]),(34,[Value.nilFunc]),(35,[Value.nilFunc]),(36,[Value.tuple #[Value.int IntKind.i64 0,Value.int IntKind.i64 0]]),(37,[Value.nilFunc]),(38,[Value.nilFunc]),(39,[Value.nilFunc]),(40,[Value.slice none 0 0]),(41,[Value.tuple #[Value.slice none 0 0,Value.int IntKind.i64 0]]),(42,[Value.nilFunc]),(43,[Value.nilFunc]),(44,[Value.nilFunc]),(45,[Value.tuple #[Value.slice none 0 0,Value.slice none 0 0,Value.int IntKind.i64 0]]),(46,[Value.nilFunc]),(47,[Value.nilFunc]),(48,[Value.nilFunc]),(49,[Value.nilFunc]),(52,[Value.int IntKind.i64 0,Value.bool false,Value.slice none 0 0]),(50,[Value.slice none 0 0]),(51,[Value.int IntKind.i64 0,Value.bool false,Value.slice none 0 0]),(53,[Value.tuple #[Value.slice none 0 0,Value.int IntKind.i64 0]]),(54,[Value.nilFunc]),(55,[Value.tuple #[Value.int IntKind.i64 0,Value.int IntKind.i64 0]]),(56,[Value.nilFunc]),(57,[Value.nilFunc]),(58,[Value.nilFunc]),(59,[Value.nilFunc]),(60,[Value.nilFunc]),(61,[Value.nilFunc]),(62,[Value.nilFunc]),(63,[Value.nilFunc]),(64,[Value.int IntKind.i64 0,Value.int IntKind.i64 0]),(65,[Value.int IntKind.i64 0,Value.int IntKind.i64 0]),(66,[Value.nilFunc]),(67,[Value.slice none 0 0]),(68,[Value.nilFunc]),(69,[Value.nilFunc]),(70,[Value.nilFunc]),(71,[Value.nilFunc]),(72,[Value.nilFunc]),(73,[Value.nilFunc]),(74,[Value.nilFunc]),(75,[Value.nilFunc]),(76,[Value.pointer none]),(77,[Value.tuple #[Value.pointer none,Value.int IntKind.i64 0]]),(78,[Value.nilFunc]),(79,[Value.nilFunc]),(80,[Value.nilFunc]),(81,[Value.nilFunc]),(82,[Value.nilFunc]),(83,[Value.nilFunc]),(84,[Value.nilFunc]),(85,[Value.nilFunc]),(86,[Value.nilFunc]),(87,[Value.int IntKind.i64 0,Value.slice none 0 0]),(88,[Value.int IntKind.i64 0,Value.slice none 0 0]),(89,[Value.nilFunc]),(90,[Value.nilFunc]),(91,[Value.nilFunc]),(92,[Value.nilFunc]),(93,[Value.nilFunc]),(94,[Value.nilFunc]),(95,[Value.int IntKind.u64 0]),(96,[Value.nilFunc]),(97,[Value.nilFunc]),(98,[Value.nilFunc]),(99,[Value.nilFunc]),(100,[Value.nilFunc]),(101,[Value.nilFunc]),(102,[Value.nilFunc]),(103,[Value.nilFunc]),(104,[Value.nilFunc]),(105,[Value.nilFunc]),(106,[Value.int IntKind.i64 0,Value.int IntKind.i64 0,Value.slice none 0 0,Value.int IntKind.i64 0,Value.slice none 0 0,Value.slice none 0 0]),(107,[Value.int IntKind.i64 0,Value.int IntKind.i64 0,Value.slice none 0 0,Value.int IntKind.i64 0,Value.slice none 0 0,Value.slice none 0 0]),(108,[Value.nilFunc]),(109,[Value.nilFunc]),(110,[Value.tuple #[Value.slice none 0 0,Value.bool false]]),(111,[Value.nilFunc]),(112,[Value.nilFunc]),(113,[Value.tuple #[Value.slice none 0 0,Value.int IntKind.i64 0]]),(114,[Value.nilFunc]),(115,[Value.nilFunc]),(116,[Value.nilFunc]),(117,[Value.pointer none,Value.int IntKind.i64 0,Value.slice none 0 0,Value.slice none 0 0]),(118,[Value.pointer none,Value.int IntKind.i64 0,Value.slice none 0 0,Value.slice none 0 0]),(119,[Value.tuple #[Value.agg #[Value.pointer none,Value.int IntKind.i64 0,Value.slice none 0 0,Value.slice none 0 0],Value.int IntKind.i64 0]]),(120,[Value.nilFunc]),(121,[Value.pointer none]),(122,[Value.tuple #[Value.pointer none,Value.int IntKind.i64 0]]),(123,[Value.nilFunc]),(124,[Value.nilFunc]),(125,[Value.nilFunc]),(126,[Value.tuple #[Value.slice none 0 0,Value.slice none 0 0]]),(127,[Value.nilFunc]),(128,[Value.nilFunc]),(129,[Value.int IntKind.i64 0,Value.int IntKind.i64 0,Value.slice none 0 0,Value.int IntKind.i64 0,Value.slice none 0 0,Value.int IntKind.i64 0,Value.int IntKind.i64 0,Value.slice none 0 0,Value.bool false]),(130,[Value.int IntKind.i64 0,Value.int IntKind.i64 0,Value.slice none 0 0,Value.int IntKind.i64 0,Value.slice none 0 0,Value.int IntKind.i64 0,Value.int IntKind.i64 0,Value.slice none 0 0,Value.bool false]),(131,[Value.nilFunc]),(132,[Value.int IntKind.i64 0]),(133,[Value.tuple #[Value.int IntKind.i64 0,Value.int IntKind.i64 0]]),(134,[Value.nilFunc]),(135,[Value.nilFunc]),(136,[Value.nilFunc]),(137,[Value.nilFunc]),(138,[Value.tuple #[Value.int IntKind.i64 0,Value.bool false]]),(139,[Value.nilFunc]),(140,[Value.nilFunc]),(141,[Value.int IntKind.u32 0]),(142,[Value.nilFunc]),(143,[Value.int IntKind.u64 0]),(144,[Value.nilFunc]),(145,[Value.nilFunc]),(146,[Value.nilFunc]),(147,[Value.nilFunc]),(148,[Value.nilFunc]),(149,[Value.nilFunc]),(150,[Value.nilFunc]),(151,[Value.nilFunc]),(152,[Value.tuple #[Value.agg #[Value.int IntKind.i64 0,Value.slice none 0 0],Value.slice none 0 0,Value.int IntKind.i64 0]]),(153,[Value.nilFunc]),(154,[Value.nilFunc]),(155,[Value.nilFunc]),(156,[Value.pointer none,Value.int IntKind.i64 0,Value.int IntKind.i64 0,Value.slice none 0 0,Value.int IntKind.i64 0,Value.slice none 0 0,Value.slice none 0 0,Value.bool false,Value.int IntKind.i64 0,Value.int IntKind.i64 0,Value.slice none 0 0,Value.int IntKind.i64 0]),(157,[Value.pointer none,Value.int IntKind.i64 0,Value.int IntKind.i64 0,Value.slice none 0 0,Value.int IntKind.i64 0,Value.slice none 0 0,Value.slice none 0 0,Value.bool false,Value.int IntKind.i64 0,Value.int IntKind.i64 0,Value.slice none 0 0,Value.int IntKind.i64 0]),(158,[Value.nilFunc]),(159,[Value.nilFunc]),(160,[Value.nilFunc]),(161,[Value.int IntKind.u64 0]),(162,[Value.nilFunc]),(163,[Value.nilFunc]),(164,[Value.nilFunc]),(165,[Value.pointer none]),(166,[Value.nilFunc]),(167,[Value.nilFunc]),(168,[Value.nilFunc]),(169,[Value.nilFunc]),(170,[Value.slice none 0 0]),(171,[Value.nilFunc]),(172,[Value.tuple #[Value.slice none 0 0,Value.int IntKind.i64 0]]),(173,[Value.nilFunc]),(174,[Value.nilFunc]),(175,[Value.nilFunc]),(176,[Value.nilFunc]),(177,[Value.nilFunc]),(178,[Value.nilFunc]),(179,[Value.pointer none]),(180,[Value.nilFunc]),(181,[Value.slice none 0 0]),(182,[Value.nilFunc]),(183,[Value.nilFunc]),(184,[Value.nilFunc]),(185,[Value.nilFunc]),(186,[Value.nilFunc]),(187,[Value.nilFunc]),(188,[Value.nilFunc]),(189,[Value.nilFunc]),(190,[Value.nilFunc]),(191,[Value.nilFunc]),(192,[Value.nilFunc]),(193,[Value.pointer none]),(194,[Value.pointer none,Value.slice none 0 0,Value.slice none 0 0]),(195,[Value.pointer none,Value.slice none 0 0,Value.slice none 0 0]),(196,[Value.nilFunc]),(197,[Value.nilFunc]),(198,[Value.nilFunc]),(199,[Value.nilFunc]),(200,[Value.nilFunc]),(201,[Value.nilFunc]),(202,[Value.nilFunc]),(203,[Value.nilFunc]),(204,[Value.nilFunc]),(205,[Value.pointer none,Value.pointer none,Value.pointer none,Value.string { data:=#[] }]),(206,[Value.pointer none,Value.pointer none,Value.pointer none,Value.string { data:=#[] }]),(207,[]),(208,[]),(209,[]),(210,[Value.nilFunc]),(211,[Value.int IntKind.u8 0]),(212,[Value.int IntKind.u8 0]),(213,[Value.nilFunc]),(214,[Value.pointer none]),(215,[Value.int IntKind.i32 0]),(216,[Value.int IntKind.i32 0]),(217,[Value.int IntKind.u64 0,Value.int IntKind.u64 0,Value.int IntKind.u32 0,Value.int IntKind.u8 0,Value.int IntKind.u8 0,Value.int IntKind.u8 0,Value.int IntKind.u8 0,Value.nilFunc,Value.pointer none,Value.int IntKind.i32 0,Value.int IntKind.i32 0]),(218,[Value.int IntKind.u64 0,Value.int IntKind.u64 0,Value.int IntKind.u32 0,Value.int IntKind.u8 0,Value.int IntKind.u8 0,Value.int IntKind.u8 0,Value.int IntKind.u8 0,Value.nilFunc,Value.pointer none,Value.int IntKind.i32 0,Value.int IntKind.i32 0]),(219,[Value.pointer none])]
 st:=[(7,[(0,1),(1,1),(2,1),(3,1)]),(8,[(0,1),(1,1),(2,1),(3,1)]),(13,[(0,1),(1,1)]),(14,[(0,1),(1,1)]),(18,[(0,1)]),(19,[(0,1)]),(23,[(0,1),(1,1),(2,1)]),(24,[(0,1),(1,1),(2,1)]),(26,[(0,3),(3,1),(4,1)]),(27,[(0,3),(3,1),(4,1)]),(28,[(0,1)]),(29,[(0,1)]),(30,[(0,5),(5,1),(6,1),(7,1),(8,1)]),(31,[(0,5),(5,1),(6,1),(7,1),(8,1)]),(51,[(0,1),(1,1),(2,1)]),(52,[(0,1),(1,1),(2,1)]),(64,[(0,1),(1,1)]),(65,[(0,1),(1,1)]),(87,[(0,1),(1,1)]),(88,[(0,1),(1,1)]),(106,[(0,3),(3,1),(4,1),(5,1)]),(107,[(0,3),(3,1),(4,1),(5,1)]),(117,[(0,1),(1,2),(3,1)]),(118,[(0,1),(1,2),(3,1)]),(129,[(0,5),(5,1),(6,1),(7,1),(8,1)]),(130,[(0,5),(5,1),(6,1),(7,1),(8,1)]),(156,[(0,1),(1,5),(6,1),(7,1),(8,1),(9,1),(10,1),(11,1)]),(157,[(0,1),(1,5),(6,1),(7,1),(8,1),(9,1),(10,1),(11,1)]),(194,[(0,1),(1,1),(2,1)]),(195,[(0,1),(1,1),(2,1)]),(205,[(0,1),(1,1),(2,1),(3,1)]),(206,[(0,1),(1,1),(2,1),(3,1)]),(208,[(0,0)]),(209,[(0,0)]),(217,[(0,1),(1,1),(2,1),(3,1),(4,1),(5,1),(6,1),(7,1),(8,1),(9,1),(10,1)]),(218,[(0,1),(1,1),(2,1),(3,1),(4,1),(5,1),(6,1),(7,1),(8,1),(9,1),(10,1)])]
 by':=[(3,8),(22,24),(25,24),(52,40),(65,16),(4,1),(88,32)]
 hld:=⟨rfl,rfl,rfl,rfl,rfl,rfl,rfl,rfl,rfl,rfl,rfl,rfl,rfl,rfl,rfl,rfl,rfl,rfl,rfl,rfl,rfl,rfl,rfl,rfl,rfl,rfl,rfl,rfl,rfl,rfl,rfl,rfl,rfl,rfl,rfl,rfl,rfl,rfl,rfl,rfl,rfl,rfl,rfl,rfl,rfl,rfl,rfl,rfl,rfl,rfl,rfl,rfl,rfl,rfl,rfl,rfl,rfl,rfl,rfl,rfl,rfl,rfl,rfl,rfl,rfl,rfl,rfl,rfl,rfl,rfl,rfl,rfl,rfl,rfl,rfl,rfl,rfl,rfl,rfl,rfl,rfl,rfl,rfl,rfl,rfl,rfl,rfl,rfl,rfl,rfl,rfl,rfl,rfl,rfl,rfl,rfl,rfl,rfl,rfl,rfl,rfl,rfl,rfl,rfl,rfl,rfl,rfl,rfl,rfl,rfl,rfl,rfl,rfl,rfl,rfl,rfl,rfl,rfl,rfl,rfl,rfl,rfl,rfl,rfl,rfl,rfl,rfl,rfl,rfl,rfl,rfl,rfl,rfl,rfl,rfl,rfl,rfl,rfl,rfl,rfl,rfl,rfl,rfl,rfl,rfl,rfl,rfl,rfl,rfl,rfl,rfl,rfl,rfl,rfl,rfl,rfl,rfl,rfl,rfl,rfl,rfl,rfl,rfl,rfl,rfl,rfl,rfl,rfl,rfl,rfl,rfl,rfl,rfl,rfl,rfl,rfl,rfl,rfl,rfl,rfl,rfl,rfl,rfl,rfl,rfl,rfl,rfl,rfl,rfl,rfl,rfl,rfl,rfl,rfl,rfl,rfl,rfl,rfl,rfl,rfl,rfl,rfl,rfl,rfl,rfl,rfl,rfl,rfl,rfl,rfl,rfl,rfl,rfl,rfl,rfl,rfl,rfl,rfl,rfl,rfl,trivial⟩
 hsl:=⟨rfl,rfl,rfl,rfl,rfl,rfl,rfl,trivial⟩
 hfd:=⟨⟨rfl,rfl,rfl,rfl,trivial⟩,⟨rfl,rfl,rfl,rfl,trivial⟩,⟨rfl,rfl,trivial⟩,⟨rfl,rfl,trivial⟩,⟨rfl,trivial⟩,⟨rfl,trivial⟩,⟨rfl,rfl,rfl,trivial⟩,⟨rfl,rfl,rfl,trivial⟩,⟨rfl,rfl,rfl,trivial⟩,⟨rfl,rfl,rfl,trivial⟩,⟨rfl,trivial⟩,⟨rfl,trivial⟩,⟨rfl,rfl,rfl,rfl,rfl,trivial⟩,⟨rfl,rfl,rfl,rfl,rfl,trivial⟩,⟨rfl,rfl,rfl,trivial⟩,⟨rfl,rfl,rfl,trivial⟩,⟨rfl,rfl,trivial⟩,⟨rfl,rfl,trivial⟩,⟨rfl,rfl,trivial⟩,⟨rfl,rfl,trivial⟩,⟨rfl,rfl,rfl,rfl,trivial⟩,⟨rfl,rfl,rfl,rfl,trivial⟩,⟨rfl,rfl,rfl,trivial⟩,⟨rfl,rfl,rfl,trivial⟩,⟨rfl,rfl,rfl,rfl,rfl,trivial⟩,⟨rfl,rfl,rfl,rfl,rfl,trivial⟩,⟨rfl,rfl,rfl,rfl,rfl,rfl,rfl,rfl,trivial⟩,⟨rfl,rfl,rfl,rfl,rfl,rfl,rfl,rfl,trivial⟩,⟨rfl,rfl,rfl,trivial⟩,⟨rfl,rfl,rfl,trivial⟩,⟨rfl,rfl,rfl,rfl,trivial⟩,⟨rfl,rfl,rfl,rfl,trivial⟩,⟨rfl,rfl,rfl,rfl,rfl,rfl,rfl,rfl,rfl,rfl,rfl,trivial⟩,⟨rfl,rfl,rfl,rfl,rfl,rfl,rfl,rfl,rfl,rfl,rfl,trivial⟩,trivial⟩
 hzo:=⟨rfl,rfl,rfl,rfl,rfl,rfl,rfl,rfl,rfl,rfl,rfl,rfl,rfl,rfl,rfl,rfl,rfl,rfl,rfl,rfl,rfl,rfl,rfl,rfl,rfl,rfl,rfl,rfl,rfl,rfl,rfl,rfl,rfl,rfl,rfl,rfl,rfl,rfl,rfl,rfl,rfl,rfl,rfl,rfl,rfl,rfl,rfl,rfl,rfl,rfl,rfl,rfl,rfl,rfl,rfl,rfl,rfl,rfl,rfl,rfl,rfl,rfl,rfl,rfl,rfl,rfl,rfl,rfl,rfl,rfl,rfl,rfl,rfl,rfl,rfl,rfl,rfl,rfl,rfl,rfl,rfl,rfl,rfl,rfl,rfl,rfl,rfl,rfl,rfl,rfl,rfl,rfl,rfl,rfl,rfl,rfl,rfl,rfl,rfl,rfl,rfl,rfl,rfl,rfl,rfl,rfl,rfl,rfl,rfl,rfl,rfl,rfl,rfl,rfl,rfl,rfl,rfl,rfl,rfl,rfl,rfl,rfl,rfl,rfl,rfl,rfl,rfl,rfl,rfl,rfl,rfl,rfl,rfl,rfl,rfl,rfl,rfl,rfl,rfl,rfl,rfl,rfl,rfl,rfl,rfl,rfl,rfl,rfl,rfl,rfl,rfl,rfl,rfl,rfl,rfl,rfl,rfl,rfl,rfl,rfl,rfl,rfl,rfl,rfl,rfl,rfl,rfl,rfl,rfl,rfl,rfl,rfl,rfl,rfl,rfl,rfl,rfl,rfl,rfl,rfl,rfl,rfl,rfl,rfl,rfl,rfl,rfl,rfl,rfl,rfl,rfl,rfl,rfl,rfl,rfl,rfl,rfl,rfl,rfl,rfl,rfl,rfl,rfl,rfl,rfl,rfl,rfl,rfl,rfl,rfl,rfl,rfl,rfl,rfl,rfl,rfl,rfl,rfl,rfl,rfl,trivial⟩
 hst:=⟨rfl,rfl,rfl,rfl,rfl,rfl,rfl,rfl,rfl,rfl,rfl,rfl,rfl,rfl,rfl,rfl,rfl,rfl,rfl,rfl,rfl,rfl,rfl,rfl,rfl,rfl,rfl,rfl,rfl,rfl,rfl,rfl,rfl,rfl,rfl,rfl,trivial⟩
 hby:=⟨rfl,rfl,rfl,rfl,rfl,rfl,rfl,trivial⟩
set_option maxHeartbeats 8000000
set_option linter.unusedVariables false
theorem wk {G H T:Prop}(n:Nat) (c:T) (h:H) (s:Cnt n→Wr T→Wr H→G := by
  intro zn zc zh
  repeat (
    replace zn := zn.dec
    refine AKf _ rfl ?_
    try (refine AKK ?_; first
      | refine AHk rfl rfl ?_
      | refine AJl rfl rfl (by omega) fun zz => ?_
      | refine AJV rfl rfl (by omega) fun zz => ?_
      | refine AIt rfl rfl (by omega) fun zz => ?_
      | refine AH7 rfl rfl (by omega) fun zz => ?_
      | refine R1 it 40 rfl (by simp; first|done|fail) ?_
      | refine R1 it 40 rfl (by (repeat' first|exact trivial|apply And.intro|omega); first|done|fail) ?_
      | refine R1 it 0 rfl (by simp; first|done|fail) ?_
      | refine R1 it 0 rfl (by (repeat' first|exact trivial|apply And.intro|omega); first|done|fail) ?_
      | refine AKG rfl rfl ?_)
    first
    | (refine kd0 ?_; refine AKu rfl ?_)
    | (refine kd5 ?_; first
      | refine R1 it 40 rfl (by simp; first|done|fail) ?_
      | refine R1 it 40 rfl (by (repeat' first|exact trivial|apply And.intro|omega); first|done|fail) ?_
      | refine R1 it 0 rfl (by simp; first|done|fail) ?_
      | refine R1 it 0 rfl (by (repeat' first|exact trivial|apply And.intro|omega); first|done|fail) ?_)
    | (refine kd1 ?_; first
      | refine AKz rfl rfl (by omega) fun zz => ?_
      | refine AJF rfl rfl (by omega) fun zz => ?_
      | refine AIC rfl rfl (by omega) fun zz => ?_
      | refine AHl rfl rfl (by omega) fun zz => ?_
      | refine AIz rfl rfl ?_
      | refine AHN rfl rfl ?_)
    | (refine kd6 ?_; first
      | (refine Cy rfl (Ap _ rfl (by (repeat first|exact n0|apply n1); first|done|fail) (tb.ldT rfl) ?_); refine cur fun zz zz => ?_)
      | refine Cy rfl (I3 _ rfl (by (repeat first|exact n0|apply n1); first|done|fail) (tb.ldT rfl) fun zz zz => ?_)
      | (refine Cy rfl (ABT _ rfl (by (repeat first|exact n0|apply n1); first|done|fail) (tb.ldT rfl) ?_); refine cur fun zz zz => ?_)
      | refine Cy rfl (Z3 _ rfl (by (repeat first|exact n0|apply n1); first|done|fail) (tb.ldT rfl) ?_)
      | refine Cy rfl (ACw _ _ _ rfl (by (repeat first|exact n0|apply n1); first|done|fail) (by (repeat first|exact n0|apply n1); first|done|fail) (tb.ldT rfl) rfl (by assumption) ?_)
      | refine Cy rfl (Kx _ _ _ rfl (by (repeat first|exact n0|apply n1); first|done|fail) (by (repeat first|exact n0|apply n1); first|done|fail) (tb.ldT rfl) rfl (by assumption) fun zz => ?_)
      | refine Cy rfl (G0 _ _ _ rfl (by (repeat first|exact n0|apply n1); first|done|fail) (by (repeat first|exact n0|apply n1); first|done|fail) (tb.ldT rfl) rfl (by omega) fun zz zz zz zz => ?_)
      | refine Cy rfl (Vq _ rfl (by (repeat first|exact n0|apply n1); first|done|fail) (tb.ldT rfl) (by omega) fun zz zz => ?_)
      | refine Cy rfl (Z5 _ rfl (by (repeat first|exact n0|apply n1); first|done|fail) (tb.ldT rfl) (by omega) fun zz zz => ?_)
      | refine AJm tb rfl rfl (by (repeat first|exact n0|apply n1); first|done|fail) rfl rfl ?_
      | refine AEF tb rfl rfl (by (repeat first|exact n0|apply n1); first|done|fail) rfl rfl ?_
      | refine AEP tb rfl rfl (by (repeat first|exact n0|apply n1); first|done|fail) rfl rfl rfl ?_
      | refine Cy rfl (AHU _ rfl (by (repeat first|exact n0|apply n1); first|done|fail) (tb.ldT rfl) rfl ?_)
      | refine Cy rfl (AIb _ rfl (by (repeat first|exact n0|apply n1); first|done|fail) (tb.ldT rfl) rfl rfl ?_)
      | refine Cy rfl (Sb ABo _ rfl (by (repeat first|exact n0|apply n1); first|done|fail) (tb.ldT rfl) fun zz => ?_)
      | refine Cy rfl (Sb AAV _ rfl (by (repeat first|exact n0|apply n1); first|done|fail) (tb.ldT rfl) fun zz => ?_)
      | refine Cy rfl (Sb AGC _ rfl (by (repeat first|exact n0|apply n1); first|done|fail) (tb.ldT rfl) fun zz => ?_)
      | refine Cy rfl (Sb AG4 _ rfl (by (repeat first|exact n0|apply n1); first|done|fail) (tb.ldT rfl) fun zz => ?_)
      | refine Cy rfl (AFD _ rfl (by (repeat first|exact n0|apply n1); first|done|fail) (tb.ldT rfl) fun zz => ?_))
    | (refine kd7 ?_; first
      | refine Cy rfl (N7 _ rfl rfl (by (repeat first|exact n0|apply n1); first|done|fail) (tb.ldT rfl) rfl rfl (by simp [Value.oneCell']; first|done|fail) ?_)
      | refine Cy rfl (AEf _ rfl rfl (by (repeat first|exact n0|apply n1); first|done|fail) rfl (tb.ldT rfl) (by simp [Value.oneCell']; first|done|fail) (Nat.le_of_ble_eq_true rfl) rfl ?_)
      | refine Cy rfl (K6 _ rfl rfl (by (repeat first|exact n0|apply n1); first|done|fail) rfl (tb.ldT rfl) rfl (Nat.le_of_ble_eq_true rfl) ?_)
      | refine Cy rfl (R4 _ _ rfl rfl (by (repeat first|exact n0|apply n1); first|done|fail) (tb.ldT rfl) rfl (by omega) ?_)
      | refine Cy rfl (AAb _ rfl rfl (by (repeat first|exact n0|apply n1); first|done|fail) (tb.ldT rfl) (by omega) ?_))
    | (refine kd8 ?_; first
      | refine Cy rfl (AIe rfl rfl (by (repeat first|exact n0|apply n1); first|done|fail) (tb.slT rfl) (by omega) (by omega) (by assumption) fun zz zz zz => ?_)
      | refine Cy rfl (AFF rfl rfl (by (repeat first|exact n0|apply n1); first|done|fail) (tb.slT rfl) (by omega) (by omega) fun zz zz zz zz => ?_)
      | refine Cy rfl (Ym rfl rfl (tb.slT rfl) (by omega) (by omega) ?_)
      | refine Cy rfl (Yh rfl rfl (tb.slT rfl) (by omega) (by omega) ?_))
    | (refine kd9 ?_; refine AHo tb rfl rfl rfl ?_)
    | (refine AJp ?_; first
      | refine AEL rfl rfl fun zz => ?_
      | refine AEw rfl rfl rfl fun zz => ?_)
    | (refine AJ3 ?_; refine Cy rfl (I2 (tb.zoT rfl) fun zz => ?_))
    | (refine AKg ?_; first
      | refine Cy rfl (ACd (tb.slT rfl) (tb.zoT rfl) rfl rfl rfl rfl (by decide) (by decide) rfl fun zz => ?_)
      | refine Cy rfl (ADg (tb.slT rfl) fun zz => ?_))
    | (refine AKl ?_; first
      | refine Cy rfl (AGW rfl rfl (tb.slT rfl) (tb.zoT rfl) (tb.byt rfl) (by omega) (by omega) (by omega) fun zz => ?_))
    | (refine AKr ?_; refine Cy rfl (Sg (tb.stT rfl) (tb.zoT rfl) rfl rfl ?_))
    | (refine AJO ?_; refine AJq tb rfl rfl rfl ?_)
    | (refine AKI ?_; refine Cy rfl (AIv rfl ?_))
    | (refine AJ4 ?_; refine pop zc fun zd zc => ?_;
              (first
         | refine J8 rfl rfl (by (repeat first|exact Kr|refine Kt (by (repeat first|exact Ks|refine Ky ?_); first|done|fail) ?_); first|done|fail) zd.h ?_
         | refine J8 rfl rfl (by (repeat first|exact Kr|refine Kt (by (repeat first|exact Ks|refine Ky ?_); first|done|fail) ?_); first|done|fail) (zd.h (by first|omega|assumption|rfl)) ?_
         | refine J8 rfl rfl (by (repeat first|exact Kr|refine Kt (by (repeat first|exact Ks|refine Ky ?_); first|done|fail) ?_); first|done|fail) (zd.h (by first|omega|assumption|rfl) (by first|omega|assumption|rfl)) ?_
         | refine J8 rfl rfl (by (repeat first|exact Kr|refine Kt (by (repeat first|exact Ks|refine Ky ?_); first|done|fail) ?_); first|done|fail) (zd.h (by first|omega|assumption|rfl) (by first|omega|assumption|rfl) (by first|omega|assumption|rfl)) ?_
         | refine J8 rfl rfl (by (repeat first|exact Kr|refine Kt (by (repeat first|exact Ks|refine Ky ?_); first|done|fail) ?_); first|done|fail) (zd.h (by first|omega|assumption|rfl) (by first|omega|assumption|rfl) (by first|omega|assumption|rfl) (by first|omega|assumption|rfl)) ?_
         | refine J8 rfl rfl (by (repeat first|exact Kr|refine Kt (by (repeat first|exact Ks|refine Ky ?_); first|done|fail) ?_); first|done|fail) (zd.h (by first|omega|assumption|rfl) (by first|omega|assumption|rfl) (by first|omega|assumption|rfl) (by first|omega|assumption|rfl) (by first|omega|assumption|rfl)) ?_
         | refine J8 rfl rfl (by (repeat first|exact Kr|refine Kt (by (repeat first|exact Ks|refine Ky ?_); first|done|fail) ?_); first|done|fail) (zd.h (by first|omega|assumption|rfl) (by first|omega|assumption|rfl) (by first|omega|assumption|rfl) (by first|omega|assumption|rfl) (by first|omega|assumption|rfl) (by first|omega|assumption|rfl)) ?_
         | refine J8 rfl rfl (by (repeat first|exact Kr|refine Kt (by (repeat first|exact Ks|refine Ky ?_); first|done|fail) ?_); first|done|fail) (zd.h (by first|omega|assumption|rfl) (by first|omega|assumption|rfl) (by first|omega|assumption|rfl) (by first|omega|assumption|rfl) (by first|omega|assumption|rfl) (by first|omega|assumption|rfl) (by first|omega|assumption|rfl)) ?_
         | refine J8 rfl rfl (by (repeat first|exact Kr|refine Kt (by (repeat first|exact Ks|refine Ky ?_); first|done|fail) ?_); first|done|fail) (zd.h (by first|omega|assumption|rfl) (by first|omega|assumption|rfl) (by first|omega|assumption|rfl) (by first|omega|assumption|rfl) (by first|omega|assumption|rfl) (by first|omega|assumption|rfl) (by first|omega|assumption|rfl) (by first|omega|assumption|rfl)) ?_
         | refine Kp rfl rfl (by (repeat first|exact n0|apply n1); first|done|fail) (by (repeat first|exact Kr|refine Kt (by (repeat first|exact Ks|refine Ky ?_); first|done|fail) ?_); first|done|fail) zd.h ?_
         | refine Kp rfl rfl (by (repeat first|exact n0|apply n1); first|done|fail) (by (repeat first|exact Kr|refine Kt (by (repeat first|exact Ks|refine Ky ?_); first|done|fail) ?_); first|done|fail) (zd.h (by first|omega|assumption|rfl)) ?_
         | refine Kp rfl rfl (by (repeat first|exact n0|apply n1); first|done|fail) (by (repeat first|exact Kr|refine Kt (by (repeat first|exact Ks|refine Ky ?_); first|done|fail) ?_); first|done|fail) (zd.h (by first|omega|assumption|rfl) (by first|omega|assumption|rfl)) ?_
         | refine Kp rfl rfl (by (repeat first|exact n0|apply n1); first|done|fail) (by (repeat first|exact Kr|refine Kt (by (repeat first|exact Ks|refine Ky ?_); first|done|fail) ?_); first|done|fail) (zd.h (by first|omega|assumption|rfl) (by first|omega|assumption|rfl) (by first|omega|assumption|rfl)) ?_
         | refine Kp rfl rfl (by (repeat first|exact n0|apply n1); first|done|fail) (by (repeat first|exact Kr|refine Kt (by (repeat first|exact Ks|refine Ky ?_); first|done|fail) ?_); first|done|fail) (zd.h (by first|omega|assumption|rfl) (by first|omega|assumption|rfl) (by first|omega|assumption|rfl) (by first|omega|assumption|rfl)) ?_
         | refine Kp rfl rfl (by (repeat first|exact n0|apply n1); first|done|fail) (by (repeat first|exact Kr|refine Kt (by (repeat first|exact Ks|refine Ky ?_); first|done|fail) ?_); first|done|fail) (zd.h (by first|omega|assumption|rfl) (by first|omega|assumption|rfl) (by first|omega|assumption|rfl) (by first|omega|assumption|rfl) (by first|omega|assumption|rfl)) ?_
         | refine Kp rfl rfl (by (repeat first|exact n0|apply n1); first|done|fail) (by (repeat first|exact Kr|refine Kt (by (repeat first|exact Ks|refine Ky ?_); first|done|fail) ?_); first|done|fail) (zd.h (by first|omega|assumption|rfl) (by first|omega|assumption|rfl) (by first|omega|assumption|rfl) (by first|omega|assumption|rfl) (by first|omega|assumption|rfl) (by first|omega|assumption|rfl)) ?_
         | refine Kp rfl rfl (by (repeat first|exact n0|apply n1); first|done|fail) (by (repeat first|exact Kr|refine Kt (by (repeat first|exact Ks|refine Ky ?_); first|done|fail) ?_); first|done|fail) (zd.h (by first|omega|assumption|rfl) (by first|omega|assumption|rfl) (by first|omega|assumption|rfl) (by first|omega|assumption|rfl) (by first|omega|assumption|rfl) (by first|omega|assumption|rfl) (by first|omega|assumption|rfl)) ?_
         | refine Kp rfl rfl (by (repeat first|exact n0|apply n1); first|done|fail) (by (repeat first|exact Kr|refine Kt (by (repeat first|exact Ks|refine Ky ?_); first|done|fail) ?_); first|done|fail) (zd.h (by first|omega|assumption|rfl) (by first|omega|assumption|rfl) (by first|omega|assumption|rfl) (by first|omega|assumption|rfl) (by first|omega|assumption|rfl) (by first|omega|assumption|rfl) (by first|omega|assumption|rfl) (by first|omega|assumption|rfl)) ?_
         | refine J7 rfl rfl (by (repeat first|exact Kr|refine Kt (by (repeat first|exact Ks|refine Ky ?_); first|done|fail) ?_); first|done|fail) zd.h rfl ?_
         | refine J7 rfl rfl (by (repeat first|exact Kr|refine Kt (by (repeat first|exact Ks|refine Ky ?_); first|done|fail) ?_); first|done|fail) (zd.h (by first|omega|assumption|rfl)) rfl ?_
         | refine J7 rfl rfl (by (repeat first|exact Kr|refine Kt (by (repeat first|exact Ks|refine Ky ?_); first|done|fail) ?_); first|done|fail) (zd.h (by first|omega|assumption|rfl) (by first|omega|assumption|rfl)) rfl ?_
         | refine J7 rfl rfl (by (repeat first|exact Kr|refine Kt (by (repeat first|exact Ks|refine Ky ?_); first|done|fail) ?_); first|done|fail) (zd.h (by first|omega|assumption|rfl) (by first|omega|assumption|rfl) (by first|omega|assumption|rfl)) rfl ?_
         | refine J7 rfl rfl (by (repeat first|exact Kr|refine Kt (by (repeat first|exact Ks|refine Ky ?_); first|done|fail) ?_); first|done|fail) (zd.h (by first|omega|assumption|rfl) (by first|omega|assumption|rfl) (by first|omega|assumption|rfl) (by first|omega|assumption|rfl)) rfl ?_
         | refine J7 rfl rfl (by (repeat first|exact Kr|refine Kt (by (repeat first|exact Ks|refine Ky ?_); first|done|fail) ?_); first|done|fail) (zd.h (by first|omega|assumption|rfl) (by first|omega|assumption|rfl) (by first|omega|assumption|rfl) (by first|omega|assumption|rfl) (by first|omega|assumption|rfl)) rfl ?_
         | refine J7 rfl rfl (by (repeat first|exact Kr|refine Kt (by (repeat first|exact Ks|refine Ky ?_); first|done|fail) ?_); first|done|fail) (zd.h (by first|omega|assumption|rfl) (by first|omega|assumption|rfl) (by first|omega|assumption|rfl) (by first|omega|assumption|rfl) (by first|omega|assumption|rfl) (by first|omega|assumption|rfl)) rfl ?_
         | refine J7 rfl rfl (by (repeat first|exact Kr|refine Kt (by (repeat first|exact Ks|refine Ky ?_); first|done|fail) ?_); first|done|fail) (zd.h (by first|omega|assumption|rfl) (by first|omega|assumption|rfl) (by first|omega|assumption|rfl) (by first|omega|assumption|rfl) (by first|omega|assumption|rfl) (by first|omega|assumption|rfl) (by first|omega|assumption|rfl)) rfl ?_
         | refine J7 rfl rfl (by (repeat first | exact Kr | refine Kt (by (repeat first | exact Ks | refine Ky ?_); first | done | fail) ?_); first | done | fail) (zd.h (by first | omega | assumption | rfl) (by first | omega | assumption | rfl) (by first | omega | assumption | rfl) (by first | omega | assumption | rfl) (by first | omega | assumption | rfl) (by first | omega | assumption | rfl) (by first | omega | assumption | rfl) (by first | omega | assumption | rfl)) rfl ?_);
                        (repeat refine Fk fun zz => ?_); refine Fg ?_)
    | (refine kd2 ?_; apply AHF it mx; (· rfl); (· rfl)
       repeat (
         apply AKj; (· rfl)
         first
         | (apply kd5; first
           | (apply ABm; (· rfl); (· simp; first|done|fail))
           | (apply ABm; (· rfl); (· exact (by (repeat' first|exact trivial|apply And.intro|omega); first|done|fail)))
           | (apply Ma; (· rfl); (· exact fun _ => Lb it rfl (by trivial) Ah)))
         | (apply AKH; first
           | (apply Ma; (· rfl); (· exact fun _ => AI8 it rfl (by (repeat' first|exact trivial|apply And.intro|omega); first|done|fail) (by omega) Ah))
           | (apply ABm; (· rfl); (· exact (by (repeat' first|exact trivial|apply And.intro|omega); first|done|fail))))
         | (apply AKB; first
           | (apply Ma; (· rfl); (· exact fun _ => AIG it rfl (by trivial) (by omega) Ah))
           | (apply Ma; (· rfl); (· exact fun _ => Sm it rfl (by trivial) (by omega) Ah))
           | (apply Ma; (· rfl); (· exact fun _ => AG5 it rfl (by trivial) (by omega) Ah))
           | (apply Ma; (· rfl); (· exact fun _ => AGy it rfl (by trivial) (by omega) Ah))
           | (apply ABm; (· rfl); (· simp; first|done|fail)))
         | (apply kd6; first
           | (apply Ma; (· rfl); (· exact fun _ => Ap _ rfl (by (repeat first|exact n0|apply n1); first|done|fail) (tb.ldT rfl) fun _ => Ah))
           | (apply Zd; (· rfl); (· exact fun _ => I3 _ rfl (by (repeat first|exact n0|apply n1); first|done|fail) (tb.ldT rfl) fun _ _ => Dz 0 rfl); intro zz zz)
           | (apply Ma; (· rfl); (· exact fun _ => ABT _ rfl (by (repeat first|exact n0|apply n1); first|done|fail) (tb.ldT rfl) fun _ => Ah))
           | (apply Ma; (· rfl); (· exact fun _ => Z3 _ rfl (by (repeat first|exact n0|apply n1); first|done|fail) (tb.ldT rfl) Ah))
           | (apply Ac; (· rfl); (· exact Bd _ rfl (by (repeat first|exact n0|apply n1); first|done|fail) (tb.ldT rfl) rfl))
           | (apply Ac; (· rfl); (· exact B0 _ rfl (by (repeat first|exact n0|apply n1); first|done|fail) (tb.ldT rfl) rfl))
           | (apply Ac; (· rfl); (· exact R3 _ rfl (by (repeat first|exact n0|apply n1); first|done|fail) (tb.ldT rfl) rfl rfl))
           | (apply Ac; (· rfl); (· exact AEu _ rfl (by (repeat first|exact n0|apply n1); first|done|fail) (tb.ldT rfl) (by assumption)))
           | (apply Ac; (· rfl); (· exact AEr _ rfl (by (repeat first|exact n0|apply n1); first|done|fail) (tb.ldT rfl) (by assumption)))
           | (apply Ac; (· rfl); (· exact Wa _ rfl (by (repeat first|exact n0|apply n1); first|done|fail) (tb.ldT rfl) rfl))
           | (apply Ac; (· rfl); (· exact AGg _ rfl (by (repeat first|exact n0|apply n1); first|done|fail) (tb.ldT rfl) rfl rfl))
           | (apply Ac; (· rfl); (· exact Gz _ _ _ rfl (by (repeat first|exact n0|apply n1); first|done|fail) (by (repeat first|exact n0|apply n1); first|done|fail) (tb.ldT rfl) rfl (by assumption)))
           | (apply Ac; (· rfl); (· exact K2 _ _ _ rfl (by (repeat first|exact n0|apply n1); first|done|fail) (by (repeat first|exact n0|apply n1); first|done|fail) (tb.ldT rfl) rfl (by assumption)))
           | (apply Cu; (· rfl); (· exact Rn _ _ _ rfl (by (repeat first|exact n0|apply n1); first|done|fail) (by (repeat first|exact n0|apply n1); first|done|fail) (tb.ldT rfl) rfl (by assumption)); intro zz zz)
           | (apply AJW ABo; (· rfl); (· exact fun _ => Sb ABo _ rfl (by (repeat first|exact n0|apply n1); first|done|fail) (tb.ldT rfl) fun _ => AH3 _); intro zz)
           | (apply AJW AAV; (· rfl); (· exact fun _ => Sb AAV _ rfl (by (repeat first|exact n0|apply n1); first|done|fail) (tb.ldT rfl) fun _ => AH3 _); intro zz))
         | (apply kd8; first
           | (apply AKt; (· rfl); (· exact fun _ => AFF rfl rfl (by (repeat first|exact n0|apply n1); first|done|fail) (tb.slT rfl) (by omega) (by omega) fun z hz b o => Lj default hz 0 rfl); intro zz zz)
           | (apply Ma; (· rfl); (· exact fun _ => Ym rfl rfl (tb.slT rfl) (by omega) (by omega) Ah))
           | (apply Ma; (· rfl); (· exact fun _ => Yh rfl rfl (tb.slT rfl) (by omega) (by omega) Ah)))
         | (apply kd9; (apply Ma; (· rfl); (· exact fun _ => Au rfl (tb.fld rfl) Ah)))
         | (apply AJp; (apply AHj; (· rfl); (· rfl); (· rfl); intro zz))
         | (apply AJ3; (apply Vn; (· rfl); (· exact tb.zoT rfl); intro zz))
         | (apply AJO; (apply Ma; (· rfl); (· exact fun _ => Lt (tb.slT rfl) rfl Ah)))
         | (apply AJ4; (apply pop zc; intro zd zc); first
           | (apply Ma; (· rfl); (· exact fun _ => D9 rfl (by (repeat first|exact Kr|refine Kt (by (repeat first|exact Ks|refine Ky ?_); first|done|fail) ?_); first|done|fail) zd.h (Fg Ah)))
           | (apply Ma; (· rfl); (· exact fun _ => D9 rfl (by (repeat first|exact Kr|refine Kt (by (repeat first|exact Ks|refine Ky ?_); first|done|fail) ?_); first|done|fail) (zd.h (by first|omega|assumption|rfl)) (Fg Ah)))
           | (apply Ma; (· rfl); (· exact fun _ => D9 rfl (by (repeat first|exact Kr|refine Kt (by (repeat first|exact Ks|refine Ky ?_); first|done|fail) ?_); first|done|fail) (zd.h (by first|omega|assumption|rfl) (by first|omega|assumption|rfl)) (Fg Ah)))
           | (apply Ma; (· rfl); (· exact fun _ => D9 rfl (by (repeat first|exact Kr|refine Kt (by (repeat first|exact Ks|refine Ky ?_); first|done|fail) ?_); first|done|fail) (zd.h (by first|omega|assumption|rfl) (by first|omega|assumption|rfl) (by first|omega|assumption|rfl)) (Fg Ah)))
           | (apply Ma; (· rfl); (· exact fun _ => D9 rfl (by (repeat first|exact Kr|refine Kt (by (repeat first|exact Ks|refine Ky ?_); first|done|fail) ?_); first|done|fail) (zd.h (by first|omega|assumption|rfl) (by first|omega|assumption|rfl) (by first|omega|assumption|rfl) (by first|omega|assumption|rfl)) (Fg Ah)))
           | (apply Ma; (· rfl); (· exact fun _ => D9 rfl (by (repeat first|exact Kr|refine Kt (by (repeat first|exact Ks|refine Ky ?_); first|done|fail) ?_); first|done|fail) (zd.h (by first|omega|assumption|rfl) (by first|omega|assumption|rfl) (by first|omega|assumption|rfl) (by first|omega|assumption|rfl) (by first|omega|assumption|rfl)) (Fg Ah)))
           | (apply Ma; (· rfl); (· exact fun _ => D9 rfl (by (repeat first|exact Kr|refine Kt (by (repeat first|exact Ks|refine Ky ?_); first|done|fail) ?_); first|done|fail) (zd.h (by first|omega|assumption|rfl) (by first|omega|assumption|rfl) (by first|omega|assumption|rfl) (by first|omega|assumption|rfl) (by first|omega|assumption|rfl) (by first|omega|assumption|rfl)) (Fg Ah)))
           | (apply Ma; (· rfl); (· exact fun _ => D9 rfl (by (repeat first|exact Kr|refine Kt (by (repeat first|exact Ks|refine Ky ?_); first|done|fail) ?_); first|done|fail) (zd.h (by first|omega|assumption|rfl) (by first|omega|assumption|rfl) (by first|omega|assumption|rfl) (by first|omega|assumption|rfl) (by first|omega|assumption|rfl) (by first|omega|assumption|rfl) (by first|omega|assumption|rfl)) (Fg Ah)))
           | (apply Ma; (· rfl); (· exact fun _ => D9 rfl (by (repeat first|exact Kr|refine Kt (by (repeat first|exact Ks|refine Ky ?_); first|done|fail) ?_); first|done|fail) (zd.h (by first|omega|assumption|rfl) (by first|omega|assumption|rfl) (by first|omega|assumption|rfl) (by first|omega|assumption|rfl) (by first|omega|assumption|rfl) (by first|omega|assumption|rfl) (by first|omega|assumption|rfl) (by first|omega|assumption|rfl)) (Fg Ah)))
           | (apply Zd; (· rfl); (· exact fun _ => D9 rfl (by (repeat first|exact Kr|refine Kt (by (repeat first|exact Ks|refine Ky ?_); first|done|fail) ?_); first|done|fail) zd.h (Fk fun _ => Fk fun _ => Fg (Dz 0 rfl))); intro zz zz)
           | (apply Zd; (· rfl); (· exact fun _ => D9 rfl (by (repeat first|exact Kr|refine Kt (by (repeat first|exact Ks|refine Ky ?_); first|done|fail) ?_); first|done|fail) (zd.h (by first|omega|assumption|rfl)) (Fk fun _ => Fk fun _ => Fg (Dz 0 rfl))); intro zz zz)
           | (apply Zd; (· rfl); (· exact fun _ => D9 rfl (by (repeat first|exact Kr|refine Kt (by (repeat first|exact Ks|refine Ky ?_); first|done|fail) ?_); first|done|fail) (zd.h (by first|omega|assumption|rfl) (by first|omega|assumption|rfl)) (Fk fun _ => Fk fun _ => Fg (Dz 0 rfl))); intro zz zz)
           | (apply Zd; (· rfl); (· exact fun _ => D9 rfl (by (repeat first|exact Kr|refine Kt (by (repeat first|exact Ks|refine Ky ?_); first|done|fail) ?_); first|done|fail) (zd.h (by first|omega|assumption|rfl) (by first|omega|assumption|rfl) (by first|omega|assumption|rfl)) (Fk fun _ => Fk fun _ => Fg (Dz 0 rfl))); intro zz zz)
           | (apply Zd; (· rfl); (· exact fun _ => D9 rfl (by (repeat first|exact Kr|refine Kt (by (repeat first|exact Ks|refine Ky ?_); first|done|fail) ?_); first|done|fail) (zd.h (by first|omega|assumption|rfl) (by first|omega|assumption|rfl) (by first|omega|assumption|rfl) (by first|omega|assumption|rfl)) (Fk fun _ => Fk fun _ => Fg (Dz 0 rfl))); intro zz zz)
           | (apply Zd; (· rfl); (· exact fun _ => D9 rfl (by (repeat first|exact Kr|refine Kt (by (repeat first|exact Ks|refine Ky ?_); first|done|fail) ?_); first|done|fail) (zd.h (by first|omega|assumption|rfl) (by first|omega|assumption|rfl) (by first|omega|assumption|rfl) (by first|omega|assumption|rfl) (by first|omega|assumption|rfl)) (Fk fun _ => Fk fun _ => Fg (Dz 0 rfl))); intro zz zz)
           | (apply Zd; (· rfl); (· exact fun _ => D9 rfl (by (repeat first|exact Kr|refine Kt (by (repeat first|exact Ks|refine Ky ?_); first|done|fail) ?_); first|done|fail) (zd.h (by first|omega|assumption|rfl) (by first|omega|assumption|rfl) (by first|omega|assumption|rfl) (by first|omega|assumption|rfl) (by first|omega|assumption|rfl) (by first|omega|assumption|rfl)) (Fk fun _ => Fk fun _ => Fg (Dz 0 rfl))); intro zz zz)
           | (apply Zd; (· rfl); (· exact fun _ => D9 rfl (by (repeat first|exact Kr|refine Kt (by (repeat first|exact Ks|refine Ky ?_); first|done|fail) ?_); first|done|fail) (zd.h (by first|omega|assumption|rfl) (by first|omega|assumption|rfl) (by first|omega|assumption|rfl) (by first|omega|assumption|rfl) (by first|omega|assumption|rfl) (by first|omega|assumption|rfl) (by first|omega|assumption|rfl)) (Fk fun _ => Fk fun _ => Fg (Dz 0 rfl))); intro zz zz)
           | (apply Zd; (· rfl); (· exact fun _ => D9 rfl (by (repeat first|exact Kr|refine Kt (by (repeat first|exact Ks|refine Ky ?_); first|done|fail) ?_); first|done|fail) (zd.h (by first|omega|assumption|rfl) (by first|omega|assumption|rfl) (by first|omega|assumption|rfl) (by first|omega|assumption|rfl) (by first|omega|assumption|rfl) (by first|omega|assumption|rfl) (by first|omega|assumption|rfl) (by first|omega|assumption|rfl)) (Fk fun _ => Fk fun _ => Fg (Dz 0 rfl))); intro zz zz))
         )
       refine B2 rfl ?_)
    | refine AKm ?_)
  repeat (revert zz)
  exact zh.h):G := s ⟨trivial⟩ ⟨c⟩ ⟨h⟩
theorem ge {G:Prop}(s:G := by
  refine AJT rfl rfl (by (repeat refine Exists.intro _ ?_); exact ⟨rfl, rfl, rfl⟩) (by (repeat first|exact Kr|refine Kt (by (repeat first|exact Ks|refine Ky ?_); first|done|fail) ?_); first|done|fail)):G := s
theorem gc {G:Prop}(s:G := by
  refine AI0 rfl (by (repeat first|exact .nil|refine .tmp rfl ?_|refine .agg _ rfl (by (repeat first|exact n0|apply n1); first|done|fail) (tb.ldT rfl) rfl ?_|refine .one _ rfl (by (repeat first|exact n0|apply n1); first|done|fail) (tb.ldT rfl) ?_); first|done|fail) (by (repeat refine Exists.intro _ ?_); exact ⟨rfl, rfl, rfl⟩) (by (repeat first|exact Kr|refine Kt (by (repeat first|exact Ks|refine Ky ?_); first|done|fail) ?_); first|done|fail)):G := s
theorem tw {G A:Prop}(a:A) (s:A→G := by
  intro za
  refine AKL za rfl (by (repeat first|exact Kr|refine Kt (by (repeat first|exact Ks|refine Ky ?_); first|done|fail) ?_); first|done|fail) (by first|exact Zh rfl|((repeat first|exact fzz _|refine fcc rfl ?_|refine fii rfl (by omega) ?_|refine fss rfl (by omega) (by omega) ?_); first|done|fail))):G := s a
theorem cz:True := trivial
theorem ct {a b:Prop}(x:a) (y:b):a∧b := ⟨x, y⟩
end Go.Proofs.YteadncphjconmaaGreat
namespace Go.Fw
open Go.ChangeShapes Go.WideShapes Go.RowKit
def K5 {α:Type}(P:Program) (t:TypeId) (E:Enc α):Prop :=
 P.cellsOf t=E.size∧P.bytesOf t=E.bytes∧∀ {H:Type}(enc:TypeId×Value→H) (W:World) (fuel:Nat) (cs:List Value) (d:DataW H) (ps:List MemPlace),
  DataW.trod enc P W 0 (fun _=>true) true fuel t cs=some (d,ps)→(∀ n∈d.weights P t,n≤reachBytes)→∃ x:α,E.rd W (fun k=>k<W.heap.size) cs x
theorem AAc {k:IntKind}{n:Int}(h:(Lit.int k n).wf=true):Cg k n:=by
 cases k <;> simp [Lit.wf,IntKind.min,IntKind.max,IntKind.bits,IntKind.signed] at h <;> simp only [Cg] <;> omega
section
variable {P:Program}{t:TypeId}
theorem AE2 {k:IntKind}{by':Nat}(ht:P.underlying t=some (.int k)) (hc:P.cellsOf t=1) (hb:P.bytesOf t=by'):K5 P t (Bt k by') :=
 ⟨hc,hb,fun enc W fuel cs d ps h _=>by
  obtain ⟨n,rfl,_,hw⟩:=DataW.trod_int ht h
  exact ⟨n,rfl,AAc hw⟩⟩
theorem Mv {W:World}{a:Addr}{n:Nat}{cs:List Value}(h:W.cells? 0 a n=some cs) (hn:0<n):a.spot=none∧a.block<W.heap.size∧Ev W a.block a.off n cs:=by
 obtain ⟨_,hl,hc⟩:=World.cells?_some h
 have h0:=hc 0 hn
 rw [List.getElem?_eq_getElem (by omega)] at h0
 have e0:a.add 0=a:=rfl
 rw [e0] at h0
 unfold World.cell? at h0
 split at h0
 ·rename_i c T fr hb
  split at h0
  ·cases h0
  ·rename_i hs
   have hs':a.spot=none:=by cases ha:a.spot with
    | none=>rfl
    | some _=>rw [ha] at hs;simp at hs
   refine ⟨hs',?_,c,T,fr,hb,?_,hl⟩
   ·rcases Nat.lt_or_ge a.block W.heap.size with h|h
    ·exact h
    ·rw [Array.getElem?_eq_none h] at hb;cases hb
   ·apply List.ext_getElem?
    intro i
    by_cases hi:i<n
    ·have:=hc i hi
     unfold World.cell? Addr.add at this
     rw [List.getElem?_take,if_pos hi,List.getElem?_drop,← this]
     by_cases h0:i=0
     ·subst h0;simp [hb,hs']
     ·simp [h0,hb]
    ·rw [List.getElem?_take,if_neg hi,List.getElem?_eq_none (by omega)]
 ·cases h0
theorem AB7 {α:Type}:∀ (n:Nat) (p:Nat→α→Prop),(∀ i,i<n→∃ x,p i x)→∃ l:List α,l.length=n∧∀ i x,l[i]?=some x→p i x:=by
 intro n p h
 refine ⟨List.ofFn (fun i:Fin n=>Classical.choose (h i.1 i.2)),by simp,fun i x hx=>?_⟩
 have hi:i<n:=by
  have:=(List.getElem?_eq_some_iff.1 hx).1
  simpa using this
 have e:x=Classical.choose (h i hi):=by
  rw [List.getElem?_eq_getElem (by simpa using hi),List.getElem_ofFn] at hx
  exact (Option.some.inj hx).symm
 rw [e]
 exact Classical.choose_spec (h i hi)
theorem S9 {H:Type}{e:TypeId}:∀ {l:List (DataW H)}{d:DataW H},d∈l→∀ n∈d.weights P e,n∈DataW.weightsAll P e l
 | [],_,hd,_,_=>by cases hd
 | x::l,d,hd,n,hn=>by
  simp only [DataW.weightsAll,List.mem_append]
  rcases List.mem_cons.1 hd with rfl|hd
  ·exact .inl hn
  ·exact .inr (S9 hd n hn)
theorem AB6 {α:Type}{E:Enc α}{e:TypeId}(ht:P.underlying t=some (.slice e)) (hE:K5 P e E) (hc:P.cellsOf t=1) (hb:P.bytesOf t=24) (hs:0<E.size):K5 P t (Af E) :=
 ⟨hc,hb,fun enc W fuel cs d ps h hw=>by
  obtain ⟨he,hby,hE⟩:=hE
  rcases Deep.open_slice ht h with ⟨rfl,_⟩|⟨a,len,cap,m,n,D,Pl,rfl,_,hl,_,hm,hx,hel⟩
  ·exact ⟨[],none,0,rfl,Nat.zero_le _,by simp,.inl rfl⟩
  ·simp only [Prod.mk.injEq] at hx
   obtain ⟨rfl,_⟩:=hx
   simp only [if_true] at hm
   subst hm
   have hsz:len*E.bytes≤140737488355328:=by
    have h1:((List.range len).map D).length+((List.range (m-len)).map fun j=>D (len+j)).length=m:=by simp;omega
    have h2:=hw (m*P.bytesOf e) (by rw [DataW.weights,ht];show m*P.bytesOf e∈_::_;rw [h1];exact List.mem_cons_self)
    rw [hby] at h2
    exact Nat.le_trans (Nat.mul_le_mul_right _ hl) (Nat.le_trans h2 (by decide))
   have each:∀ i,i<len→∃ x:α,(a.spot=none∧a.block<W.heap.size)∧∃ vs,Ev W a.block (a.off+i*E.size) E.size vs∧E.rd W (fun k=>k<W.heap.size) vs x:=by
    intro i hi
    obtain ⟨cs',h1,h2⟩:=hel i (by omega)
    obtain ⟨x,hxr⟩:=hE enc W n cs' _ _ h2 (fun k hk=>hw k (by
     rw [DataW.weights,ht]
     refine List.mem_cons_of_mem _ (List.mem_append_left _ (S9 (List.mem_map.2 ⟨i,List.mem_range.2 hi,rfl⟩) k hk))))
    rw [he] at h1
    obtain ⟨hsp,hlt,hca⟩:=Mv h1 hs
    have hadd:(a.add (i*E.size)).block=a.block∧(a.add (i*E.size)).off=a.off+i*E.size:=by
     unfold Addr.add
     split
     ·rename_i h;rw [h];exact ⟨rfl,rfl⟩
     ·exact ⟨rfl,rfl⟩
    rw [hadd.1] at hlt
    rw [hadd.1,hadd.2] at hca
    have hsp0:a.spot=none:=by
     obtain ⟨cs0,h10,_⟩:=hel 0 (by omega)
     rw [he,Nat.zero_mul] at h10
     exact (Mv h10 hs).1
    exact ⟨x,⟨hsp0,hlt⟩,cs',hca,hxr⟩
   obtain ⟨l,hll,hlx⟩:=AB7 len _ each
   refine ⟨l,some a,m,by rw [hll],by omega,by rw [hll];exact hsz,?_⟩
   cases l with
   | nil=>exact .inl rfl
   | cons y l =>
    obtain ⟨⟨h1,h2⟩,_⟩:=hlx 0 y rfl
    refine .inr ⟨a.block,a.off,?_,h2,fun i x hi=>(hlx i x hi).2⟩
    cases a;simp_all⟩
def Um {α:Type}(P:Program) (fs:List Field) (off:Nat) (E:Enc α):Prop :=
 ∀ {H:Type}(enc:TypeId×Value→H) (W:World) (n:Nat) (cs:List Value) (xs:List (DataW H×List MemPlace)),xs.length=fs.length →
  (∀ (i:Nat) (f:Field),fs[i]?=some f→DataW.trod enc P W 0 (fun _=>true) true n f.type ((cs.drop f.offset).take (P.cellsOf f.type))=xs[i]?)→cs.length=off+E.size →
  (∀ n∈DataW.weightsEach P (fs.map fun f:Field=>f.type) (xs.map (·.1)),n≤reachBytes)→∃ x:α,E.rd W (fun k=>k<W.heap.size) (cs.drop off) x
theorem Kk {α:Type}{E:Enc α}{f:Field}{off:Nat}(hf:f.offset=off) (hE:K5 P f.type E):Um P [f] off E:=fun enc W n cs xs hl h hc hw=>by
 match xs,hl with
 | [x],_ =>
  have h0:=h 0 f rfl
  obtain ⟨d,ps⟩:=x
  rw [hf,hE.1,List.take_of_length_le (by rw [List.length_drop];omega)] at h0
  exact hE.2.2 enc W n _ d ps h0 (fun k hk=>hw k (by simp [DataW.weightsEach,hk]))
theorem D0 {α β:Type}{E:Enc α}{F:Enc β}{f:Field}{fs:List Field}{off:Nat}(by':Nat) (hf:f.offset=off) (hE:K5 P f.type E) (hF:Um P fs (off+E.size) F):Um P (f::fs) off (Cq E F by'):=fun enc W n cs xs hl h hc hw=>by
 match xs,hl with
 | x::xs,hl =>
  have h0:=h 0 f rfl
  obtain ⟨d,ps⟩:=x
  rw [hf,hE.1] at h0
  have hc':cs.length=off+(E.size+F.size):=hc
  obtain ⟨y,hy⟩:=hE.2.2 enc W n _ d ps h0 (fun k hk=>hw k (by simp [DataW.weightsEach,hk]))
  obtain ⟨z,hz⟩:=hF enc W n cs xs (by simpa using hl) (fun i g hg=>by simpa using h (i+1) g (by simpa using hg)) (by omega) (fun k hk=>hw k (by
   simp only [List.map_cons,DataW.weightsEach,List.mem_append];exact .inr hk))
  refine ⟨(y,z),_,_,?_,hy,hz⟩
  rw [← List.drop_drop,List.take_append_drop]
theorem Ka {α:Type}{E:Enc α}{fs:Array Field}(ht:P.underlying t=some (.struct fs)) (hE:Um P fs.toList 0 E) (hc:P.cellsOf t=E.size) (hb:P.bytesOf t=E.bytes):K5 P t E :=
 ⟨hc,hb,fun enc W fuel cs d ps h hw=>by
  obtain ⟨xs,n,_,hx,hl,hlen,hf⟩:=DataW.trod_struct ht h
  simp only [Prod.mk.injEq] at hx
  obtain ⟨rfl,_⟩:=hx
  obtain ⟨x,hx⟩:=hE enc W n cs xs (by simpa using hlen) (fun i f hi=>hf i f (by simpa using hi)) (by rw [hl,hc];omega) (fun k hk=>hw k (by rw [DataW.weights,ht];exact hk))
  exact ⟨x,by simpa using hx⟩⟩
def Arg (P:Program) (W:World) (t:TypeId) (v:Value):Prop :=
 (∃ b,Value.okWide P W .any b t v)∧∃ (H:Type) (enc:TypeId×Value→H) (d:DataW H) (p:List MemPlace),DataW.Trod enc P W 0 (fun _=>true) true t v d p∧∀ n∈d.weights P t,n≤reachBytes
def AHg (P:Program) (W:World):List TypeId→List Value→Prop
 | [],[]=>True
 | t::ts,v::vs=>Arg P W t v∧AHg P W ts vs
 | _,_=>False
variable {W:World}{v:Value}
theorem Arg.slice {α:Type}{E:Enc α}{e:TypeId}(h:Arg P W t v) (ht:P.underlying t=some (.slice e)) (hE:K5 P t (Af E)):∃ pa ca l,v = .slice pa l.length ca∧(As E pa l.length ca l).holds W (fun k=>k<W.heap.size):=by
 obtain ⟨⟨b,hv⟩,H,enc,d,p,⟨fuel,hf⟩,hw⟩:=h
 obtain ⟨a,len,cap,rfl⟩:=okWide_slice ht hv
 obtain ⟨l,pa,ca,e1,hs⟩:=hE.2.2 enc W fuel _ d p hf hw
 have e2:Value.slice a len cap = .slice pa l.length ca:=by simpa [Value.cells] using e1
 exact ⟨pa,ca,l,e2,rfl,hs⟩
theorem Arg.int {k:IntKind}(h:Arg P W t v) (ht:P.underlying t=some (.int k)):∃ n,v = .int k n∧Cg k n:=by
 obtain ⟨⟨b,hv⟩,H,enc,d,p,hf,hw⟩:=h
 obtain ⟨n,e,_,_,hn⟩:=open_int ht hv hf
 exact ⟨n,e,AAc hn⟩
theorem Arg.bool (h:Arg P W t v) (ht:P.underlying t=some .bool):∃ b,v = .bool b:=by
 obtain ⟨⟨b,hv⟩,H,enc,d,p,hf,hw⟩:=h
 obtain ⟨n,e,_⟩:=open_bool ht hv hf
 exact ⟨n,e⟩
theorem Arg.agg {α:Type}{E:Enc α}{fs:Array Field}(h:Arg P W t v) (ht:P.underlying t=some (.struct fs)) (hE:K5 P t E):∃ vs x,v = .agg vs.toArray∧(vF E vs x).holds W (fun k=>k<W.heap.size):=by
 obtain ⟨⟨b,hv⟩,H,enc,d,p,⟨fuel,hf⟩,hw⟩:=h
 obtain ⟨cs,rfl,_⟩:=okWide_struct ht hv
 obtain ⟨x,hx⟩:=hE.2.2 enc W fuel _ d p hf hw
 have hx':E.rd W (fun k=>k<W.heap.size) cs.toList x:=hx
 exact ⟨cs.toList,x,by simp,hx'⟩
end
theorem S6 {H:Type}{enc:TypeId×Value→H}{P:Program}(hl:laidOutB P=true) {W W':World}(hb:Below W.heap.size W W'):∀ {ts:List TypeId}{vs:List Value}{ds:List (DataW H)}{ps:List MemPlace},
  (ts.all fun t=>P.readableRec t && decide (t<P.types.size))=true→DataW.TrodAll enc P W 0 (fun _=>true) true ts vs ds ps→DataW.TrodAll enc P W' 0 (fun b=>decide (b<W.heap.size)) true ts vs ds ps
 | [],[],[],_,_,h=>h
 | t::ts,v::vs,d::ds,ps,ha,⟨p,q,h1,h2,e⟩=>by
  simp only [List.all_cons,Bool.and_eq_true,decide_eq_true_eq] at ha
  refine ⟨p,q,Below.trod hl ha.1.1 ha.1.2 h1 hb ?_,S6 hl hb (by simpa using ha.2) h2,e⟩
  obtain ⟨m,hm⟩:=h1
  exact DataW.trod_lt m _ _ _ hm
 | [],_::_,_,_,_,h=>h.elim
 | [],[],_::_,_,_,h=>h.elim
 | _::_,[],_,_,_,h=>h.elim
 | _::_,_::_,[],_,_,h=>h.elim
theorem ADV {H:Type}{enc:TypeId×Value→H}{P:Program}{W:World}{base:Nat}:∀ (ts:List TypeId) (vs:List Value) (ds:List (DataW H)) (ps:List MemPlace),
  (∀ (j:Nat) t v,ts[j]?=some t→vs[j]?=some v→Value.okWide P W .any base t v)→DataW.TrodAll enc P W 0 (fun _=>true) true ts vs ds ps→(∀ n∈DataW.weightsEach P ts ds,n≤reachBytes)→AHg P W ts vs
 | [],[],[],_,_,_,_=>trivial
 | t::ts,v::vs,d::ds,ps,hv,⟨p,q,h1,h2,e⟩,hw=>by
  refine ⟨⟨⟨base,hv 0 t v rfl rfl⟩,H,enc,d,p,h1,fun n hn=>hw n (by simp only [DataW.weightsEach,List.mem_append];exact .inl hn)⟩,ADV ts vs ds q (fun j t v ht hv'=>hv (j+1) t v (by simpa using ht) (by simpa using hv')) h2 (fun n hn=>hw n (by simp only [DataW.weightsEach,List.mem_append];exact .inr hn))⟩
 | [],_::_,_,_,_,h,_=>h.elim
 | [],[],_::_,_,_,h,_=>h.elim
 | _::_,[],_,_,_,h,_=>h.elim
 | _::_,_::_,[],_,_,h,_=>h.elim
def ADZ (P:Program) (f:FuncId) (fn:Func):Prop :=
 ∀ (W:World) (args:List Value),AHg P W fn.params.toList args→Calls P f args.toArray W (Ret fun v W'=>v = .bool true∧Below W.heap.size W W')
theorem AA2 {P:Program}{f:FuncId}{args:List Value}{Γ:List Fact}{W:World}{Q:Value→List Fact→List A1→Prop}(h:Bk P f args [] Γ Q) (hq:∀ v Φ β,Q v Φ β→v = .bool true) (hG:∀ g∈Γ,g.holds W (fun k=>k<W.heap.size)) :
  Calls P f args.toArray W (Ret fun v W'=>v = .bool true∧Below W.heap.size W W'):=by
 refine (h.2 W (fun k=>k<W.heap.size) (fun k hk=>hk) (fun x hx=>by cases hx) trivial (fun g hg=>g.stable (fun k hk=>⟨⟨hk,fun ⟨x,hx,_⟩=>by cases hx⟩,rfl⟩) (hG g hg))).mono ?_
 intro e w' he
 cases e <;> try exact he.elim
 obtain ⟨Φ,β,hQ,hO,_⟩:=he
 exact ⟨hq _ _ _ hQ,hO.ext.os,hO.ext.tape,hO.ext.output,hO.ext.size,fun k hk=>hO.ext.block k hk (fun ⟨x,hx,_⟩=>by cases hx)⟩
theorem AFi {H:Type}{enc:TypeId×Value→H}{C:Checked}{f:FuncId}{fn:Func}{s:ChangeSpec}{tb:TypeId}{os:Os}{conds:List PathCond}
  (own:ownKnob C.prog.godebug=none) (started:os.Started) (noInit:C.prog.inits.idxOf? f=none) (hfn:C.prog.funcs[f]?=some fn)
  (witness:∃ (w:World) (tape:Tape) (i:Input),w.os=os∧(w.forCall tape i).Shaped C.prog∧i.vars=[]∧Input.okWide C.prog (w.forCall tape i) .any w.heap.size f i ∧
   s.pre6 enc C.prog fn conds false (w.forCall tape i).memory i.args∧(Assume.holds {} C.prog (lone (Frame.enter C.prog f i.args .normal) [] (w.forCall tape i))))
  (laid:laidOutB C.prog=true) (hvars:s.vars=[]) (hts:(fn.params.toList.all fun t=>C.prog.readableRec t && decide (t<C.prog.types.size))=true)
  (hres:fn.resultTypes=#[tb]) (htb:C.prog.underlying tb=some .bool)
  (hspec:∀ ds:List (DataW H),ds.length=fn.params.toList.length→s.fn H ds={ results:=[.lit (.bool true)],args:=ds })
  (walk:ADZ C.prog f fn) :
  ReturnsInHanded {} C os f .any (s.pre6 enc C.prog fn conds false) (s.post enc C.prog fn false true false false):=by
 refine returnsInHanded_of_change_sized own started noInit hfn witness ?_
 intro W base args ds gs before hval hW _ hsz _
 have hW':=hW
 obtain ⟨p,q,hA,hV,rfl,_,_⟩:=hW
 rw [hvars] at hV
 obtain ⟨rfl,rfl⟩:=trodVars_none hV
 have hlen:∀ {ts:List TypeId}{vs:List Value}{ds:List (DataW H)}{ps:List MemPlace},DataW.TrodAll enc C.prog W 0 (fun _=>true) true ts vs ds ps→ds.length=ts.length:=by
  intro ts
  induction ts with
  | nil=>intro vs ds ps h;cases vs <;> cases ds <;> first|rfl|exact h.elim
  | cons t ts ih =>
   intro vs ds ps h
   cases vs <;> cases ds <;> try exact h.elim
   obtain ⟨p,q,_,h2,_⟩:=h
   simp [ih h2]
 have hw:∀ n∈DataW.weightsEach C.prog fn.params.toList ds,n≤reachBytes:=fun n hn=>by
  have e:s.plain.varTypes C.prog=[]:=by
   unfold DataSpec.varTypes ChangeSpec.plain
   rw [hvars];rfl
  rw [e,List.append_nil,List.append_nil] at hsz
  simpa using List.all_eq_true.1 hsz n hn
 have:=walk W args.toList (ADV fn.params.toList args.toList ds p (fun j t v ht hv=>hval j t v (by simpa using ht) (by simpa using hv)) hA hw)
 rw [Array.toArray_toList] at this
 refine this.mono fun e W' he=>?_
 cases e <;> try exact he.elim
 obtain ⟨rfl,hb⟩:=he
 refine ⟨_,rfl,ds,[],p++[],[],p,[],hW',?_,?_,?_,hb.frame _,fun h=>by cases h⟩
 ·rw [List.append_nil,hspec ds (hlen hA),hres]
  exact trodAll_mk1 (shut_bool htb _)
 ·rw [List.append_nil,hspec ds (hlen hA)]
  exact S6 laid hb hts hA
 ·rw [List.append_nil,hspec ds (hlen hA),hvars]
  rfl
end Go.Fw
namespace Go.Proofs.YteadncphjconmaaGreat
set_option maxRecDepth 100000
set_option linter.unusedVariables false
set_option linter.unusedSimpArgs false
def Tx:List Rat→List Rat→Rat
 | a::l,b::m=>a*b+Tx l m
 | _,_=>0
theorem Uo (l:List Rat):Tx l []=0:=by cases l <;> rfl
theorem AGV (l:List Rat):Tx [] l=0:=rfl
theorem Ob (a b:Rat) (l m:List Rat):Tx (a::l) (b::m)=a*b+Tx l m:=rfl
theorem AGa:∀ (l m:List Rat),Tx l m=Tx m l:=by
 intro l
 induction l with
 | nil=>intro m;rw [Uo];rfl
 | cons a l ih =>
  intro m
  cases m with
  | nil=>rfl
  | cons b m=>rw [Ob,Ob,ih,Rat.mul_comm]
def leL:List Rat→List Rat→Prop
 | a::l,b::m=>a≤b∧leL l m
 | [],[]=>True
 | _,_=>False
def AC8 (l:List Rat):Prop:=∀ x∈l,0≤x
theorem AGt {a b x:Rat}(h:a≤b) (hx:0≤x):a*x≤b*x:=by
 have:=Rat.mul_nonneg (a:=b-a) (b:=x) (by grind) hx
 grind
theorem ABX:∀ {a b x:List Rat},leL a b→AC8 x→Tx a x≤Tx b x:=by
 intro a
 induction a with
 | nil =>
  intro b x h hx
  cases b with
  | nil=>exact Rat.le_refl
  | cons b l=>exact h.elim
 | cons a l ih =>
  intro b x h hx
  cases b with
  | nil=>exact h.elim
  | cons b m =>
   cases x with
   | nil=>rw [Uo,Uo];exact Rat.le_refl
   | cons y x =>
    rw [Ob,Ob]
    have h1:=AGt h.1 (hx y (.head _))
    have h2:=ih h.2 (fun z hz=>hx z (.tail _ hz))
    grind
def ADa (y:List Rat) (A:List (List Rat)) (j:Nat):Rat:=Tx y (A.map fun r=>r.getD j 0)
def AIH (y:List Rat) (A:List (List Rat)) (n:Nat):List Rat:=(List.range n).map (ADa y A)
def Aa (A:List (List Rat)) (x:List Rat):List Rat:=A.map fun r=>Tx r x
theorem AIq (y F G b P Q:Rat):(y*F+G)*b+(y*P+Q)=y*(F*b+P)+(G*b+Q):=by grind
theorem AHn (y0:Rat) (f g:Nat→Rat):∀ (n:Nat) (s:Nat) (x:List Rat),Tx ((List.range' s n).map fun j=>y0*f j+g j) x=y0*Tx ((List.range' s n).map f) x+Tx ((List.range' s n).map g) x:=by
 intro n
 induction n with
 | zero=>intro s x;simp [Tx,Rat.mul_zero,Rat.add_zero]
 | succ n ih =>
  intro s x
  rw [List.range'_succ]
  cases x with
  | nil=>simp only [Uo];grind
  | cons b x =>
   simp only [List.map_cons,Ob]
   rw [ih]
   generalize Tx ((List.range' (s+1) n).map f) x=P
   generalize Tx ((List.range' (s+1) n).map g) x=Q
   generalize f s=F
   generalize g s=G
   exact AIq _ _ _ _ _ _
theorem AGq {r:List Rat}{n:Nat}(h:r.length=n):(List.range n).map (fun j=>r.getD j 0)=r:=by
 subst h
 refine List.ext_getElem (by simp) fun i h1 h2=>?_
 simp [List.getD,h2]
theorem AAj (n:Nat) (x:List Rat):∀ s,Tx ((List.range' s n).map fun _=>(0:Rat)) x=0:=by
 induction n generalizing x with
 | zero=>intro s;rfl
 | succ n ih =>
  intro s
  rw [List.range'_succ]
  cases x with
  | nil=>rfl
  | cons b x=>simp only [List.map_cons,Ob];rw [ih];grind
theorem AGo {n:Nat}{x:List Rat}:∀ {y:List Rat}{A:List (List Rat)},(∀ r∈A,r.length=n)→Tx (AIH y A n) x=Tx y (Aa A x):=by
 intro y
 induction y with
 | nil =>
  intro A _
  show Tx ((List.range n).map fun j=>Tx [] _) x=_
  simp only [AGV]
  rw [List.range_eq_range']
  exact AAj n x 0
 | cons y0 y ih =>
  intro A h
  cases A with
  | nil =>
   show Tx ((List.range n).map fun j=>Tx (y0::y) []) x=Tx (y0::y) []
   rw [Uo,List.range_eq_range']
   exact AAj n x 0
  | cons r A =>
   have h1:=ih (A:=A) fun r' hr=>h r' (.tail _ hr)
   have hr:=h r (.head _)
   show Tx ((List.range n).map fun j=>y0*r.getD j 0+ADa y A j) x=y0*Tx r x+Tx y (Aa A x)
   rw [← h1,AIH]
   conv=>rhs;rw [← AGq hr]
   rw [List.range_eq_range']
   exact AHn y0 (fun j=>r.getD j 0) (ADa y A) n 0 x
structure Lp where
 C:List Rat
 A:List (List Rat)
 B:List Rat
structure Lp.Ok (l:Lp):Prop where
 len:l.A.length=l.B.length
 row:∀ r∈l.A,r.length=l.C.length
structure Feas (l:Lp) (b x:List Rat):Prop where
 len:x.length=l.C.length
 pos:AC8 x
 le:leL (Aa l.A x) b
structure Cov (l:Lp) (c y:List Rat):Prop where
 len:y.length=l.A.length
 pos:AC8 y
 le:leL c (AIH y l.A l.C.length)
theorem weak {l:Lp}(hl:l.Ok) {b c x y:List Rat}(hx:Feas l b x) (hy:Cov l c y):Tx c x≤Tx b y:=by
 have h1:=ABX hy.le hx.pos
 rw [AGo hl.row,AGa y] at h1
 have h2:=ABX hx.le hy.pos
 exact Rat.le_trans h1 h2
def val:List Nat→Nat
 | []=>0
 | x::l=>x+4294967296*val l
def AFj (n:Nat):List Nat:=if _h:n=0 then [] else n % 4294967296::AFj (n / 4294967296)
termination_by n
decreasing_by omega
def B7:Nat→Nat→Nat
 | _,0=>1
 | 0,_+1=>0
 | n+1,k+1=>B7 n k+B7 n (k+1)
theorem Tk (n:Nat):B7 n 0=1:=by cases n <;> rfl
theorem Lh (n k:Nat):B7 (n+1) (k+1)=B7 n k+B7 n (k+1):=rfl
theorem Jn:∀ (n k:Nat),n<k→B7 n k=0:=by
 intro n
 induction n with
 | zero=>intro k h;cases k with
  | zero=>omega
  | succ k=>rfl
 | succ n ih=>intro k h;cases k with
  | zero=>omega
  | succ k=>rw [Lh,ih k (by omega),ih (k+1) (by omega)]
def lin (a:Int) (f:Nat→Int):Nat→Int
 | 0=>f 0
 | k+1=>f (k+1)+a*f k
def dl:Nat→Int
 | 0=>1
 | _+1=>0
def AI4 (a:Int):Nat→(Nat→Int)→(Nat→Int)
 | 0,f=>f
 | n+1,f=>lin a (AI4 a n f)
def pw (a:Int) (m x:Nat):Nat→Int:=AI4 a m (AI4 (-1) x dl)
def kr (a:Int) (n k x:Nat):Int:=pw a (n-x) x k
def sm:Nat→(Nat→Int)→Int
 | 0,_=>0
 | n+1,f=>sm n f+f n
theorem Rj {n:Nat}{f g:Nat→Int}(h:∀ i,i<n→f i=g i):sm n f=sm n g:=by
 induction n with
 | zero=>rfl
 | succ n ih=>rw [sm,sm,ih fun i hi=>h i (by omega),h n (by omega)]
theorem AIx (n:Nat) (f g:Nat→Int):sm n (fun i=>f i+g i)=sm n f+sm n g:=by
 induction n with
 | zero=>rfl
 | succ n ih=>simp only [sm,ih];omega
theorem AIg (n:Nat) (f g:Nat→Int):sm n (fun i=>f i-g i)=sm n f-sm n g:=by
 induction n with
 | zero=>rfl
 | succ n ih=>simp only [sm,ih];omega
theorem U3 (n:Nat):sm n (fun _=>0)=0:=by
 induction n with
 | zero=>rfl
 | succ n ih=>simp only [sm,ih];rfl
theorem AHm (n m:Nat) (f:Nat→Nat→Int):sm n (fun i=>sm m (fun j=>f i j))=sm m (fun j=>sm n (fun i=>f i j)):=by
 induction n with
 | zero=>simp only [sm];exact (U3 m).symm
 | succ n ih=>simp only [sm,ih,AIx]
def conv (f g:Nat→Int) (k:Nat):Int:=sm (k+1) (fun j=>f j*g (k-j))
def bf (f:Nat→Int):Nat→Int
 | 0=>0
 | k+1=>f k
def AKF (a:Int) (n r s:Nat):Int:=sm (n+1) (fun i=>(B7 n i:Int)*a ^ i*(kr a n r i*kr a n s i))
abbrev Vz:=Nat→Int
def V0 (Y:Vz→Vz):Prop:=∀ (a b:Int) (u v:Vz),Y (fun j=>a*u j+b*v j)=fun j=>a*Y u j+b*Y v j
theorem V0.add {Y:Vz→Vz}(h:V0 Y) (u v:Vz):Y (fun j=>u j+v j)=fun j=>Y u j+Y v j:=by
 have:=h 1 1 u v
 simp only [Int.one_mul] at this
 exact this
theorem V0.mul {Y:Vz→Vz}(h:V0 Y) (a:Int) (u:Vz):Y (fun j=>a*u j)=fun j=>a*Y u j:=by
 have:=h a 0 u u
 simp only [Int.zero_mul,Int.add_zero] at this
 exact this
theorem V0.zero {Y:Vz→Vz}(h:V0 Y):Y (fun _=>0)=fun _=>0:=by
 have:=h 0 0 (fun _=>0) (fun _=>0)
 simp only [Int.zero_mul,Int.add_zero] at this
 exact this
def A9 (Y:Vz→Vz):List Int→Vz→Vz
 | [],_=>fun _=>0
 | a::F,w=>fun j=>a*w j+Y (A9 Y F w) j
theorem Kb {Y:Vz→Vz}(h:V0 Y):∀ F,V0 (A9 Y F)
 | []=>fun a b u v=>by funext j;simp [A9]
 | c::F=>fun a b u v=>by
  funext j
  simp only [A9]
  rw [Kb h F a b u v,h]
  grind
theorem AF1 {Y:Vz→Vz}(h:V0 Y):∀ (F:List Int) (w:Vz),Y (A9 Y F w)=A9 Y F (Y w)
 | [],w=>h.zero
 | c::F,w=>by
  have e:A9 Y (c::F) w=fun j=>c*w j+1*Y (A9 Y F w) j:=by funext j;simp only [A9,Int.one_mul]
  rw [e,h]
  funext j
  simp only [A9,Int.one_mul]
  rw [AF1 h F w]
theorem I8 {Y:Vz→Vz}(h:V0 Y):∀ (F G:List Int) (w:Vz),A9 Y F (A9 Y G w)=A9 Y G (A9 Y F w)
 | [],G,w=>(Kb h G).zero.symm
 | a::F,G,w=>by
  have e:A9 Y (a::F) w=fun j=>a*w j+1*Y (A9 Y F w) j:=by funext j;simp only [A9,Int.one_mul]
  rw [e,Kb h G,← AF1 h G,← I8 h F G w]
  funext j
  simp only [A9,Int.one_mul]
def H6 (Y:Vz→Vz):Nat→Vz→Vz
 | 0,w=>w
 | n+1,w=>Y (H6 Y n w)
theorem Gy {Y:Vz→Vz}(h:V0 Y) (c:Int) (w:Vz):∀ F:List Int,A9 Y (F++[c]) w=fun j=>A9 Y F w j+c*H6 Y F.length w j
 | []=>by
  funext j
  show c*w j+Y (fun _=>0) j=0+c*w j
  rw [h.zero];simp
 | a::F=>by
  funext j
  show a*w j+Y (A9 Y (F++[c]) w) j=a*w j+Y (A9 Y F w) j+c*Y (H6 Y F.length w) j
  have e:(fun j=>A9 Y F w j+c*H6 Y F.length w j)=fun j=>1*A9 Y F w j+c*H6 Y F.length w j:=by funext j;rw [Int.one_mul]
  rw [Gy h c w F,e,h]
  grind
theorem AEa {Y:Vz→Vz}(h:V0 Y) (c:Int) (w:Vz):∀ {u g:List Int},u.length=g.length→A9 Y (List.zipWith (fun x y=>x-c*y) u g) w=fun j=>A9 Y u w j-c*A9 Y g w j
 | [],[],_=>by funext j;simp [A9]
 | a::u,b::g,e=>by
  have ih:=AEa h c w (u:=u) (g:=g) (by simpa using e)
  funext j
  show (a-c*b)*w j+Y (A9 Y (List.zipWith (fun x y=>x-c*y) u g) w) j=a*w j+Y (A9 Y u w) j-c*(b*w j+Y (A9 Y g w) j)
  have e2:(fun j=>A9 Y u w j-c*A9 Y g w j)=fun j=>1*A9 Y u w j+(-c)*A9 Y g w j:=by funext j;grind
  rw [ih,e2,h]
  grind
def Nc (g:List Int):List Int→List Int→List Int×List Int
 | [],r=>([],r)
 | a::F,r0 =>
  let x:=Nc g F r0
  let c:=x.2.getLastD 0
  (c::x.1,List.zipWith (fun x y=>x-c*y) (a::x.2.dropLast) g)
theorem Uh {g:List Int}:∀ {F r0:List Int},1≤g.length→r0.length=g.length→(Nc g F r0).1.length=F.length∧(Nc g F r0).2.length=g.length
 | [],r0,_,h=>⟨rfl,h⟩
 | a::F,r0,h1,h=>by
  obtain ⟨e1,e2⟩:=Uh (F:=F) h1 h
  refine ⟨by simp [Nc,e1],?_⟩
  simp only [Nc,List.length_zipWith,List.length_cons,List.length_dropLast]
  omega
theorem Oe {l:List Int}(h:1≤l.length):l=l.dropLast++[l.getLastD 0]:=by
 have hne:l≠[]:=fun e=>by rw [e] at h;simp at h
 have:=(List.dropLast_concat_getLast hne).symm
 rw [List.getLastD_eq_getLast?,List.getLast?_eq_some_getLast hne]
 exact this
theorem AAA {Y:Vz→Vz}(h:V0 Y) {g:List Int}(h1:1≤g.length) (w:Vz):∀ {F r0:List Int},r0.length=g.length →
  A9 Y (F++r0) w=fun j=>A9 Y (Nc g F r0).1 (A9 Y (g++[1]) w) j+A9 Y (Nc g F r0).2 w j
 | [],r0,_=>by funext j;simp [Nc,A9]
 | a::F,r0,hr=>by
  have ih:=AAA h h1 w (F:=F) hr
  obtain ⟨_,l2⟩:=Uh (F:=F) h1 hr
  funext j
  show a*w j+Y (A9 Y (F++r0) w) j=_
  rw [ih,h.add]
  simp only [Nc]
  generalize (Nc g F r0).1=s at *
  generalize hx:(Nc g F r0).2=r at *
  have hl:=Oe (l:=r) (by omega)
  generalize hc:r.getLastD 0=c at *
  rw [AEa h c w (by simp only [List.length_cons,List.length_dropLast];omega)]
  have e1:A9 Y r w=fun j=>A9 Y r.dropLast w j+c*H6 Y r.dropLast.length w j:=by
   conv=>lhs;rw [hl]
   exact Gy h c w _
  have e2:A9 Y (g++[1]) w=fun j=>A9 Y g w j+1*H6 Y g.length w j:=Gy h 1 w _
  have e3:(fun j=>A9 Y r.dropLast w j+c*H6 Y r.dropLast.length w j)=fun j=>1*A9 Y r.dropLast w j+c*H6 Y r.dropLast.length w j:=by funext j;rw [Int.one_mul]
  have e4:Y (H6 Y r.dropLast.length w) j=H6 Y g.length w j:=by
   rw [show g.length=r.dropLast.length+1 by rw [List.length_dropLast];omega];rfl
  rw [e1,e3,h]
  show a*w j+(Y (A9 Y s (A9 Y (g++[1]) w)) j+(1*Y (A9 Y r.dropLast w) j+c*Y (H6 Y r.dropLast.length w) j))=c*A9 Y (g++[1]) w j+Y (A9 Y s (A9 Y (g++[1]) w)) j+(a*w j+Y (A9 Y r.dropLast w) j-c*A9 Y g w j)
  rw [e4]
  generalize Y (A9 Y s (A9 Y (g++[1]) w)) j=z
  rw [e2]
  grind
theorem Yr (g:List Int):∀ {F r0:List Int},1≤F.length→(Nc g F r0).1.getLastD 0=r0.getLastD 0
 | [a],r0,_=>by simp [Nc]
 | a::b::F,r0,_=>by
  have ih:=Yr g (F:=b::F) (r0:=r0) (by simp)
  rw [← ih]
  show List.getLastD (_::(Nc g (b::F) r0).1) 0=_
  have:(Nc g (b::F) r0).1=((Nc g F r0).2.getLastD 0)::(Nc g F r0).1:=rfl
  rw [this]
  simp only [List.getLastD_cons]
def Xg (g:List Int) (v:Vz):Vz:=fun j=>if j<g.length then (if j=0 then 0 else v (j-1))-g.getD j 0*v (g.length-1) else 0
def Bf:Vz:=fun j=>if j=0 then 1 else 0
def Dw (u:List Int):Vz:=fun j=>u.getD j 0
theorem Dx (g:List Int):V0 (Xg g):=fun a b u v=>by
 funext j
 simp only [Xg]
 by_cases h:j<g.length
 ·simp only [if_pos h]
  by_cases h0:j=0
  ·simp only [if_pos h0];grind
  ·simp only [if_neg h0];grind
 ·simp only [if_neg h];grind
theorem AGi (a:Int) (u:List Int) (j:Nat):Dw (a::u) j=if j=0 then a else Dw u (j-1):=by
 cases j with
 | zero=>rfl
 | succ j=>simp [Dw]
theorem Kj {u:List Int}{j:Nat}(h:u.length≤j):Dw u j=0:=by
 rw [Dw,List.getD_eq_getElem?_getD,List.getElem?_eq_none h];rfl
theorem Nd {g:List Int}:∀ {u:List Int},u.length≤g.length→A9 (Xg g) u Bf=Dw u
 | [],_=>by funext j;simp [A9,Dw]
 | a::u,h=>by
  have h:u.length+1≤g.length:=h
  have ih:=Nd (g:=g) (u:=u) (by omega)
  funext j
  show a*Bf j+Xg g (A9 (Xg g) u Bf) j=Dw (a::u) j
  rw [ih,AGi,Xg,Kj (u:=u) (j:=g.length-1) (by omega),Int.mul_zero,Int.sub_zero]
  by_cases h0:j=0
  ·subst h0
   rw [if_pos rfl,if_pos (by omega),if_pos rfl,Bf,if_pos rfl];omega
  ·rw [if_neg h0,if_neg h0,Bf,if_neg h0,Int.mul_zero,Int.zero_add]
   by_cases hj:j<g.length
   ·rw [if_pos hj]
   ·rw [if_neg hj,Kj (by omega)]
theorem AFv {g:List Int}:∀ {k:Nat},k<g.length→H6 (Xg g) k Bf=fun j=>if j=k then 1 else 0
 | 0,_=>rfl
 | k+1,h=>by
  funext j
  show Xg g (H6 (Xg g) k Bf) j=_
  rw [AFv (k:=k) (by omega),Xg,if_neg (show ¬ g.length-1=k by omega),Int.mul_zero,Int.sub_zero]
  by_cases h0:j=0
  ·subst h0;rw [if_pos (by omega),if_pos rfl,if_neg (by omega)]
  ·by_cases hj:j<g.length
   ·rw [if_pos hj,if_neg h0]
    by_cases e:j=k+1
    ·rw [if_pos e,if_pos (by omega)]
    ·rw [if_neg e,if_neg (by omega)]
   ·rw [if_neg hj,if_neg (by omega)]
theorem AFl {g:List Int}(h:1≤g.length):H6 (Xg g) g.length Bf=fun j=>-Dw g j:=by
 obtain ⟨k,hk⟩:∃ k,g.length=k+1:=⟨g.length-1,by omega⟩
 rw [hk]
 funext j
 show Xg g (H6 (Xg g) k Bf) j=_
 rw [AFv (k:=k) (by omega),Xg,if_pos (show g.length-1=k by omega),Int.mul_one]
 by_cases hj:j<g.length
 ·rw [if_pos hj]
  by_cases h0:j=0
  ·rw [if_pos h0];show 0-Dw g j=_;omega
  ·rw [if_neg h0,if_neg (by omega)];show 0-Dw g j=_;omega
 ·rw [if_neg hj,Kj (by omega)];rfl
theorem Q3 {g:List Int}(h:1≤g.length):A9 (Xg g) (g++[1]) Bf=fun _=>0:=by
 rw [Gy (Dx g),Nd (Nat.le_refl _),AFl h]
 funext j
 show Dw g j+1*(-Dw g j)=0
 omega
theorem Nt {g:List Int}{v:Vz}(h:∀ j,g.length≤j→v j=0):A9 (Xg g) ((List.range g.length).map v) Bf=v:=by
 rw [Nd (by simp)]
 funext j
 rw [Dw,List.getD_eq_getElem?_getD,List.getElem?_map]
 by_cases hj:j<g.length
 ·rw [List.getElem?_range hj];rfl
 ·rw [List.getElem?_eq_none (by simpa using hj),h j (by omega)];rfl
theorem AED {g:List Int}(h1:1≤g.length) {v:Vz}(h:∀ j,g.length≤j→v j=0):A9 (Xg g) (g++[1]) v=fun _=>0:=by
 rw [← Nt h,I8 (Dx g),Q3 h1,(Kb (Dx g) _).zero]
def Prm (p:Nat):Prop:=2≤p∧∀ d,2≤d→d<p→¬ d∣p
theorem bez:∀ (a b:Nat),∃ x y:Int,(Nat.gcd a b:Int)=a*x+b*y:=by
 intro a
 induction a using Nat.strongRecOn with
 | _ a ih =>
  intro b
  by_cases h:a=0
  ·subst h;exact ⟨0,1,by simp⟩
  ·obtain ⟨x,y,e⟩:=ih (b % a) (Nat.mod_lt _ (by omega)) a
   refine ⟨y-(b / a:Nat)*x,x,?_⟩
   rw [Nat.gcd_rec,e]
   have h2:(b:Int)=a*(b / a:Nat)+(b % a:Nat):=by
    have:=Nat.div_add_mod b a
    omega
   have h3:((b % a:Nat):Int)=b-a*(b / a:Nat):=by omega
   rw [h3]
   grind
theorem ADO {p c:Nat}(hp:Prm p) (h:¬ p∣c):Nat.gcd c p=1:=by
 have h1:Nat.gcd c p∣p:=Nat.gcd_dvd_right c p
 have h0:0<Nat.gcd c p:=Nat.gcd_pos_of_pos_right c (by have:=hp.1;omega)
 have h2:=Nat.le_of_dvd (by have:=hp.1;omega) h1
 refine Classical.byContradiction fun hne=>?_
 by_cases e:Nat.gcd c p=p
 ·exact h (by rw [← e];exact Nat.gcd_dvd_left c p)
 ·exact hp.2 _ (by omega) (by omega) h1
theorem AHD {p:Nat}(hp:Prm p) {c:Int}(h:¬ (p:Int)∣c):∃ c':Int,(p:Int)∣c*c'-1:=by
 have h1:¬ p∣c.natAbs:=fun e=>h (Int.ofNat_dvd_left.2 e)
 obtain ⟨x,y,e⟩:=bez c.natAbs p
 rw [ADO hp h1] at e
 rcases Int.natAbs_eq c with hc|hc
 ·refine ⟨x,⟨-y,?_⟩⟩
  rw [← hc] at e
  have:c*x=1-p*y:=by omega
  rw [this];grind
 ·refine ⟨-x,⟨-y,?_⟩⟩
  have h2:((c.natAbs:Nat):Int)=-c:=by omega
  rw [h2] at e
  have:c*-x=1-p*y:=by grind
  rw [this];grind
def cg (p:Nat) (u:Vz):Prop:=∀ j,(p:Int)∣u j
theorem AAM (p:Nat):cg p (fun _=>0):=fun _=>Int.dvd_zero _
theorem Xy {p:Nat}{Y:Vz→Vz}(h:V0 Y) {u:Vz}(hu:cg p u):cg p (Y u):=by
 have e:u=fun j=>(p:Int)*(u j / p):=by funext j;exact (Int.mul_ediv_cancel' (hu j)).symm
 rw [e,h.mul]
 exact fun j=>⟨_,rfl⟩
theorem ADf {p:Nat}{u v:Vz}(hu:cg p u) (hv:cg p v):cg p (fun j=>u j+v j):=fun j=>Int.dvd_add (hu j) (hv j)
theorem AIs {p:Nat}(a:Int) {u:Vz}(hu:cg p u):cg p (fun j=>a*u j):=fun j=>Int.dvd_mul_of_dvd_right (hu j)
theorem Xa {p:Nat}{Y:Vz→Vz}(h:V0 Y) (w:Vz):∀ {F:List Int},(∀ x∈F,(p:Int)∣x)→cg p (A9 Y F w)
 | [],_=>AAM p
 | a::F,hF=>ADf (fun j=>Int.dvd_mul_of_dvd_left (hF a (.head _))) (Xy h (Xa h w fun x hx=>hF x (.tail _ hx)))
theorem AEA {p:Nat}{u v:Vz}(h:cg p (fun j=>u j+v j)) (hv:cg p v):cg p u:=fun j=>by
 have:=Int.dvd_sub (h j) (hv j)
 rwa [show u j+v j-v j=u j by omega] at this
theorem Vm {p:Nat}:∀ (n:Nat) (r:List Int),r.length=n→(∃ x∈r,¬ (p:Int)∣x)→∃ r1:List Int,1≤r1.length∧r1.length≤r.length∧¬ (p:Int)∣r1.getLastD 0∧∀ (Y:Vz→Vz) (w:Vz),V0 Y→cg p (A9 Y r w)→cg p (A9 Y r1 w)
 | 0,r,h,⟨x,hx,_⟩=>by rw [List.length_eq_zero_iff.1 h] at hx;cases hx
 | n+1,r,h,⟨x,hx,hn⟩=>by
  by_cases hl:(p:Int)∣r.getLastD 0
  ·have hs:=Oe (l:=r) (by omega)
   have hx':x∈r.dropLast:=by
    rw [hs] at hx
    rcases List.mem_append.1 hx with h1|h1
    ·exact h1
    ·rw [List.mem_singleton.1 h1] at hn;exact absurd hl hn
   obtain ⟨r1,a1,a2,a3,a4⟩:=Vm n r.dropLast (by rw [List.length_dropLast];omega) ⟨x,hx',hn⟩
   refine ⟨r1,a1,by rw [List.length_dropLast] at a2;omega,a3,fun Y w hY hc=>a4 Y w hY ?_⟩
   rw [hs,Gy hY] at hc
   exact AEA hc fun j=>Int.dvd_mul_of_dvd_left hl
  ·exact ⟨r,by omega,Nat.le_refl _,hl,fun _ _ _ h=>h⟩
theorem ADQ {Y:Vz→Vz}(h:V0 Y) (c:Int) (w:Vz):∀ F:List Int,A9 Y (F.map (c*·)) w=fun j=>c*A9 Y F w j
 | []=>by funext j;simp [A9]
 | a::F=>by
  funext j
  show c*a*w j+Y (A9 Y (F.map (c*·)) w) j=c*(a*w j+Y (A9 Y F w) j)
  rw [ADQ h c w F,h.mul]
  grind
def AAQ (p:Nat) (f:List Int):Prop:=∃ g s:List Int,1≤g.length∧1≤s.length∧g.length+s.length=f.length∧cg p (A9 (Xg g) (f++[1]) Bf)∧cg p (A9 (Xg s) (f++[1]) Bf)
theorem AF0 {p:Nat}(hp:Prm p) {f:List Int}(hf:1≤f.length) {b:Vz}(hb:∀ j,f.length≤j→b j=0) (hb0:¬ cg p b) :
  ∀ (n:Nat) (F:List Int),F.length=n→1≤n→n≤f.length→¬ (p:Int)∣F.getLastD 0→cg p (A9 (Xg f) F b)→AAQ p f:=by
 intro n
 induction n using Nat.strongRecOn with
 | _ n ih =>
  intro F hn h1 h2 hl hc
  have hX:=Dx f
  have hs:=Oe (l:=F) (by omega)
  obtain ⟨c',hc'⟩:=AHD hp hl
  generalize hF0:F.dropLast=F0 at hs
  have hF0l:F0.length+1=n:=by rw [← hF0,List.length_dropLast];omega
  generalize hcc:F.getLastD 0=c at *
  -- made monic
  have hm:cg p (A9 (Xg f) (F0.map (c'*·)++[1]) b):=by
   rw [hs,Gy hX] at hc
   have h3:=AIs c' hc
   rw [Gy hX,ADQ hX,List.length_map]
   refine fun j=>?_
   have e:c'*A9 (Xg f) F0 b j+1*H6 (Xg f) F0.length b j=c'*(A9 (Xg f) F0 b j+c*H6 (Xg f) F0.length b j)-(c*c'-1)*H6 (Xg f) F0.length b j:=by grind
   show (p:Int)∣c'*A9 (Xg f) F0 b j+1*H6 (Xg f) F0.length b j
   rw [e]
   exact Int.dvd_sub (h3 j) (Int.dvd_mul_of_dvd_left hc')
  generalize hg:F0.map (c'*·)=g at hm
  have hgl:g.length=F0.length:=by rw [← hg,List.length_map]
  by_cases hg0:g.length=0
  ·exfalso
   rw [List.length_eq_zero_iff.1 hg0] at hm
   refine hb0 fun j=>?_
   have:=hm j
   have e:A9 (Xg f) ([]++[1]) b j=b j:=by
    show 1*b j+Xg f (fun _=>0) j=b j
    rw [hX.zero];simp
   rwa [e] at this
  -- division
  let d:=g.length
  let A:=(f++[1]).take (f.length+1-d)
  let r0:=(f++[1]).drop (f.length+1-d)
  have hA:A.length=f.length+1-d:=by simp only [A,List.length_take,List.length_append,List.length_singleton];omega
  have hr0:r0.length=d:=by simp only [r0,List.length_drop,List.length_append,List.length_singleton];omega
  have hAr:f++[1]=A++r0:=(List.take_append_drop _ _).symm
  have hlast:r0.getLastD 0=1:=by
   have h3:r0=(f.drop (f.length+1-d))++[1]:=by
    simp only [r0]
    rw [List.drop_append_of_le_length (by omega)]
   rw [h3];simp
  obtain ⟨q1,q2⟩:=Uh (g:=g) (F:=A) (r0:=r0) (by omega) hr0
  have ev:=fun {Y:Vz→Vz}(hY:V0 Y) (w:Vz)=>AAA hY (g:=g) (by omega) w (F:=A) (r0:=r0) hr0
  have qt:=Yr g (F:=A) (r0:=r0) (by omega)
  rw [hlast] at qt
  rw [← hAr] at ev
  generalize (Nc g A r0).1=s' at *
  generalize (Nc g A r0).2=r at *
  have hr:cg p (A9 (Xg f) r b):=by
   have h3:=ev hX b
   rw [AED hf hb] at h3
   have h4:cg p (A9 (Xg f) s' (A9 (Xg f) (g++[1]) b)):=Xy (Kb hX s') hm
   refine fun j=>?_
   have h5:=congrFun h3 j
   have e:A9 (Xg f) r b j=-(A9 (Xg f) s' (A9 (Xg f) (g++[1]) b) j):=by
    have h5:(0:Int)=A9 (Xg f) s' (A9 (Xg f) (g++[1]) b) j+A9 (Xg f) r b j:=h5
    omega
   rw [e];exact (Int.dvd_neg).2 (h4 j)
  by_cases hz:∃ x∈r,¬ (p:Int)∣x
  ·obtain ⟨r1,a1,a2,a3,a4⟩:=Vm r.length r rfl hz
   exact ih r1.length (by omega) r1 rfl a1 (by omega) a3 (a4 _ _ hX hr)
  ·have hz:∀ x∈r,(p:Int)∣x:=fun x hx=>Classical.byContradiction fun h=>hz ⟨x,hx,h⟩
   have hss:=Oe (l:=s') (by omega)
   rw [qt] at hss
   have q3:s'.dropLast.length=s'.length-1:=List.length_dropLast
   generalize s'.dropLast=s at *
   refine ⟨g,s,by omega,by omega,by omega,?_,?_⟩
   ·rw [ev (Dx g) Bf,Q3 (by omega),(Kb (Dx g) s').zero]
    exact ADf (AAM p) (Xa (Dx g) Bf hz)
   ·have hY:=Dx s
    rw [ev hY Bf]
    refine ADf ?_ (Xa hY Bf hz)
    rw [I8 hY,hss,Q3 (by omega),(Kb hY _).zero]
    exact AAM p
theorem AGM {p:Nat}(hp:Prm p) {f:List Int}(hf:1≤f.length) (hs:¬ AAQ p f) {a:List Int}(ha:a.length≤f.length) {b:Vz}(hb:∀ j,f.length≤j→b j=0) (h:cg p (A9 (Xg f) a b)) :
  (∀ x∈a,(p:Int)∣x)∨cg p b:=by
 by_cases hb0:cg p b
 ·exact .inr hb0
 ·refine .inl fun x hx=>Classical.byContradiction fun hn=>?_
  obtain ⟨r1,a1,a2,a3,a4⟩:=Vm a.length a rfl ⟨x,hx,hn⟩
  exact hs (AF0 hp hf hb hb0 r1.length r1 rfl a1 (by omega) a3 (a4 _ _ (Dx f) h))
def C5 (p:Nat):Nat→Nat→List Nat
 | 0,_=>[]
 | n+1,x=>x % p::C5 p n (x / p)
def Fi (p:Nat):List Nat→Nat
 | []=>0
 | d::l=>d+p*Fi p l
theorem C4 (p:Nat):∀ (n x:Nat),(C5 p n x).length=n
 | 0,_=>rfl
 | n+1,x=>by rw [C5,List.length_cons,C4 p n]
theorem Js {p:Nat}(hp:0<p):∀ {n x:Nat},∀ d∈C5 p n x,d<p
 | 0,_,d,h=>by cases h
 | n+1,x,d,h=>by
  rcases List.mem_cons.1 h with rfl|h
  ·exact Nat.mod_lt _ hp
  ·exact Js hp d h
theorem ABZ {p:Nat}(hp:0<p):∀ {n x:Nat},x<p ^ n→Fi p (C5 p n x)=x
 | 0, x, h => by have : x = 0 := by simpa using h
                 rw [this]; rfl
 | n+1,x,h=>by
  rw [C5,Fi,ABZ hp (by rw [Nat.div_lt_iff_lt_mul hp];rwa [Nat.pow_succ] at h)]
  exact Nat.mod_add_div x p
theorem Yk {p:Nat}(hp:0<p):∀ {l:List Nat},(∀ d∈l,d<p)→C5 p l.length (Fi p l)=l
 | [],_=>rfl
 | d::l,h=>by
  have hd:=h d (.head _)
  rw [List.length_cons,C5,Fi,Nat.add_mul_mod_self_left,Nat.mod_eq_of_lt hd,Nat.add_mul_div_left _ _ hp,Nat.div_eq_of_lt hd,Nat.zero_add,Yk hp fun e he=>h e (.tail _ he)]
theorem Mn {p:Nat}(hp:0<p):∀ {l:List Nat},(∀ d∈l,d<p)→Fi p l<p ^ l.length
 | [],_=>by simp [Fi]
 | d::l,h=>by
  have hd:=h d (.head _)
  have ih:=Mn hp (l:=l) fun e he=>h e (.tail _ he)
  rw [Fi,List.length_cons,Nat.pow_succ]
  have h2:p*(Fi p l+1)≤p*p ^ l.length:=Nat.mul_le_mul_left p ih
  rw [Nat.mul_add,Nat.mul_one] at h2
  rw [Nat.mul_comm (p ^ l.length)]
  omega
theorem Xh (p:Nat):∀ n,C5 p n 0=List.replicate n 0
 | 0=>rfl
 | n+1=>by rw [C5,Nat.zero_mod,Nat.zero_div,Xh p n];rfl
def Br (l:List Nat):List Int:=l.map fun x:Nat=>(x:Int)
def Cn (p m x:Nat):Vz:=Dw (Br (C5 p m x))
def un (p m:Nat) (v:Vz):Nat:=Fi p ((List.range m).map fun j=>(v j % p).toNat)
theorem Uv {p m x j:Nat}(h:m≤j):Cn p m x j=0:=Kj (by rw [Br,List.length_map,C4];exact h)
theorem Pj {p m x j:Nat}(h:j<m):Cn p m x j=(((C5 p m x).getD j 0:Nat):Int):=by
 rw [Cn,Dw,Br,List.getD_eq_getElem?_getD,List.getElem?_map,List.getD_eq_getElem?_getD]
 rw [List.getElem?_eq_getElem (by rw [C4];exact h)];rfl
theorem AA6 {p m:Nat}(hp:0<p) (v:Vz):∀ d∈(List.range m).map fun j=>(v j % p).toNat,d<p:=fun d hd=>by
 obtain ⟨j,_,rfl⟩:=List.mem_map.1 hd
 have h1:=Int.emod_lt_of_pos (v j) (show (0:Int)<p by omega)
 have h2:=Int.emod_nonneg (v j) (show (p:Int)≠0 by omega)
 omega
theorem Wg {p m:Nat}(hp:0<p) (v:Vz):un p m v<p ^ m:=by
 have:=Mn hp (AA6 (m:=m) hp v)
 rwa [List.length_map,List.length_range] at this
theorem AIY {p m j:Nat}(hp:0<p) (v:Vz) (h:j<m):Cn p m (un p m v) j=v j % p:=by
 have e:=Yk hp (AA6 (m:=m) hp v)
 rw [List.length_map,List.length_range] at e
 rw [Pj h,un,e,List.getD_eq_getElem?_getD,List.getElem?_map,List.getElem?_range h]
 show (((v j % p).toNat:Nat):Int)=_
 have h2:=Int.emod_nonneg (v j) (show (p:Int)≠0 by omega)
 omega
theorem Fo {p m:Nat}{u v:Vz}(h:∀ j,j<m→(p:Int)∣u j-v j):un p m u=un p m v:=by
 rw [un,un]
 congr 1
 refine List.map_congr_left fun j hj=>?_
 rw [(Int.emod_eq_emod_iff_emod_sub_eq_zero).2 (Int.emod_eq_zero_of_dvd (h j (List.mem_range.1 hj)))]
theorem Px {p m x:Nat}(hp:0<p) (h:x<p ^ m):un p m (Cn p m x)=x:=by
 have e:(List.range m).map (fun j=>(Cn p m x j % p).toNat)=C5 p m x:=by
  refine List.ext_getElem? fun j=>?_
  rw [List.getElem?_map]
  by_cases hj:j<m
  ·rw [List.getElem?_range hj]
   show some ((Cn p m x j % p).toNat)=_
   rw [Pj hj]
   have hl:j<(C5 p m x).length:=by rw [C4];exact hj
   rw [List.getElem?_eq_getElem hl,List.getD_eq_getElem?_getD,List.getElem?_eq_getElem hl]
   have hd:=Js hp _ (List.getElem_mem hl)
   congr 1
   simp only [Option.getD_some]
   rw [Int.emod_eq_of_lt (by omega) (by omega)]
   omega
  ·rw [List.getElem?_eq_none (by simpa using hj),List.getElem?_eq_none (by rw [C4];omega)];rfl
 rw [un,e,ABZ hp h]
theorem C3 {p m:Nat}(hp:0<p) (v:Vz) {j:Nat}(h:j<m):(p:Int)∣Cn p m (un p m v) j-v j:=by
 rw [AIY hp v h]
 have:=Int.emod_add_mul_ediv (v j) p
 exact ⟨-(v j / p),by rw [Int.mul_neg];omega⟩
theorem ADW {p m x y:Nat}(hp:0<p) (hx:x<p ^ m) (hy:y<p ^ m) (h:∀ j,j<m→(p:Int)∣Cn p m x j-Cn p m y j):x=y:=by
 rw [← Px hp hx,← Px hp hy];exact Fo h
theorem Ha (p m:Nat) (j:Nat):Cn p m 0 j=0:=by
 by_cases h:j<m
 ·rw [Pj h,Xh,List.getD_eq_getElem?_getD,List.getElem?_replicate,if_pos h];rfl
 ·exact Uv (by omega)
structure Fld (q:Nat) (A M:Nat→Nat→Nat):Prop where
 q2:2≤q
 al:∀ x y,x<q→y<q→A x y<q
 ac:∀ x y,x<q→y<q→A x y=A y x
 aa:∀ x y z,x<q→y<q→z<q→A (A x y) z=A x (A y z)
 a0:∀ x,x<q→A x 0=x
 an:∀ x,x<q→∃ y,y<q∧A x y=0
 ml:∀ x y,x<q→y<q→M x y<q
 mc:∀ x y,x<q→y<q→M x y=M y x
 ma:∀ x y z,x<q→y<q→z<q→M (M x y) z=M x (M y z)
 md:∀ x y z,x<q→y<q→z<q→M x (A y z)=A (M x y) (M x z)
 m1:∀ x,x<q→M x 1=x
 nz:∀ x y,x<q→y<q→M x y=0→x=0∨y=0
def fA (p m x y:Nat):Nat:=un p m fun j=>Cn p m x j+Cn p m y j
def Cd (f:List Int) (u v:Vz):Vz:=A9 (Xg f) ((List.range f.length).map u) v
def fM (p:Nat) (f:List Int) (x y:Nat):Nat:=un p f.length (Cd f (Cn p f.length x) (Cn p f.length y))
theorem Uw (f:List Int) (u:Vz):V0 (Cd f u):=Kb (Dx f) _
theorem Of {f:List Int}{u v:Vz}(hu:∀ j,f.length≤j→u j=0) (hv:∀ j,f.length≤j→v j=0):Cd f u v=Cd f v u:=by
 rw [Cd,Cd]
 conv=>lhs;rw [← Nt (g:=f) hv]
 conv=>rhs;rw [← Nt (g:=f) hu]
 exact I8 (Dx f) _ _ _
theorem AFJ {g:List Int}{v:Vz}{j:Nat}(h:g.length≤j):Xg g v j=0:=if_neg (by omega)
theorem AHJ {g:List Int}:∀ {F:List Int}{v:Vz},(∀ j,g.length≤j→v j=0)→∀ j,g.length≤j→A9 (Xg g) F v j=0
 | [],_,_,_,_=>rfl
 | a::F,v,hv,j,hj=>by
  show a*v j+Xg g (A9 (Xg g) F v) j=0
  rw [hv j hj,AFJ hj];simp
theorem ABE {f:List Int}{u v:Vz}(hv:∀ j,f.length≤j→v j=0):∀ j,f.length≤j→Cd f u v j=0:=AHJ hv
theorem Mu {p:Nat}{f:List Int}(u:Vz) {v w:Vz}(h:cg p fun j=>v j-w j):cg p fun j=>Cd f u v j-Cd f u w j:=by
 have e:(fun j=>Cd f u v j-Cd f u w j)=Cd f u (fun j=>v j-w j):=by
  have:=Uw f u 1 (-1) v w
  have e1:(fun j=>1*v j+-1*w j)=fun j=>v j-w j:=by funext j;omega
  rw [e1] at this
  rw [this];funext j;omega
 rw [e]
 exact Xy (Uw f u) h
theorem AI6 {p m:Nat}{u v:Vz}(hu:∀ j,m≤j→u j=0) (hv:∀ j,m≤j→v j=0) (h:∀ j,j<m→(p:Int)∣u j-v j):cg p fun j=>u j-v j:=fun j=>by
 by_cases hj:j<m
 ·exact h j hj
 ·show (p:Int)∣u j-v j
  rw [hu j (by omega),hv j (by omega)];exact Int.dvd_zero _
theorem Ef {a b c:Int}(h:a∣b) (e:b=c):a∣c:=e▸h
theorem AEn {m:Nat}{u v:Vz}(hu:∀ j,m≤j→u j=0) (hv:∀ j,m≤j→v j=0):∀ j,m≤j→(fun j=>u j+v j) j=0:=fun j hj=>by
 show u j+v j=0
 rw [hu j hj,hv j hj];rfl
theorem rp (p m x:Nat):∀ j,m≤j→Cn p m x j=0:=fun _ h=>Uv h
theorem Hu {p m:Nat}(hp:0<p) {v:Vz}(hv:∀ j,m≤j→v j=0):cg p fun j=>Cn p m (un p m v) j-v j:=AI6 (rp p m _) hv fun _ h=>C3 hp v h
theorem ADX {p m:Nat}(hp:2≤p) (hm:1≤m):Cn p m 1=Bf:=by
 obtain ⟨k,rfl⟩:∃ k,m=k+1:=⟨m-1,by omega⟩
 funext j
 by_cases hj:j<k+1
 ·rw [Pj hj,C5,Nat.mod_eq_of_lt (by omega),Nat.div_eq_of_lt (by omega),Xh]
  cases j with
  | zero=>rfl
  | succ j=>rw [List.getD_cons_succ,List.getD_eq_getElem?_getD,List.getElem?_replicate,if_pos (by omega)];rfl
 ·rw [Uv (by omega),Bf,if_neg (by omega)]
theorem AIR {p:Nat}(hp:Prm p) {f:List Int}(hf:1≤f.length) (hs:¬ AAQ p f):Fld (p ^ f.length) (fA p f.length) (fM p f):=by
 have hp0:0<p:=by have:=hp.1;omega
 generalize hm:f.length=m at *
 have hq:1<p ^ m:=Nat.one_lt_pow (by omega) hp.1
 have uc:∀ {u v:Vz},(cg p fun j=>u j-v j)→un p m u=un p m v:=fun h=>Fo fun j _=>h j
 have mo:∀ {u v:Vz},(∀ j,m≤j→v j=0)→∀ j,m≤j→Cd f u v j=0:=fun hv=>by rw [← hm] at hv ⊢;exact ABE hv
 have mcm:∀ {u v:Vz},(∀ j,m≤j→u j=0)→(∀ j,m≤j→v j=0)→Cd f u v=Cd f v u:=fun hu hv=>by rw [← hm] at hu hv;exact Of hu hv
 have fMe:∀ x y,fM p f x y=un p m (Cd f (Cn p m x) (Cn p m y)):=fun x y=>by rw [fM,hm]
 have mass:∀ {u v w:Vz},(∀ j,m≤j→u j=0)→(∀ j,m≤j→v j=0)→(∀ j,m≤j→w j=0)→Cd f (Cd f u v) w=Cd f u (Cd f v w):=fun {u v w} hu hv hw=>by
  rw [mcm (mo hv) hw,mcm hv hw]
  exact I8 (Dx f) _ _ _
 refine ⟨by omega,fun x y _ _=>Wg hp0 _,fun x y _ _=>?_,fun x y z _ _ _=>?_,fun x hx=>?_,fun x hx=>?_,fun x y _ _=>by rw [fMe];exact Wg hp0 _,fun x y _ _=>?_,fun x y z _ _ _=>?_,fun x y z _ _ _=>?_,fun x hx=>?_,fun x y hx hy h=>?_⟩
 ·exact congrArg (un p m) (funext fun j=>Int.add_comm _ _)
 ·refine Fo fun j hj=>?_
  have h1:=C3 hp0 (fun j=>Cn p m x j+Cn p m y j) hj
  have h2:=C3 hp0 (fun j=>Cn p m y j+Cn p m z j) hj
  have:=Int.dvd_sub h1 h2
  rw [fA,fA]
  exact Ef this (by omega)
 ·rw [fA,show (fun j=>Cn p m x j+Cn p m 0 j)=Cn p m x from funext fun j=>by rw [Ha];omega]
  exact Px hp0 hx
 ·refine ⟨un p m fun j=>-Cn p m x j,Wg hp0 _,?_⟩
  rw [fA]
  have:un p m (fun j=>Cn p m x j+Cn p m (un p m fun j=>-Cn p m x j) j)=un p m (Cn p m 0):=Fo fun j hj=>by
   have h1:=C3 hp0 (fun j=>-Cn p m x j) hj
   rw [Ha]
   exact Ef h1 (by omega)
  rw [this,Px hp0 (by omega)]
 ·rw [fMe,fMe,mcm (rp p m x) (rp p m y)]
 ·rw [fMe,fMe,fMe,fMe]
  have e1:un p m (Cd f (Cn p m (un p m (Cd f (Cn p m x) (Cn p m y)))) (Cn p m z))=un p m (Cd f (Cd f (Cn p m x) (Cn p m y)) (Cn p m z)):=by
   rw [mcm (rp p m _) (rp p m z),mcm (mo (rp p m y)) (rp p m z)]
   exact uc (Mu _ (Hu hp0 (mo (rp p m y))))
  have e2:un p m (Cd f (Cn p m x) (Cn p m (un p m (Cd f (Cn p m y) (Cn p m z)))))=un p m (Cd f (Cn p m x) (Cd f (Cn p m y) (Cn p m z))):=uc (Mu _ (Hu hp0 (mo (rp p m z))))
  rw [e1,e2,mass (rp p m x) (rp p m y) (rp p m z)]
 ·rw [fMe,fMe,fMe,fA,fA]
  have e1:un p m (Cd f (Cn p m x) (Cn p m (un p m fun j=>Cn p m y j+Cn p m z j)))=un p m (Cd f (Cn p m x) (fun j=>Cn p m y j+Cn p m z j)):=uc (Mu _ (Hu hp0 (AEn (rp p m y) (rp p m z))))
  rw [e1,(Uw f _).add]
  refine Fo fun j hj=>?_
  have h1:=C3 hp0 (Cd f (Cn p m x) (Cn p m y)) hj
  have h2:=C3 hp0 (Cd f (Cn p m x) (Cn p m z)) hj
  have h3:=Int.dvd_add h1 h2
  exact Ef (Int.dvd_neg.2 h3) (by omega)
 ·rw [fMe,ADX hp.1 hf,Cd,Nt (g:=f) (fun j hj=>rp p m x j (by omega)),Px hp0 hx]
 ·rw [fMe] at h
  have hc:cg p (Cd f (Cn p m x) (Cn p m y)):=fun j=>by
   by_cases hj:j<m
   ·have h1:=C3 hp0 (Cd f (Cn p m x) (Cn p m y)) hj
    rw [h,Ha] at h1
    have:=Int.dvd_neg.2 h1
    rwa [show -(0-Cd f (Cn p m x) (Cn p m y) j)=Cd f (Cn p m x) (Cn p m y) j by omega] at this
   ·rw [mo (rp p m y) j (by omega)];exact Int.dvd_zero _
  rcases AGM hp (by omega) hs (by simp) (fun j hj=>rp p m y j (by omega)) hc with h1|h1
  ·refine .inl (ADW hp0 hx (by omega) fun j hj=>?_)
   rw [Ha,Int.sub_zero]
   exact h1 _ (List.mem_map.2 ⟨j,List.mem_range.2 (by omega),rfl⟩)
  ·refine .inr (ADW hp0 hy (by omega) fun j hj=>?_)
   rw [Ha,Int.sub_zero]
   exact h1 j
def sg (neg:Bool) (n:Nat):Int:=if neg then -(n:Int) else n
abbrev Rt3:=Bool×List Nat×List Nat
def vq (r:Rt3):Rat:=mkRat (sg r.1 (val r.2.1)) (val r.2.2)
def rt (q:Rat):Rt3:=(decide (q.num<0),AFj q.num.natAbs,AFj q.den)
abbrev Zs:=Bool×Nat
def AJK (a b:Zs):Zs:=if a.1=b.1 then (a.1,a.2+b.2) else if a.2<b.2 then (b.1,b.2-a.2) else (a.1,a.2-b.2)
def AFx (a b:Zs):Zs:=AJK a (!b.1,b.2)
def AI3 (a b:Zs):Zs:=(a.1 != b.1,a.2*b.2)
def iv (a:Zs):Int:=sg a.1 a.2
def ADH (q:Nat) (f:Nat→Zs):Nat→Zs
 | 0=>f 0
 | k+1=>AFx (AFx (f (k+1)) (f k)) (AI3 (false,q-1) (ADH q f k))
def tz (q n:Nat):Nat→Nat→Zs
 | 0=>fun k=>(false,B7 n k*(q-1) ^ k)
 | x+1=>ADH q (tz q n x)
def qAt (L:List Rt3) (i:Nat):Rat:=vq (L.getD i default)
def wz (L:List Rt3) (D i:Nat):Zs:=(decide ((qAt L i).num<0),(qAt L i).num.natAbs*(D / (qAt L i).den))
def rs:Nat→(Nat→Rat)→Rat
 | 0,_=>0
 | n+1,f=>rs n f+f n
def pk (a:Int):List Int→List Int→(Nat→Int)
 | x::u,y::v=>lin (if x=y then a else -1) (pk a u v)
 | _,_=>dl
def Nn (q:Nat) (x y:Int):Int:=if x=y then (q:Int)-1 else -1
theorem ACa (n:Nat) (c:Int):sm n (fun _=>c)=n*c:=by
 induction n with
 | zero=>simp [sm]
 | succ n ih=>rw [sm,ih];grind
theorem AEB {n:Nat}{f:Nat→Int}(h:∀ i,i<n→0≤f i):0≤sm n f:=by
 induction n with
 | zero=>exact Int.le_refl 0
 | succ n ih =>
  have h1:=ih fun i hi=>h i (by omega)
  have h2:=h n (by omega)
  rw [sm];omega
theorem AEb {n x:Nat}(h:x<n) (g:Nat→Int):sm n (fun d=>if x=d then g d else 0)=g x:=by
 induction n with
 | zero=>omega
 | succ n ih =>
  rw [sm]
  by_cases e:x=n
  ·subst e
   rw [if_pos rfl,Rj (g:=fun _=>0) fun i hi=>if_neg (show ¬ x=i by omega),U3];omega
  ·rw [if_neg e,ih (by omega)];omega
end Go.Proofs.YteadncphjconmaaGreat
