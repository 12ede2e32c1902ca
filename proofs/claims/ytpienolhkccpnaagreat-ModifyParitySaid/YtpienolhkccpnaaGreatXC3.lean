/-
The fifteenth text of the frame: several blocks handed to a callee; own blocks lent to a callee that reads alone; rows of rows of one's own. What the table of types of the program says, a closed fact each. The functions of the program, each with its body. The sixteenth text of the frame: function values, and calls of them. The seventeenth text of the frame: blocks that are given up and known cell by cell, such as a struct behind a pointer. The eighteenth text of the frame: several facts as one, for functions that are handed a function value. The frame's steps taken by themselves: what comes next in a walk is read off the place, and its law is applied. The table of types as lists that are looked up. A walk taken by itself, as far as its laws reach: each default proof is a script of ordinary tactics. The frame's last text: from a contract of a law to the given statement: arguments are opened, and read the same afterwards. Linear programs over the fractions: weak duality, the lemma of Farkas, rays, complementary slackness. The nineteenth text of the frame: room made ahead (append of a made slice to a nil one), the builtin cap, a slice of nil. The twentieth text of the frame: ranges over functions: rounds, iterators, the statement.
-/
import Derived.Test.YtpienolhkccpnaaGreatProg
import Derived.Laws.CopyRow
import Derived.Laws.IdiomCopy
import Derived.Lib.LazyBuf
import Derived.Calls
import Derived.SizedLaws
import Derived.OpenShut
import Derived.ChangeOld
import Derived.Carry
import Derived.ChangeArms
import Derived.Deep.Slices
import Derived.RangeFuncRecord
import Derived.Test.YtpienolhkccpnaaGreatXC2
set_option linter.unusedVariables false
set_option linter.unusedSimpArgs false
namespace Go.Fw
open Go.RowKit (Below)
set_option linter.unusedVariables false
abbrev Hd:=Option Nat×Nat×Nat
def Sl:Enc Hd where
 size:=1
 bytes:=24
 rd:=fun _ _ vs h=>vs=[.slice (ad h.1) h.2.1 h.2.2]
 len:=fun h=>by rw [h];rfl
 one:=fun h v hv=>by rw [h] at hv;obtain rfl:=List.mem_singleton.1 hv;rfl
 stable:=fun _ h=>h
theorem T2 {w:World}{A:Nat→Prop}(bo:Option Nat) (n c:Nat):Sl.rd w A [.slice (ad bo) n c] (bo,n,c):=rfl
def Ek {α:Type}(f:Nat→α) (i:Nat) (v:α):Nat→α:=fun j=>if j=i then v else f j
theorem Bo {α:Type}(f:Nat→α) (i:Nat) (v:α):Ek f i v i=v:=if_pos rfl
theorem C0 {α:Type}{f:Nat→α}{i j:Nat}{v:α}(h:j≠i):Ek f i v j=f j:=if_neg h
def Iy (hd:Nat→Hd) (m:Nat):List Hd:=(List.range m).map hd
theorem Ss {hd:Nat→Hd}{m:Nat}:(Iy hd m).length=m:=by simp [Iy]
theorem Ld {hd:Nat→Hd}{m i:Nat}(h:i<m):(Iy hd m)[i]?=some (hd i):=by
 rw [Iy,List.getElem?_map,List.getElem?_range h];rfl
theorem K0 {hd:Nat→Hd}{m i:Nat}{z:Hd}:(Iy hd m).set i z=Iy (Ek hd i z) m:=by
 refine List.ext_getElem? fun j=>?_
 rw [List.getElem?_set]
 by_cases e:i=j
 ·subst e
  by_cases h:i<m
  ·rw [if_pos rfl,if_pos (by rw [Ss];exact h),Ld h,Bo]
  ·rw [if_pos rfl,if_neg (by rw [Ss];exact h),List.getElem?_eq_none (by rw [Ss];omega)]
 ·rw [if_neg e]
  by_cases h:j<m
  ·rw [Ld h,Ld h,C0 fun h=>e h.symm]
  ·rw [List.getElem?_eq_none (by rw [Ss];omega),List.getElem?_eq_none (by rw [Ss];omega)]
def C8 (e:TypeId) (hd:Nat→Hd) (cs:Nat→List Value) (m:Nat) (sk:List Nat):List A4 :=
 ((List.range m).filter fun i=>!Bc i sk).map fun i=>((hd i).1,e,cs i)
def Ei {α:Type}(E:Enc α) (hd:Nat→Hd) (cs:Nat→List Value) (ls:Nat→List α) (m:Nat) (sk:List Nat):Fact where
 holds:=fun w A=>∀ i,i<m→Bc i sk=false→(A7 E ⟨(hd i).1,(hd i).2.2,cs i⟩ (hd i).2.1 (ls i)).holds w A
 stable:=fun h hh i hi hs=>(A7 E _ _ (ls i)).stable h (hh i hi hs)
theorem Ag {i j:Nat}{sk:List Nat}:Bc i (j::sk)=(decide (i=j) || Bc i sk):=by
 simp only [Bc]
 by_cases h:i=j
 ·subst h;simp
 ·have:Nat.beq i j=false:=by
   cases hb:Nat.beq i j with
   | true=>exact absurd (Nat.eq_of_beq_eq_true hb) h
   | false=>rfl
  simp [this,h]
theorem ACB {l:List Nat}(hl:l.Nodup) {i:Nat}{sk:List Nat}(hi:i∈l) (hs:Bc i sk=false) :
  (i::l.filter fun j=>!Bc j (i::sk)).Perm (l.filter fun j=>!Bc j sk):=by
 induction l with
 | nil=>cases hi
 | cons x l ih =>
  have hx:=List.nodup_cons.1 hl
  by_cases e:x=i
  ·subst e
   have h1:l.filter (fun j=>!Bc j (x::sk))=l.filter (fun j=>!Bc j sk):=by
    refine List.filter_congr fun j hj=>?_
    have:j≠x:=fun h=>hx.1 (h▸hj)
    rw [Ag];simp [this]
   rw [List.filter_cons_of_neg (by rw [Ag];simp),List.filter_cons_of_pos (by simp [hs]),h1]
  ·have hi':i∈l:=(List.mem_cons.1 hi).resolve_left fun h=>e h.symm
   have ih:=ih hx.2 hi'
   by_cases hxs:Bc x sk=true
   ·rw [List.filter_cons_of_neg (by rw [Ag];simp [hxs]),List.filter_cons_of_neg (by simp [hxs])]
    exact ih
   ·have hxs:Bc x sk=false:=by simpa using hxs
    rw [List.filter_cons_of_pos (by rw [Ag];simp [hxs,e]),List.filter_cons_of_pos (by simp [hxs])]
    exact (List.Perm.swap x i _).trans (List.Perm.cons x ih)
theorem Y5 {e:TypeId}{hd:Nat→Hd}{cs:Nat→List Value}{m i:Nat}{sk:List Nat}(hi:i<m) (hs:Bc i sk=false) :
  (((hd i).1,e,cs i)::C8 e hd cs m (i::sk)).Perm (C8 e hd cs m sk) :=
 (ACB List.nodup_range (List.mem_range.2 hi) hs).map fun i=>(((hd i).1,e,cs i):A4)
theorem AH6 {e:TypeId}{hd hd':Nat→Hd}{cs cs':Nat→List Value}{m:Nat}{sk:List Nat}(h:∀ j,j<m→Bc j sk=false→(hd j).1=(hd' j).1∧cs j=cs' j):C8 e hd cs m sk=C8 e hd' cs' m sk:=by
 refine List.map_congr_left fun j hj=>?_
 obtain ⟨h1,h2⟩:=List.mem_filter.1 hj
 obtain ⟨h3,h4⟩:=h j (List.mem_range.1 h1) (by simpa using h2)
 rw [h3,h4]
section
variable {P:Program}{F:Fun P}{C:Cx}{S:List It}{σ:Fr}{β:List A4}{Γ:List Fact}{R:Value→World→Prop}{p:List Nat}{i:Nat}{d:Option Tmp}{op:Op}{ty:TypeId}{K:Value→List A4→List Fact→Prop}
theorem AIv {α:Type}{E:Enc α}{e:TypeId}{pre post:List A4}{hd:Nat→Hd}{cs:Nat→List Value}{ls:Nat→List α}{m:Nat}{sk:List Nat}(i j N:Nat) (hβ:β=pre++(C8 e hd cs m sk++post)) (hj:A5 Γ j=some (Ei E hd cs ls m sk)) (hi:i<m) (hs:Bc i sk=false) (hN:(hd i).2.1=N)
  (h:∀ r:Row,(Iy hd m)[i]?=some (r.bo,N,r.cap)→J F C S σ ((r.bo,e,r.cs)::(pre++(C8 e hd cs m (i::sk)++post))) (A7 E r N (ls i)::Ei E hd cs ls m (i::sk)::Γ) R):J F C S σ β Γ R:=by
 subst hβ
 have hp:(((hd i).1,e,cs i)::(pre++(C8 e hd cs m (i::sk)++post))).Perm (pre++(C8 e hd cs m sk++post)) :=
  List.Perm.trans List.perm_middle.symm (List.Perm.append_left pre (List.Perm.append_right post (Y5 (e:=e) (hd:=hd) (cs:=cs) hi hs)))
 refine AHP hp ?_
 refine Eh (Ei E hd cs ls m (i::sk)) (fun w A hG k hk hks=>?_) ?_
 ·rw [Ag] at hks
  simp only [Bool.or_eq_false_iff,decide_eq_false_iff_not] at hks
  exact hG _ (Af hj) k hk hks.2
 ·refine Eh (A7 E ⟨(hd i).1,(hd i).2.2,cs i⟩ N (ls i)) (fun w A hG=>?_) ?_
  ·have:=hG _ (.tail _ (Af hj)) i hi hs
   rwa [hN] at this
  ·exact h ⟨(hd i).1,(hd i).2.2,cs i⟩ (by rw [Ld hi,← hN])
theorem AI3 {β:List A4}{k:Nat}{x:A4}(h:A5 β k=some x):(x::β.eraseIdx k).Perm β:=by
 rw [B8] at h
 induction β generalizing k with
 | nil=>simp at h
 | cons y l ih =>
  cases k with
  | zero=>simp at h;subst h;exact List.Perm.refl _
  | succ k =>
   rw [List.eraseIdx_cons_succ]
   exact List.Perm.trans (List.Perm.swap y x _) (List.Perm.cons y (ih (by simpa using h)))
theorem AF0 {α:Type}{E:Enc α}{e:TypeId}{pre post:List A4}{hd:Nat→Hd}{cs:Nat→List Value}{ls:Nat→List α}{m:Nat}{sk:List Nat}{r:Row}{N:Nat}{l:List α}(i k j1 j2:Nat) (hk:A5 β k=some (r.bo,e,r.cs)) (hβ:β.eraseIdx k=pre++(C8 e hd cs m (i::sk)++post))
  (h1:A5 Γ j1=some (A7 E r N l)) (h2:A5 Γ j2=some (Ei E hd cs ls m (i::sk))) (hi:i<m) (hs:Bc i sk=false)
  (h:J F C S σ (pre++(C8 e (Ek hd i (r.bo,N,r.cap)) (Ek cs i r.cs) m sk++post)) (Ei E (Ek hd i (r.bo,N,r.cap)) (Ek cs i r.cs) (Ek ls i l) m sk::Γ) R):J F C S σ β Γ R:=by
 have e0:C8 e hd cs m (i::sk)=C8 e (Ek hd i (r.bo,N,r.cap)) (Ek cs i r.cs) m (i::sk):=AH6 fun j _ hj=>by
  rw [Ag] at hj
  simp only [Bool.or_eq_false_iff,decide_eq_false_iff_not] at hj
  rw [C0 hj.1,C0 hj.1];exact ⟨rfl,rfl⟩
 have hp:(pre++(C8 e (Ek hd i (r.bo,N,r.cap)) (Ek cs i r.cs) m sk++post)).Perm β:=by
  refine List.Perm.trans ?_ (AI3 hk)
  rw [hβ,e0]
  have:=Y5 (e:=e) (hd:=Ek hd i (r.bo,N,r.cap)) (cs:=Ek cs i r.cs) hi hs
  rw [Bo,Bo] at this
  have h2:((r.bo,e,r.cs)::(C8 e (Ek hd i (r.bo,N,r.cap)) (Ek cs i r.cs) m (i::sk)++post)).Perm (C8 e (Ek hd i (r.bo,N,r.cap)) (Ek cs i r.cs) m sk++post):=List.Perm.append_right post this
  exact List.Perm.symm (List.Perm.trans List.perm_middle.symm (List.Perm.append_left pre h2))
 refine AHP hp (Eh (Ei E (Ek hd i (r.bo,N,r.cap)) (Ek cs i r.cs) (Ek ls i l) m sk) (fun w A hG q hq hqs=>?_) h)
 by_cases e1:q=i
 ·subst e1
  rw [Bo,Bo,Bo]
  exact hG _ (Af h1)
 ·rw [C0 e1,C0 e1,C0 e1]
  exact hG _ (Af h2) q hq (by rw [Ag];simp [e1,hqs])
theorem ADf {t e:TypeId}{x:Operand}{b o n cap:Nat}{cs:List Value}{l:List Hd}{z:Hd}(k j i:Nat)
  (hx:ev σ x=some (.pointer (some ⟨b,o,none⟩))) (hn:A5 β k=some (some b,e,cs)) (hj:A5 Γ j=some (A7 Sl ⟨some b,cap,cs⟩ n l)) (hT:Eb P t=some (false,1)) (ho:o=i) (hz:l[i]?=some z)
  (h:K (.slice (ad z.1) z.2.1 z.2.2) β Γ):Fb P C (.load t x) ty σ β Γ K:=fun w hO hG=>by
 subst ho
 obtain ⟨hl,_⟩:=id (hG _ (Af hj))
 have hi:o<n:=by rw [hl];exact (List.getElem?_eq_some_iff.1 hz).1
 obtain ⟨z',vs,hz',hp,e1⟩:=O4 (hG _ (Af hj)) hi
 obtain rfl:z=z':=Option.some.inj (hz.symm.trans hz')
 have e2:vs=[.slice (ad z.1) z.2.1 z.2.2]:=e1
 subst e2
 have e3:Sl.size=1:=rfl
 rw [e3,Nat.mul_one] at hp
 have hc:cs[o]?=some (.slice (ad z.1) z.2.1 z.2.2):=by
  have:=congrArg (·[0]?) hp
  simpa [List.getElem?_take,List.getElem?_drop] using this
 exact Bm k hx hn hT hc h w hO hG
theorem Su {kd:IntKind}{by':Nat}{t e:TypeId}{x:Operand}{b o n cap:Nat}{cs:List Value}{l:List Int}{z:Int}(k j i:Nat)
  (hx:ev σ x=some (.pointer (some ⟨b,o,none⟩))) (hn:A5 β k=some (some b,e,cs)) (hj:A5 Γ j=some (A7 (Dy kd by') ⟨some b,cap,cs⟩ n l)) (hT:Eb P t=some (false,1)) (ho:o=i) (hz:l[i]?=some z)
  (h:Bv kd z→K (.int kd z) β Γ):Fb P C (.load t x) ty σ β Γ K:=fun w hO hG=>by
 subst ho
 obtain ⟨hl,_⟩:=id (hG _ (Af hj))
 have hi:o<n:=by rw [hl];exact (List.getElem?_eq_some_iff.1 hz).1
 obtain ⟨z',vs,hz',hp,e1,e4⟩:=O4 (hG _ (Af hj)) hi
 obtain rfl:z=z':=Option.some.inj (hz.symm.trans hz')
 subst e1
 have e3:(Dy kd by').size=1:=rfl
 rw [e3,Nat.mul_one] at hp
 have hc:cs[o]?=some (.int kd z):=by
  have:=congrArg (·[0]?) hp
  simpa [List.getElem?_take,List.getElem?_drop] using this
 exact Bm k hx hn hT hc (h e4) w hO hG
theorem Fy {t e:TypeId}{x:Operand}{b o n cap:Nat}{cs:List Value}{l:List Hd}{z:Hd}(k j i:Nat)
  (hx:ev σ x=some (.pointer (some ⟨b,o,none⟩))) (hn:A5 β k=some (some b,e,cs)) (hj:A5 Γ j=some (A7 Sl ⟨some b,cap,cs⟩ n l)) (hT:Eb P t=some (false,1)) (ho:o=i) (hz:l[i]?=some z) :
  JD P (.load t x) ty σ β Γ (fun _=>.slice (ad z.1) z.2.1 z.2.2) (fun _=>[]):=fun C w hO hG=>by
 subst ho
 obtain ⟨hl,_⟩:=id (hG _ (Af hj))
 have hi:o<n:=by rw [hl];exact (List.getElem?_eq_some_iff.1 hz).1
 obtain ⟨z',vs,hz',hp,e1⟩:=O4 (hG _ (Af hj)) hi
 obtain rfl:z=z':=Option.some.inj (hz.symm.trans hz')
 have e2:vs=[.slice (ad z.1) z.2.1 z.2.2]:=e1
 subst e2
 have e3:Sl.size=1:=rfl
 rw [e3,Nat.mul_one] at hp
 have hc:cs[o]?=some (.slice (ad z.1) z.2.1 z.2.2):=by
  have:=congrArg (·[0]?) hp
  simpa [List.getElem?_take,List.getElem?_drop] using this
 exact (F4 (P:=P) (ty:=ty) (t:=t) hT hx (Oh hO hn hc)).ex.mono fun u w' ⟨h1,h2⟩=>by
  subst h1;subst h2
  exact ⟨Below.refl _ _,default,rfl,fun g hg=>by cases hg⟩
theorem Hk {kd:IntKind}{by':Nat}{t e:TypeId}{x:Operand}{b o n cap:Nat}{cs:List Value}{l:List Int}{z:Int}(k j i:Nat)
  (hx:ev σ x=some (.pointer (some ⟨b,o,none⟩))) (hn:A5 β k=some (some b,e,cs)) (hj:A5 Γ j=some (A7 (Dy kd by') ⟨some b,cap,cs⟩ n l)) (hT:Eb P t=some (false,1)) (ho:o=i) (hz:l[i]?=some z) :
  JD P (.load t x) ty σ β Γ (fun _=>.int kd z) (fun _=>[]):=fun C w hO hG=>by
 subst ho
 obtain ⟨hl,_⟩:=id (hG _ (Af hj))
 have hi:o<n:=by rw [hl];exact (List.getElem?_eq_some_iff.1 hz).1
 obtain ⟨z',vs,hz',hp,e1,e4⟩:=O4 (hG _ (Af hj)) hi
 obtain rfl:z=z':=Option.some.inj (hz.symm.trans hz')
 subst e1
 have e3:(Dy kd by').size=1:=rfl
 rw [e3,Nat.mul_one] at hp
 have hc:cs[o]?=some (.int kd z):=by
  have:=congrArg (·[0]?) hp
  simpa [List.getElem?_take,List.getElem?_drop] using this
 exact (F4 (P:=P) (ty:=ty) (t:=t) hT hx (Oh hO hn hc)).ex.mono fun u w' ⟨h1,h2⟩=>by
  subst h1;subst h2
  exact ⟨Below.refl _ _,default,rfl,fun g hg=>by cases hg⟩
theorem AFl {f:FuncId}{xs:List Operand}{ts:Array TypeId}{args:List Value}{Γ':List Fact}{β1 β2:List A4}{Q:Value→List Fact→List A4→Prop}(l:List Nat) (hn:(β1++β2).Perm β)
  (hx:Yv σ xs=some args) (hc:Bt P f args β1 Γ' Q) (hp:pick Γ l=some Γ')
  (h:∀ v Φ β',Q v Φ β'→K v (β'++β2) (Φ++Γ)):Fb P C (.call { callee:=.value (.func f),args:=xs.toArray,argTypes:=ts }) ty σ β Γ K:=by
 intro w hO0 hG0
 have hO:Own C w (β1++β2):=⟨hO0.ext,fun x hx=>hO0.new x (hn.subset hx),fun x hx=>hO0.blk x (hn.subset hx),by
  rw [B9]
  exact (hn.pairwise_iff (fun {x y} hxy b hb e=>hxy b e hb)).2 (B9.1 hO0.apart)⟩
 have hG:∀ f∈Γ,f.holds w (ok C w (β1++β2)):=fun f hf=>f.stable (fun k hk=>⟨⟨hk.1,hk.2.1,fun x hx=>hk.2.2 x (hn.subset hx)⟩,rfl⟩) (hG0 f hf)
 have hs1:β1.Sublist (β1++β2):=List.sublist_append_left _ _
 have hs2:β2.Sublist (β1++β2):=List.sublist_append_right _ _
 have hO2:Own C w β2:=hO.sub hs2
 have hapart:∀ x∈β1,∀ y∈β2,∀ b,x.1=some b→y.1≠some b:=by
  have:=B9.1 hO.apart
  rw [List.pairwise_append] at this
  exact fun x hx y hy b hb=>this.2.2 x hx y hy b hb
 have hcall:=hc.2 w (ok C w (β1++β2)) (fun k hk=>hk.2.1) (fun x hx b hb=>hO.blk x (hs1.subset hx) b hb)
  (hO.sub hs1).apart (fun g hg=>g.stable (fun k hk=>⟨⟨hk,fun ⟨x,hx,e⟩=>hk.2.2 x (hs1.subset hx) e⟩,rfl⟩) (hG g (Ee hp g hg)))
 refine (Yw hc.1 hx hcall).mono ?_
 rintro v w' ⟨Φ,β',hQ,hO',hΦ⟩
 have hkeep:∀ k,k<w.heap.size→¬ Wm β1 k→w'.heap[k]?=w.heap[k]?:=fun k hk hne=>hO'.ext.block k hk hne
 have hnb:∀ x∈β2,∀ b,x.1=some b→¬ Wm β1 b:=fun x hx b hb ⟨y,hy,e⟩=>hapart y hy x hx b e hb
 have hnew:∀ x∈β',∀ b,x.1=some b→w.heap.size≤b∨Wm β1 b:=fun x hx b hb=>hO'.new x hx b hb
 refine ⟨_,_,h v Φ β' hQ,⟨⟨hO'.ext.os.trans hO.ext.os,hO'.ext.tape.trans hO.ext.tape,hO'.ext.output.trans hO.ext.output,Nat.le_trans hO.ext.size hO'.ext.size,fun k hk hm=>?_⟩,?_,?_,?_⟩,?_⟩
 ·rw [hkeep k (Nat.lt_of_lt_of_le hk hO.ext.size) (fun ⟨y,hy,e⟩=>?_)]
  ·exact hO.ext.block k hk hm
  ·rcases hO.new y (hs1.subset hy) k e with h|h
   ·omega
   ·exact hm h
 ·intro x hm b hb
  rcases List.mem_append.1 hm with hm|hm
  ·rcases hnew x hm b hb with h|⟨y,hy,e⟩
   ·exact .inl (Nat.le_trans hO.ext.size h)
   ·exact hO.new y (hs1.subset hy) b e
  ·exact hO2.new x hm b hb
 ·intro x hm b hb
  rcases List.mem_append.1 hm with hm|hm
  ·exact hO'.blk x hm b hb
  ·rw [hkeep b (hO2.lt hm hb) (hnb x hm b hb)]
   exact hO2.blk x hm b hb
 ·refine hO'.apart.append hO2.apart fun x hx y hy b hb e=>?_
  rcases hnew x hx b hb with h1|h1
  ·have h2:=hO2.lt hy e
   omega
  ·exact hnb y hy b e h1
 ·intro g hg
  rcases List.mem_append.1 hg with hg|hg
  ·refine g.stable (fun k hk=>⟨⟨?_,hk.2.1,fun x hx=>?_⟩,rfl⟩) (hΦ g hg)
   ·rcases hk.1 with h1|⟨y,hy,e⟩|h1
    ·exact h1.1
    ·rcases hO.new y (hs1.subset hy) k e with h|h
     ·exact .inr (.inr h)
     ·exact .inr (.inl h)
    ·exact .inr (.inr (Nat.le_trans hO.ext.size h1))
   ·rcases List.mem_append.1 hx with hx|hx
    ·exact hk.2.2 x hx
    ·intro e
     rcases hk.1 with h1|h1|h1
     ·exact h1.2.2 x (hs2.subset hx) e
     ·exact hnb x hx k e h1
     ·have h2:=hO2.lt hx e
      have h1':w.heap.size≤k:=h1
      omega
  ·refine g.stable (fun k hk=>⟨⟨hk.1,Nat.lt_of_lt_of_le hk.2.1 hO'.ext.size,fun x hx=>?_⟩,hkeep k hk.2.1 (fun ⟨y,hy,e⟩=>hk.2.2 y (hs1.subset hy) e)⟩) (hG g hg)
   rcases List.mem_append.1 hx with hx|hx
   ·intro e
    rcases hnew x hx k e with h1|⟨y,hy,e2⟩
    ·have:=hk.2.1
     omega
    ·exact hk.2.2 y (hs1.subset hy) e2
   ·exact hk.2.2 x (hs2.subset hx)
theorem AKz {α:Type}{E:Enc α}{e:TypeId}{w:World}{r:Row}{n:Nat}{l:List α}{A:Nat→Prop}(hO:Own C w β) (hm:(r.bo,e,r.cs)∈β) (hA:∀ k,ok C w β k→A k) (hb:∀ b,r.bo=some b→A b) (h:(A7 E r n l).holds w (ok C w β)) (hby:n*E.bytes≤140737488355328) :
  (Ap E (ad r.bo) n r.cap l).holds w A:=by
 obtain ⟨hl,hg,vss,hall,ht⟩:=h
 subst hl
 refine ⟨rfl,?_⟩
 rcases hg with ⟨h1,hn0,h3,h4⟩|⟨b,h1,hnc,hcm,hcs⟩
 ·have:l=[]:=List.eq_nil_of_length_eq_zero hn0
  subst this
  exact ⟨Nat.zero_le _,hby,.inl rfl⟩
 ·refine ⟨hnc,hby,.inr ⟨b,0,by rw [h1];rfl,hb b h1,fun i x hi=>?_⟩⟩
  have hlt:i<l.length:=(List.getElem?_eq_some_iff.1 hi).1
  obtain ⟨vs,hvs⟩:∃ vs,vss[i]?=some vs:=⟨vss[i]'(hall.1.symm▸hlt),by simp⟩
  have hpart:=Hi (Gb hall) i vs hvs
  have hrd:=hall.2 i vs x hvs hi
  refine ⟨vs,⟨r.cs.toArray,e,(0,0),hO.blk _ hm b h1,?_,E.len hrd⟩,E.stable (fun k hk=>⟨hA k hk,rfl⟩) hrd⟩
  rw [← hpart,← ht,Nat.zero_add,List.drop_take,List.take_take]
  congr 1
  have h4:(i+1)*E.size≤l.length*E.size:=Nat.mul_le_mul_right _ hlt
  rw [Nat.succ_mul] at h4
  omega
theorem AGR {α:Type}{E:Enc α}{e:TypeId}{post:List A4}{hd:Nat→Hd}{cs:Nat→List Value}{ls:Nat→List α}{m:Nat}{sk:List Nat}(k i j N:Nat) (hβ:β.drop k=C8 e hd cs m sk++post) (hj:A5 Γ j=some (Ei E hd cs ls m sk)) (hi:i<m) (hs:Bc i sk=false) (hN:(hd i).2.1=N)
  (h:∀ r:Row,(Iy hd m)[i]?=some (r.bo,N,r.cap)→J F C S σ ((r.bo,e,r.cs)::(β.take k++(C8 e hd cs m (i::sk)++post))) (A7 E r N (ls i)::Ei E hd cs ls m (i::sk)::Γ) R):J F C S σ β Γ R :=
 AIv (pre:=β.take k) (post:=post) i j N (by rw [← hβ,List.take_append_drop]) hj hi hs hN h
theorem Dj {α:Type}{E:Enc α}{e:TypeId}{hd:Nat→Hd}{cs:Nat→List Value}{ls:Nat→List α}{m:Nat}{sk:List Nat}(k i j N:Nat) (hβ:β.drop k=C8 e hd cs m sk) (hj:A5 Γ j=some (Ei E hd cs ls m sk)) (hi:i<m) (hs:Bc i sk=false) (hN:(hd i).2.1=N)
  (h:∀ r:Row,(Iy hd m)[i]?=some (r.bo,N,r.cap)→J F C S σ ((r.bo,e,r.cs)::(β.take k++C8 e hd cs m (i::sk))) (A7 E r N (ls i)::Ei E hd cs ls m (i::sk)::Γ) R):J F C S σ β Γ R :=
 AGR (post:=[]) k i j N (by rw [hβ,List.append_nil]) hj hi hs hN fun r hr=>by rw [List.append_nil];exact h r hr
theorem ADQ {α:Type}{E:Enc α}{e:TypeId}{post:List A4}{hd:Nat→Hd}{cs:Nat→List Value}{ls:Nat→List α}{m:Nat}{sk:List Nat}{r:Row}{N:Nat}{l:List α}(q i k j1 j2:Nat) (hk:A5 β k=some (r.bo,e,r.cs)) (hβ:(β.eraseIdx k).drop q=C8 e hd cs m (i::sk)++post)
  (h1:A5 Γ j1=some (A7 E r N l)) (h2:A5 Γ j2=some (Ei E hd cs ls m (i::sk))) (hi:i<m) (hs:Bc i sk=false)
  (h:J F C S σ ((β.eraseIdx k).take q++(C8 e (Ek hd i (r.bo,N,r.cap)) (Ek cs i r.cs) m sk++post)) (Ei E (Ek hd i (r.bo,N,r.cap)) (Ek cs i r.cs) (Ek ls i l) m sk::Γ) R):J F C S σ β Γ R :=
 AF0 (pre:=(β.eraseIdx k).take q) (post:=post) i k j1 j2 hk (by rw [← hβ,List.take_append_drop]) h1 h2 hi hs h
theorem Bu {α:Type}{E:Enc α}{e:TypeId}{hd:Nat→Hd}{cs:Nat→List Value}{ls:Nat→List α}{m:Nat}{sk:List Nat}{r:Row}{N:Nat}{l:List α}(q i k j1 j2:Nat) (hk:A5 β k=some (r.bo,e,r.cs)) (hβ:(β.eraseIdx k).drop q=C8 e hd cs m (i::sk))
  (h1:A5 Γ j1=some (A7 E r N l)) (h2:A5 Γ j2=some (Ei E hd cs ls m (i::sk))) (hi:i<m) (hs:Bc i sk=false)
  (h:J F C S σ ((β.eraseIdx k).take q++C8 e (Ek hd i (r.bo,N,r.cap)) (Ek cs i r.cs) m sk) (Ei E (Ek hd i (r.bo,N,r.cap)) (Ek cs i r.cs) (Ek ls i l) m sk::Γ) R):J F C S σ β Γ R :=
 ADQ (post:=[]) q i k j1 j2 hk (by rw [hβ,List.append_nil]) h1 h2 hi hs (by rw [List.append_nil];exact h)
theorem Zv {α:Type}(E:Enc α) (e:TypeId) (m:Nat) (h:J F C S σ (β++C8 e (fun _=>(none,0,0)) (fun _=>[]) m []) (Ei E (fun _=>(none,0,0)) (fun _=>[]) (fun _=>[]) m []::Γ) R):J F C S σ β Γ R:=fun w hO hG=>by
 have hn:∀ x∈C8 e (fun _=>(none,0,0)) (fun _=>[]) m [],x.1=none:=fun x hx=>by
  obtain ⟨i,_,rfl⟩:=List.mem_map.1 hx
  rfl
 have hok:∀ k,ok C w β k→ok C w (β++C8 e (fun _=>(none,0,0)) (fun _=>[]) m []) k:=fun k hk=>⟨hk.1,hk.2.1,fun x hx=>by
  rcases List.mem_append.1 hx with hx|hx
  ·exact hk.2.2 x hx
  ·rw [hn x hx];intro h;cases h⟩
 refine h w ⟨hO.ext,fun x hx b hb=>?_,fun x hx b hb=>?_,?_⟩ fun f hf=>?_
 ·rcases List.mem_append.1 hx with hx|hx
  ·exact hO.new x hx b hb
  ·rw [hn x hx] at hb;cases hb
 ·rcases List.mem_append.1 hx with hx|hx
  ·exact hO.blk x hx b hb
  ·rw [hn x hx] at hb;cases hb
 ·refine hO.apart.append ?_ fun x _ y hy b _=>by rw [hn y hy];intro h;cases h
  rw [B9,List.pairwise_iff_getElem]
  intro i j hi hj _ b hb
  rw [hn _ (List.getElem_mem hi)] at hb;cases hb
 ·rcases List.mem_cons.1 hf with rfl|hf
  ·exact fun i _ _=>⟨rfl,Ml.nil _,[],Bd,by simp⟩
  ·exact f.stable (fun k hk=>⟨hok k hk,rfl⟩) (hG f hf)
theorem AH9 {e:TypeId}{b n:Nat}(k:Nat) (hn:A5 β k=some (some b,e,(List.replicate n [Value.slice none 0 0]).flatten)) (h63:n≤9223372036854775807)
  (h:∀ cs,J F C S σ (setB β k cs) (A7 Sl ⟨some b,n,cs⟩ n (Iy (fun _=>(none,0,0)) n)::Γ) R):J F C S σ β Γ R:=by
 have e1:setB β k (List.replicate n [Value.slice none 0 0]).flatten=β:=by
  have key:∀ (β:List A4) (k:Nat),A5 β k=some (some b,e,(List.replicate n [Value.slice none 0 0]).flatten)→setB β k (List.replicate n [Value.slice none 0 0]).flatten=β:=by
   intro β
   induction β with
   | nil=>intro k h;simp [A5] at h
   | cons x l ih =>
    intro k h
    cases k with
    | zero =>
     have:x=(some b,e,(List.replicate n [Value.slice none 0 0]).flatten):=by simpa [A5] using h
     subst this;rfl
    | succ k =>
     have h':A5 l k=some (some b,e,(List.replicate n [Value.slice none 0 0]).flatten):=h
     show x::setB l k _=x::l
     rw [ih k h']
  exact key β k hn
 have h2:=h (List.replicate n [Value.slice none 0 0]).flatten
 rw [e1] at h2
 refine Eh _ (fun w A _=>?_) h2
 refine ⟨by simp [Iy],.inr ⟨b,rfl,Nat.le_refl _,h63,?_⟩,List.replicate n [Value.slice none 0 0],?_,?_⟩
 ·show (List.replicate n [Value.slice none 0 0]).flatten.length=n*1
  rw [Gf (m:=1) (fun v hv=>by rw [(List.mem_replicate.1 hv).2];rfl),List.length_replicate]
 ·have e2:Iy (fun _=>((none,0,0):Hd)) n=List.replicate n (none,0,0):=by
   simp only [Iy]
   refine List.ext_getElem? fun i=>?_
   by_cases hi:i<n
   ·simp [hi]
   ·simp [hi]
  rw [e2]
  exact AFV (E:=Sl) (T2 none 0 0) n
 ·show List.take (n*1) (List.replicate n [Value.slice none 0 0]).flatten=_
  rw [List.take_of_length_le]
  rw [Gf (m:=1) (fun v hv=>by rw [(List.mem_replicate.1 hv).2];rfl),List.length_replicate];omega
theorem AHo {α:Type}{E:Enc α}{e e2:TypeId}{post:List A4}{r:Row}{hd:Nat→Hd}{cs:Nat→List Value}{ls:Nat→List α}{m:Nat}(q k j1 j2:Nat) (hβ:β.drop q=C8 e hd cs m []++post) (hk:A5 β k=some (r.bo,e2,r.cs)) (h1:A5 Γ j1=some (A7 Sl r m (Iy hd m))) (h2:A5 Γ j2=some (Ei E hd cs ls m []))
  (hby:∀ i,i<m→(hd i).2.1*E.bytes≤140737488355328) (h:J F C S σ (β.take q++post) (A7 (Aj E) r m ((List.range m).map ls)::Γ) R):J F C S σ β Γ R:=fun w hO hG=>by
 have hβ':β=β.take q++(C8 e hd cs m []++post):=by rw [← hβ,List.take_append_drop]
 have hsub:(β.take q++post).Sublist β:=by
  conv=>rhs;rw [hβ']
  exact List.Sublist.append_left (List.sublist_append_right _ _) _
 refine h w (hO.sub hsub) fun f hf=>?_
 rcases List.mem_cons.1 hf with rfl|hf
 ·obtain ⟨hl,hg,vss,hall,ht⟩:=hG _ (Af h1)
  have hmat:=hG _ (Af h2)
  refine ⟨by simp,hg,vss,⟨by rw [hall.1,Ss];simp,fun i vs x hv hx=>?_⟩,ht⟩
  have hlt:i<m:=by
   have:=(List.getElem?_eq_some_iff.1 hx).1
   simpa using this
  rw [List.getElem?_map,List.getElem?_range hlt] at hx
  obtain rfl:ls i=x:=Option.some.inj hx
  have hvs:vs=[.slice (ad (hd i).1) (hd i).2.1 (hd i).2.2]:=hall.2 i vs _ hv (Ld hlt)
  subst hvs
  have hmem0:((hd i).1,e,cs i)∈C8 e hd cs m []:=List.mem_map.2 ⟨i,List.mem_filter.2 ⟨List.mem_range.2 hlt,rfl⟩,rfl⟩
  have hmem:((hd i).1,e,cs i)∈β:=by rw [hβ'];exact List.mem_append_right _ (List.mem_append_left _ hmem0)
  have hd2:∀ b,(hd i).1=some b→∀ x∈β.take q++post,x.1≠some b:=fun b hb x hx=>by
   have hap:=hO.apart
   rw [hβ',B9,List.pairwise_append] at hap
   rcases List.mem_append.1 hx with hx|hx
   ·intro hx2
    exact hap.2.2 x hx _ (List.mem_append_left _ hmem0) b hx2 hb
   ·have:=hap.2.1
    rw [List.pairwise_append] at this
    exact this.2.2 _ hmem0 x hx b hb
  refine A2 (AKz (r:=⟨(hd i).1,(hd i).2.2,cs i⟩) hO hmem (fun k hk=>⟨hk.1,hk.2.1,fun x hx=>hk.2.2 x (hsub.subset hx)⟩) (fun b hb=>⟨?_,hO.lt hmem hb,hd2 b hb⟩) (hmat i hlt rfl) (hby i hlt))
  rcases hO.new _ hmem b hb with h|h
  ·exact .inr (.inr h)
  ·exact .inr (.inl h)
 ·exact Lg hsub hG f hf
theorem Wz {α:Type}{E:Enc α}{e e2:TypeId}{r:Row}{hd:Nat→Hd}{cs:Nat→List Value}{ls:Nat→List α}{m:Nat}(q k j1 j2:Nat) (hβ:β.drop q=C8 e hd cs m []) (hk:A5 β k=some (r.bo,e2,r.cs)) (h1:A5 Γ j1=some (A7 Sl r m (Iy hd m))) (h2:A5 Γ j2=some (Ei E hd cs ls m []))
  (hby:∀ i,i<m→(hd i).2.1*E.bytes≤140737488355328) (h:J F C S σ (β.take q) (A7 (Aj E) r m ((List.range m).map ls)::Γ) R):J F C S σ β Γ R :=
 AHo (post:=[]) q k j1 j2 (by rw [hβ,List.append_nil]) hk h1 h2 hby (by rw [List.append_nil];exact h)
theorem Bs {α:Type}{E:Enc α}{hd:Nat→Hd}{cs:Nat→List Value}{ls:Nat→List α}{m:Nat}{sk:List Nat}(ls':Nat→List α) (j:Nat) (hj:A5 Γ j=some (Ei E hd cs ls m sk)) (he:∀ i,i<m→ls i=ls' i) (h:J F C S σ β (Ei E hd cs ls' m sk::Γ) R):J F C S σ β Γ R :=
 Eh _ (fun w A hG i hi hs=>by rw [← he i hi];exact hG _ (Af hj) i hi hs) h
theorem G3 {α:Type}{E:Enc α}{hd:Nat→Hd}{cs:Nat→List Value}{ls:Nat→List α}{m:Nat}{sk:List Nat}(j:Nat) (hj:A5 Γ j=some (Ei E hd cs ls m sk)) (h:(∀ i,i<m→Bc i sk=false→(hd i).2.1=(ls i).length)→J F C S σ β Γ R):J F C S σ β Γ R :=
 AAk (fun w A hG i hi hs=>(hG _ (Af hj) i hi hs).1) h
theorem W1 {β1:List A4}(k:Nat) (ix:List Nat) (hf:Px ix=true) (hp:Lr (β.take k) ix=some β1) (h:J F C S σ (β1++β.drop k) Γ R):J F C S σ β Γ R:=fun w hO hG=>by
 have hsub1:∀ y∈β1,y∈β.take k:=fun y hy=>by
  obtain ⟨n,_,hn⟩:=S8 hp y hy
  exact B7 hn
 have hsub:∀ y∈β1++β.drop k,y∈β:=fun y hy=>by
  rcases List.mem_append.1 hy with hy|hy
  ·exact List.mem_of_mem_take (hsub1 y hy)
  ·exact List.mem_of_mem_drop hy
 have hap:Ay (β.take k++β.drop k):=by rw [List.take_append_drop];exact hO.apart
 rw [B9,List.pairwise_append] at hap
 have hd:Ay (β1++β.drop k):=(Lu (B9.2 hap.1) hp hf).append (B9.2 hap.2.1) fun x hx y hy b hb=>hap.2.2 x (hsub1 x hx) y hy b hb
 refine h w ⟨hO.ext,fun x hx=>hO.new x (hsub x hx),fun x hx=>hO.blk x (hsub x hx),hd⟩ fun f hf=>?_
 exact f.stable (fun k hk=>⟨⟨hk.1,hk.2.1,fun x hx=>hk.2.2 x (hsub x hx)⟩,rfl⟩) (hG f hf)
theorem Qb {σ':Fr}{β1 β':List A4}{Γ':List Fact}(k:Nat) (ix l:List Nat) (hs:Fr.sub σ' σ) (hf:Px ix=true) (hb:Lr (β.take k) ix=some β1) (he:β'=β1++β.drop k) (hp:pick Γ l=some Γ') (h:J F C S σ' β' Γ' R):J F C S σ β Γ R :=
 W1 k ix hf hb (ALz l hs he hp h)
theorem ADh {β1:List A4}{w:World}(k:Nat) (ix:List Nat) (hf:Px ix=true) (hp:Lr (β.take k) ix=some β1) (hO:Own C w β):Own C w (β1++β.drop k)∧∀ y∈β1++β.drop k,y∈β:=by
 have hsub1:∀ y∈β1,y∈β.take k:=fun y hy=>by
  obtain ⟨n,_,hn⟩:=S8 hp y hy
  exact B7 hn
 have hsub:∀ y∈β1++β.drop k,y∈β:=fun y hy=>by
  rcases List.mem_append.1 hy with hy|hy
  ·exact List.mem_of_mem_take (hsub1 y hy)
  ·exact List.mem_of_mem_drop hy
 have hap:Ay (β.take k++β.drop k):=by rw [List.take_append_drop];exact hO.apart
 rw [B9,List.pairwise_append] at hap
 have hd:Ay (β1++β.drop k):=(Lu (B9.2 hap.1) hp hf).append (B9.2 hap.2.1) fun x hx y hy b hb=>hap.2.2 x (hsub1 x hx) y hy b hb
 exact ⟨⟨hO.ext,fun x hx=>hO.new x (hsub x hx),fun x hx=>hO.blk x (hsub x hx),hd⟩,hsub⟩
theorem D4 {vs:List Value}{Q:Value→List Fact→List A4→Prop}{Φ:List Fact}{β1:List A4}(k:Nat) (ix l:List Nat) (hp:L6 F.B p=true) (hr:ResJ P σ β F.fn.results.toList vs) (hf:Px ix=true) (hb:Lr (β.take k) ix=some β1) (hl:pick Γ l=some Φ)
  (h:Q (Hg vs) Φ (β1++β.drop k)) (hk:F.rnd=none:=by rfl):J F C (.c p::S) σ β Γ (Fg C Q) :=
 fun _ hO hG=>Uh (hk:=hk) hp (fun _ ha w5 hs=>hr.all ha fun x hx b hb=>hs _ _ _ _ (hO.blk x hx b hb)) ⟨Φ,β1++β.drop k,h,(ADh k ix hf hb hO).1,fun f hf2=>f.stable (fun _ hk'=>⟨⟨hk'.1,hk'.2.1,fun x hx=>hk'.2.2 x ((ADh k ix hf hb hO).2 x hx)⟩,rfl⟩) (hG f (Ee hl f hf2))⟩
theorem AKr {it:List (TypeId×IntKind)}{L:List Oper}{pos:List Po}{pt:List (List Nat)}{κ:Fr}{fs:List (Nat×Fact)}{al:List A4}{k:Nat}{x0:List A4}{bl:Gh→List A4}{val:Gh→Value}{f:Gh→List Fact}(ho:Sz F.fn.ntmps L κ i=some (d,op,ty)) (hJ:JG P op ty σ (some x0) (Sk (B3 pt i) fs++Γ) bl val f)
  (h:∀ x,Je it F C p S L pt β Γ R k (i+1) pos (Hb d κ) (putF d (val x) σ) ((f x).map (fun g=>(i,g))++fs) (bl x++al) none):Je it F C p S L pt β Γ R k i (.sg bl val f::pos) κ σ fs al (some x0):=by
 refine ⟨by have:=(h default).1;simp only [List.length_cons];omega,?_⟩
 unfold Sz at ho
 cases hn:A5 L i with
 | none=>rw [hn] at ho;simp at ho
 | some o =>
  rw [hn] at ho
  simp only at ho
  cases hout:Nj o.dst F.fn.ntmps with
  | false=>rw [hout] at ho;simp at ho
  | true =>
   rw [hout] at ho
   cases hg:gd L κ o with
   | none=>rw [hg] at ho;simp at ho
   | some g =>
    cases g with
    | false=>rw [hg] at ho;simp at ho
    | true =>
     rw [hg] at ho
     obtain ⟨rfl,rfl,rfl⟩:o.dst=d∧o.op=op∧o.type=ty:=by simpa using ho
     simp only [Lx,hn,hout,hg]
     exact ⟨rfl,hJ,fun x=>(h x).2⟩
theorem Yy {K:Value→List A4→List Fact→Prop}{f:FuncId}{xs:List Operand}{ts:Array TypeId}{args:List Value}{Γ':List Fact}{β1:List A4}{Q:Value→List Fact→List A4→Prop}(n:Nat) (l:List Nat) (hn:β.take n=β1)
  (hx:Yv σ xs=some args) (hc:Bt P f args β1 Γ' Q) (hp:pick Γ l=some Γ')
  (h:∀ v Φ β',Q v Φ β'→K v (β'++β.drop n) (Φ++Γ)):Fb P C (.call { callee:=.value (.func f),args:=xs.toArray,argTypes:=ts }) ty σ β Γ K :=
 AFl l (by rw [← hn,List.take_append_drop]) hx hc hp h
theorem Vd {it:List (TypeId×IntKind)}(hit:Bw P it) (hmx:P.follows .mixedOrders=true) {pos:List Po}{x0:List A4}(n k:Nat) (hb:β.take n=x0) (hd:Mc F.B p=true) (hc:Tu (Ak (sub p F.B)) (Iq (Ak (sub p F.B)) []) k=true)
  (h:Je it F C p S (Ak (sub p F.B)) (Iq (Ak (sub p F.B)) []) (β.drop n) Γ R k 0 pos σ σ [] [] (some x0)) (hS:Xu S=false:=by rfl):J F C (.c p::S) σ β Γ R:=by
 have e:β=Nz (some x0)++β.drop n:=by show β=x0++_;rw [← hb,List.take_append_drop]
 rw [e]
 exact AHw (pb:=some x0) hit hmx pos hd (by have:=h.1;rw [Nat.zero_add] at this;rw [this];exact hc) h.2 hS
theorem D3 {α:Type}{f:Nat→α}{i:Nat}{x:α}(h:f i=x):Ek f i x=f:=by
 funext k
 by_cases e:k=i
 ·subst e;rw [Bo,h]
 ·rw [C0 e]
theorem Fq {hd:Nat→Hd}{m i:Nat}{x:Hd}(h:(Iy hd m)[i]?=some x) (hi:i<m):hd i=x:=by
 rw [Iy,List.getElem?_map,List.getElem?_range hi] at h
 exact Option.some.inj h
theorem Na {K:Value→List A4→List Fact→Prop}{f:FuncId}{xs:List Operand}{ts:Array TypeId}{args:List Value}{Γ':List Fact}{β1:List A4}{Q:Value→List Fact→List A4→Prop}(n:Nat) (l:List Nat) (hn:β.drop n=β1)
  (hx:Yv σ xs=some args) (hc:Bt P f args β1 Γ' Q) (hp:pick Γ l=some Γ')
  (h:∀ v Φ β',Q v Φ β'→K v (β.take n++β') (Φ++Γ)):Fb P C (.call { callee:=.value (.func f),args:=xs.toArray,argTypes:=ts }) ty σ β Γ K:=fun w hO hG =>
 (AFl (β2:=β.take n) (K:=fun v b G=>∃ Φ β',Q v Φ β'∧b=β'++β.take n∧G=Φ++Γ) l (by
  have e:β=β.take n++β1:=by rw [← hn,List.take_append_drop]
  have h:=List.perm_append_comm (l₁:=β1) (l₂:=β.take n)
  rwa [← e] at h) hx hc hp (fun v Φ β' q=>⟨Φ,β',q,rfl,rfl⟩) w hO hG).mono fun v w' ⟨_,_,⟨Φ,β',q,e1,e2⟩,hO',hG'⟩=>by
  subst e1;subst e2
  have hp':(β.take n++β').Perm (β'++β.take n):=List.perm_append_comm
  exact ⟨_,_,h v Φ β' q,⟨hO'.ext,fun x hx=>hO'.new x (hp'.subset hx),fun x hx=>hO'.blk x (hp'.subset hx),by
   rw [B9]
   exact (hp'.symm.pairwise_iff (fun {x y} hxy b hb e=>hxy b e hb)).1 (B9.1 hO'.apart)⟩,
   fun f hf=>f.stable (fun k hk=>⟨⟨hk.1,hk.2.1,fun x hx=>hk.2.2 x (hp'.subset hx)⟩,rfl⟩) (hG' f hf)⟩
theorem AFX {e:TypeId}{hd:Nat→Hd}{cs:Nat→List Value}{m:Nat}:C8 e hd cs (m+1) [m]=C8 e hd cs m []:=by
 show ((List.range (m+1)).filter _).map _=((List.range m).filter _).map _
 rw [List.range_succ,List.filter_append,List.filter_cons_of_neg (by rw [Ag];simp),List.filter_nil,List.append_nil]
 congr 1
 refine List.filter_congr fun j hj=>?_
 have:=List.mem_range.1 hj
 rw [Ag,decide_eq_false (by omega)];rfl
theorem ADR {α:Type}{E:Enc α}{e:TypeId}{hd:Nat→Hd}{cs:Nat→List Value}{ls:Nat→List α}{m:Nat}{r:Row}{N:Nat}{l:List α}(q k j1 j2:Nat) (hk:A5 β k=some (r.bo,e,r.cs)) (hβ:(β.eraseIdx k).drop q=C8 e hd cs m [])
  (h1:A5 Γ j1=some (A7 E r N l)) (h2:A5 Γ j2=some (Ei E hd cs ls m []))
  (h:J F C S σ ((β.eraseIdx k).take q++C8 e (Ek hd m (r.bo,N,r.cap)) (Ek cs m r.cs) (m+1) []) (Ei E (Ek hd m (r.bo,N,r.cap)) (Ek cs m r.cs) (Ek ls m l) (m+1) []::Γ) R):J F C S σ β Γ R:=by
 refine Eh (Ei E hd cs ls (m+1) [m]) (fun w A hG i hi hs=>?_) ?_
 ·have hne:i≠m:=fun e=>by rw [e,Ag,decide_eq_true rfl] at hs;cases hs
  exact hG _ (Af h2) i (by omega) rfl
 ·refine Bu (hd:=hd) (cs:=cs) (ls:=ls) (m:=m+1) (sk:=[]) (r:=r) (N:=N) (l:=l) q m k (j1+1) 0 hk (by rw [hβ,AFX]) h1 rfl (Nat.lt_succ_self m) rfl ?_
  exact fun w hO hG=>h w hO fun f hf=>by
   rcases List.mem_cons.1 hf with rfl|hf
   ·exact hG _ (.head _)
   ·exact hG _ (.tail _ (.tail _ hf))
theorem T0 {K:Value→List A4→List Fact→Prop}{t e:TypeId}{m:Nat}{x y:Operand}{b o len ca:Nat}{ky:IntKind}{hi:Int}(k:Nat) (hx:ev σ x=some (.slice (some ⟨b,o,none⟩) len ca)) (hy:ev σ y=some (.int ky hi))
  (hT:Ev P t=some (e,m)) (hk:hi=(k:Int)) (h2:k≤len) (h3:len≤ca)
  (h:K (.slice (some ⟨b,o,none⟩) k ca) β Γ):Fb P C (.slice t x none (some y) none) ty σ β Γ K :=
 Fa (fun w ρ hρ=>by
  obtain ⟨hu,_⟩:=Cu hT
  subst hk
  have:=run_slice_h (P:=P) w t (some ⟨b,o,none⟩) len ca (by rw [Pj hu];exact hu) ky k (by omega) (by omega)
  have e1:sliced (some ⟨b,o,none⟩) 0 k ca m = .slice (some ⟨b,o,none⟩) k ca:=by simp [sliced,Addr.add]
  simp [execOp,Da,hρ _ _ hx,hρ _ _ hy,J7 hT,this,Kb hT,e1]) h
theorem AAD {K:Value→List A4→List Fact→Prop}{t e:TypeId}{m:Nat}{x y:Operand}{b len ca:Nat}{ky:IntKind}{lo:Int}(k:Nat) (hx:ev σ x=some (.slice (some ⟨b,0,none⟩) len ca)) (hy:ev σ y=some (.int ky lo))
  (hT:Ev P t=some (e,m)) (hk:lo=(k:Int)) (h2:k≤len) (h3:len≤ca)
  (h:K (.slice (if ca=k then some ⟨b,0,none⟩ else some ⟨b,k*m,none⟩) (len-k) (ca-k)) β Γ):Fb P C (.slice t x (some y) none none) ty σ β Γ K :=
 Fa (fun w ρ hρ=>by
  obtain ⟨hu,_⟩:=Cu hT
  subst hk
  have:=run_slice_l (P:=P) w t (some ⟨b,0,none⟩) len ca (by rw [Pj hu];exact hu) ky k (by omega) (by omega)
  have e1:sliced (some ⟨b,0,none⟩) k len ca m = .slice (if ca=k then some ⟨b,0,none⟩ else some ⟨b,k*m,none⟩) (len-k) (ca-k):=by
   by_cases h:ca=k
   ·simp [sliced,h]
   ·simp [sliced,h,Addr.add]
    exact fun e=>e.symm
  simp [execOp,Da,hρ _ _ hx,hρ _ _ hy,J7 hT,this,Kb hT,e1]) h
def Kp (e:TypeId) (b:Nat) (cs:List Value):List A4 :=
 match b with
 | 0=>[]
 | b+1=>[(some b,e,cs)]
def Q8 {α:Type}(E:Enc α) (pa:Option Addr) (n cap b:Nat) (cs:List Value) (l:List α):Fact where
 holds:=fun w A=>match b with
  | 0=>cap=n∧(Ap E pa n cap l).holds w A
  | b+1=>pa=some ⟨b,0,none⟩∧(A7 E ⟨some b,cap,cs⟩ n l).holds w A
 stable:=fun {w w' A A'} h hs=>by
  cases b with
  | zero=>exact ⟨hs.1,(Ap E pa n cap l).stable h hs.2⟩
  | succ b=>exact ⟨hs.1,(A7 E ⟨some b,cap,cs⟩ n l).stable h hs.2⟩
theorem ADb {w:World}{t ty' e:TypeId}{n m size cx:Nat}{olds news:List Value}{pa px:Option Addr}{zs:List Value}(hT:Ev P t=some (e,size)) (hz:Cr P e=some zs) (hzl:zs.length=size)
  (ho:olds.length=n*size) (hx0:n=0∨∃ a,pa=some a∧∀ j u,olds[j]?=some u→w.cell? (a.add j)=some u)
  (hl:news.length=m*size) (hx:∃ a,px=some a∧∀ j u,news[j]?=some u→w.cell? (a.add j)=some u) (hm:0<m)
  (hmax:n+m≤9223372036854775807) (hby:(n+m)*P.bytesOf e≤140737488355328) :
  ∃ cap' cs',(Builtin.append_ #[t,t] ty' #[.slice pa n n,.slice px m cx]).run P w = .ok (.slice (some ⟨w.heap.size,0,none⟩) (n+m) cap') (w.drew.alloc (.cells cs'.toArray e))∧Ml (some w.heap.size) (n+m) cap' size cs'∧cs'.take ((n+m)*size)=olds++news:=by
 obtain ⟨hu,i,hi,hsz⟩:=Cu hT
 obtain ⟨i',z,hi',hz',hzc⟩:=Fj hz
 obtain rfl:i=i':=Option.some.inj (hi.symm.trans hi')
 have hbi:P.bytesOf e=i.bytes:=by simp [Program.bytesOf,hi]
 rw [hbi] at hby
 have hzs:z.cells.size=size:=by rw [← Array.length_toList,Dz,hzc,hzl]
 obtain ⟨a,rfl,hnews⟩:=hx
 have fresh:∀ (C':Nat),n+m≤C'→C'≤9223372036854775807 →
   Ml (some w.heap.size) (n+m) C' size (olds++news++(Builtin.zeroCells z.cells (C'-(n+m))).toList)∧(olds++news++(Builtin.zeroCells z.cells (C'-(n+m))).toList).take ((n+m)*size)=olds++news:=by
  intro C' hC hCm
  have hlen:(olds++news).length=(n+m)*size:=by rw [List.length_append,ho,hl,Nat.add_mul]
  refine ⟨.inr ⟨_,rfl,hC,hCm,?_⟩,?_⟩
  ·rw [List.length_append,hlen,Array.length_toList,size_zeroCells,hzs,← Nat.add_mul]
   congr 1;omega
  ·rw [← hlen,List.take_left]
 cases pa with
 | none =>
  have hn:n=0:=by
   rcases hx0 with h|⟨_,h,_⟩
   ·exact h
   ·cases h
  subst hn
  have hol:olds=[]:=List.eq_nil_of_length_eq_zero (by simpa using ho)
  subst hol
  have hr:=run_append_nil (P:=P) w t ty' e i z hu hi hz' a m cx news (by rw [hsz];exact hl) hnews (by omega) (by omega) (by simp only [Nat.zero_add] at hby;omega)
  have hge:=grownCap_ge w m 0 e
  have hle:=grownCap_le_maxLen w m 0 e (by simp only [maxLen];omega)
  obtain ⟨f1,f2⟩:=fresh (grownCap w m 0 e) (by omega) (by simpa [maxLen] using hle)
  refine ⟨_,_,?_,f1,f2⟩
  simp only [Nat.zero_add,List.nil_append] at *
  have e1:(news++(Builtin.zeroCells z.cells (grownCap w m 0 e-m)).toList).toArray=news.toArray++Builtin.zeroCells z.cells (grownCap w m 0 e-m):=by
   apply Array.ext';simp
  rw [e1]
  exact hr
 | some a0 =>
  have holds:∀ j u,olds[j]?=some u→w.cell? (a0.add j)=some u:=by
   rcases hx0 with h|⟨a',h,h'⟩
   ·subst h
    have hol:olds=[]:=List.eq_nil_of_length_eq_zero (by simpa using ho)
    subst hol
    intro j u hu'
    simp at hu'
   ·obtain rfl:=Option.some.inj h
    exact h'
  have hr:=run_append_grow (P:=P) w t ty' e i z hu hi hz' a0 n n olds (by rw [ho,hsz]) holds a m cx news (by rw [hsz];exact hl) hnews (by omega) (by omega) (growslice_fits (by omega) hby)
  have hge:=grownCap_ge w (n+m) n e
  have hle:=grownCap_le_maxLen w (n+m) n e (by simp only [maxLen];omega)
  obtain ⟨f1,f2⟩:=fresh (grownCap w (n+m) n e) (by omega) (by simpa [maxLen] using hle)
  refine ⟨_,_,?_,f1,f2⟩
  have e1:(olds++news++(Builtin.zeroCells z.cells (grownCap w (n+m) n e-(n+m))).toList).toArray=olds.toArray++news.toArray++Builtin.zeroCells z.cells (grownCap w (n+m) n e-(n+m)):=by
   apply Array.ext';simp
  rw [e1]
  exact hr
theorem Np.cells {α:Type}{E:Enc α}{w:World}{A:Nat→Prop}{pa:Option Addr}{ca n:Nat}{l:List α}(hs:Np E w A pa ca l) (hl:n=l.length):∃ vss,G2 E vss l w A∧(n=0∨∃ a,pa=some a∧∀ jj u,vss.flatten[jj]?=some u→w.cell? (a.add jj)=some u):=by
 rcases hs.2.2 with rfl|⟨b,o,rfl,_,hel⟩
 ·exact ⟨[],⟨rfl,fun i vs x hv=>by simp at hv⟩,.inl (by simpa using hl)⟩
 ·obtain ⟨vss,h1,h2⟩:=Np.all (A:=A) hel
  exact ⟨vss,h1,.inr ⟨_,rfl,fun jj u hu=>by rw [Addr.add_mid];exact h2 jj u hu⟩⟩
theorem AEZ {α:Type}{E:Enc α}{t e:TypeId}{x y:Operand}{n m c cap b:Nat}{cs:List Value}{pa px:Option Addr}{zs:List Value}{l l2:List α}(keep:List A4) (j:Nat)
  (hi:∀ w A,(∀ g∈Γ,g.holds w A)→(Q8 E pa n cap b cs l).holds w A) (hj:A5 Γ j=some (Ap E px m c l2)) (hx:ev σ x=some (.slice pa n cap)) (hy:ev σ y=some (.slice px m c))
  (hT:Ev P t=some (e,E.size)) (hz:Cr P e=some zs) (hzl:zs.length=E.size)
  (hmax:n+m≤9223372036854775807) (by':Nat) (hbe:P.bytesOf e=by') (hby:(n+m)*by'≤140737488355328) :
  JG P (.call { callee:=.builtin .append,args:=#[x,y],argTypes:=#[t,t] }) ty σ (some (Kp e b cs++keep)) Γ (fun g=>Kp e (g 0).2.1 (g 0).2.2.2++keep) (fun g=>.slice (g 0).1 (n+m) (g 0).2.2.1)
   (fun g=>[Q8 E (g 0).1 (n+m) (g 0).2.2.1 (g 0).2.1 (g 0).2.2.2 (l++l2)]):=by
 intro w A hA hpb hd hG
 subst hbe
 have hrow:=hi w A hG
 obtain ⟨hml,hs2⟩:=hG _ (Af hj)
 obtain ⟨vs2,hall2,hcell2⟩:=hs2.cells hml
 have hlen2:vs2.flatten.length=m*E.size:=by rw [Gf (Gb hall2),hall2.1,hml]
 obtain ⟨hu,i,hi',hsz⟩:=Cu hT
 have hO:Own ⟨w,A,N9 (some (Kp e b cs++keep))⟩ w (Kp e b cs++keep):=⟨Keep.refl _ _,fun x hx b hb=>.inr ⟨x,hx,hb⟩,hpb,hd⟩
 by_cases hm:m=0
 ·subst hm
  have hl2:l2=[]:=List.eq_nil_of_length_eq_zero hml.symm
  have hncap:n≤cap:=by
   cases b with
   | zero=>rw [hrow.1];exact Nat.le_refl _
   | succ b=>exact hrow.2.2.1.le
  refine Lh hx hy (Km hu hi' hncap) ⟨fun _=>(pa,b,cap,cs),rfl,Keep.refl _ _,hd,fun y hy bb hb=>⟨.inr ⟨y,hy,hb⟩,hpb y hy bb hb⟩,fun g hg=>?_⟩
  obtain rfl:=List.mem_singleton.1 hg
  rw [hl2]
  have e0:l++[]=l:=List.append_nil l
  rw [e0]
  exact (Q8 E pa n cap b cs l).stable (fun k hk=>⟨⟨.inl hk,(hA k hk).1,fun y hy e=>(hA k hk).2 ⟨y,hy,e⟩⟩,rfl⟩) hrow
 ·have tail:∀ (vss:List (List Value)) (b' cap':Nat) (cs':List Value) (w':World),G2 E vss l w A→(Builtin.append_ #[t,t] ty #[.slice pa n cap,.slice px m c]).run P w = .ok (.slice (some ⟨b',0,none⟩) (n+m) cap') w'→Ml (some b') (n+m) cap' E.size cs' →
    cs'.take ((n+m)*E.size)=vss.flatten++vs2.flatten→n=l.length→Own ⟨w,A,N9 (some (Kp e b cs++keep))⟩ w' ((some b',e,cs')::keep)→Ex P (.call { callee:=.builtin .append,args:=#[x,y],argTypes:=#[t,t] }) ty σ w fun v w'=>∃ x:Gh,v = .slice (x 0).1 (n+m) (x 0).2.2.1∧Keep w (N9 (some (Kp e b cs++keep))) w'∧Ay (Kp e (x 0).2.1 (x 0).2.2.2++keep)∧(∀ y∈Kp e (x 0).2.1 (x 0).2.2.2++keep,∀ bb,y.1=some bb→(w.heap.size≤bb∨N9 (some (Kp e b cs++keep)) bb)∧w'.heap[bb]?=some (.cells y.2.2.toArray y.2.1 (0,0))) ∧
     ∀ g∈[Q8 E (x 0).1 (n+m) (x 0).2.2.1 (x 0).2.1 (x 0).2.2.2 (l++l2)],g.holds w' (fun k=>(A k∨w.heap.size≤k)∧k<w'.heap.size∧∀ y∈Kp e (x 0).2.1 (x 0).2.2.2++keep,y.1≠some k):=by
   intro vss b' cap' cs' w' hall hr hg ht hnl h4
   refine Lh hx hy hr ⟨fun _=>(some ⟨b',0,none⟩,b'+1,cap',cs'),rfl,h4.ext,h4.apart,fun y hy bb hb=>⟨h4.new y hy bb hb,h4.blk y hy bb hb⟩,fun g hg'=>?_⟩
   obtain rfl:=List.mem_singleton.1 hg'
   refine ⟨rfl,by simp [hnl,hml],hg,vss++vs2,(Nl E (vss++vs2) (l++l2)).stable (fun k hk=>⟨⟨.inl hk,Nat.lt_of_lt_of_le (hA k hk).1 h4.ext.size,fun y hy e=>?_⟩,h4.ext.block k (hA k hk).1 (hA k hk).2⟩) (Xk hall hall2),?_⟩
   ·rcases h4.new y hy k e with h|h
    ·have:=(hA k hk).1
     have h:w.heap.size≤k:=h
     omega
    ·exact (hA k hk).2 h
   ·show cs'.take _=_
    rw [ht];simp
  cases b with
  | zero =>
   obtain ⟨rfl,hln,hs1⟩:=hrow
   obtain ⟨vss,hall,hcell⟩:=hs1.cells hln
   have hlen:vss.flatten.length=cap*E.size:=by rw [Gf (Gb hall),hall.1,hln]
   obtain ⟨cap',cs',hr,hg,ht⟩:=ADb (P:=P) (ty':=ty) (cx:=c) (w:=w) hT hz hzl hlen hcell hlen2 (hcell2.resolve_left hm) (by omega) hmax hby
   exact tail vss _ _ _ _ hall hr hg ht hln ((hO.drew).push e cs')
  | succ b =>
   obtain ⟨rfl,hln,hg,vss,hall,ht⟩:=hrow
   obtain ⟨bo',cap',cs',w',hr,h2,h3,h4,_⟩:=T7 (P:=P) (ty':=ty) (cx:=c) (px:=px) (Γ:=[]) hT hz hzl hO (fun f hf=>by cases hf) (k:=0) rfl hg hlen2 hcell2 (ADv hall2) hmax hby
   obtain ⟨b',rfl⟩:∃ b',bo'=some b':=by
    rcases h2 with ⟨_,h,_⟩|⟨b,h,_⟩
    ·omega
    ·exact ⟨b,h⟩
   exact tail vss _ _ _ _ hall hr h2 (by rw [h3,ht]) hln h4
theorem AHI {it:List (TypeId×IntKind)}{L:List Oper}{pos:List Po}{pt:List (List Nat)}{κ:Fr}{fs:List (Nat×Fact)}{al:List A4}{k:Nat}{x0:List A4}{bl:Gh→List A4}{val:Gh→Value}{f:Gh→List Fact}(ho:Sz F.fn.ntmps L κ i=some (d,op,ty)) (hJ:JG P op ty σ (some x0) (Sk (B3 pt i) fs++Γ) bl val f)
  (h:∀ x,Je it F C p S L pt β Γ R k (i+1) pos (Hb d κ) (putF d (val x) σ) ((f x).map (fun g=>(i,g))++fs) al (some (bl x))) (hc:Gp pt i (i+1) pos=true):Je it F C p S L pt β Γ R k i (.sh bl val f::pos) κ σ fs al (some x0):=by
 refine ⟨by have:=(h default).1;simp only [List.length_cons];omega,?_⟩
 unfold Sz at ho
 cases hn:A5 L i with
 | none=>rw [hn] at ho;simp at ho
 | some o =>
  rw [hn] at ho
  simp only at ho
  cases hout:Nj o.dst F.fn.ntmps with
  | false=>rw [hout] at ho;simp at ho
  | true =>
   rw [hout] at ho
   cases hg:gd L κ o with
   | none=>rw [hg] at ho;simp at ho
   | some g =>
    cases g with
    | false=>rw [hg] at ho;simp at ho
    | true =>
     rw [hg] at ho
     obtain ⟨rfl,rfl,rfl⟩:o.dst=d∧o.op=op∧o.type=ty:=by simpa using ho
     simp only [Lx,hn,hout,hg]
     exact ⟨⟨rfl,hc⟩,hJ,fun x=>(h x).2⟩
theorem AH1 {it:List (TypeId×IntKind)}{L:List Oper}{pos:List Po}{pt:List (List Nat)}{κ:Fr}{fs:List (Nat×Fact)}{al:List A4}{k:Nat}{x0:List A4}{bl:Gh→List A4}{val:Gh→Value}{f:Gh→List Fact}(ho:Sz F.fn.ntmps L κ i=some (d,op,ty)) (hJ:JG P op ty σ (some x0) (Sk (B3 pt i) fs++Γ) bl val f)
  (h:∀ x,Je it F C p S L pt β Γ R k (i+1) pos (Hb d κ) (putF d (val x) σ) ((f x).map (fun g=>(i,g))++fs) (bl x++al) (some [])) (hc:Gp pt i (i+1) pos=true):Je it F C p S L pt β Γ R k i (.si bl val f::pos) κ σ fs al (some x0):=by
 refine ⟨by have:=(h default).1;simp only [List.length_cons];omega,?_⟩
 unfold Sz at ho
 cases hn:A5 L i with
 | none=>rw [hn] at ho;simp at ho
 | some o =>
  rw [hn] at ho
  simp only at ho
  cases hout:Nj o.dst F.fn.ntmps with
  | false=>rw [hout] at ho;simp at ho
  | true =>
   rw [hout] at ho
   cases hg:gd L κ o with
   | none=>rw [hg] at ho;simp at ho
   | some g =>
    cases g with
    | false=>rw [hg] at ho;simp at ho
    | true =>
     rw [hg] at ho
     obtain ⟨rfl,rfl,rfl⟩:o.dst=d∧o.op=op∧o.type=ty:=by simpa using ho
     simp only [Lx,hn,hout,hg]
     exact ⟨⟨rfl,hc⟩,hJ,fun x=>(h x).2⟩
theorem AJv {α:Type}{E:Enc α}{t e:TypeId}{x y:Operand}{n m c cap b:Nat}{cs:List Value}{pa px:Option Addr}{zs:List Value}{l l2:List α}(j:Nat)
  (hi:∀ w A,(∀ g∈Γ,g.holds w A)→(Q8 E pa n cap b cs l).holds w A) (hj:A5 Γ j=some (Ap E px m c l2)) (hx:ev σ x=some (.slice pa n cap)) (hy:ev σ y=some (.slice px m c))
  (hT:Ev P t=some (e,E.size)) (hz:Cr P e=some zs) (hzl:zs.length=E.size)
  (hmax:n+m≤9223372036854775807) (by':Nat) (hbe:P.bytesOf e=by') (hby:(n+m)*by'≤140737488355328) :
  JG P (.call { callee:=.builtin .append,args:=#[x,y],argTypes:=#[t,t] }) ty σ (some (Kp e b cs++[])) Γ (fun g=>Kp e (g 0).2.1 (g 0).2.2.2) (fun g=>.slice (g 0).1 (n+m) (g 0).2.2.1)
   (fun g=>[Q8 E (g 0).1 (n+m) (g 0).2.2.1 (g 0).2.1 (g 0).2.2.2 (l++l2)]):=by
 have h:=AEZ (P:=P) (σ:=σ) (Γ:=Γ) (ty:=ty) [] j hi hj hx hy hT hz hzl hmax by' hbe hby
 simp only [List.append_nil] at h ⊢
 exact h
theorem AHu {α:Type}{E:Enc α}{it:List (TypeId×IntKind)}{L:List Oper}{pos:List Po}{pt:List (List Nat)}{κ:Fr}{fs:List (Nat×Fact)}{al:List A4}{k:Nat}{t e:TypeId}{x y:Operand}{n m c cap b:Nat}{cs:List Value}{pa px:Option Addr}{zs:List Value}{l l2:List α}{keep:List A4}(q j:Nat)
  (ho:Sz F.fn.ntmps L κ i=some (d,.call { callee:=.builtin .append,args:=#[x,y],argTypes:=#[t,t] },ty))
  (hi:A5 (Sk (B3 pt i) fs++Γ) q=some (Q8 E pa n cap b cs l)) (hj:A5 (Sk (B3 pt i) fs++Γ) j=some (Ap E px m c l2)) (hx:ev σ x=some (.slice pa n cap)) (hy:ev σ y=some (.slice px m c))
  (hT:Ev P t=some (e,E.size)) (hz:Cr P e=some zs) (hzl:zs.length=E.size)
  (hmax:n+m≤9223372036854775807) (by':Nat) (hbe:P.bytesOf e=by') (hby:(n+m)*by'≤140737488355328)
  (h:∀ pa cap b cs,Je it F C p S L pt β Γ R k (i+1) pos (Hb d κ) (putF d (.slice pa (n+m) cap) σ) ((i,Q8 E pa (n+m) cap b cs (l++l2))::fs) al (some (Kp e b cs++keep))) (hc:Gp pt i (i+1) pos=true) :
  Je it F C p S L pt β Γ R k i (.sh (fun g=>Kp e (g 0).2.1 (g 0).2.2.2++keep) (fun g=>.slice (g 0).1 (n+m) (g 0).2.2.1) (fun g=>[Q8 E (g 0).1 (n+m) (g 0).2.2.1 (g 0).2.1 (g 0).2.2.2 (l++l2)])::pos) κ σ fs al (some (Kp e b cs++keep)) :=
 AHI ho (AEZ keep j (fun w A hG=>hG _ (Af hi)) hj hx hy hT hz hzl hmax by' hbe hby) (fun x=>h _ _ _ _) hc
theorem ABf {α:Type}{E:Enc α}{it:List (TypeId×IntKind)}{L:List Oper}{pos:List Po}{pt:List (List Nat)}{κ:Fr}{fs:List (Nat×Fact)}{al:List A4}{k:Nat}{t e:TypeId}{x y:Operand}{n m c:Nat}{pa px:Option Addr}{zs:List Value}{l l2:List α}(q j:Nat)
  (ho:Sz F.fn.ntmps L κ i=some (d,.call { callee:=.builtin .append,args:=#[x,y],argTypes:=#[t,t] },ty))
  (hi:A5 (Sk (B3 pt i) fs++Γ) q=some (Ap E pa n n l)) (hj:A5 (Sk (B3 pt i) fs++Γ) j=some (Ap E px m c l2)) (hx:ev σ x=some (.slice pa n n)) (hy:ev σ y=some (.slice px m c))
  (hT:Ev P t=some (e,E.size)) (hz:Cr P e=some zs) (hzl:zs.length=E.size)
  (hmax:n+m≤9223372036854775807) (by':Nat) (hbe:P.bytesOf e=by') (hby:(n+m)*by'≤140737488355328)
  (h:∀ pa cap b cs,Je it F C p S L pt β Γ R k (i+1) pos (Hb d κ) (putF d (.slice pa (n+m) cap) σ) ((i,Q8 E pa (n+m) cap b cs (l++l2))::fs) (Kp e b cs++al) (some [])) (hc:Gp pt i (i+1) pos=true) :
  Je it F C p S L pt β Γ R k i (.si (fun g=>Kp e (g 0).2.1 (g 0).2.2.2) (fun g=>.slice (g 0).1 (n+m) (g 0).2.2.1) (fun g=>[Q8 E (g 0).1 (n+m) (g 0).2.2.1 (g 0).2.1 (g 0).2.2.2 (l++l2)])::pos) κ σ fs al (some []) :=
 AH1 (x0:=[]) ho (AJv (b:=0) (cs:=[]) j (fun w A hG=>⟨rfl,hG _ (Af hi)⟩) hj hx hy hT hz hzl hmax by' hbe hby) (fun x=>h _ _ _ _) hc
theorem AC6 {α:Type}(E:Enc α) {it:List (TypeId×IntKind)}{L:List Oper}{pos:List Po}{pt:List (List Nat)}{κ:Fr}{fs:List (Nat×Fact)}{al:List A4}{pb:Pb}{k:Nat}{t e:TypeId}{m:Nat}
  (ho:Sz F.fn.ntmps L κ i=some (d,.buildSlice t 0 #[],ty)) (hT:Ev P t=some (e,m))
  (h:∀ pa,Je it F C p S L pt β Γ R k (i+1) pos (Hb d κ) (putF d (.slice pa 0 0) σ) ((i,Ap E pa 0 0 [])::fs) al pb) :
  Je it F C p S L pt β Γ R k i (.fa (fun g=>.slice (g 0).1 0 0) (fun g=>[Ap E (g 0).1 0 0 []])::pos) κ σ fs al pb :=
 Iz ho (Cg fun _=>ADN hT fun b _ _ _ _=>⟨fun _=>(some ⟨b,0,none⟩,0,0,[]),rfl,fun g hg=>by
  obtain rfl:=List.mem_singleton.1 hg
  exact ⟨rfl,Nat.le_refl _,by simp,.inl rfl⟩⟩) fun x=>h _
theorem Zm {it:List (TypeId×IntKind)}{L:List Oper}{pt:List (List Nat)}{κ:Fr}{fs:List (Nat×Fact)}{al:List A4}{x0:List A4}{k:Nat}(hk:i=k) (h:J F C (.o p k::S) σ (al++(x0++β)) (fs.map (·.2)++Γ) R) (hS:Xu S=false:=by rfl):Je it F C p S L pt β Γ R k i [] κ σ fs al (some x0) :=
 ⟨by simpa using hk,by subst hk;simp only [Lx,AAt hS];exact h⟩
theorem AD1 {α:Type}{E:Enc α}{e:TypeId}{n cap b:Nat}{cs:List Value}{pa:Option Addr}{l:List α}{β2:List A4}(q j:Nat) (hβ:β.drop q=Kp e b cs++β2) (hj:A5 Γ j=some (Q8 E pa n cap b cs l)) (hby:n*E.bytes≤140737488355328)
  (h:J F C S σ (β.take q++β2) (Ap E pa n cap l::Γ) R):J F C S σ β Γ R:=by
 have hβ':β=β.take q++(Kp e b cs++β2):=by rw [← hβ,List.take_append_drop]
 generalize β.take q=β1 at hβ' h
 subst hβ'
 cases b with
 | zero=>exact Eh _ (fun w A hG=>(hG _ (Af hj)).2) h
 | succ b =>
  intro w hO hG
  obtain ⟨rfl,hrow⟩:=hG _ (Af hj)
  have e1:(β1++((some b,e,cs)::β2)).eraseIdx β1.length=β1++β2:=by
   rw [List.eraseIdx_append_of_length_le (Nat.le_refl _),Nat.sub_self,List.eraseIdx_cons_zero]
  refine C4 (E:=E) (e:=e) (cs:=cs) (l:=l) β1.length 0 (by show A5 (β1++((some b,e,cs)::β2)) β1.length=some (some b,e,cs);rw [B8];simp) (Γ:=A7 E ⟨some b,cap,cs⟩ n l::Γ) rfl hby ?_ w hO fun f hf=>?_
  ·show J F C S σ ((β1++((some b,e,cs)::β2)).eraseIdx β1.length) _ R
   rw [e1]
   exact Wu (fun f hf=>by
    rcases List.mem_cons.1 hf with rfl|hf
    ·exact .head _
    ·exact .tail _ (.tail _ hf)) h
  ·rcases List.mem_cons.1 hf with rfl|hf
   ·exact hrow
   ·exact hG f hf
end
end Go.Fw
namespace Go.Proofs.YtpienolhkccpnaaGreat
open Go Go.Fw
set_option maxRecDepth 100000
theorem zo3:Cr Tryz.prog 3=some [Value.int IntKind.i64 0]:=rfl
theorem Ci:Eb Tryz.prog 3=some (Bool.false,1):=rfl
theorem ld4:Eb Tryz.prog 4=some (Bool.false,1):=rfl
theorem Ce:Ev Tryz.prog 22=some (3,1):=rfl
theorem Ep:Cr Tryz.prog 3=some [Value.int IntKind.i64 0]:=rfl
theorem Hu:Program.bytesOf Tryz.prog 3=8:=rfl
theorem ALQ:Cr Tryz.prog 22=some [Value.slice none 0 0]:=rfl
theorem E7:Eb Tryz.prog 22=some (Bool.false,1):=rfl
theorem AJi:I1 Tryz.prog 24=some [(0,1),(1,1),(2,1)]:=rfl
theorem Pn:Kh Tryz.prog 24 0=some 0:=rfl
theorem P9:Kh Tryz.prog 24 1=some 1:=rfl
theorem AEM:Kh Tryz.prog 24 2=some 2:=rfl
theorem AGj:Cr Tryz.prog 24=some [Value.int IntKind.i64 0,Value.int IntKind.i64 0,Value.slice none 0 0]:=rfl
theorem Hy:Eb Tryz.prog 24=some (Bool.true,3):=rfl
theorem D5:Ev Tryz.prog 25=some (22,1):=rfl
theorem I6:Cr Tryz.prog 22=some [Value.slice none 0 0]:=rfl
theorem M7:Program.bytesOf Tryz.prog 22=24:=rfl
theorem H7:Eb Tryz.prog 25=some (Bool.false,1):=rfl
theorem AKg:I1 Tryz.prog 27=some [(0,3),(3,1),(4,1)]:=rfl
theorem Ug:Kh Tryz.prog 27 0=some 0:=rfl
theorem Kt:Kh Tryz.prog 27 1=some 3:=rfl
theorem R9:Kh Tryz.prog 27 2=some 4:=rfl
theorem O0:Cr Tryz.prog 27=some [Value.int IntKind.i64 0,Value.int IntKind.i64 0,Value.slice none 0 0,Value.int IntKind.i64 0,Value.slice none 0 0]:=rfl
theorem Cs:Eb Tryz.prog 27=some (Bool.true,5):=rfl
theorem AMM:Cr Tryz.prog 30=some [Value.int IntKind.i64 0]:=rfl
theorem AM3:Eb Tryz.prog 30=some (Bool.false,1):=rfl
theorem Uz:I1 Tryz.prog 62=some [(0,1),(1,1)]:=rfl
theorem I4:Kh Tryz.prog 62 0=some 0:=rfl
theorem Hw:Kh Tryz.prog 62 1=some 1:=rfl
theorem G9:Cr Tryz.prog 62=some [Value.int IntKind.i64 0,Value.slice none 0 0]:=rfl
theorem F6:Eb Tryz.prog 62=some (Bool.true,2):=rfl
theorem Xs:Eb Tryz.prog 76=some (Bool.false,1):=rfl
theorem ANd:Ev Tryz.prog 97=some (4,1):=rfl
theorem ALG:Cr Tryz.prog 4=some [Value.bool false]:=rfl
theorem ALC:Program.bytesOf Tryz.prog 4=1:=rfl
theorem ALP:I1 Tryz.prog 108=some [(0,1),(1,2),(3,1)]:=rfl
theorem AE7:Kh Tryz.prog 108 0=some 0:=rfl
theorem AJR:Cr Tryz.prog 108=some [Value.pointer none,Value.int IntKind.i64 0,Value.slice none 0 0,Value.slice none 0 0]:=rfl
theorem Zd:Eb Tryz.prog 108=some (Bool.true,4):=rfl
theorem AL6:I1 Tryz.prog 119=some [(0,3),(3,1),(4,1),(5,1)]:=rfl
theorem S9:Kh Tryz.prog 119 0=some 0:=rfl
theorem AL9:Cr Tryz.prog 119=some [Value.int IntKind.i64 0,Value.int IntKind.i64 0,Value.slice none 0 0,Value.int IntKind.i64 0,Value.slice none 0 0,Value.slice none 0 0]:=rfl
theorem AHG:Ev Tryz.prog 158=some (62,2):=rfl
theorem AEq:Cr Tryz.prog 62=some [Value.int IntKind.i64 0,Value.slice none 0 0]:=rfl
abbrev itl:List (TypeId×IntKind):=[(2,.i64),(3,.i64),(5,.u8),(6,.u8),(12,.u64),(21,.i32),(30,.i64),(40,.u32),(143,.u64),(169,.i64),(179,.u64),(188,.u64),(205,.u8),(206,.u8),(209,.i32),(210,.i32)]
theorem it:Bw Tryz.prog itl:=Bw.cons (t:=2) (k:=.i64) rfl (Bw.cons (t:=3) (k:=.i64) rfl (Bw.cons (t:=5) (k:=.u8) rfl (Bw.cons (t:=6) (k:=.u8) rfl (Bw.cons (t:=12) (k:=.u64) rfl (Bw.cons (t:=21) (k:=.i32) rfl (Bw.cons (t:=30) (k:=.i64) rfl (Bw.cons (t:=40) (k:=.u32) rfl (Bw.cons (t:=143) (k:=.u64) rfl (Bw.cons (t:=169) (k:=.i64) rfl (Bw.cons (t:=179) (k:=.u64) rfl (Bw.cons (t:=188) (k:=.u64) rfl (Bw.cons (t:=205) (k:=.u8) rfl (Bw.cons (t:=206) (k:=.u8) rfl (Bw.cons (t:=209) (k:=.i32) rfl (Bw.cons (t:=210) (k:=.i32) rfl (Bw.nil _))))))))))))))))
theorem mx:Tryz.prog.follows .mixedOrders=true:=rfl
noncomputable def Jl:Fun Tryz.prog:=⟨7,Tryz.f7,_,Tryz.func7,rfl,rfl,none,[]⟩
noncomputable def Pd:Fun Tryz.prog:=⟨13,Tryz.f13,_,Tryz.func13,rfl,rfl,none,[]⟩
noncomputable def Q9:Fun Tryz.prog:=⟨14,Tryz.f14,_,Tryz.func14,rfl,rfl,none,[]⟩
noncomputable def V4:Fun Tryz.prog:=⟨15,Tryz.f15,_,Tryz.func15,rfl,rfl,none,[]⟩
noncomputable def Pu:Fun Tryz.prog:=⟨17,Tryz.f17,_,Tryz.func17,rfl,rfl,none,[]⟩
noncomputable def Ws:Fun Tryz.prog:=⟨18,Tryz.f18,_,Tryz.func18,rfl,rfl,none,[]⟩
noncomputable def Xp:Fun Tryz.prog:=⟨20,Tryz.f20,_,Tryz.func20,rfl,rfl,none,[]⟩
noncomputable def W4:Fun Tryz.prog:=⟨22,Tryz.f22,_,Tryz.func22,rfl,rfl,none,[]⟩
noncomputable def Q5:Fun Tryz.prog:=⟨24,Tryz.f24,_,Tryz.func24,rfl,rfl,none,[]⟩
noncomputable def Oe:Fun Tryz.prog:=⟨25,Tryz.f25,_,Tryz.func25,rfl,rfl,none,[]⟩
noncomputable def Yj:Fun Tryz.prog:=⟨26,Tryz.f26,_,Tryz.func26,rfl,rfl,none,[]⟩
noncomputable def Ul:Fun Tryz.prog:=⟨28,Tryz.f28,_,Tryz.func28,rfl,rfl,none,[]⟩
noncomputable def Xf:Fun Tryz.prog:=⟨30,Tryz.f30,_,Tryz.func30,rfl,rfl,none,[]⟩
noncomputable def Vg:Fun Tryz.prog:=⟨32,Tryz.f32,_,Tryz.func32,rfl,rfl,none,[]⟩
noncomputable def AAi:Fun Tryz.prog:=⟨34,Tryz.f34,_,Tryz.func34,rfl,rfl,none,[]⟩
noncomputable def AA2:Fun Tryz.prog:=⟨36,Tryz.f36,_,Tryz.func36,rfl,rfl,none,[]⟩
noncomputable def Oc:Fun Tryz.prog:=⟨38,Tryz.f38,_,Tryz.func38,rfl,rfl,none,[]⟩
noncomputable def ADn:Fun Tryz.prog:=⟨40,Tryz.f40,_,Tryz.func40,rfl,rfl,none,[]⟩
noncomputable def Q1:Fun Tryz.prog:=⟨41,Tryz.f41,_,Tryz.func41,rfl,rfl,none,[]⟩
noncomputable def N4:Fun Tryz.prog:=⟨44,Tryz.f44,_,Tryz.func44,rfl,rfl,none,[]⟩
noncomputable def Mh:Fun Tryz.prog:=⟨53,Tryz.f53,_,Tryz.func53,rfl,rfl,none,[]⟩
noncomputable def Uj:Fun Tryz.prog:=⟨54,Tryz.f54,_,Tryz.func54,rfl,rfl,none,[]⟩
noncomputable def AAB:Fun Tryz.prog:=⟨55,Tryz.f55,_,Tryz.func55,rfl,rfl,none,[]⟩
noncomputable def ABZ:Fun Tryz.prog:=⟨56,Tryz.f56,_,Tryz.func56,rfl,rfl,none,[]⟩
noncomputable def Pz:Fun Tryz.prog:=⟨60,Tryz.f60,_,Tryz.func60,rfl,rfl,none,[]⟩
noncomputable def V0:Fun Tryz.prog:=⟨61,Tryz.f61,_,Tryz.func61,rfl,rfl,none,[]⟩
noncomputable def AAG:Fun Tryz.prog:=⟨62,Tryz.f62,_,Tryz.func62,rfl,rfl,none,[]⟩
noncomputable def ABy:Fun Tryz.prog:=⟨64,Tryz.f64,_,Tryz.func64,rfl,rfl,none,[]⟩
noncomputable def AB1:Fun Tryz.prog:=⟨65,Tryz.f65,_,Tryz.func65,rfl,rfl,none,[]⟩
noncomputable def ADU:Fun Tryz.prog:=⟨66,Tryz.f66,_,Tryz.func66,rfl,rfl,none,[]⟩
noncomputable def Sp:Fun Tryz.prog:=⟨68,Tryz.f68,_,Tryz.func68,rfl,rfl,none,[]⟩
noncomputable def Lt:Fun Tryz.prog:=⟨69,Tryz.f69,_,Tryz.func69,rfl,rfl,none,[]⟩
noncomputable def Qx:Fun Tryz.prog:=⟨71,Tryz.f71,_,Tryz.func71,rfl,rfl,none,[]⟩
noncomputable def ACO:Fun Tryz.prog:=⟨72,Tryz.f72,_,Tryz.func72,rfl,rfl,none,[]⟩
noncomputable def Mq:Fun Tryz.prog:=⟨73,Tryz.f73,_,Tryz.func73,rfl,rfl,none,[]⟩
noncomputable def Xz:Fun Tryz.prog:=⟨74,Tryz.f74,_,Tryz.func74,rfl,rfl,none,[]⟩
noncomputable def Yq:Fun Tryz.prog:=⟨75,Tryz.f75,_,Tryz.func75,rfl,rfl,none,[]⟩
noncomputable def Qw:Fun Tryz.prog:=⟨76,Tryz.f76,_,Tryz.func76,rfl,rfl,none,[]⟩
noncomputable def AAU:Fun Tryz.prog:=⟨78,Tryz.f78,_,Tryz.func78,rfl,rfl,none,[]⟩
noncomputable def ACM:Fun Tryz.prog:=⟨79,Tryz.f79,_,Tryz.func79,rfl,rfl,none,[]⟩
noncomputable def AEo:Fun Tryz.prog:=⟨83,Tryz.f83,_,Tryz.func83,rfl,rfl,none,[]⟩
noncomputable def Pp:Fun Tryz.prog:=⟨84,Tryz.f84,_,Tryz.func84,rfl,rfl,none,[]⟩
noncomputable def Yc:Fun Tryz.prog:=⟨85,Tryz.f85,_,Tryz.func85,rfl,rfl,none,[]⟩
noncomputable def Yd:Fun Tryz.prog:=⟨86,Tryz.f86,_,Tryz.func86,rfl,rfl,none,[]⟩
noncomputable def O5:Fun Tryz.prog:=⟨88,Tryz.f88,_,Tryz.func88,rfl,rfl,none,[]⟩
noncomputable def Yb:Fun Tryz.prog:=⟨89,Tryz.f89,_,Tryz.func89,rfl,rfl,none,[]⟩
noncomputable def AD0:Fun Tryz.prog:=⟨90,Tryz.f90,_,Tryz.func90,rfl,rfl,none,[]⟩
noncomputable def AFE:Fun Tryz.prog:=⟨91,Tryz.f91,_,Tryz.func91,rfl,rfl,none,[]⟩
noncomputable def Ns:Fun Tryz.prog:=⟨92,Tryz.f92,_,Tryz.func92,rfl,rfl,none,[]⟩
noncomputable def O8:Fun Tryz.prog:=⟨93,Tryz.f93,_,Tryz.func93,rfl,rfl,none,[]⟩
noncomputable def Om:Fun Tryz.prog:=⟨94,Tryz.f94,_,Tryz.func94,rfl,rfl,none,[]⟩
noncomputable def Kf:Fun Tryz.prog:=⟨95,Tryz.f95,_,Tryz.func95,rfl,rfl,none,[]⟩
noncomputable def Mv:Fun Tryz.prog:=⟨101,Tryz.f101,_,Tryz.func101,rfl,rfl,none,[]⟩
noncomputable def Mb:Fun Tryz.prog:=⟨103,Tryz.f103,_,Tryz.func103,rfl,rfl,none,[]⟩
noncomputable def Xa:Fun Tryz.prog:=⟨104,Tryz.f104,_,Tryz.func104,rfl,rfl,none,[]⟩
noncomputable def Oi:Fun Tryz.prog:=⟨105,Tryz.f105,_,Tryz.func105,rfl,rfl,none,[]⟩
noncomputable def Pi:Fun Tryz.prog:=⟨107,Tryz.f107,_,Tryz.func107,rfl,rfl,none,[]⟩
noncomputable def Kv:Fun Tryz.prog:=⟨108,Tryz.f108,_,Tryz.func108,rfl,rfl,none,[]⟩
noncomputable def Ut:Fun Tryz.prog:=⟨109,Tryz.f109,_,Tryz.func109,rfl,rfl,none,[]⟩
noncomputable def ABW:Fun Tryz.prog:=⟨110,Tryz.f110,_,Tryz.func110,rfl,rfl,none,[]⟩
noncomputable def Ij:Fun Tryz.prog:=⟨111,Tryz.f111,_,Tryz.func111,rfl,rfl,none,[]⟩
noncomputable def Tr:Fun Tryz.prog:=⟨112,Tryz.f112,_,Tryz.func112,rfl,rfl,none,[]⟩
noncomputable def AAO:Fun Tryz.prog:=⟨113,Tryz.f113,_,Tryz.func113,rfl,rfl,none,[]⟩
noncomputable def AAR:Fun Tryz.prog:=⟨114,Tryz.f114,_,Tryz.func114,rfl,rfl,none,[]⟩
noncomputable def Rc:Fun Tryz.prog:=⟨115,Tryz.f115,_,Tryz.func115,rfl,rfl,none,[]⟩
noncomputable def H2:Fun Tryz.prog:=⟨116,Tryz.f116,_,Tryz.func116,rfl,rfl,none,[]⟩
noncomputable def Kw:Fun Tryz.prog:=⟨117,Tryz.f117,_,Tryz.func117,rfl,rfl,none,[]⟩
noncomputable def AAF:Fun Tryz.prog:=⟨118,Tryz.f118,_,Tryz.func118,rfl,rfl,none,[]⟩
noncomputable def AAJ:Fun Tryz.prog:=⟨119,Tryz.f119,_,Tryz.func119,rfl,rfl,none,[]⟩
noncomputable def Nb:Fun Tryz.prog:=⟨120,Tryz.f120,_,Tryz.func120,rfl,rfl,none,[]⟩
noncomputable def AAp:Fun Tryz.prog:=⟨121,Tryz.f121,_,Tryz.func121,rfl,rfl,none,[]⟩
noncomputable def Yi:Fun Tryz.prog:=⟨122,Tryz.f122,_,Tryz.func122,rfl,rfl,none,[]⟩
noncomputable def ADW:Fun Tryz.prog:=⟨123,Tryz.f123,_,Tryz.func123,rfl,rfl,none,[]⟩
noncomputable def ACk:Fun Tryz.prog:=⟨124,Tryz.f124,_,Tryz.func124,rfl,rfl,none,[]⟩
noncomputable def ACW:Fun Tryz.prog:=⟨125,Tryz.f125,_,Tryz.func125,rfl,rfl,none,[]⟩
noncomputable def Ts:Fun Tryz.prog:=⟨126,Tryz.f126,_,Tryz.func126,rfl,rfl,none,[]⟩
noncomputable def Se:Fun Tryz.prog:=⟨127,Tryz.f127,_,Tryz.func127,rfl,rfl,none,[]⟩
noncomputable def Us:Fun Tryz.prog:=⟨128,Tryz.f128,_,Tryz.func128,rfl,rfl,none,[]⟩
noncomputable def M1:Fun Tryz.prog:=⟨129,Tryz.f129,_,Tryz.func129,rfl,rfl,none,[]⟩
noncomputable def AAP:Fun Tryz.prog:=⟨130,Tryz.f130,_,Tryz.func130,rfl,rfl,none,[]⟩
noncomputable def Mw:Fun Tryz.prog:=⟨131,Tryz.f131,_,Tryz.func131,rfl,rfl,none,[]⟩
noncomputable def Q7:Fun Tryz.prog:=⟨132,Tryz.f132,_,Tryz.func132,rfl,rfl,none,[]⟩
noncomputable def On:Fun Tryz.prog:=⟨133,Tryz.f133,_,Tryz.func133,rfl,rfl,none,[]⟩
noncomputable def Tw:Fun Tryz.prog:=⟨134,Tryz.f134,_,Tryz.func134,rfl,rfl,none,[]⟩
noncomputable def R0:Fun Tryz.prog:=⟨135,Tryz.f135,_,Tryz.func135,rfl,rfl,none,[]⟩
noncomputable def AEj:Fun Tryz.prog:=⟨136,Tryz.f136,_,Tryz.func136,rfl,rfl,none,[]⟩
noncomputable def H1:Fun Tryz.prog:=⟨137,Tryz.f137,_,Tryz.func137,rfl,rfl,none,[]⟩
noncomputable def Rt:Fun Tryz.prog:=⟨138,Tryz.f138,_,Tryz.func138,rfl,rfl,none,[]⟩
noncomputable def Mn:Fun Tryz.prog:=⟨139,Tryz.f139,_,Tryz.func139,rfl,rfl,none,[]⟩
noncomputable def AAq:Fun Tryz.prog:=⟨144,Tryz.f144,_,Tryz.func144,rfl,rfl,none,[]⟩
noncomputable def Wn:Fun Tryz.prog:=⟨145,Tryz.f145,_,Tryz.func145,rfl,rfl,none,[]⟩
noncomputable def ACE:Fun Tryz.prog:=⟨146,Tryz.f146,_,Tryz.func146,rfl,rfl,none,[]⟩
noncomputable def Re:Fun Tryz.prog:=⟨147,Tryz.f147,_,Tryz.func147,rfl,rfl,none,[]⟩
noncomputable def G4:Fun Tryz.prog:=⟨149,Tryz.f149,_,Tryz.func149,rfl,rfl,none,[]⟩
noncomputable def Fm:Fun Tryz.prog:=⟨150,Tryz.f150,_,Tryz.func150,rfl,rfl,none,[]⟩
noncomputable def Mr:Fun Tryz.prog:=⟨151,Tryz.f151,_,Tryz.func151,rfl,rfl,none,[]⟩
noncomputable def J8:Fun Tryz.prog:=⟨152,Tryz.f152,_,Tryz.func152,rfl,rfl,none,[]⟩
noncomputable def Gq:Fun Tryz.prog:=⟨153,Tryz.f153,_,Tryz.func153,rfl,rfl,none,[]⟩
noncomputable def AD3:Fun Tryz.prog:=⟨154,Tryz.f154,_,Tryz.func154,rfl,rfl,none,[]⟩
noncomputable def Yf:Fun Tryz.prog:=⟨155,Tryz.f155,_,Tryz.func155,rfl,rfl,none,[]⟩
noncomputable def Zu:Fun Tryz.prog:=⟨156,Tryz.f156,_,Tryz.func156,rfl,rfl,none,[]⟩
noncomputable def Xb:Fun Tryz.prog:=⟨157,Tryz.f157,_,Tryz.func157,rfl,rfl,none,[]⟩
noncomputable def ACC:Fun Tryz.prog:=⟨158,Tryz.f158,_,Tryz.func158,rfl,rfl,none,[]⟩
noncomputable def ABG:Fun Tryz.prog:=⟨159,Tryz.f159,_,Tryz.func159,rfl,rfl,none,[]⟩
noncomputable def Tk:Fun Tryz.prog:=⟨160,Tryz.f160,_,Tryz.func160,rfl,rfl,none,[]⟩
noncomputable def AAz:Fun Tryz.prog:=⟨161,Tryz.f161,_,Tryz.func161,rfl,rfl,none,[]⟩
noncomputable def W8:Fun Tryz.prog:=⟨162,Tryz.f162,_,Tryz.func162,rfl,rfl,none,[]⟩
noncomputable def ABD:Fun Tryz.prog:=⟨163,Tryz.f163,_,Tryz.func163,rfl,rfl,none,[]⟩
noncomputable def Yl:Fun Tryz.prog:=⟨164,Tryz.f164,_,Tryz.func164,rfl,rfl,none,[]⟩
noncomputable def Vs:Fun Tryz.prog:=⟨165,Tryz.f165,_,Tryz.func165,rfl,rfl,none,[]⟩
noncomputable def Ye:Fun Tryz.prog:=⟨166,Tryz.f166,_,Tryz.func166,rfl,rfl,none,[]⟩
noncomputable def Um:Fun Tryz.prog:=⟨167,Tryz.f167,_,Tryz.func167,rfl,rfl,none,[]⟩
noncomputable def Si:Fun Tryz.prog:=⟨168,Tryz.f168,_,Tryz.func168,rfl,rfl,none,[]⟩
noncomputable def Yg:Fun Tryz.prog:=⟨169,Tryz.f169,_,Tryz.func169,rfl,rfl,none,[]⟩
noncomputable def ACI:Fun Tryz.prog:=⟨170,Tryz.f170,_,Tryz.func170,rfl,rfl,none,[]⟩
noncomputable def Wl:Fun Tryz.prog:=⟨171,Tryz.f171,_,Tryz.func171,rfl,rfl,none,[]⟩
noncomputable def Zx:Fun Tryz.prog:=⟨172,Tryz.f172,_,Tryz.func172,rfl,rfl,none,[]⟩
noncomputable def Z0:Fun Tryz.prog:=⟨173,Tryz.f173,_,Tryz.func173,rfl,rfl,none,[]⟩
noncomputable def If:Fun Tryz.prog:=⟨174,Tryz.f174,_,Tryz.func174,rfl,rfl,none,[]⟩
noncomputable def Rm:Fun Tryz.prog:=⟨176,Tryz.f176,_,Tryz.func176,rfl,rfl,none,[]⟩
noncomputable def Vj:Fun Tryz.prog:=⟨179,Tryz.f179,_,Tryz.func179,rfl,rfl,none,[]⟩
noncomputable def Oo:Fun Tryz.prog:=⟨180,Tryz.f180,_,Tryz.func180,rfl,rfl,none,[]⟩
noncomputable def Qt:Fun Tryz.prog:=⟨181,Tryz.f181,_,Tryz.func181,rfl,rfl,none,[]⟩
noncomputable def O1:Fun Tryz.prog:=⟨182,Tryz.f182,_,Tryz.func182,rfl,rfl,none,[]⟩
noncomputable def Ez:Fun Tryz.prog:=⟨183,Tryz.f183,_,Tryz.func183,rfl,rfl,none,[]⟩
noncomputable def X2:Fun Tryz.prog:=⟨189,Tryz.f189,_,Tryz.func189,rfl,rfl,none,[]⟩
noncomputable def ABX:Fun Tryz.prog:=⟨193,Tryz.f193,_,Tryz.func193,rfl,rfl,none,[]⟩
noncomputable def W3:Fun Tryz.prog:=⟨194,Tryz.f194,_,Tryz.func194,rfl,rfl,none,[]⟩
noncomputable def Ym:Fun Tryz.prog:=⟨195,Tryz.f195,_,Tryz.func195,rfl,rfl,none,[]⟩
noncomputable def V5:Fun Tryz.prog:=⟨196,Tryz.f196,_,Tryz.func196,rfl,rfl,none,[]⟩
noncomputable def AB5:Fun Tryz.prog:=⟨197,Tryz.f197,_,Tryz.func197,rfl,rfl,none,[]⟩
noncomputable def AC9:Fun Tryz.prog:=⟨198,Tryz.f198,_,Tryz.func198,rfl,rfl,none,[]⟩
noncomputable def Ph:Fun Tryz.prog:=⟨199,Tryz.f199,_,Tryz.func199,rfl,rfl,none,[]⟩
noncomputable def AAL:Fun Tryz.prog:=⟨200,Tryz.f200,_,Tryz.func200,rfl,rfl,none,[]⟩
noncomputable def X7:Fun Tryz.prog:=⟨201,Tryz.f201,_,Tryz.func201,rfl,rfl,none,[]⟩
noncomputable def He:Fun Tryz.prog:=⟨202,Tryz.f202,_,Tryz.func202,rfl,rfl,none,[]⟩
noncomputable def Rk:Fun Tryz.prog:=⟨203,Tryz.f203,_,Tryz.func203,rfl,rfl,none,[]⟩
noncomputable def X4:Fun Tryz.prog:=⟨204,Tryz.f204,_,Tryz.func204,rfl,rfl,none,[]⟩
noncomputable def Rj:Fun Tryz.prog:=⟨205,Tryz.f205,_,Tryz.func205,rfl,rfl,none,[]⟩
noncomputable def Rl:Fun Tryz.prog:=⟨206,Tryz.f206,_,Tryz.func206,rfl,rfl,none,[]⟩
noncomputable def Yp:Fun Tryz.prog:=⟨207,Tryz.f207,_,Tryz.func207,rfl,rfl,none,[]⟩
noncomputable def W5:Fun Tryz.prog:=⟨214,Tryz.f214,_,Tryz.func214,rfl,rfl,none,[]⟩
noncomputable def ADk:Fun Tryz.prog:=⟨215,Tryz.f215,_,Tryz.func215,rfl,rfl,none,[]⟩
noncomputable def Tq:Fun Tryz.prog:=⟨216,Tryz.f216,_,Tryz.func216,rfl,rfl,none,[]⟩
noncomputable def Z3:Fun Tryz.prog:=⟨217,Tryz.f217,_,Tryz.func217,rfl,rfl,none,[]⟩
end Go.Proofs.YtpienolhkccpnaaGreat
namespace Go.Fw
set_option linter.unusedVariables false
variable {P:Program}{C:Cx}{σ:Fr}{ty:TypeId}{β:List A4}{Γ:List Fact}
theorem ABi (σ:Fr):∀ l:List Value,Yv σ (l.map Operand.const)=some l
 | []=>rfl
 | v::l=>by
  have h:=ABi σ l
  simp [Yv,ev,h]
theorem ADe {K:Value→List A4→List Fact→Prop}{f:FuncId}{x:Operand}{xs:List Operand}{ts:Array TypeId}{args caps:List Value}(hv:ev σ x=some (.func (.func f) #[] caps.toArray)) (hx:Yv σ xs=some args)
  (h:Fb P C (.call { callee:=.value (.func f),args:=((args++caps).map Operand.const).toArray,argTypes:=ts }) ty σ β Γ K):Fb P C (.call { callee:=.value x,args:=xs.toArray,argTypes:=ts }) ty σ β Γ K:=by
 intro w hO hG ρ hρ
 have h1:=h w hO hG ρ hρ
 have hc:ρ (.func f) = .func (.func f) #[] #[]:=hρ _ _ rfl
 have hv':ρ x = .func (.func f) #[] caps.toArray:=hρ _ _ hv
 have ha:xs.toArray.map ρ=args.toArray:=by rw [List.map_toArray,T6 hρ hx]
 have hb:((args++caps).map Operand.const).toArray.map ρ=(args++caps).toArray:=by rw [List.map_toArray,T6 hρ (ABi σ _)]
 simp only [execOp,Da,resolve,hb,hc,Deferred.ofValue,Sem.run_bind,Sem.run_pure,Result.andThen_ok,invoke,Array.append_empty,Array.empty_append] at h1
 simp only [execOp,Da,resolve,ha,hv',Deferred.ofValue,Sem.run_bind,Sem.run_pure,Result.andThen_ok,invoke,Array.append_empty,Array.empty_append]
 rw [List.append_toArray]
 exact h1
theorem AKH {K:Value→List A4→List Fact→Prop}{f:FuncId}{cs:List Operand}{caps:List Value}(hx:Yv σ cs=some caps) (h:K (.func (.func f) #[] caps.toArray) β Γ):Fb P C (.makeFunc (.func f) #[] cs.toArray) ty σ β Γ K :=
 Fa (fun w ρ hρ=>by
  have ha:cs.toArray.map ρ=caps.toArray:=by rw [List.map_toArray,T6 hρ hx]
  simp [execOp,Da,ha,Instr.makeFunc]) h
open Go.RowKit (Below)
def Ja (b:Nat) (cs:List Value):Fact where
 holds:=fun w A=>A b∧Fv w b 0 cs.length cs
 stable:=fun h ⟨hb,h1⟩=>⟨(h _ hb).1,h1.same (h _ hb).2⟩
section
variable {P:Program}{F:Fun P}{C:Cx}{S:List It}{σ:Fr}{ty:TypeId}{β:List A4}{Γ:List Fact}{R:Value→World→Prop}
theorem Uk {e:TypeId}{b:Nat}{cs:List Value}(k:Nat) (hn:A5 β k=some (some b,e,cs)) (h:J F C S σ (β.eraseIdx k) (Ja b cs::Γ) R):J F C S σ β Γ R:=fun w hO hG=>by
 have hsub:(β.eraseIdx k).Sublist β:=List.eraseIdx_sublist _ _
 refine h w (hO.sub hsub) fun f hf=>?_
 rcases List.mem_cons.1 hf with rfl|hf
 ·refine ⟨?_,cs.toArray,e,(0,0),hO.blk _ (B7 hn) b rfl,by simp,rfl⟩
  have hlt:=hO.lt (B7 hn) rfl
  have hnew:=hO.new _ (B7 hn) b rfl
  refine ⟨?_,hlt,fun x hx e=>Jq hO.apart hn x hx e⟩
  rcases hnew with h1|h1
  ·exact .inr (.inr h1)
  ·exact .inr (.inl h1)
 ·exact Lg hsub hG f hf
theorem ACf {w:World}{A:Nat→Prop}{b o:Nat}{cs:List Value}{v:Value}(h:(Ja b cs).holds w A) (hv:cs[o]?=some v):w.cell? ⟨b,o,none⟩=some v:=by
 have:=h.2.rangeAt o v hv
 rwa [Nat.zero_add] at this
theorem ABh {w:World}{A:Nat→Prop}{b o m:Nat}{cs vs:List Value}(h:(Ja b cs).holds w A) (hv:(cs.drop o).take m=vs):w.rangeAt b o vs:=by
 intro j v hj
 refine ACf h ?_
 rw [← hv,List.getElem?_take] at hj
 split at hj
 ·rwa [List.getElem?_drop] at hj
 ·cases hj
theorem AMd {K:Value→List A4→List Fact→Prop}{t:TypeId}{x:Operand}{b o:Nat}{cs:List Value}{v:Value}(n:Nat) (hx:ev σ x=some (.pointer (some ⟨b,o,none⟩))) (hn:A5 Γ n=some (Ja b cs))
  (hT:Eb P t=some (false,1)) (hv:cs[o]?=some v) (h:K v β Γ):Fb P C (.load t x) ty σ β Γ K:=fun w hO hG =>
 Jp.done (F4 hT hx (ACf (hG _ (Af hn)) hv)) h hO hG
theorem AKi {K:Value→List A4→List Fact→Prop}{t:TypeId}{x:Operand}{b o m:Nat}{cs vs:List Value}(n:Nat) (hx:ev σ x=some (.pointer (some ⟨b,o,none⟩))) (hn:A5 Γ n=some (Ja b cs))
  (hT:Eb P t=some (true,m)) (hv:(cs.drop o).take m=vs) (hl:vs.length=m) (h:K (.agg vs.toArray) β Γ):Fb P C (.load t x) ty σ β Γ K:=fun w hO hG =>
 Jp.done (Gw hT hl hx (ABh (hG _ (Af hn)) hv)) h hO hG
theorem Zi {t:TypeId}{x:Operand}{b o:Nat}{cs:List Value}{v:Value}(n:Nat) (hx:ev σ x=some (.pointer (some ⟨b,o,none⟩))) (hn:A5 Γ n=some (Ja b cs))
  (hT:Eb P t=some (false,1)) (hv:cs[o]?=some v):JD P (.load t x) ty σ β Γ (fun _=>v) (fun _=>[]):=fun _ w hO hG =>
 (F4 hT hx (ACf (hG _ (Af hn)) hv)).ex.mono fun u w' ⟨h1,h2⟩=>by subst h1;subst h2;exact ⟨Below.refl _ _,fun _=>default,rfl,fun g hg=>by cases hg⟩
theorem AKX {t:TypeId}{x:Operand}{b o m:Nat}{cs vs:List Value}(n:Nat) (hx:ev σ x=some (.pointer (some ⟨b,o,none⟩))) (hn:A5 Γ n=some (Ja b cs))
  (hT:Eb P t=some (true,m)) (hv:(cs.drop o).take m=vs) (hl:vs.length=m):JD P (.load t x) ty σ β Γ (fun _=>.agg vs.toArray) (fun _=>[]):=fun _ w hO hG =>
 (Gw hT hl hx (ABh (hG _ (Af hn)) hv)).ex.mono fun u w' ⟨h1,h2⟩=>by subst h1;subst h2;exact ⟨Below.refl _ _,fun _=>default,rfl,fun g hg=>by cases hg⟩
end
section
variable {P:Program}{σ:Fr}{ty:TypeId}{β:List A4}{Γ:List Fact}
theorem AFO {t:TypeId}{x:Operand}{b o:Nat}{z:Int}{T:TypeId}{kd:IntKind}{l:List Int}(n:Nat) (hx:ev σ x=some (.pointer (some ⟨b,o,none⟩))) (hn:A5 β n=some (some b,T,Al kd l))
  (hT:Eb P t=some (false,1)) (ho:l[o]?=some z):JD P (.load t x) ty σ β Γ (fun _=>.int kd z) (fun _=>[]) :=
 Ca n hx hn hT (by simp [Al,ho])
end
theorem AC8 (k:IntKind) (n:Nat):(List.replicate n [Value.int k 0]).flatten=Al k (List.replicate n 0):=by
 induction n with
 | zero=>rfl
 | succ n ih=>rw [List.replicate_succ,List.flatten_cons,ih,List.replicate_succ];rfl
section
variable {P:Program}{F:Fun P}{C:Cx}{S:List It}{σ:Fr}{ty:TypeId}{β:List A4}{Γ:List Fact}{R:Value→World→Prop}
theorem AGa {K:Value→List A4→List Fact→Prop}{x y:Operand}{t u:TypeId}{m n:Int}(a b:Nat) (hx:ev σ x=some (.int .i64 m)) (hy:ev σ y=some (.int .i64 n)) (hm:m=a) (hn:n=b) (ha:a<256) (hb:b<256)
  (h:K (.int .i64 ((a ^^^ b:Nat):Int)) β Γ):Fb P C (.binOp .xor t x y u) ty σ β Γ K :=
 Fa (fun w ρ hρ=>by
  subst hm;subst hn
  have h1:a ^^^ b<256:=Nat.xor_lt_two_pow (n:=8) ha hb
  have h2:IntKind.wrap .i64 ((a ^^^ b:Nat):Int)=((a ^^^ b:Nat):Int):=Ni (by simp only [Bv];omega)
  simp only [execOp,Da,hρ _ _ hx,hρ _ _ hy,eqGuard,Go.binOp,Op.intBits]
  have e:(BitVec.ofNat 64 a ^^^ BitVec.ofNat 64 b).toNat=a ^^^ b:=by rw [BitVec.toNat_xor,BitVec.toNat_ofNat,BitVec.toNat_ofNat,Nat.mod_eq_of_lt (by omega),Nat.mod_eq_of_lt (by omega)]
  simp [IntKind.bits]
  exact (congrArg (fun z:Nat=>IntKind.wrap .i64 (z:Int)) e).trans h2) h
theorem AAm {K:Value→List A4→List Fact→Prop}{t e u:TypeId}{m:Nat}{x y:Operand}{a:Addr}{n c:Nat}(hT:Ev P t=some (e,m)) (hx:ev σ x=some (.slice (some a) n c)) (hy:ev σ y=some (.slice none 0 0)) (h:K (.bool false) β Γ):Fb P C (.binOp .eql t x y u) ty σ β Γ K :=
 Fa (fun w ρ hρ=>by
  have:=run_eql_slice_nil (P:=P) w t e (some a) n c (Cu hT).1
  simp [execOp,Da,hρ _ _ hx,hρ _ _ hy,eqGuard,this]) h
theorem ADd {K:Value→List A4→List Fact→Prop}{t e u:TypeId}{m:Nat}{x y:Operand}{n c:Nat}(hT:Ev P t=some (e,m)) (hx:ev σ x=some (.slice none n c)) (hy:ev σ y=some (.slice none 0 0)) (h:K (.bool true) β Γ):Fb P C (.binOp .eql t x y u) ty σ β Γ K :=
 Fa (fun w ρ hρ=>by
  have:=run_eql_slice_nil (P:=P) w t e none n c (Cu hT).1
  simp [execOp,Da,hρ _ _ hx,hρ _ _ hy,eqGuard,this]) h
theorem AIa {α:Type}{E:Enc α}{pa:Option Addr}{n ca:Nat}{l:List α}(j:Nat) (hj:A5 Γ j=some (Ap E pa n ca l)) (hn:0<n) (h:∀ b o,pa=some ⟨b,o,none⟩→J F C S σ β Γ R):J F C S σ β Γ R:=fun w hO hG=>by
 obtain ⟨hl,_,_,hs⟩:=hG _ (Af hj)
 rcases hs with rfl|⟨b,o,e,_⟩
 ·simp at hl;omega
 ·exact h b o e w hO hG
end
def cpL {α:Type}(cs:List α) (o1 o2 n:Nat):List α:=cs.take o1++(cs.drop o2).take n++cs.drop (o1+n)
theorem AHf {α:Type}(cs:List α) (o1 o2:Nat):cpL cs o1 o2 0=cs:=by simp [cpL]
theorem AE4 {α:Type}{cs:List α}{o1 o2 n:Nat}(h1:o1+n≤cs.length) (h2:o2+n≤cs.length):(cpL cs o1 o2 n).length=cs.length:=by
 simp only [cpL,List.length_append,List.length_take,List.length_drop];omega
theorem AJm (k:IntKind) (l:List Int) (o1 o2 n:Nat):cpL (Al k l) o1 o2 n=Al k (cpL l o1 o2 n):=by
 simp only [cpL,Al,List.map_append,List.map_take,List.map_drop]
theorem AIn (k:IntKind) (l:List Nat) (o1 o2 n:Nat):cpL (Ao k l) o1 o2 n=Ao k (cpL l o1 o2 n):=by
 simp only [cpL,Ao,List.map_append,List.map_take,List.map_drop]
theorem ACs (k:IntKind) (l:List Nat):∀ v∈Ao k l,v.oneCell'=true:=fun v hv=>by
 obtain ⟨x,_,rfl⟩:=List.mem_map.1 hv;rfl
theorem ABJ (k:IntKind) (l:List Int):∀ v∈Al k l,v.oneCell'=true:=fun v hv=>by
 obtain ⟨x,_,rfl⟩:=List.mem_map.1 hv;rfl
theorem AI7 {α:Type}{cs:List α}{o1 o2 n j:Nat}(h1:o1+n≤cs.length) (h2:o2+n≤cs.length):(cpL cs o1 o2 n)[j]?=if j<o1 then cs[j]? else if j<o1+n then cs[o2+(j-o1)]? else cs[j]?:=by
 have l1:(cs.take o1).length=o1:=by rw [List.length_take];omega
 have l2:((cs.drop o2).take n).length=n:=by rw [List.length_take,List.length_drop];omega
 rw [cpL]
 by_cases h:j<o1
 ·rw [if_pos h,List.append_assoc,List.getElem?_append_left (by omega),List.getElem?_take,if_pos h]
 ·rw [if_neg h,List.append_assoc,List.getElem?_append_right (by omega),l1]
  by_cases h3:j<o1+n
  ·rw [if_pos h3,List.getElem?_append_left (by omega),List.getElem?_take,if_pos (by omega),List.getElem?_drop]
  ·rw [if_neg h3,List.getElem?_append_right (by omega),l2,List.getElem?_drop]
   congr 1;omega
section
variable {P:Program}{F:Fun P}{C:Cx}{S:List It}{σ:Fr}{ty:TypeId}{β:List A4}{Γ:List Fact}{R:Value→World→Prop}{p:List Nat}{i:Nat}{d:Option Tmp}
theorem AJD {t t2 e:TypeId}{x y:Operand}{b o1 o2 n1 c1 n2 c2 n:Nat}{T:TypeId}{cs:List Value}{p1 p2:Option Addr}(hx:ev σ x=some (.slice p1 n1 c1)) (hy:ev σ y=some (.slice p2 n2 c2)) (hT:Ev P t=some (e,1))
  (hn:Nat.min n2 n1=n) (hp:n=0∨(p1=some ⟨b,o1,none⟩∧p2=some ⟨b,o2,none⟩)) (h1:o1+n≤cs.length) (h2:o2+n≤cs.length) (hone:∀ v∈cs,v.oneCell'=true) :
  JG P (.call { callee:=.builtin .copy,args:=#[x,y],argTypes:=#[t,t2] }) ty σ (some [(some b,T,cs)]) Γ (fun _=>[(some b,T,cpL cs o1 o2 n)]) (fun _=>.int .i64 n) (fun _=>[]):=by
 intro w A hA hpb _ hG
 obtain ⟨hu,inf,hi,hs⟩:=Cu hT
 have hsz:(P.info? e).map (·.size)=some 1:=by rw [hi];simp [hs]
 have hblk:w.heap[b]?=some (.cells cs.toArray T (0,0)):=hpb _ (.head _) b rfl
 have key:∃ w',(Builtin.copy_ #[t,t2] ty #[.slice p1 n1 c1,.slice p2 n2 c2]).run P w = .ok (goInt n) w'∧Other b w w'∧w'.heap[b]?=some (.cells (cpL cs o1 o2 n).toArray T (0,0)):=by
  rcases Nat.eq_zero_or_pos n with h0|h0
  ·subst h0
   refine ⟨w,run_copy_none (P:=P) w t t2 ty e p1 p2 n1 c1 n2 c2 hu hsz hn,⟨rfl,rfl,rfl,rfl,fun _ _=>rfl⟩,?_⟩
   rw [AHf];exact hblk
  ·obtain ⟨rfl,rfl⟩:=hp.resolve_left (by omega)
   have hl:((cs.drop o2).take n).length=n:=by rw [List.length_take,List.length_drop];omega
   have hr:=run_copy_row (P:=P) w t t2 ty e b o1 n1 c1 ⟨b,o2,none⟩ n2 c2 cs.toArray T ((cs.drop o2).take n) hu hsz hblk (by rw [hl,hn]) (fun j v hv=>by
    rw [Addr.add_mid]
    rw [List.getElem?_take] at hv
    split at hv
    ·rw [List.getElem?_drop] at hv
     simp [World.cell?,hblk,hv]
    ·cases hv) (by rw [hl];simpa using h1) (fun v hv=>hone v (List.mem_of_mem_drop (List.mem_of_mem_take hv)))
   rw [hl] at hr
   refine ⟨_,hr,⟨rfl,rfl,rfl,by simp [World.setRow],fun k hk=>setRow_other w b k _ hk⟩,?_⟩
   exact setRow_heap w b _ _ T _ hblk
 obtain ⟨w',hr,ho,hb'⟩:=key
 intro ρ hρ
 simp only [execOp,Da,resolve,invoke,builtin,Sem.run_bind,Sem.run_pure,Result.andThen_ok,List.map_toArray,List.map_cons,List.map_nil,hρ _ _ hx,hρ _ _ hy,hr]
 refine ⟨fun _=>default,rfl,⟨ho.os,ho.tape,ho.output,Nat.le_of_eq ho.size.symm,fun k hk hm=>ho.block k fun e=>hm ⟨_,.head _,by rw [e]⟩⟩,⟨fun y hy=>(by cases hy),trivial⟩,fun y hy bb hb=>?_,fun g hg=>by cases hg⟩
 obtain rfl:=List.mem_singleton.1 hy
 obtain rfl:=Option.some.inj hb
 exact ⟨.inr ⟨_,.head _,rfl⟩,hb'⟩
theorem AIg {it:List (TypeId×IntKind)}{L:List Oper}{pos:List Po}{pt:List (List Nat)}{κ:Fr}{fs:List (Nat×Fact)}{al:List A4}{k:Nat}{t t2 e:TypeId}{x y:Operand}{b o1 o2 n1 c1 n2 c2:Nat}{T:TypeId}{cs:List Value}{p1 p2:Option Addr}(n:Nat)
  (ho:Sz F.fn.ntmps L κ i=some (d,.call { callee:=.builtin .copy,args:=#[x,y],argTypes:=#[t,t2] },ty)) (hx:ev σ x=some (.slice p1 n1 c1)) (hy:ev σ y=some (.slice p2 n2 c2)) (hT:Ev P t=some (e,1))
  (hn:Nat.min n2 n1=n) (hp:n=0∨(p1=some ⟨b,o1,none⟩∧p2=some ⟨b,o2,none⟩)) (h1:o1+n≤cs.length) (h2:o2+n≤cs.length) (hone:∀ v∈cs,v.oneCell'=true)
  (h:Je it F C p S L pt β Γ R k (i+1) pos (Hb d κ) (putF d (.int .i64 n) σ) fs ((some b,T,cpL cs o1 o2 n)::al) none) :
  Je it F C p S L pt β Γ R k i (.sg (fun _=>[(some b,T,cpL cs o1 o2 n)]) (fun _=>.int .i64 n) (fun _=>[])::pos) κ σ fs al (some [(some b,T,cs)]) :=
 AKr ho (AJD hx hy hT hn hp h1 h2 hone) fun _=>h
end
set_option linter.unusedVariables false
def Zy (l:List Fact):Fact where
 holds:=fun w A=>∀ g∈l,g.holds w A
 stable:=fun h hs g hg=>g.stable h (hs g hg)
section
variable {P:Program}{F:Fun P}{C:Cx}{S:List It}{σ:Fr}{β:List A4}{Γ:List Fact}{R:Value→World→Prop}
theorem ACp {l:List Fact}(ix:List Nat) (hp:pick Γ ix=some l) (h:J F C S σ β (Zy l::Γ) R):J F C S σ β Γ R :=
 Eh (Zy l) (fun w A hG g hg=>hG g (Ee hp g hg)) h
theorem AAh {l:List Fact}(k:Nat) (hk:A5 Γ k=some (Zy l)) (h:J F C S σ β (l++Γ) R):J F C S σ β Γ R :=
 fun w hO hG=>h w hO fun g hg=>by
  rcases List.mem_append.1 hg with hg|hg
  ·exact hG _ (Af hk) g hg
  ·exact hG g hg
end
section
variable {P:Program}{f:FuncId}{args:List Value}{β:List A4}{Γ:List Fact}{Q:Value→List Fact→List A4→Prop}
theorem Bt.mono {Q':Value→List Fact→List A4→Prop}(h:Bt P f args β Γ Q) (hQ:∀ (C:Cx) (w:World) v Φ β',Q v Φ β'→Own C w β'→(∀ g∈Φ,g.holds w (ok C w β'))→∃ Φ2 β2,Q' v Φ2 β2∧Own C w β2∧∀ g∈Φ2,g.holds w (ok C w β2)):Bt P f args β Γ Q' :=
 ⟨h.1,fun w A h1 h2 h3 h4=>(h.2 w A h1 h2 h3 h4).mono fun e w' hr=>by
  cases e with
  | returned v =>
   obtain ⟨Φ,β',hq,ho,hf⟩:=hr
   exact hQ _ _ _ _ _ hq ho hf
  | _=>exact hr⟩
theorem AFd {C:Cx}{w:World}{α:Type}{E:Enc α}{e:TypeId}{bo:Option Nat}{n cap:Nat}{cs:List Value}{l:List α}{k:Nat}(hO:Own C w β) (hn:A5 β k=some (bo,e,cs)) (hj:(A7 E ⟨bo,cap,cs⟩ n l).holds w (ok C w β)) (hby:n*E.bytes≤140737488355328) :
  (Ap E (ad bo) n cap l).holds w (ok C w (β.eraseIdx k)):=by
 obtain ⟨hl,hg,vss,hall,hc⟩:=hj
 have hsub:(β.eraseIdx k).Sublist β:=List.eraseIdx_sublist _ _
 refine ⟨hl,?_⟩
 subst hl
 rcases hg with ⟨h0,hn0,h1,h2⟩|⟨b,h0,hnc,hcm,hcs⟩
 ·have:l=[]:=List.eq_nil_of_length_eq_zero hn0
  subst this
  dsimp only at h0 h1
  subst h0;subst h1
  exact ⟨Nat.le_refl _,hby,.inl rfl⟩
 ·dsimp only at h0 hnc hcm hcs hc
  subst h0
  refine ⟨hnc,hby,.inr ⟨b,0,rfl,?_,fun i x hi=>?_⟩⟩
  ·have hlt:=hO.lt (B7 hn) rfl
   have hnew:=hO.new _ (B7 hn) b rfl
   refine ⟨?_,hlt,fun x hx e=>Jq hO.apart hn x hx e⟩
   rcases hnew with h1|h1
   ·exact .inr (.inr h1)
   ·exact .inr (.inl h1)
  ·have hlt:i<l.length:=(List.getElem?_eq_some_iff.1 hi).1
   obtain ⟨vs,hvs⟩:∃ vs,vss[i]?=some vs:=⟨vss[i]'(hall.1.symm▸hlt),by simp⟩
   have hpart:=Hi (Gb hall) i vs hvs
   have hrd:=hall.2 i vs x hvs hi
   refine ⟨vs,⟨cs.toArray,e,(0,0),hO.blk _ (B7 hn) b rfl,?_,E.len hrd⟩,E.stable (fun _ hk=>⟨⟨hk.1,hk.2.1,fun x hx=>hk.2.2 x (hsub.subset hx)⟩,rfl⟩) hrd⟩
   rw [← hpart,← hc,Nat.zero_add,List.drop_take,List.take_take]
   congr 1
   have h4:(i+1)*E.size≤l.length*E.size:=Nat.mul_le_mul_right _ hlt
   rw [Nat.succ_mul] at h4
   omega
theorem Bt.pubR {α:Type}{E:Enc α}{e:TypeId}{n:Nat}{l:List α}(hby:n*E.bytes≤140737488355328) (h:Bt P f args β Γ (fun v Φ β'=>∃ r:Row,v = .slice (ad r.bo) n r.cap∧Φ=[A7 E r n l]∧β'=[(r.bo,e,r.cs)])) :
  Bt P f args β Γ (fun v Φ β'=>∃ pa ca,v = .slice pa n ca∧Φ=[Ap E pa n ca l]∧β'=[]) :=
 h.mono fun C w v Φ β' ⟨r,h1,h2,h3⟩ hO hf=>by
  subst h1;subst h2;subst h3
  have hO':Own C w []:=hO.sub (List.nil_sublist _)
  refine ⟨_,_,⟨_,_,rfl,rfl,rfl⟩,hO',fun g hg=>?_⟩
  obtain rfl:=List.mem_singleton.1 hg
  exact AFd (k:=0) hO rfl (hf _ (.head _)) hby
end
open Go.RowKit (Below)
set_option linter.unusedVariables false
def nfS (B:Code):Nat→List It→Option (List It)
 | 0,S=>some S
 | n+1,S=>match nx B S with
  | some S'=>nfS B n S'
  | none=>some S
def nfB (B:Code) (S:List It):Option (List It) :=
 match nx B S with
 | some S'=>nfS B 60 S'
 | none=>none
def AHc {P:Program}(it:List (TypeId×IntKind)) (F:Fun P) (p:List Nat):Nat→Nat→Fr→Prop→Option (Nat×Fr×Prop)
 | 0,i,σ,q=>some (i,σ,q)
 | n+1,i,σ,q=>match Wa it F p 1 i σ q with
  | some (σ',q')=>AHc it F p n (i+1) σ' q'
  | none=>some (i,σ,q)
def AL3 {P:Program}(it:List (TypeId×IntKind)) (F:Fun P) (p:List Nat) (n i:Nat) (σ:Fr):Option (Nat×Fr×Prop) :=
 match Wa it F p 1 i σ True with
 | some (σ',q')=>AHc it F p n (i+1) σ' q'
 | none=>none
def Qe {P:Program}(F:Fun P) (p:List Nat) (i:Nat) (σ:Fr):Option (Option Tmp×Op×TypeId) :=
 match AAa F p i with
 | some x=>some x
 | none=>match Lo F p i with
  | some (g,want,d,op,ty)=>match Fr.get g σ with
   | some (.bool true)=>match want with
    | true=>some (d,op,ty)
    | false=>none
   | some (.bool false)=>match want with
    | false=>some (d,op,ty)
    | true=>none
   | _=>none
  | none=>none
def kdO:Op→Nat
 | .load _ _=>6
 | .store _ _ _=>7
 | .indexAddr _ _ _=>8
 | .fieldAddr _ _ _=>9
 | .box _ _=>10
 | .alloc _=>11
 | .makeSlice _ _ _=>12
 | .buildSlice _ _ _=>13
 | .build _ _=>14
 | .call { callee:=.builtin .len,.. }=>15
 | .call { callee:=.builtin .append,.. }=>16
 | .call { callee:=.value (.func _),.. }=>17
 | .call _=>20
 | .slice _ _ _ _ _=>18
 | .makeFunc _ _ _=>19
 | _=>5
def kdS {P:Program}(F:Fun P):List It→Option Nat
 | .c p::S=>match sub p F.B with
  | .cond _ _ _=>some 1
  | .ret=>some 3
  | .loop _=>some 4
  | .region _ _ true=>some 2
  | _=>some 0
 | .o p i::S=>match Nat.ble (Ak (sub p F.B)).length i with
  | true=>some 0
  | false=>match AAa F p i with
   | some (_,op,_)=>some (kdO op)
   | none=>some 30
 | .blk _::_=>some 0
 | _=>none
structure Kd (n:Nat) (q:Prop):Prop where
 h:q
structure Cnt (n:Nat):Prop where
 h:True
theorem Cnt.dec {n:Nat}(_:Cnt (n+1)):Cnt n:=⟨trivial⟩
structure Wr (q:Prop):Prop where
 h:q
theorem pop {a b q:Prop}(h:Wr (a∧b)) (k:Wr a→Wr b→q):q:=k ⟨h.h.1⟩ ⟨h.h.2⟩
theorem kd0 {q:Prop}(h:q):Kd 0 q:=⟨h⟩
theorem kd1 {q:Prop}(h:q):Kd 1 q:=⟨h⟩
theorem kd5 {q:Prop}(h:q):Kd 5 q:=⟨h⟩
theorem kd6 {q:Prop}(h:q):Kd 6 q:=⟨h⟩
theorem kd7 {q:Prop}(h:q):Kd 7 q:=⟨h⟩
theorem kd8 {q:Prop}(h:q):Kd 8 q:=⟨h⟩
theorem kd9 {q:Prop}(h:q):Kd 9 q:=⟨h⟩
theorem ALK {q:Prop}(h:q):Kd 10 q:=⟨h⟩
theorem AMk {q:Prop}(h:q):Kd 11 q:=⟨h⟩
theorem kd2 {q:Prop}(h:q):Kd 2 q:=⟨h⟩
theorem AM6 {q:Prop}(h:q):Kd 12 q:=⟨h⟩
theorem AM1 {q:Prop}(h:q):Kd 13 q:=⟨h⟩
theorem AMK {q:Prop}(h:q):Kd 14 q:=⟨h⟩
theorem AMr {q:Prop}(h:q):Kd 17 q:=⟨h⟩
theorem AMG {q:Prop}(h:q):Kd 19 q:=⟨h⟩
theorem AMZ {q:Prop}(h:q):Kd 21 q:=⟨h⟩
theorem AM0 {q:Prop}(h:q):Kd 22 q:=⟨h⟩
theorem AMF {q:Prop}(h:q):Kd 30 q:=⟨h⟩
theorem ALI {q:Prop}(h:q):Kd 15 q:=⟨h⟩
def lk {α:Type}(t:Nat):List (Nat×α)→Option α
 | []=>none
 | (i,x)::l=>match Nat.beq i t with
  | true=>some x
  | false=>lk t l
def AAH {α:Type}(f:Nat→Option α):List (Nat×α)→Prop
 | []=>True
 | (t,x)::l=>f t=some x∧AAH f l
theorem AAH.get {α:Type}{f:Nat→Option α}{t:Nat}{x:α}:∀ {l:List (Nat×α)},AAH f l→lk t l=some x→f t=some x:=by
 intro l
 induction l with
 | nil=>intro _ h;cases h
 | cons y l ih =>
  intro ha h
  obtain ⟨i,z⟩:=y
  simp only [lk] at h
  split at h
  ·rename_i hb
   obtain rfl:=Nat.eq_of_beq_eq_true hb
   obtain rfl:=Option.some.inj h
   exact ha.1
  ·exact ih ha.2 h
def AJo (P:Program):List (Nat×List (Nat×Nat))→Prop
 | []=>True
 | (t,x)::l=>AAH (Kh P t) x∧AJo P l
theorem AJo.get {P:Program}{t:Nat}{x:List (Nat×Nat)}:∀ {l:List (Nat×List (Nat×Nat))},AJo P l→lk t l=some x→AAH (Kh P t) x:=by
 intro l
 induction l with
 | nil=>intro _ h;cases h
 | cons y l ih =>
  intro ha h
  obtain ⟨i,z⟩:=y
  simp only [lk] at h
  split at h
  ·rename_i hb
   obtain rfl:=Nat.eq_of_beq_eq_true hb
   obtain rfl:=Option.some.inj h
   exact ha.1
  ·exact ih ha.2 h
structure Tb (P:Program) where
 ld:List (Nat×Bool×Nat)
 sl:List (Nat×Nat×Nat)
 fd:List (Nat×List (Nat×Nat))
 zo:List (Nat×List Value)
 st:List (Nat×List (Nat×Nat))
 by':List (Nat×Nat)
 hld:AAH (Eb P) ld
 hsl:AAH (Ev P) sl
 hfd:AJo P fd
 hzo:AAH (Cr P) zo
 hst:AAH (I1 P) st
 hby:AAH (fun t=>some (P.bytesOf t)) by'
theorem Tb.ldT {P:Program}(T:Tb P) {t:Nat}{x:Bool×Nat}(h:lk t T.ld=some x):Eb P t=some x:=T.hld.get h
theorem Tb.slT {P:Program}(T:Tb P) {t:Nat}{x:Nat×Nat}(h:lk t T.sl=some x):Ev P t=some x:=T.hsl.get h
theorem Tb.zoT {P:Program}(T:Tb P) {t:Nat}{x:List Value}(h:lk t T.zo=some x):Cr P t=some x:=T.hzo.get h
theorem Tb.stT {P:Program}(T:Tb P) {t:Nat}{x:List (Nat×Nat)}(h:lk t T.st=some x):I1 P t=some x:=T.hst.get h
theorem Tb.byt {P:Program}(T:Tb P) {t n:Nat}(h:lk t T.by'=some n):P.bytesOf t=n:=Option.some.inj (T.hby.get h)
def fdK (fd:List (Nat×List (Nat×Nat))) (t j:Nat):Option Nat :=
 match lk t fd with
 | some l=>lk j l
 | none=>none
theorem Tb.fld {P:Program}(T:Tb P) {t j o:Nat}(h:fdK T.fd t j=some o):Kh P t j=some o:=by
 unfold fdK at h
 split at h
 ·rename_i l hl;exact (T.hfd.get hl).get h
 ·cases h
section
variable {P:Program}{F:Fun P}{C:Cx}{S S':List It}{σ:Fr}{β:List A4}{Γ:List Fact}{R:Value→World→Prop}{p:List Nat}{i:Nat}{d:Option Tmp}{op:Op}{ty:TypeId}{K:Value→List A4→List Fact→Prop}
theorem AIN {w:World}:∀ (n:Nat) {S S':List It},nfS F.B n S=some S'→L9 F S' σ w R→L9 F S σ w R:=by
 intro n
 induction n with
 | zero=>intro S S' h hr;cases h;exact hr
 | succ n ih =>
  intro S S' h hr
  simp only [nfS] at h
  cases hn:nx F.B S with
  | none=>rw [hn] at h;cases h;exact hr
  | some T=>rw [hn] at h;exact AEm hn (ih h hr)
theorem AMY (k:Nat) (h:kdS F S=some k) (hJ:Kd k (J F C S σ β Γ R)):J F C S σ β Γ R:=hJ.h
theorem AMU (h:nfB F.B S=some S') (hJ:J F C S' σ β Γ R):J F C S σ β Γ R:=fun w ho hf=>by
 unfold nfB at h
 cases hn:nx F.B S with
 | none=>rw [hn] at h;cases h
 | some T=>rw [hn] at h;exact AEm hn (AIN 60 h (hJ w ho hf))
theorem ALk {it:List (TypeId×IntKind)}(hit:Bw P it):∀ (n i:Nat) (σ σ':Fr) (q q':Prop) (i':Nat),AHc it F p n i σ q=some (i',σ',q')→q'→(q→J F C (.o p i'::S) σ' β Γ R→J F C (.o p i::S) σ β Γ R)∧q:=by
 intro n
 induction n with
 | zero=>intro i σ σ' q q' i' h hq;simp only [AHc,Option.some.injEq,Prod.mk.injEq] at h;obtain ⟨rfl,rfl,rfl⟩:=h;exact ⟨fun _ h=>h,hq⟩
 | succ n ih =>
  intro i σ σ' q q' i' h hq
  simp only [AHc] at h
  split at h
  ·rename_i σ1 q1 h1
   obtain ⟨g1,g2⟩:=ih _ _ _ _ _ _ h hq
   exact ⟨fun _ hJ=>AEx hit 1 i σ σ1 q q1 h1 g2 (g1 g2 hJ),S5 _ _ _ _ _ _ h1 g2⟩
  ·simp only [Option.some.injEq,Prod.mk.injEq] at h;obtain ⟨rfl,rfl,rfl⟩:=h;exact ⟨fun _ h=>h,hq⟩
theorem Rp {it:List (TypeId×IntKind)}(hit:Bw P it) (n:Nat) {i':Nat}{σ':Fr}{q:Prop}(h:AL3 it F p n i σ=some (i',σ',q)) (hq:q) (hJ:J F C (.o p i'::S) σ' β Γ R):J F C (.o p i::S) σ β Γ R:=by
 unfold AL3 at h
 split at h
 ·rename_i σ1 q1 h1
  obtain ⟨g1,g2⟩:=ALk (C:=C) (S:=S) (β:=β) (Γ:=Γ) (R:=R) hit _ _ _ _ _ _ _ h hq
  exact AEx hit 1 i σ σ1 True q1 h1 g2 (g1 g2 hJ)
 ·cases h
theorem Dl (ho:Qe F p i σ=some (d,op,ty)) (hx:Fb P C op ty σ β Γ fun v β' Γ'=>J F C (.o p (i+1)::S) (putF d v σ) β' Γ' R):J F C (.o p i::S) σ β Γ R:=by
 unfold Qe at ho
 split at ho
 ·rename_i h1;cases ho;exact Aa h1 hx
 ·split at ho
  ·rename_i h2
   split at ho
   ·rename_i hg
    split at ho
    ·cases ho;exact Bp h2 hg hx
    ·cases ho
   ·rename_i hg
    split at ho
    ·cases ho;exact Bp h2 hg hx
    ·cases ho
   ·cases ho
  ·cases ho
class DecB (b:Bool) (q:outParam Prop):Prop where
 ok:b=true↔q
instance {q:Prop} [Decidable q]:DecB (decide q) q:=⟨decide_eq_true_iff⟩
class NDecB (b:Bool) (q:outParam Prop):Prop where
 ok:b=false↔q
instance {q:Prop} [Decidable q]:NDecB (!decide q) q:=⟨by simp⟩
theorem DecB.no {b:Bool}{q:Prop} [h:DecB b q] (hq:¬ q):b=false:=by
 cases b with
 | false=>rfl
 | true=>exact absurd (h.ok.1 rfl) hq
theorem NDecB.no {b:Bool}{q:Prop} [h:NDecB b q] (hq:¬ q):b=true:=by
 cases b with
 | true=>rfl
 | false=>exact absurd (h.ok.1 rfl) hq
theorem cur {a b q:Prop}(h:a→b→q):a∧b→q:=fun ⟨x,y⟩=>h x y
theorem n0 {α:Type}{x:α}{l:List α}:A5 (x::l) 0=some x:=rfl
theorem n1 {α:Type}{x y:α}{l:List α}{n:Nat}(h:A5 l n=some y):A5 (x::l) (n+1)=some y:=h
class NatF (m:Int) (k:outParam Nat):Prop where
 ok:True
instance {k:Nat}:NatF (k:Int) k:=⟨trivial⟩
instance:NatF 0 0:=⟨trivial⟩
instance:NatF 1 1:=⟨trivial⟩
instance:NatF 2 2:=⟨trivial⟩
instance:NatF 3 3:=⟨trivial⟩
instance:NatF 4 4:=⟨trivial⟩
instance:NatF 5 5:=⟨trivial⟩
instance:NatF 6 6:=⟨trivial⟩
instance:NatF 7 7:=⟨trivial⟩
instance:NatF 8 8:=⟨trivial⟩
instance:NatF 9 9:=⟨trivial⟩
instance:NatF 10 10:=⟨trivial⟩
instance (priority:=low) {m:Int}:NatF m m.toNat:=⟨trivial⟩
instance {a b:Int}{x y:Nat} [NatF a x] [NatF b y]:NatF (a+b) (x+y):=⟨trivial⟩
instance {a b:Int}{x y:Nat} [NatF a x] [NatF b y]:NatF (a-b) (x-y):=⟨trivial⟩
instance {a b:Int}{x y:Nat} [NatF a x] [NatF b y]:NatF (a*b) (x*y):=⟨trivial⟩
theorem ANc {c:Operand}{b:Bool}{q:Prop} [h0:DecB b q] (hc:I2 F.B p=some c) (ht:ev σ c=some (.bool b)) (hq:q) (h1:q→J F C (.c (p++[0])::S) σ β Γ R):J F C (.c p::S) σ β Γ R:=by
 rw [h0.ok.2 hq] at ht
 exact So hc ht (h1 hq)
theorem AKb {c:Operand}{b:Bool}{q:Prop} [h0:DecB b q] (hc:I2 F.B p=some c) (ht:ev σ c=some (.bool b)) (hq:¬ q) (h1:¬ q→J F C (.c (p++[1])::S) σ β Γ R):J F C (.c p::S) σ β Γ R:=by
 rw [h0.no hq] at ht
 exact K4 hc ht (h1 hq)
theorem ALD {c:Operand}{b:Bool}{q:Prop} [h0:NDecB b q] (hc:I2 F.B p=some c) (ht:ev σ c=some (.bool b)) (hq:¬ q) (h1:¬ q→J F C (.c (p++[0])::S) σ β Γ R):J F C (.c p::S) σ β Γ R:=by
 rw [h0.no hq] at ht
 exact So hc ht (h1 hq)
theorem AIm {c:Operand}{b:Bool}{q:Prop} [h0:NDecB b q] (hc:I2 F.B p=some c) (ht:ev σ c=some (.bool b)) (hq:q) (h1:q→J F C (.c (p++[1])::S) σ β Γ R):J F C (.c p::S) σ β Γ R:=by
 rw [h0.ok.2 hq] at ht
 exact K4 hc ht (h1 hq)
theorem ALj {c:Operand}(hc:I2 F.B p=some c) (ht:ev σ c=some (.bool true)) (h1:J F C (.c (p++[0])::S) σ β Γ R):J F C (.c p::S) σ β Γ R:=So hc ht h1
theorem AJl {c:Operand}(hc:I2 F.B p=some c) (ht:ev σ c=some (.bool false)) (h1:J F C (.c (p++[1])::S) σ β Γ R):J F C (.c p::S) σ β Γ R:=K4 hc ht h1
theorem AIC {k:Nat}{g:Tmp}{want:Bool}(ho:Lo F p i=some (g,want,d,op,ty)) (hb:Fr.get g σ=some undef) (h:J F C (.o p (i+1)::S) (putF d undef σ) β Γ R):J F C (.o p i::S) σ β Γ R:=D7 ho hb h
theorem AMP {g:Tmp}{want:Bool}(ho:Lo F p i=some (g,want,d,op,ty)) (hb:Fr.get g σ=some (.bool want)) (h:Kd (kdO op) (J F C (.o p i::S) σ β Γ R)):J F C (.o p i::S) σ β Γ R:=h.h
theorem AMX (h:J F C S σ β Γ R):J F C S σ β Γ R:=h
theorem AMa {g:Tmp}{want b:Bool}{q:Prop} [h0:DecB b q] (ho:Lo F p i=some (g,want,d,op,ty)) (hb:Fr.get g σ=some (.bool b)) (hq:q) (h:q→J F C (.o p i::S) ((g,.bool true)::σ) β Γ R):J F C (.o p i::S) σ β Γ R:=by
 rw [h0.ok.2 hq] at hb
 exact T1 (Fr.sub_cons hb (Fr.sub_refl σ)) (h hq)
theorem ALO {g:Tmp}{want b:Bool}{q:Prop} [h0:DecB b q] (ho:Lo F p i=some (g,want,d,op,ty)) (hb:Fr.get g σ=some (.bool b)) (hq:¬ q) (h:¬ q→J F C (.o p i::S) ((g,.bool false)::σ) β Γ R):J F C (.o p i::S) σ β Γ R:=by
 rw [h0.no hq] at hb
 exact T1 (Fr.sub_cons hb (Fr.sub_refl σ)) (h hq)
theorem AK6 {g:Tmp}{want b:Bool}{q:Prop} [h0:NDecB b q] (ho:Lo F p i=some (g,want,d,op,ty)) (hb:Fr.get g σ=some (.bool b)) (hq:¬ q) (h:¬ q→J F C (.o p i::S) ((g,.bool true)::σ) β Γ R):J F C (.o p i::S) σ β Γ R:=by
 rw [h0.no hq] at hb
 exact T1 (Fr.sub_cons hb (Fr.sub_refl σ)) (h hq)
theorem AK9 {g:Tmp}{want b:Bool}{q:Prop} [h0:NDecB b q] (ho:Lo F p i=some (g,want,d,op,ty)) (hb:Fr.get g σ=some (.bool b)) (hq:q) (h:q→J F C (.o p i::S) ((g,.bool false)::σ) β Γ R):J F C (.o p i::S) σ β Γ R:=by
 rw [h0.ok.2 hq] at hb
 exact T1 (Fr.sub_cons hb (Fr.sub_refl σ)) (h hq)
theorem AGm {T:TypeId}{x:Operand}{cs:List Value}(ho:Qe F p i σ=some (d,.box T x,ty)) (hx:ev σ x=some (.agg cs.toArray))
  (h:∀ b,J F C (.o p (i+1)::S) (putF d (.pointer (some ⟨b,0,none⟩)) σ) ((some b,T,cs)::β) Γ R):J F C (.o p i::S) σ β Γ R:=Dl ho (Cv hx h)
theorem AGb {T:TypeId}{x:Operand}{v:Value}(ho:Qe F p i σ=some (d,.box T x,ty)) (hx:ev σ x=some v) (hc:Cf v=[v])
  (h:∀ b,J F C (.o p (i+1)::S) (putF d (.pointer (some ⟨b,0,none⟩)) σ) ((some b,T,[v])::β) Γ R):J F C (.o p i::S) σ β Γ R:=Dl ho (Pe hx hc h)
theorem AI6 (tb:Tb P) {t:TypeId}{j off b o:Nat}{x:Operand}(ho:Qe F p i σ=some (d,.fieldAddr t x j,ty)) (hx:ev σ x=some (.pointer (some ⟨b,o,none⟩))) (hT:fdK tb.fd t j=some off)
  (h:J F C (.o p (i+1)::S) (putF d (.pointer (some ⟨b,o+off,none⟩)) σ) β Γ R):J F C (.o p i::S) σ β Γ R:=Dl ho (Aq hx (tb.fld hT) h)
theorem AL1 (tb:Tb P) {t:TypeId}{x:Operand}{b o n:Nat}{T:TypeId}{cs:List Value}{v:Value}(ho:Qe F p i σ=some (d,.load t x,ty)) (hx:ev σ x=some (.pointer (some ⟨b,o,none⟩))) (hn:A5 β n=some (some b,T,cs))
  (hT:lk t tb.ld=some (false,1)) (hv:cs[o]?=some v) (h:J F C (.o p (i+1)::S) (putF d v σ) β Γ R):J F C (.o p i::S) σ β Γ R:=Dl ho (Bm n hx hn (tb.hld.get hT) hv h)
theorem AF6 (tb:Tb P) {t:TypeId}{x:Operand}{b o n m:Nat}{T:TypeId}{cs vs:List Value}(ho:Qe F p i σ=some (d,.load t x,ty)) (hx:ev σ x=some (.pointer (some ⟨b,o,none⟩))) (hn:A5 β n=some (some b,T,cs))
  (hT:lk t tb.ld=some (true,m)) (hv:(cs.drop o).take m=vs) (hl:vs.length=m) (h:J F C (.o p (i+1)::S) (putF d (.agg vs.toArray) σ) β Γ R):J F C (.o p i::S) σ β Γ R:=Dl ho (S2 n hx hn (tb.hld.get hT) hv hl h)
theorem AFC (tb:Tb P) {t:TypeId}{x:Operand}{b n m:Nat}{T:TypeId}{cs:List Value}(ho:Qe F p i σ=some (d,.load t x,ty)) (hx:ev σ x=some (.pointer (some ⟨b,0,none⟩))) (hn:A5 β n=some (some b,T,cs))
  (hT:lk t tb.ld=some (true,m)) (hl:cs.length=m) (h:J F C (.o p (i+1)::S) (putF d (.agg cs.toArray) σ) β Γ R):J F C (.o p i::S) σ β Γ R:=Dl ho (A1 n hx hn (tb.hld.get hT) hl h)
theorem ALZ (tb:Tb P) {x:Operand}{t e:TypeId}{m n ca:Nat}{pa:Option Addr}(ho:Qe F p i σ=some (d,.call { callee:=.builtin .len,args:=#[x],argTypes:=#[t] },ty)) (hT:lk t tb.sl=some (e,m)) (hx:ev σ x=some (.slice pa n ca))
  (h:J F C (.o p (i+1)::S) (putF d (.int .i64 n) σ) β Γ R):J F C (.o p i::S) σ β Γ R:=Dl ho (Hf (tb.hsl.get hT) hx h)
end
theorem Ln {Γ:List Fact}:∀ g∈([]:List Fact),g∈Γ:=fun _ h=>nomatch h
theorem Lm {f:Fact}{l Γ:List Fact}(h:f∈Γ) (h':∀ g∈l,g∈Γ):∀ g∈f::l,g∈Γ:=fun g hg=>by
 rcases List.mem_cons.1 hg with rfl|hg
 ·exact h
 ·exact h' g hg
theorem Ll {f:Fact}{l:List Fact}:f∈f::l:=.head _
theorem Lf {f g:Fact}{l:List Fact}(h:f∈l):f∈g::l:=.tail _ h
theorem Sy:∀ {l Γ:List Fact},(∀ g∈l,g∈Γ)→∃ ix,pick Γ ix=some l:=by
 intro l
 induction l with
 | nil=>intro Γ _;exact ⟨[],rfl⟩
 | cons f l ih =>
  intro Γ h
  obtain ⟨ix,hix⟩:=ih fun g hg=>h g (.tail _ hg)
  obtain ⟨n,hn⟩:=List.getElem?_of_mem (h f (.head _))
  exact ⟨n::ix,by simp only [pick,B8,hn,hix]⟩
def Ex3 (Q G:Value→List Fact→List A4→Prop):Prop:=∀ v Φ β,Q v Φ β→G v Φ β
theorem Gl {α:Sort _}{Q:α→Value→List Fact→List A4→Prop}{G:Value→List Fact→List A4→Prop}(h:∀ a,Ex3 (Q a) G):Ex3 (fun v Φ β=>∃ a,Q a v Φ β) G:=fun v Φ β ⟨a,ha⟩=>h a v Φ β ha
theorem Gg {v0:Value}{Φ0:List Fact}{β0:List A4}{G:Value→List Fact→List A4→Prop}(h:G v0 Φ0 β0):Ex3 (fun v Φ β=>v=v0∧Φ=Φ0∧β=β0) G:=by rintro _ _ _ ⟨rfl,rfl,rfl⟩;exact h
section
variable {P:Program}{F:Fun P}{C:Cx}{S S':List It}{σ:Fr}{β:List A4}{Γ:List Fact}{R:Value→World→Prop}{p:List Nat}{i:Nat}{d:Option Tmp}{op:Op}{ty:TypeId}{K:Value→List A4→List Fact→Prop}
theorem K8 {f:FuncId}{xs:List Operand}{ts:Array TypeId}{args:List Value}{Γ':List Fact}{Q:Value→List Fact→List A4→Prop}(ho:Qe F p i σ=some (d,.call { callee:=.value (.func f),args:=xs.toArray,argTypes:=ts },ty))
  (hx:Yv σ xs=some args) (hp:∀ g∈Γ',g∈Γ) (hc:Bt P f args [] Γ' Q) (h:Ex3 Q fun v Φ β'=>J F C (.o p (i+1)::S) (putF d v σ) (β'++β) (Φ++Γ) R):J F C (.o p i::S) σ β Γ R:=by
 obtain ⟨ix,hix⟩:=Sy hp
 exact Dl ho (Aw ix hx hc hix h)
theorem K2 {f:FuncId}{xs:List Operand}{ts:Array TypeId}{args:List Value}{Γ':List Fact}{blk:A4}{n:Nat}{Q:Value→List Fact→List A4→Prop}(ho:Qe F p i σ=some (d,.call { callee:=.value (.func f),args:=xs.toArray,argTypes:=ts },ty))
  (hx:Yv σ xs=some args) (hn:A5 β n=some blk) (hp:∀ g∈Γ',g∈Γ) (hc:Bt P f args [blk] Γ' Q) (h:Ex3 Q fun v Φ β'=>J F C (.o p (i+1)::S) (putF d v σ) (β'++β.eraseIdx n) (Φ++Γ) R):J F C (.o p i::S) σ β Γ R:=by
 obtain ⟨ix,hix⟩:=Sy hp
 exact Dl ho (Ys n ix hn hx hc hix h)
theorem K5 {f:FuncId}{xs:List Operand}{ts:Array TypeId}{args:List Value}{Γ':List Fact}{β1:List A4}{Q:Value→List Fact→List A4→Prop}(ho:Qe F p i σ=some (d,.call { callee:=.value (.func f),args:=xs.toArray,argTypes:=ts },ty))
  (hx:Yv σ xs=some args) (hp:∀ g∈Γ',g∈Γ) (hc:Bt P f args β1 Γ' Q) (hn:β.take β1.length=β1) (h:Ex3 Q fun v Φ β'=>J F C (.o p (i+1)::S) (putF d v σ) (β'++β.drop β1.length) (Φ++Γ) R):J F C (.o p i::S) σ β Γ R:=by
 obtain ⟨ix,hix⟩:=Sy hp
 exact Dl ho (Yy β1.length ix hn hx hc hix h)
theorem E6 {f:FuncId}{xs:List Operand}{ts:Array TypeId}{args:List Value}{Γ':List Fact}{Q:Value→List Fact→List A4→Prop}
  (hx:Yv σ xs=some args) (hp:∀ g∈Γ',g∈Γ) (hc:Bt P f args [] Γ' Q) (h:Ex3 Q fun v Φ β'=>K v (β'++β) (Φ++Γ)):Fb P C (.call { callee:=.value (.func f),args:=xs.toArray,argTypes:=ts }) ty σ β Γ K:=by
 obtain ⟨ix,hix⟩:=Sy hp
 exact Aw ix hx hc hix h
theorem AGE {α:Type}{E:Enc α}{t e:TypeId}{kd:IntKind}{x y:Operand}{pa:Option Addr}{len ca:Nat}{l:List α}{m:Int}{k n:Nat} [NatF m k]
  (hx:ev σ x=some (.slice pa len ca)) (hy:ev σ y=some (.int kd m)) (hn:A5 Γ n=some (Ap E pa len ca l)) (hT:Ev P t=some (e,E.size)) (hm:m=(k:Int)) (hk:k<len)
  (h:∀ z,l[k]?=some z→∀ b o,K (.pointer (some ⟨b,o,none⟩)) β (ptF E b o z::Γ)):Fb P C (.indexAddr t x y) ty σ β Γ K:=Iw n k hx hy hn hT hm hk h
theorem AJH {t e:TypeId}{kd kx ky:IntKind}{x y:Operand}{nn:Int}{k by':Nat} [NatF nn k] (hx:ev σ x=some (.int kx nn)) (hy:ev σ y=some (.int ky nn)) (hT:Ev P t=some (e,1))
  (hz:Cr P e=some [.int kd 0]) (hby:P.bytesOf e=by') (hm:nn=(k:Int)) (hk:by'*k≤281474976710656) (h63:k≤9223372036854775807)
  (h:∀ b,K (.slice (some ⟨b,0,none⟩) k k) ((some b,e,Ao kd (List.replicate k 0))::β) Γ):Fb P C (.makeSlice t x y) ty σ β Γ K:=AEC k by' hx hy hT hz hby hm hk h63 h
theorem AKf {α:Type}{E:Enc α}{t e:TypeId}{kd:IntKind}{x y:Operand}{pa:Option Addr}{len ca:Nat}{l:List α}{m:Int}{k n:Nat}{z:α} [NatF m k]
  (hx:ev σ x=some (.slice pa len ca)) (hy:ev σ y=some (.int kd m)) (hn:A5 Γ n=some (Ap E pa len ca l)) (hT:Ev P t=some (e,E.size)) (hm:m=(k:Int)) (hk:k<len) (hz:l[k]?=some z)
  (h:∀ (_:l[k]?=some z) b o,K (.pointer (some ⟨b,o,none⟩)) β (ptF E b o z::Γ)):Fb P C (.indexAddr t x y) ty σ β Γ K:=Iw n k hx hy hn hT hm hk fun z' hz' b o=>by
 obtain rfl:z=z':=Option.some.inj (hz.symm.trans hz')
 exact h hz b o
theorem Zt {t e:TypeId}{m':Nat}{x y:Operand}{b len ca k:Nat}{kd:IntKind}{m:Int} [NatF m k] (hx:ev σ x=some (.slice (some ⟨b,0,none⟩) len ca)) (hy:ev σ y=some (.int kd m)) (hT:Ev P t=some (e,m'))
  (hm:m=(k:Int)) (hk:k<len) (h:K (.pointer (some ⟨b,k*m',none⟩)) β Γ):Fb P C (.indexAddr t x y) ty σ β Γ K:=Be k _ hx hy hT hm hk rfl h
theorem Z7 {t e:TypeId}{x y:Operand}{b len ca k:Nat}{kd:IntKind}{m:Int} [NatF m k] (hx:ev σ x=some (.slice (some ⟨b,0,none⟩) len ca)) (hy:ev σ y=some (.int kd m)) (hT:Ev P t=some (e,1))
  (hm:m=(k:Int)) (hk:k<len) (h:K (.pointer (some ⟨b,k,none⟩)) β Γ):Fb P C (.indexAddr t x y) ty σ β Γ K:=Be k k hx hy hT hm hk (Nat.mul_one _) h
end
def AKn:Op→Bool
 | .assign _=>true
 | .store _ _ _=>true
 | .call { callee:=.builtin .append,.. }=>true
 | _=>false
def ALM:Op→Bool
 | .fieldAddr _ _ _=>true
 | .indexAddr _ _ _=>true
 | _=>false
def drM:List Oper→Bool→Nat
 | [],_=>0
 | o::l,f=>match AKn o.op with
  | true=>drM l true
  | false=>match f,ALM o.op with
   | true,true=>drM l true
   | _,_=>l.length+1
def AI8 (L:List Oper) (pt:List (List Nat)):Nat→Nat→Option Nat
 | 0,_=>none
 | n+1,q=>match Tu L pt q with
  | true=>some q
  | false=>AI8 L pt n (q+1)
def AHB (L:List Oper) (pt:List (List Nat)):Nat→Option Nat
 | 0=>none
 | n+1=>match Tu L pt (n+1) with
  | true=>some (n+1)
  | false=>AHB L pt n
def drK (L:List Oper):Option Nat :=
 match drM L.reverse false with
 | 0=>AHB L (Iq L []) L.length
 | m+1=>match AI8 L (Iq L []) (L.length-(m+1)) (m+1) with
  | some k=>some k
  | none=>AHB L (Iq L []) L.length
theorem AIV {L:List Oper}{pt:List (List Nat)}{k:Nat}:∀ {n q:Nat},AI8 L pt n q=some k→Tu L pt k=true:=by
 intro n
 induction n with
 | zero=>intro q h;cases h
 | succ n ih =>
  intro q h
  simp only [AI8] at h
  split at h
  ·rename_i hr;cases h;exact hr
  ·exact ih h
theorem AFv {L:List Oper}{pt:List (List Nat)}{k:Nat}:∀ {n:Nat},AHB L pt n=some k→Tu L pt k=true:=by
 intro n
 induction n with
 | zero=>intro h;cases h
 | succ n ih =>
  intro h
  simp only [AHB] at h
  split at h
  ·rename_i hr;cases h;exact hr
  ·exact ih h
theorem AKV {L:List Oper}{k:Nat}(h:drK L=some k):Tu L (Iq L []) k=true:=by
 unfold drK at h
 split at h
 ·exact AFv h
 ·split at h
  ·rename_i hu;cases h;exact AIV hu
  ·exact AFv h
def ALR:List Oper→Bool
 | []=>false
 | o::l=>match o.guard with
  | some _=>true
  | none=>ALR l
def AMm:Op→Bool
 | .binOp .eql _ _ _ _=>true
 | .binOp .neq _ _ _ _=>true
 | .binOp .lss _ _ _ _=>true
 | .binOp .leq _ _ _ _=>true
 | .binOp .gtr _ _ _ _=>true
 | .binOp .geq _ _ _ _=>true
 | _=>false
def kdL (nt:Nat) (L:List Oper) (κ:Fr) (k i:Nat):Option Nat :=
 match Nat.ble k i with
 | true=>none
 | false=>match Sz nt L κ i with
  | some (_,.binOp .sub _ _ _ _,_)=>some 21
  | some (_,op,_)=>match AMm op with
   | true=>match ALR L with
    | true=>some 22
    | false=>some 5
   | false=>some (kdO op)
  | none=>some 5
section
variable {P:Program}{F:Fun P}{C:Cx}{S:List It}{R:Value→World→Prop}{β:List A4}{Γ:List Fact}{it:List (TypeId×IntKind)}{L:List Oper}{pos:List Po}{pt:List (List Nat)}{p:List Nat}{σ κ:Fr}{fs:List (Nat×Fact)}{al:List A4}{pb:Pb}{i k:Nat}{op:Op}{ty:TypeId}{d:Option Tmp}
theorem AI2 (hit:Bw P it) (hmx:P.follows .mixedOrders=true) (hk:drK (Ak (sub p F.B))=some k) (hd:Mc F.B p=true)
  (h:Je it F C p S (Ak (sub p F.B)) (Iq (Ak (sub p F.B)) []) β Γ R k 0 pos σ σ [] [] none) (hS:Xu S=false:=by rfl):J F C (.c p::S) σ β Γ R:=E5 hit hmx k hd (AKV hk) h hS
theorem AMH (n:Nat) (hn:kdL F.fn.ntmps L κ k i=some n) (h:Kd n (Je it F C p S L pt β Γ R k i pos κ σ fs al pb)):Je it F C p S L pt β Γ R k i pos κ σ fs al pb:=h.h
theorem ACv {κ' σ':Fr}{q:Prop}(h:Er it F.fn.ntmps L 1 i [.auto] κ σ True=some ([],κ',σ',q)) (hq:q) (hL:Je it F C p S L pt β Γ R k (i+1) pos κ' σ' fs al pb):Je it F C p S L pt β Γ R k i (.auto::pos) κ σ fs al pb:=A3 1 h hq hL
theorem Mu {v:Value}(ho:Sz F.fn.ntmps L κ i=some (d,op,ty)) (hJ:∀ C',Fb P C' op ty σ [] (Sk (B3 pt i) fs++Γ) (DK (fun _=>v) fun _=>[])) (h:Je it F C p S L pt β Γ R k (i+1) pos (putF d v κ) (putF d v σ) fs al pb) :
  Je it F C p S L pt β Γ R k i (.eq v::pos) κ σ fs al pb:=Ac ho (Cg hJ) h
theorem AAZ {n:Nat}{α:Type}{E:Enc α}{l:List α}(ho:Sz F.fn.ntmps L κ i=some (d,op,ty)) (hJ:∀ C',Fb P C' op ty σ [] (Sk (B3 pt i) fs++Γ) (DK (AD4 n) (AD9 E n l)))
  (h:∀ pa ca,Je it F C p S L pt β Γ R k (i+1) pos (Hb d κ) (putF d (.slice pa n ca) σ) ((i,Ap E pa n ca l)::fs) al pb) :
  Je it F C p S L pt β Γ R k i (.fa (AD4 n) (AD9 E n l)::pos) κ σ fs al pb:=Ih ho (Cg hJ) h
theorem AMT {α:Type}{E:Enc α}{z:α}(ho:Sz F.fn.ntmps L κ i=some (d,op,ty)) (hJ:∀ C',Fb P C' op ty σ [] (Sk (B3 pt i) fs++Γ) (DK Gj (AF4 E z)))
  (h:∀ b o,Je it F C p S L pt β Γ R k (i+1) pos (Hb d κ) (putF d (.pointer (some ⟨b,o,none⟩)) σ) ((i,ptF E b o z)::fs) al pb) :
  Je it F C p S L pt β Γ R k i (.fa Gj (AF4 E z)::pos) κ σ fs al pb:=AB3 ho (Cg hJ) h
theorem AMn {α:Type}{E:Enc α}(V:Vw E) {z:α}(ho:Sz F.fn.ntmps L κ i=some (d,op,ty)) (hJ:∀ C',Fb P C' op ty σ [] (Sk (B3 pt i) fs++Γ) (DK (fun g=>.agg (V.val z g).toArray) (V.fs z)))
  (h:∀ g,Je it F C p S L pt β Γ R k (i+1) pos (Hb d κ) (putF d (.agg (V.val z g).toArray) σ) ((V.fs z g).map (fun f=>(i,f))++fs) al pb) :
  Je it F C p S L pt β Γ R k i (.fa (fun g=>.agg (V.val z g).toArray) (V.fs z)::pos) κ σ fs al pb:=AKu V ho (Cg hJ) h
theorem AKL {C':Cx}{K:Value→List A4→List Fact→Prop}(hit:Bw P it) {kd:IntKind}{m:Int}{n:Nat}{q':Prop} [NatF m n] (h:pev it σ op=some (.int kd m,q')) (hq':q') (e:m=(n:Int)) (hK:K (.int kd (n:Int)) β Γ):Fb P C' op ty σ β Γ K:=ADl hit (n:Int) h hq' e hK
end
section
variable {P:Program}{F:Fun P}{C:Cx}{S S':List It}{σ:Fr}{β:List A4}{Γ:List Fact}{R:Value→World→Prop}{p:List Nat}
theorem ALN {vs:List Value}{Q:Value→List Fact→List A4→Prop}{Φ:List Fact}(hp:L6 F.B p=true) (hr:Mf σ F.fn.results.toList=some vs) (h:Q (Hg vs) Φ []) (hl:∀ g∈Φ,g∈Γ) (hk:F.rnd=none:=by rfl):J F C (.c p::S) σ β Γ (Fg C Q):=by
 obtain ⟨ix,hix⟩:=Sy hl
 exact Ov ix hp hr hix h hk
theorem AKy {vs:List Value}{Q:Value→List Fact→List A4→Prop}{Φ:List Fact}(hp:L6 F.B p=true) (hr:ResJ P σ β F.fn.results.toList vs) (h:Q (Hg vs) Φ []) (hl:∀ g∈Φ,g∈Γ) (hk:F.rnd=none:=by rfl):J F C (.c p::S) σ β Γ (Fg C Q):=by
 obtain ⟨ix,hix⟩:=Sy hl
 exact Bj ix hp hr hix h hk
theorem AM4 {σ':Fr}{β':List A4}{Γ':List Fact}(h:J F C S σ' β' Γ' R) (hb:β'=β) (hp:∀ g∈Γ',g∈Γ) (hs:Fr.sub σ' σ):J F C S σ β Γ R:=by
 subst hb
 exact T1 hs (Wu hp h)
end
end Go.Fw
namespace Go.Proofs.YtpienolhkccpnaaGreat
open Go Go.Fw
set_option maxRecDepth 100000
def tb:Tb Tryz.prog where
 ld:=[(0,false,1),(1,false,1),(2,false,1),(3,false,1),(4,false,1),(5,false,1),(6,false,1),(7,true,4),(8,true,4),(9,false,1),(10,false,1),(11,false,1),(12,false,1),(13,true,2),(14,true,2),(15,false,1),(16,false,1),(17,false,1),(18,true,1),(19,true,1),(20,false,1),(21,false,1),(22,false,1),(23,true,3),(24,true,3),(25,false,1),(26,true,5),(27,true,5),(28,false,1),(29,false,1),(30,false,1),(31,false,1),(32,false,1),(33,false,1),(34,false,1),(35,false,1),(36,false,1),(37,false,1),(38,false,1),(39,false,1),(40,false,1),(41,false,1),(42,false,1),(43,false,1),(44,false,1),(45,false,1),(46,false,1),(47,false,1),(48,false,1),(49,false,1),(50,false,1),(51,false,1),(52,false,1),(53,false,1),(54,false,1),(55,false,1),(56,false,1),(57,false,1),(58,false,1),(59,false,1),(60,false,1),(61,true,2),(62,true,2),(63,false,1),(64,false,1),(65,false,1),(66,false,1),(67,false,1),(68,false,1),(69,false,1),(70,false,1),(71,false,1),(72,false,1),(73,false,1),(74,false,1),(75,false,1),(76,false,1),(77,false,1),(78,false,1),(79,false,1),(80,false,1),(81,false,1),(82,false,1),(83,false,1),(84,false,1),(85,false,1),(86,false,1),(87,false,1),(88,false,1),(89,false,1),(90,false,1),(91,false,1),(92,false,1),(93,false,1),(94,false,1),(95,false,1),(96,false,1),(97,false,1),(98,false,1),(99,false,1),(100,false,1),(101,false,1),(102,false,1),(103,false,1),(104,false,1),(105,false,1),(106,false,1),(107,true,4),(108,true,4),(109,false,1),(110,false,1),(111,false,1),(112,false,1),(113,false,1),(114,false,1),(115,false,1),(116,false,1),(117,false,1),(118,true,6),(119,true,6),(120,false,1),(121,false,1),(122,false,1),(123,false,1),(124,false,1),(125,false,1),(126,false,1),(127,false,1),(128,false,1),(129,false,1),(130,false,1),(131,false,1),(132,false,1),(133,false,1),(134,false,1),(135,false,1),(136,false,1),(137,false,1),(138,false,1),(139,false,1),(140,false,1),(141,false,1),(142,false,1),(143,false,1),(144,false,1),(145,false,1),(146,false,1),(147,false,1),(148,false,1),(149,false,1),(150,false,1),(151,false,1),(152,false,1),(153,false,1),(154,false,1),(155,false,1),(156,false,1),(157,false,1),(158,false,1),(159,false,1),(160,false,1),(161,false,1),(162,false,1),(163,false,1),(164,false,1),(165,false,1),(166,false,1),(167,false,1),(168,false,1),(169,false,1),(170,false,1),(171,false,1),(172,false,1),(173,false,1),(174,false,1),(175,false,1),(176,false,1),(177,false,1),(178,false,1),(179,false,1),(180,false,1),(181,false,1),(182,false,1),(183,false,1),(184,false,1),(185,false,1),(186,false,1),(187,false,1),(188,false,1),(189,false,1),(190,false,1),(191,false,1),(192,false,1),(193,false,1),(194,false,1),(195,false,1),(196,false,1),(197,false,1),(198,false,1),(199,false,1),(200,true,4),(201,true,4),(202,true,0),(203,true,0),(204,true,0),(205,false,1),(206,false,1),(207,false,1),(208,false,1),(209,false,1),(210,false,1),(211,true,11),(212,true,11),(213,false,1)]
 sl:=[(22,3,1),(25,22,1),(97,4,1),(158,62,2)]
 fd:=[(7,[(0,0),(1,1),(2,2),(3,3)]),(8,[(0,0),(1,1),(2,2),(3,3)]),(13,[(0,0),(1,1)]),(14,[(0,0),(1,1)]),(18,[(0,0)]),(19,[(0,0)]),(23,[(0,0),(1,1),(2,2)]),(24,[(0,0),(1,1),(2,2)]),(26,[(0,0),(1,3),(2,4)]),(27,[(0,0),(1,3),(2,4)]),(61,[(0,0),(1,1)]),(62,[(0,0),(1,1)]),(107,[(0,0),(1,1),(2,3)]),(108,[(0,0),(1,1),(2,3)]),(118,[(0,0),(1,3),(2,4),(3,5)]),(119,[(0,0),(1,3),(2,4),(3,5)]),(200,[(0,0),(1,1),(2,2),(3,3)]),(201,[(0,0),(1,1),(2,2),(3,3)]),(211,[(0,0),(1,1),(2,2),(3,3),(4,4),(5,5),(6,6),(7,7),(8,8),(9,9),(10,10)]),(212,[(0,0),(1,1),(2,2),(3,3),(4,4),(5,5),(6,6),(7,7),(8,8),(9,9),(10,10)])]
 zo:=[(0,[Value.tuple #[]]),(1,[Value.nilFunc]),(2,[Value.int IntKind.i64 0]),(3,[Value.int IntKind.i64 0]),(4,[Value.bool false]),(5,[Value.int IntKind.u8 0]),(6,[Value.int IntKind.u8 0]),(7,[Value.int IntKind.i64 0,Value.int IntKind.i64 0,Value.bool false,Value.int IntKind.u8 0]),(8,[Value.int IntKind.i64 0,Value.int IntKind.i64 0,Value.bool false,Value.int IntKind.u8 0]),(9,[Value.string { data:=#[] }]),(10,[Value.string { data:=#[] }]),(11,[Value.string { data:=#[] }]),(12,[Value.int IntKind.u64 0]),(13,[Value.string { data:=#[] },Value.int IntKind.u64 0]),(14,[Value.string { data:=#[] },Value.int IntKind.u64 0]),(15,[Value.pointer none]),(16,[Value.pointer none]),(17,[Value.pointer none]),(18,[Value.pointer none]),(19,[Value.pointer none]),(20,[Value.nilIface]),(21,[Value.int IntKind.i32 0]),(22,[Value.slice none 0 0]),(23,[Value.int IntKind.i64 0,Value.int IntKind.i64 0,Value.slice none 0 0]),(24,[Value.int IntKind.i64 0,Value.int IntKind.i64 0,Value.slice none 0 0]),(25,[Value.slice none 0 0]),(26,[Value.int IntKind.i64 0,Value.int IntKind.i64 0,Value.slice none 0 0,Value.int IntKind.i64 0,Value.slice none 0 0]),(27,[Value.int IntKind.i64 0,Value.int IntKind.i64 0,Value.slice none 0 0,Value.int IntKind.i64 0,Value.slice none 0 0]),(28,[Value.nilFunc]),(29,[Value.nilFunc]),(30,[Value.int IntKind.i64 0]),(31,[Value.tuple #[Value.agg #[Value.int IntKind.i64 0,Value.int IntKind.i64 0,Value.slice none 0 0,Value.int IntKind.i64 0,Value.slice none 0 0],Value.int IntKind.i64 0]]),(32,[Value.nilFunc]),(33,[Value.nilFunc]),(34,[Value.nilFunc]),(35,[Value.nilFunc]),(36,[Value.nilFunc]),(37,[Value.nilFunc]),(38,[Value.nilFunc]),(39,[Value.nilFunc]),(40,[Value.int IntKind.u32 0]),(41,[Value.nilFunc]),(42,[Value.nilFunc]),(43,[Value.nilFunc]),(44,[Value.nilFunc]),(45,[Value.nilFunc]),(46,[Value.nilFunc]),(47,[Value.nilFunc]),(48,[Value.nilFunc]),(49,[Value.tuple #[Value.bool false,Value.int IntKind.i64 0]]),(50,[Value.nilFunc]),(51,[Value.tuple #[Value.slice none 0 0,Value.int IntKind.i64 0]]),(52,[Value.nilFunc]),(53,[Value.nilFunc]),(54,[Value.nilFunc]),(55,[Value.nilFunc]),(56,[Value.nilFunc]),(57,[Value.nilFunc]),(58,[Value.nilFunc]),(59,[Value.nilFunc]),(60,[Value.nilFunc]),(61,[Value.int IntKind.i64 0,Value.slice none 0 0]),(62,[Value.int IntKind.i64 0,Value.slice none 0 0]),(63,[Value.nilFunc]),(64,[Value.nilFunc]),(65,[Value.nilFunc]),(66,[Value.nilFunc]),(67,[Value.tuple #[Value.agg #[Value.int IntKind.i64 0,Value.slice none 0 0],Value.int IntKind.i64 0]]),(68,[Value.nilFunc]),(69,[Value.nilFunc]),(70,[Value.nilFunc]),(71,[Value.nilFunc]),(72,[Value.nilFunc]),(73,[Value.nilFunc]),(74,[Value.nilFunc]),(75,[Value.nilFunc]),(76,[Value.pointer none]),(77,[Value.tuple #[Value.pointer none,Value.int IntKind.i64 0]]),(78,[Value.nilFunc]),(79,[Value.nilFunc]),(80,[Value.nilFunc]),(81,[Value.nilFunc]),(82,[Value.nilFunc]),(83,[Value.nilFunc]),(84,[Value.nilFunc]),(85,[Value.nilFunc]),(86,[Value.nilFunc]),(87,[Value.nilFunc]),(88,[Value.nilFunc]),(89,[Value.tuple #[Value.pointer none,Value.slice none 0 0,Value.int IntKind.i64 0]]),(90,[Value.nilFunc]),(91,[Value.nilFunc]),(92,[Value.nilFunc]),(93,[Value.nilFunc]),(94,[Value.nilFunc]),(95,[Value.nilFunc]),(96,[Value.nilFunc]),(97,[Value.slice none 0 0]),(98,[Value.nilFunc]),(99,[Value.nilFunc]),(100,[Value.nilFunc]),(101,[Value.nilFunc]),(102,[Value.nilFunc]),(103,[Value.nilFunc]),(104,[Value.tuple #[Value.slice none 0 0,Value.slice none 0 0]]),(105,[Value.nilFunc]),(106,[Value.nilFunc]),(107,[Value.pointer none,Value.int IntKind.i64 0,Value.slice none 0 0,Value.slice none 0 0]),(108,[Value.pointer none,Value.int IntKind.i64 0,Value.slice none 0 0,Value.slice none 0 0]),(109,[Value.tuple #[Value.agg #[Value.pointer none,Value.int IntKind.i64 0,Value.slice none 0 0,Value.slice none 0 0],Value.int IntKind.i64 0]]),(110,[Value.nilFunc]),(111,[Value.nilFunc]),(112,[Value.tuple #[Value.agg #[Value.int IntKind.i64 0,Value.slice none 0 0],Value.slice none 0 0,Value.int IntKind.i64 0]]),(113,[Value.nilFunc]),(114,[Value.nilFunc]),(115,[Value.nilFunc]),(116,[Value.nilFunc]),(117,[Value.nilFunc]),(118,[Value.int IntKind.i64 0,Value.int IntKind.i64 0,Value.slice none 0 0,Value.int IntKind.i64 0,Value.slice none 0 0,Value.slice none 0 0]),(119,[Value.int IntKind.i64 0,Value.int IntKind.i64 0,Value.slice none 0 0,Value.int IntKind.i64 0,Value.slice none 0 0,Value.slice none 0 0]),(120,[Value.nilFunc]),(121,[Value.nilFunc]),(122,[Value.tuple #[Value.int IntKind.i64 0,Value.int IntKind.i64 0]]),(123,[Value.nilFunc]),(124,[Value.nilFunc]),(125,[Value.nilFunc]),(126,[Value.nilFunc]),(127,[Value.nilFunc]),(128,[Value.nilFunc]),(129,[Value.nilFunc]),(130,[Value.nilFunc]),(131,[Value.nilFunc]),(132,[Value.nilFunc]),(133,[Value.nilFunc]),(134,[Value.nilFunc]),(135,[Value.nilFunc]),(136,[Value.nilFunc]),(137,[Value.nilFunc]),(138,[Value.nilFunc]),(139,[Value.nilFunc]),(140,[Value.nilFunc]),(141,[Value.nilFunc]),(142,[Value.nilFunc]),(143,[Value.int IntKind.u64 0]),(144,[Value.nilFunc]),(145,[Value.tuple #[Value.agg #[Value.pointer none,Value.int IntKind.i64 0,Value.slice none 0 0,Value.slice none 0 0],Value.agg #[Value.pointer none,Value.int IntKind.i64 0,Value.slice none 0 0,Value.slice none 0 0],Value.int IntKind.i64 0]]),(146,[Value.nilFunc]),(147,[Value.nilFunc]),(148,[Value.tuple #[Value.int IntKind.i64 0,Value.int IntKind.i64 0]]),(149,[Value.nilFunc]),(150,[Value.nilFunc]),(151,[Value.nilFunc]),(152,[Value.nilFunc]),(153,[Value.nilFunc]),(154,[Value.nilFunc]),(155,[Value.nilFunc]),(156,[Value.nilFunc]),(157,[Value.nilFunc]),(158,[Value.slice none 0 0]),(159,[Value.nilFunc]),(160,[Value.tuple #[Value.slice none 0 0,Value.int IntKind.i64 0]]),(161,[Value.nilFunc]),(162,[Value.tuple #[Value.slice none 0 0,Value.slice none 0 0]]),(163,[Value.nilFunc]),(164,[Value.nilFunc]),(165,[Value.nilFunc]),(166,[Value.nilFunc]),(167,[Value.nilFunc]),(168,[Value.nilFunc]),(169,[Value.int IntKind.i64 0]),(170,[Value.tuple #[Value.int IntKind.i64 0,Value.int IntKind.i64 0]]),(171,[Value.nilFunc]),(172,[Value.nilFunc]),(173,[Value.nilFunc]),(174,[Value.nilFunc]),(175,[Value.tuple #[Value.int IntKind.i64 0,Value.bool false]]),(176,[Value.nilFunc]),(177,[Value.nilFunc]),(178,[Value.nilFunc]),(179,[Value.int IntKind.u64 0]),(180,[Value.nilFunc]),(181,[Value.nilFunc]),(182,[Value.nilFunc]),(183,[Value.nilFunc]),(184,[Value.nilFunc]),(185,[Value.nilFunc]),(186,[Value.nilFunc]),(187,[Value.nilFunc]),(188,[Value.int IntKind.u64 0]),(189,[Value.nilFunc]),(190,[Value.nilFunc]),(191,[Value.nilFunc]),(192,[Value.pointer none]),(193,[Value.nilFunc]),(194,[Value.tuple #[Value.slice none 0 0,Value.bool false]]),(195,[Value.nilFunc]),(196,[Value.nilFunc]),(197,[Value.pointer none]),(198,[Value.nilFunc]),(199,[Value.nilFunc]),(200,[Value.pointer none,Value.pointer none,Value.pointer none,Value.string { data:=#[] }]),(201,[Value.pointer none,Value.pointer none,Value.pointer none,Value.string { data:=#[] }]),(202,[]),(203,[]),(204,[]),(205,[Value.int IntKind.u8 0]),(206,[Value.int IntKind.u8 0]),(207,[Value.nilFunc]),(208,[Value.pointer none]),(209,[Value.int IntKind.i32 0]),(210,[Value.int IntKind.i32 0]),(211,[Value.int IntKind.u64 0,Value.int IntKind.u64 0,Value.int IntKind.u32 0,Value.int IntKind.u8 0,Value.int IntKind.u8 0,Value.int IntKind.u8 0,Value.int IntKind.u8 0,Value.nilFunc,Value.pointer none,Value.int IntKind.i32 0,Value.int IntKind.i32 0]),(212,[Value.int IntKind.u64 0,Value.int IntKind.u64 0,Value.int IntKind.u32 0,Value.int IntKind.u8 0,Value.int IntKind.u8 0,Value.int IntKind.u8 0,Value.int IntKind.u8 0,Value.nilFunc,Value.pointer none,Value.int IntKind.i32 0,Value.int IntKind.i32 0]),(213,[Value.pointer none])]
 st:=[(7,[(0,1),(1,1),(2,1),(3,1)]),(8,[(0,1),(1,1),(2,1),(3,1)]),(13,[(0,1),(1,1)]),(14,[(0,1),(1,1)]),(18,[(0,1)]),(19,[(0,1)]),(23,[(0,1),(1,1),(2,1)]),(24,[(0,1),(1,1),(2,1)]),(26,[(0,3),(3,1),(4,1)]),(27,[(0,3),(3,1),(4,1)]),(61,[(0,1),(1,1)]),(62,[(0,1),(1,1)]),(107,[(0,1),(1,2),(3,1)]),(108,[(0,1),(1,2),(3,1)]),(118,[(0,3),(3,1),(4,1),(5,1)]),(119,[(0,3),(3,1),(4,1),(5,1)]),(200,[(0,1),(1,1),(2,1),(3,1)]),(201,[(0,1),(1,1),(2,1),(3,1)]),(203,[(0,0)]),(204,[(0,0)]),(211,[(0,1),(1,1),(2,1),(3,1),(4,1),(5,1),(6,1),(7,1),(8,1),(9,1),(10,1)]),(212,[(0,1),(1,1),(2,1),(3,1),(4,1),(5,1),(6,1),(7,1),(8,1),(9,1),(10,1)])]
 by':=[(3,8),(22,24),(4,1),(62,32)]
 hld:=⟨rfl,rfl,rfl,rfl,rfl,rfl,rfl,rfl,rfl,rfl,rfl,rfl,rfl,rfl,rfl,rfl,rfl,rfl,rfl,rfl,rfl,rfl,rfl,rfl,rfl,rfl,rfl,rfl,rfl,rfl,rfl,rfl,rfl,rfl,rfl,rfl,rfl,rfl,rfl,rfl,rfl,rfl,rfl,rfl,rfl,rfl,rfl,rfl,rfl,rfl,rfl,rfl,rfl,rfl,rfl,rfl,rfl,rfl,rfl,rfl,rfl,rfl,rfl,rfl,rfl,rfl,rfl,rfl,rfl,rfl,rfl,rfl,rfl,rfl,rfl,rfl,rfl,rfl,rfl,rfl,rfl,rfl,rfl,rfl,rfl,rfl,rfl,rfl,rfl,rfl,rfl,rfl,rfl,rfl,rfl,rfl,rfl,rfl,rfl,rfl,rfl,rfl,rfl,rfl,rfl,rfl,rfl,rfl,rfl,rfl,rfl,rfl,rfl,rfl,rfl,rfl,rfl,rfl,rfl,rfl,rfl,rfl,rfl,rfl,rfl,rfl,rfl,rfl,rfl,rfl,rfl,rfl,rfl,rfl,rfl,rfl,rfl,rfl,rfl,rfl,rfl,rfl,rfl,rfl,rfl,rfl,rfl,rfl,rfl,rfl,rfl,rfl,rfl,rfl,rfl,rfl,rfl,rfl,rfl,rfl,rfl,rfl,rfl,rfl,rfl,rfl,rfl,rfl,rfl,rfl,rfl,rfl,rfl,rfl,rfl,rfl,rfl,rfl,rfl,rfl,rfl,rfl,rfl,rfl,rfl,rfl,rfl,rfl,rfl,rfl,rfl,rfl,rfl,rfl,rfl,rfl,rfl,rfl,rfl,rfl,rfl,rfl,rfl,rfl,rfl,rfl,rfl,rfl,rfl,rfl,rfl,rfl,rfl,rfl,trivial⟩
 hsl:=⟨rfl,rfl,rfl,rfl,trivial⟩
 hfd:=⟨⟨rfl,rfl,rfl,rfl,trivial⟩,⟨rfl,rfl,rfl,rfl,trivial⟩,⟨rfl,rfl,trivial⟩,⟨rfl,rfl,trivial⟩,⟨rfl,trivial⟩,⟨rfl,trivial⟩,⟨rfl,rfl,rfl,trivial⟩,⟨rfl,rfl,rfl,trivial⟩,⟨rfl,rfl,rfl,trivial⟩,⟨rfl,rfl,rfl,trivial⟩,⟨rfl,rfl,trivial⟩,⟨rfl,rfl,trivial⟩,⟨rfl,rfl,rfl,trivial⟩,⟨rfl,rfl,rfl,trivial⟩,⟨rfl,rfl,rfl,rfl,trivial⟩,⟨rfl,rfl,rfl,rfl,trivial⟩,⟨rfl,rfl,rfl,rfl,trivial⟩,⟨rfl,rfl,rfl,rfl,trivial⟩,⟨rfl,rfl,rfl,rfl,rfl,rfl,rfl,rfl,rfl,rfl,rfl,trivial⟩,⟨rfl,rfl,rfl,rfl,rfl,rfl,rfl,rfl,rfl,rfl,rfl,trivial⟩,trivial⟩
 hzo:=⟨rfl,rfl,rfl,rfl,rfl,rfl,rfl,rfl,rfl,rfl,rfl,rfl,rfl,rfl,rfl,rfl,rfl,rfl,rfl,rfl,rfl,rfl,rfl,rfl,rfl,rfl,rfl,rfl,rfl,rfl,rfl,rfl,rfl,rfl,rfl,rfl,rfl,rfl,rfl,rfl,rfl,rfl,rfl,rfl,rfl,rfl,rfl,rfl,rfl,rfl,rfl,rfl,rfl,rfl,rfl,rfl,rfl,rfl,rfl,rfl,rfl,rfl,rfl,rfl,rfl,rfl,rfl,rfl,rfl,rfl,rfl,rfl,rfl,rfl,rfl,rfl,rfl,rfl,rfl,rfl,rfl,rfl,rfl,rfl,rfl,rfl,rfl,rfl,rfl,rfl,rfl,rfl,rfl,rfl,rfl,rfl,rfl,rfl,rfl,rfl,rfl,rfl,rfl,rfl,rfl,rfl,rfl,rfl,rfl,rfl,rfl,rfl,rfl,rfl,rfl,rfl,rfl,rfl,rfl,rfl,rfl,rfl,rfl,rfl,rfl,rfl,rfl,rfl,rfl,rfl,rfl,rfl,rfl,rfl,rfl,rfl,rfl,rfl,rfl,rfl,rfl,rfl,rfl,rfl,rfl,rfl,rfl,rfl,rfl,rfl,rfl,rfl,rfl,rfl,rfl,rfl,rfl,rfl,rfl,rfl,rfl,rfl,rfl,rfl,rfl,rfl,rfl,rfl,rfl,rfl,rfl,rfl,rfl,rfl,rfl,rfl,rfl,rfl,rfl,rfl,rfl,rfl,rfl,rfl,rfl,rfl,rfl,rfl,rfl,rfl,rfl,rfl,rfl,rfl,rfl,rfl,rfl,rfl,rfl,rfl,rfl,rfl,rfl,rfl,rfl,rfl,rfl,rfl,rfl,rfl,rfl,rfl,rfl,rfl,trivial⟩
 hst:=⟨rfl,rfl,rfl,rfl,rfl,rfl,rfl,rfl,rfl,rfl,rfl,rfl,rfl,rfl,rfl,rfl,rfl,rfl,rfl,rfl,rfl,rfl,trivial⟩
 hby:=⟨rfl,rfl,rfl,rfl,trivial⟩
set_option maxHeartbeats 8000000
set_option linter.unusedVariables false
theorem wk {G H T:Prop}(n:Nat) (c:T) (h:H) (s:Cnt n→Wr T→Wr H→G := by
  intro zn zc zh
  repeat (
    replace zn := zn.dec
    refine AMY _ rfl ?_
    try (refine AMF ?_; first
      | refine AIC rfl rfl ?_
      | refine AMa rfl rfl (by omega) fun zz => ?_
      | refine ALO rfl rfl (by omega) fun zz => ?_
      | refine AK6 rfl rfl (by omega) fun zz => ?_
      | refine AK9 rfl rfl (by omega) fun zz => ?_
      | refine Rp it 40 rfl (by simp; first|done|fail) ?_
      | refine Rp it 40 rfl (by (repeat' first|exact trivial|apply And.intro|omega); first|done|fail) ?_
      | refine Rp it 0 rfl (by simp; first|done|fail) ?_
      | refine Rp it 0 rfl (by (repeat' first|exact trivial|apply And.intro|omega); first|done|fail) ?_
      | refine AMP rfl rfl ?_)
    first
    | (refine kd0 ?_; refine AMU rfl ?_)
    | (refine kd5 ?_; first
      | refine Rp it 40 rfl (by simp; first|done|fail) ?_
      | refine Rp it 40 rfl (by (repeat' first|exact trivial|apply And.intro|omega); first|done|fail) ?_
      | refine Rp it 0 rfl (by simp; first|done|fail) ?_
      | refine Rp it 0 rfl (by (repeat' first|exact trivial|apply And.intro|omega); first|done|fail) ?_)
    | (refine kd1 ?_; first
      | refine ANc rfl rfl (by omega) fun zz => ?_
      | refine ALD rfl rfl (by omega) fun zz => ?_
      | refine AKb rfl rfl (by omega) fun zz => ?_
      | refine AIm rfl rfl (by omega) fun zz => ?_
      | refine ALj rfl rfl ?_
      | refine AJl rfl rfl ?_)
    | (refine kd6 ?_; first
      | (refine Dl rfl (Av _ rfl (by (repeat first|exact n0|apply n1); first|done|fail) (tb.ldT rfl) ?_); refine cur fun zz zz => ?_)
      | refine Dl rfl (Y0 _ rfl (by (repeat first|exact n0|apply n1); first|done|fail) (tb.ldT rfl) fun zz zz => ?_)
      | (refine Dl rfl (ADq _ rfl (by (repeat first|exact n0|apply n1); first|done|fail) (tb.ldT rfl) ?_); refine cur fun zz zz => ?_)
      | refine Dl rfl (ABm _ rfl (by (repeat first|exact n0|apply n1); first|done|fail) (tb.ldT rfl) ?_)
      | refine Dl rfl (ADf _ _ _ rfl (by (repeat first|exact n0|apply n1); first|done|fail) (by (repeat first|exact n0|apply n1); first|done|fail) (tb.ldT rfl) rfl (by assumption) ?_)
      | refine Dl rfl (Su _ _ _ rfl (by (repeat first|exact n0|apply n1); first|done|fail) (by (repeat first|exact n0|apply n1); first|done|fail) (tb.ldT rfl) rfl (by assumption) fun zz => ?_)
      | refine Dl rfl (J6 _ _ _ rfl (by (repeat first|exact n0|apply n1); first|done|fail) (by (repeat first|exact n0|apply n1); first|done|fail) (tb.ldT rfl) rfl (by omega) fun zz zz zz zz => ?_)
      | refine Dl rfl (AGh _ rfl (by (repeat first|exact n0|apply n1); first|done|fail) (tb.ldT rfl) (by omega) fun zz zz => ?_)
      | refine Dl rfl (ABu _ rfl (by (repeat first|exact n0|apply n1); first|done|fail) (tb.ldT rfl) (by omega) fun zz zz => ?_)
      | refine AL1 tb rfl rfl (by (repeat first|exact n0|apply n1); first|done|fail) rfl rfl ?_
      | refine AFC tb rfl rfl (by (repeat first|exact n0|apply n1); first|done|fail) rfl rfl ?_
      | refine AF6 tb rfl rfl (by (repeat first|exact n0|apply n1); first|done|fail) rfl rfl rfl ?_
      | refine Dl rfl (AMd _ rfl (by (repeat first|exact n0|apply n1); first|done|fail) (tb.ldT rfl) rfl ?_)
      | refine Dl rfl (AKi _ rfl (by (repeat first|exact n0|apply n1); first|done|fail) (tb.ldT rfl) rfl rfl ?_)
      | refine Dl rfl (St ABK _ rfl (by (repeat first|exact n0|apply n1); first|done|fail) (tb.ldT rfl) fun zz => ?_)
      | refine Dl rfl (St ACj _ rfl (by (repeat first|exact n0|apply n1); first|done|fail) (tb.ldT rfl) fun zz => ?_)
      | refine Dl rfl (St AGB _ rfl (by (repeat first|exact n0|apply n1); first|done|fail) (tb.ldT rfl) fun zz => ?_)
      | refine Dl rfl (St AI9 _ rfl (by (repeat first|exact n0|apply n1); first|done|fail) (tb.ldT rfl) fun zz => ?_)
      | refine Dl rfl (AGG _ rfl (by (repeat first|exact n0|apply n1); first|done|fail) (tb.ldT rfl) fun zz => ?_))
    | (refine kd7 ?_; first
      | refine Dl rfl (A8 _ rfl rfl (by (repeat first|exact n0|apply n1); first|done|fail) (tb.ldT rfl) rfl rfl (by simp [Value.oneCell']; first|done|fail) ?_)
      | refine Dl rfl (AFB _ rfl rfl (by (repeat first|exact n0|apply n1); first|done|fail) rfl (tb.ldT rfl) (by simp [Value.oneCell']; first|done|fail) (Nat.le_of_ble_eq_true rfl) rfl ?_)
      | refine Dl rfl (Nx _ rfl rfl (by (repeat first|exact n0|apply n1); first|done|fail) rfl (tb.ldT rfl) rfl (Nat.le_of_ble_eq_true rfl) ?_)
      | refine Dl rfl (Wt _ _ rfl rfl (by (repeat first|exact n0|apply n1); first|done|fail) (tb.ldT rfl) rfl (by omega) ?_)
      | refine Dl rfl (Xr _ rfl rfl (by (repeat first|exact n0|apply n1); first|done|fail) (tb.ldT rfl) (by omega) ?_))
    | (refine kd8 ?_; first
      | refine Dl rfl (AKf rfl rfl (by (repeat first|exact n0|apply n1); first|done|fail) (tb.slT rfl) (by omega) (by omega) (by assumption) fun zz zz zz => ?_)
      | refine Dl rfl (AGE rfl rfl (by (repeat first|exact n0|apply n1); first|done|fail) (tb.slT rfl) (by omega) (by omega) fun zz zz zz zz => ?_)
      | refine Dl rfl (Z7 rfl rfl (tb.slT rfl) (by omega) (by omega) ?_)
      | refine Dl rfl (Zt rfl rfl (tb.slT rfl) (by omega) (by omega) ?_))
    | (refine kd9 ?_; refine AI6 tb rfl rfl rfl ?_)
    | (refine ALK ?_; first
      | refine AGm rfl rfl fun zz => ?_
      | refine AGb rfl rfl rfl fun zz => ?_)
    | (refine AMk ?_; refine Dl rfl (Bl (tb.zoT rfl) fun zz => ?_))
    | (refine AM1 ?_; first
      | refine Dl rfl (Iu (tb.slT rfl) (tb.zoT rfl) rfl rfl rfl rfl (by decide) (by decide) rfl fun zz => ?_)
      | refine Dl rfl (ADN (tb.slT rfl) fun zz => ?_))
    | (refine AM6 ?_; first
      | refine Dl rfl (AJH rfl rfl (tb.slT rfl) (tb.zoT rfl) (tb.byt rfl) (by omega) (by omega) (by omega) fun zz => ?_))
    | (refine AMK ?_; refine Dl rfl (Dn (tb.stT rfl) (tb.zoT rfl) rfl rfl ?_))
    | (refine ALI ?_; refine ALZ tb rfl rfl rfl ?_)
    | (refine AMG ?_; refine Dl rfl (AKH rfl ?_))
    | (refine AMr ?_; refine pop zc fun zd zc => ?_;
              (first
         | refine K8 rfl rfl (by (repeat first|exact Ln|refine Lm (by (repeat first|exact Ll|refine Lf ?_); first|done|fail) ?_); first|done|fail) zd.h ?_
         | refine K8 rfl rfl (by (repeat first|exact Ln|refine Lm (by (repeat first|exact Ll|refine Lf ?_); first|done|fail) ?_); first|done|fail) (zd.h (by first|omega|assumption|rfl)) ?_
         | refine K8 rfl rfl (by (repeat first|exact Ln|refine Lm (by (repeat first|exact Ll|refine Lf ?_); first|done|fail) ?_); first|done|fail) (zd.h (by first|omega|assumption|rfl) (by first|omega|assumption|rfl)) ?_
         | refine K8 rfl rfl (by (repeat first|exact Ln|refine Lm (by (repeat first|exact Ll|refine Lf ?_); first|done|fail) ?_); first|done|fail) (zd.h (by first|omega|assumption|rfl) (by first|omega|assumption|rfl) (by first|omega|assumption|rfl)) ?_
         | refine K8 rfl rfl (by (repeat first|exact Ln|refine Lm (by (repeat first|exact Ll|refine Lf ?_); first|done|fail) ?_); first|done|fail) (zd.h (by first|omega|assumption|rfl) (by first|omega|assumption|rfl) (by first|omega|assumption|rfl) (by first|omega|assumption|rfl)) ?_
         | refine K8 rfl rfl (by (repeat first|exact Ln|refine Lm (by (repeat first|exact Ll|refine Lf ?_); first|done|fail) ?_); first|done|fail) (zd.h (by first|omega|assumption|rfl) (by first|omega|assumption|rfl) (by first|omega|assumption|rfl) (by first|omega|assumption|rfl) (by first|omega|assumption|rfl)) ?_
         | refine K8 rfl rfl (by (repeat first|exact Ln|refine Lm (by (repeat first|exact Ll|refine Lf ?_); first|done|fail) ?_); first|done|fail) (zd.h (by first|omega|assumption|rfl) (by first|omega|assumption|rfl) (by first|omega|assumption|rfl) (by first|omega|assumption|rfl) (by first|omega|assumption|rfl) (by first|omega|assumption|rfl)) ?_
         | refine K8 rfl rfl (by (repeat first|exact Ln|refine Lm (by (repeat first|exact Ll|refine Lf ?_); first|done|fail) ?_); first|done|fail) (zd.h (by first|omega|assumption|rfl) (by first|omega|assumption|rfl) (by first|omega|assumption|rfl) (by first|omega|assumption|rfl) (by first|omega|assumption|rfl) (by first|omega|assumption|rfl) (by first|omega|assumption|rfl)) ?_
         | refine K8 rfl rfl (by (repeat first|exact Ln|refine Lm (by (repeat first|exact Ll|refine Lf ?_); first|done|fail) ?_); first|done|fail) (zd.h (by first|omega|assumption|rfl) (by first|omega|assumption|rfl) (by first|omega|assumption|rfl) (by first|omega|assumption|rfl) (by first|omega|assumption|rfl) (by first|omega|assumption|rfl) (by first|omega|assumption|rfl) (by first|omega|assumption|rfl)) ?_
         | refine K2 rfl rfl (by (repeat first|exact n0|apply n1); first|done|fail) (by (repeat first|exact Ln|refine Lm (by (repeat first|exact Ll|refine Lf ?_); first|done|fail) ?_); first|done|fail) zd.h ?_
         | refine K2 rfl rfl (by (repeat first|exact n0|apply n1); first|done|fail) (by (repeat first|exact Ln|refine Lm (by (repeat first|exact Ll|refine Lf ?_); first|done|fail) ?_); first|done|fail) (zd.h (by first|omega|assumption|rfl)) ?_
         | refine K2 rfl rfl (by (repeat first|exact n0|apply n1); first|done|fail) (by (repeat first|exact Ln|refine Lm (by (repeat first|exact Ll|refine Lf ?_); first|done|fail) ?_); first|done|fail) (zd.h (by first|omega|assumption|rfl) (by first|omega|assumption|rfl)) ?_
         | refine K2 rfl rfl (by (repeat first|exact n0|apply n1); first|done|fail) (by (repeat first|exact Ln|refine Lm (by (repeat first|exact Ll|refine Lf ?_); first|done|fail) ?_); first|done|fail) (zd.h (by first|omega|assumption|rfl) (by first|omega|assumption|rfl) (by first|omega|assumption|rfl)) ?_
         | refine K2 rfl rfl (by (repeat first|exact n0|apply n1); first|done|fail) (by (repeat first|exact Ln|refine Lm (by (repeat first|exact Ll|refine Lf ?_); first|done|fail) ?_); first|done|fail) (zd.h (by first|omega|assumption|rfl) (by first|omega|assumption|rfl) (by first|omega|assumption|rfl) (by first|omega|assumption|rfl)) ?_
         | refine K2 rfl rfl (by (repeat first|exact n0|apply n1); first|done|fail) (by (repeat first|exact Ln|refine Lm (by (repeat first|exact Ll|refine Lf ?_); first|done|fail) ?_); first|done|fail) (zd.h (by first|omega|assumption|rfl) (by first|omega|assumption|rfl) (by first|omega|assumption|rfl) (by first|omega|assumption|rfl) (by first|omega|assumption|rfl)) ?_
         | refine K2 rfl rfl (by (repeat first|exact n0|apply n1); first|done|fail) (by (repeat first|exact Ln|refine Lm (by (repeat first|exact Ll|refine Lf ?_); first|done|fail) ?_); first|done|fail) (zd.h (by first|omega|assumption|rfl) (by first|omega|assumption|rfl) (by first|omega|assumption|rfl) (by first|omega|assumption|rfl) (by first|omega|assumption|rfl) (by first|omega|assumption|rfl)) ?_
         | refine K2 rfl rfl (by (repeat first|exact n0|apply n1); first|done|fail) (by (repeat first|exact Ln|refine Lm (by (repeat first|exact Ll|refine Lf ?_); first|done|fail) ?_); first|done|fail) (zd.h (by first|omega|assumption|rfl) (by first|omega|assumption|rfl) (by first|omega|assumption|rfl) (by first|omega|assumption|rfl) (by first|omega|assumption|rfl) (by first|omega|assumption|rfl) (by first|omega|assumption|rfl)) ?_
         | refine K2 rfl rfl (by (repeat first|exact n0|apply n1); first|done|fail) (by (repeat first|exact Ln|refine Lm (by (repeat first|exact Ll|refine Lf ?_); first|done|fail) ?_); first|done|fail) (zd.h (by first|omega|assumption|rfl) (by first|omega|assumption|rfl) (by first|omega|assumption|rfl) (by first|omega|assumption|rfl) (by first|omega|assumption|rfl) (by first|omega|assumption|rfl) (by first|omega|assumption|rfl) (by first|omega|assumption|rfl)) ?_
         | refine K5 rfl rfl (by (repeat first|exact Ln|refine Lm (by (repeat first|exact Ll|refine Lf ?_); first|done|fail) ?_); first|done|fail) zd.h rfl ?_
         | refine K5 rfl rfl (by (repeat first|exact Ln|refine Lm (by (repeat first|exact Ll|refine Lf ?_); first|done|fail) ?_); first|done|fail) (zd.h (by first|omega|assumption|rfl)) rfl ?_
         | refine K5 rfl rfl (by (repeat first|exact Ln|refine Lm (by (repeat first|exact Ll|refine Lf ?_); first|done|fail) ?_); first|done|fail) (zd.h (by first|omega|assumption|rfl) (by first|omega|assumption|rfl)) rfl ?_
         | refine K5 rfl rfl (by (repeat first|exact Ln|refine Lm (by (repeat first|exact Ll|refine Lf ?_); first|done|fail) ?_); first|done|fail) (zd.h (by first|omega|assumption|rfl) (by first|omega|assumption|rfl) (by first|omega|assumption|rfl)) rfl ?_
         | refine K5 rfl rfl (by (repeat first|exact Ln|refine Lm (by (repeat first|exact Ll|refine Lf ?_); first|done|fail) ?_); first|done|fail) (zd.h (by first|omega|assumption|rfl) (by first|omega|assumption|rfl) (by first|omega|assumption|rfl) (by first|omega|assumption|rfl)) rfl ?_
         | refine K5 rfl rfl (by (repeat first|exact Ln|refine Lm (by (repeat first|exact Ll|refine Lf ?_); first|done|fail) ?_); first|done|fail) (zd.h (by first|omega|assumption|rfl) (by first|omega|assumption|rfl) (by first|omega|assumption|rfl) (by first|omega|assumption|rfl) (by first|omega|assumption|rfl)) rfl ?_
         | refine K5 rfl rfl (by (repeat first|exact Ln|refine Lm (by (repeat first|exact Ll|refine Lf ?_); first|done|fail) ?_); first|done|fail) (zd.h (by first|omega|assumption|rfl) (by first|omega|assumption|rfl) (by first|omega|assumption|rfl) (by first|omega|assumption|rfl) (by first|omega|assumption|rfl) (by first|omega|assumption|rfl)) rfl ?_
         | refine K5 rfl rfl (by (repeat first|exact Ln|refine Lm (by (repeat first|exact Ll|refine Lf ?_); first|done|fail) ?_); first|done|fail) (zd.h (by first|omega|assumption|rfl) (by first|omega|assumption|rfl) (by first|omega|assumption|rfl) (by first|omega|assumption|rfl) (by first|omega|assumption|rfl) (by first|omega|assumption|rfl) (by first|omega|assumption|rfl)) rfl ?_
         | refine K5 rfl rfl (by (repeat first | exact Ln | refine Lm (by (repeat first | exact Ll | refine Lf ?_); first | done | fail) ?_); first | done | fail) (zd.h (by first | omega | assumption | rfl) (by first | omega | assumption | rfl) (by first | omega | assumption | rfl) (by first | omega | assumption | rfl) (by first | omega | assumption | rfl) (by first | omega | assumption | rfl) (by first | omega | assumption | rfl) (by first | omega | assumption | rfl)) rfl ?_);
                        (repeat refine Gl fun zz => ?_); refine Gg ?_)
    | (refine kd2 ?_; apply AI2 it mx; (· rfl); (· rfl)
       repeat (
         apply AMH; (· rfl)
         first
         | (apply kd5; first
           | (apply ACv; (· rfl); (· simp; first|done|fail))
           | (apply ACv; (· rfl); (· exact (by (repeat' first|exact trivial|apply And.intro|omega); first|done|fail)))
           | (apply Mu; (· rfl); (· exact fun _ => Kc it rfl (by trivial) An)))
         | (apply AMZ; first
           | (apply Mu; (· rfl); (· exact fun _ => AKL it rfl (by (repeat' first|exact trivial|apply And.intro|omega); first|done|fail) (by omega) An))
           | (apply ACv; (· rfl); (· exact (by (repeat' first|exact trivial|apply And.intro|omega); first|done|fail))))
         | (apply AM0; first
           | (apply Mu; (· rfl); (· exact fun _ => AKo it rfl (by trivial) (by omega) An))
           | (apply Mu; (· rfl); (· exact fun _ => AJE it rfl (by trivial) (by omega) An))
           | (apply Mu; (· rfl); (· exact fun _ => AI1 it rfl (by trivial) (by omega) An))
           | (apply Mu; (· rfl); (· exact fun _ => AG4 it rfl (by trivial) (by omega) An))
           | (apply ACv; (· rfl); (· simp; first|done|fail)))
         | (apply kd6; first
           | (apply Mu; (· rfl); (· exact fun _ => Av _ rfl (by (repeat first|exact n0|apply n1); first|done|fail) (tb.ldT rfl) fun _ => An))
           | (apply AAZ; (· rfl); (· exact fun _ => Y0 _ rfl (by (repeat first|exact n0|apply n1); first|done|fail) (tb.ldT rfl) fun _ _ => Lq 0 rfl); intro zz zz)
           | (apply Mu; (· rfl); (· exact fun _ => ADq _ rfl (by (repeat first|exact n0|apply n1); first|done|fail) (tb.ldT rfl) fun _ => An))
           | (apply Mu; (· rfl); (· exact fun _ => ABm _ rfl (by (repeat first|exact n0|apply n1); first|done|fail) (tb.ldT rfl) An))
           | (apply Ac; (· rfl); (· exact Ca _ rfl (by (repeat first|exact n0|apply n1); first|done|fail) (tb.ldT rfl) rfl))
           | (apply Ac; (· rfl); (· exact Cy _ rfl (by (repeat first|exact n0|apply n1); first|done|fail) (tb.ldT rfl) rfl))
           | (apply Ac; (· rfl); (· exact Ji _ rfl (by (repeat first|exact n0|apply n1); first|done|fail) (tb.ldT rfl) rfl rfl))
           | (apply Ac; (· rfl); (· exact AFP _ rfl (by (repeat first|exact n0|apply n1); first|done|fail) (tb.ldT rfl) (by assumption)))
           | (apply Ac; (· rfl); (· exact AFO _ rfl (by (repeat first|exact n0|apply n1); first|done|fail) (tb.ldT rfl) (by assumption)))
           | (apply Ac; (· rfl); (· exact Zi _ rfl (by (repeat first|exact n0|apply n1); first|done|fail) (tb.ldT rfl) rfl))
           | (apply Ac; (· rfl); (· exact AKX _ rfl (by (repeat first|exact n0|apply n1); first|done|fail) (tb.ldT rfl) rfl rfl))
           | (apply Ac; (· rfl); (· exact Fy _ _ _ rfl (by (repeat first|exact n0|apply n1); first|done|fail) (by (repeat first|exact n0|apply n1); first|done|fail) (tb.ldT rfl) rfl (by assumption)))
           | (apply Ac; (· rfl); (· exact Hk _ _ _ rfl (by (repeat first|exact n0|apply n1); first|done|fail) (by (repeat first|exact n0|apply n1); first|done|fail) (tb.ldT rfl) rfl (by assumption)))
           | (apply Ih; (· rfl); (· exact Sm _ _ _ rfl (by (repeat first|exact n0|apply n1); first|done|fail) (by (repeat first|exact n0|apply n1); first|done|fail) (tb.ldT rfl) rfl (by assumption)); intro zz zz)
           | (apply AMn ABK; (· rfl); (· exact fun _ => St ABK _ rfl (by (repeat first|exact n0|apply n1); first|done|fail) (tb.ldT rfl) fun _ => AJU _); intro zz)
           | (apply AMn ACj; (· rfl); (· exact fun _ => St ACj _ rfl (by (repeat first|exact n0|apply n1); first|done|fail) (tb.ldT rfl) fun _ => AJU _); intro zz))
         | (apply kd8; first
           | (apply AMT; (· rfl); (· exact fun _ => AGE rfl rfl (by (repeat first|exact n0|apply n1); first|done|fail) (tb.slT rfl) (by omega) (by omega) fun z hz b o => ACy default hz 0 rfl); intro zz zz)
           | (apply Mu; (· rfl); (· exact fun _ => Z7 rfl rfl (tb.slT rfl) (by omega) (by omega) An))
           | (apply Mu; (· rfl); (· exact fun _ => Zt rfl rfl (tb.slT rfl) (by omega) (by omega) An)))
         | (apply kd9; (apply Mu; (· rfl); (· exact fun _ => Aq rfl (tb.fld rfl) An)))
         | (apply ALK; (apply AIu; (· rfl); (· rfl); (· rfl); intro zz))
         | (apply AMk; (apply Hj; (· rfl); (· exact tb.zoT rfl); intro zz))
         | (apply ALI; (apply Mu; (· rfl); (· exact fun _ => Hf (tb.slT rfl) rfl An)))
         | (apply AMr; (apply pop zc; intro zd zc); first
           | (apply Mu; (· rfl); (· exact fun _ => E6 rfl (by (repeat first|exact Ln|refine Lm (by (repeat first|exact Ll|refine Lf ?_); first|done|fail) ?_); first|done|fail) zd.h (Gg An)))
           | (apply Mu; (· rfl); (· exact fun _ => E6 rfl (by (repeat first|exact Ln|refine Lm (by (repeat first|exact Ll|refine Lf ?_); first|done|fail) ?_); first|done|fail) (zd.h (by first|omega|assumption|rfl)) (Gg An)))
           | (apply Mu; (· rfl); (· exact fun _ => E6 rfl (by (repeat first|exact Ln|refine Lm (by (repeat first|exact Ll|refine Lf ?_); first|done|fail) ?_); first|done|fail) (zd.h (by first|omega|assumption|rfl) (by first|omega|assumption|rfl)) (Gg An)))
           | (apply Mu; (· rfl); (· exact fun _ => E6 rfl (by (repeat first|exact Ln|refine Lm (by (repeat first|exact Ll|refine Lf ?_); first|done|fail) ?_); first|done|fail) (zd.h (by first|omega|assumption|rfl) (by first|omega|assumption|rfl) (by first|omega|assumption|rfl)) (Gg An)))
           | (apply Mu; (· rfl); (· exact fun _ => E6 rfl (by (repeat first|exact Ln|refine Lm (by (repeat first|exact Ll|refine Lf ?_); first|done|fail) ?_); first|done|fail) (zd.h (by first|omega|assumption|rfl) (by first|omega|assumption|rfl) (by first|omega|assumption|rfl) (by first|omega|assumption|rfl)) (Gg An)))
           | (apply Mu; (· rfl); (· exact fun _ => E6 rfl (by (repeat first|exact Ln|refine Lm (by (repeat first|exact Ll|refine Lf ?_); first|done|fail) ?_); first|done|fail) (zd.h (by first|omega|assumption|rfl) (by first|omega|assumption|rfl) (by first|omega|assumption|rfl) (by first|omega|assumption|rfl) (by first|omega|assumption|rfl)) (Gg An)))
           | (apply Mu; (· rfl); (· exact fun _ => E6 rfl (by (repeat first|exact Ln|refine Lm (by (repeat first|exact Ll|refine Lf ?_); first|done|fail) ?_); first|done|fail) (zd.h (by first|omega|assumption|rfl) (by first|omega|assumption|rfl) (by first|omega|assumption|rfl) (by first|omega|assumption|rfl) (by first|omega|assumption|rfl) (by first|omega|assumption|rfl)) (Gg An)))
           | (apply Mu; (· rfl); (· exact fun _ => E6 rfl (by (repeat first|exact Ln|refine Lm (by (repeat first|exact Ll|refine Lf ?_); first|done|fail) ?_); first|done|fail) (zd.h (by first|omega|assumption|rfl) (by first|omega|assumption|rfl) (by first|omega|assumption|rfl) (by first|omega|assumption|rfl) (by first|omega|assumption|rfl) (by first|omega|assumption|rfl) (by first|omega|assumption|rfl)) (Gg An)))
           | (apply Mu; (· rfl); (· exact fun _ => E6 rfl (by (repeat first|exact Ln|refine Lm (by (repeat first|exact Ll|refine Lf ?_); first|done|fail) ?_); first|done|fail) (zd.h (by first|omega|assumption|rfl) (by first|omega|assumption|rfl) (by first|omega|assumption|rfl) (by first|omega|assumption|rfl) (by first|omega|assumption|rfl) (by first|omega|assumption|rfl) (by first|omega|assumption|rfl) (by first|omega|assumption|rfl)) (Gg An)))
           | (apply AAZ; (· rfl); (· exact fun _ => E6 rfl (by (repeat first|exact Ln|refine Lm (by (repeat first|exact Ll|refine Lf ?_); first|done|fail) ?_); first|done|fail) zd.h (Gl fun _ => Gl fun _ => Gg (Lq 0 rfl))); intro zz zz)
           | (apply AAZ; (· rfl); (· exact fun _ => E6 rfl (by (repeat first|exact Ln|refine Lm (by (repeat first|exact Ll|refine Lf ?_); first|done|fail) ?_); first|done|fail) (zd.h (by first|omega|assumption|rfl)) (Gl fun _ => Gl fun _ => Gg (Lq 0 rfl))); intro zz zz)
           | (apply AAZ; (· rfl); (· exact fun _ => E6 rfl (by (repeat first|exact Ln|refine Lm (by (repeat first|exact Ll|refine Lf ?_); first|done|fail) ?_); first|done|fail) (zd.h (by first|omega|assumption|rfl) (by first|omega|assumption|rfl)) (Gl fun _ => Gl fun _ => Gg (Lq 0 rfl))); intro zz zz)
           | (apply AAZ; (· rfl); (· exact fun _ => E6 rfl (by (repeat first|exact Ln|refine Lm (by (repeat first|exact Ll|refine Lf ?_); first|done|fail) ?_); first|done|fail) (zd.h (by first|omega|assumption|rfl) (by first|omega|assumption|rfl) (by first|omega|assumption|rfl)) (Gl fun _ => Gl fun _ => Gg (Lq 0 rfl))); intro zz zz)
           | (apply AAZ; (· rfl); (· exact fun _ => E6 rfl (by (repeat first|exact Ln|refine Lm (by (repeat first|exact Ll|refine Lf ?_); first|done|fail) ?_); first|done|fail) (zd.h (by first|omega|assumption|rfl) (by first|omega|assumption|rfl) (by first|omega|assumption|rfl) (by first|omega|assumption|rfl)) (Gl fun _ => Gl fun _ => Gg (Lq 0 rfl))); intro zz zz)
           | (apply AAZ; (· rfl); (· exact fun _ => E6 rfl (by (repeat first|exact Ln|refine Lm (by (repeat first|exact Ll|refine Lf ?_); first|done|fail) ?_); first|done|fail) (zd.h (by first|omega|assumption|rfl) (by first|omega|assumption|rfl) (by first|omega|assumption|rfl) (by first|omega|assumption|rfl) (by first|omega|assumption|rfl)) (Gl fun _ => Gl fun _ => Gg (Lq 0 rfl))); intro zz zz)
           | (apply AAZ; (· rfl); (· exact fun _ => E6 rfl (by (repeat first|exact Ln|refine Lm (by (repeat first|exact Ll|refine Lf ?_); first|done|fail) ?_); first|done|fail) (zd.h (by first|omega|assumption|rfl) (by first|omega|assumption|rfl) (by first|omega|assumption|rfl) (by first|omega|assumption|rfl) (by first|omega|assumption|rfl) (by first|omega|assumption|rfl)) (Gl fun _ => Gl fun _ => Gg (Lq 0 rfl))); intro zz zz)
           | (apply AAZ; (· rfl); (· exact fun _ => E6 rfl (by (repeat first|exact Ln|refine Lm (by (repeat first|exact Ll|refine Lf ?_); first|done|fail) ?_); first|done|fail) (zd.h (by first|omega|assumption|rfl) (by first|omega|assumption|rfl) (by first|omega|assumption|rfl) (by first|omega|assumption|rfl) (by first|omega|assumption|rfl) (by first|omega|assumption|rfl) (by first|omega|assumption|rfl)) (Gl fun _ => Gl fun _ => Gg (Lq 0 rfl))); intro zz zz)
           | (apply AAZ; (· rfl); (· exact fun _ => E6 rfl (by (repeat first|exact Ln|refine Lm (by (repeat first|exact Ll|refine Lf ?_); first|done|fail) ?_); first|done|fail) (zd.h (by first|omega|assumption|rfl) (by first|omega|assumption|rfl) (by first|omega|assumption|rfl) (by first|omega|assumption|rfl) (by first|omega|assumption|rfl) (by first|omega|assumption|rfl) (by first|omega|assumption|rfl) (by first|omega|assumption|rfl)) (Gl fun _ => Gl fun _ => Gg (Lq 0 rfl))); intro zz zz))
         )
       refine Et rfl ?_)
    | refine AMX ?_)
  repeat (revert zz)
  exact zh.h):G := s ⟨trivial⟩ ⟨c⟩ ⟨h⟩
theorem ge {G:Prop}(s:G := by
  refine ALN rfl rfl (by (repeat refine Exists.intro _ ?_); exact ⟨rfl, rfl, rfl⟩) (by (repeat first|exact Ln|refine Lm (by (repeat first|exact Ll|refine Lf ?_); first|done|fail) ?_); first|done|fail)):G := s
theorem gc {G:Prop}(s:G := by
  refine AKy rfl (by (repeat first|exact .nil|refine .tmp rfl ?_|refine .agg _ rfl (by (repeat first|exact n0|apply n1); first|done|fail) (tb.ldT rfl) rfl ?_|refine .one _ rfl (by (repeat first|exact n0|apply n1); first|done|fail) (tb.ldT rfl) ?_); first|done|fail) (by (repeat refine Exists.intro _ ?_); exact ⟨rfl, rfl, rfl⟩) (by (repeat first|exact Ln|refine Lm (by (repeat first|exact Ll|refine Lf ?_); first|done|fail) ?_); first|done|fail)):G := s
theorem tw {G A:Prop}(a:A) (s:A→G := by
  intro za
  refine AM4 za rfl (by (repeat first|exact Ln|refine Lm (by (repeat first|exact Ll|refine Lf ?_); first|done|fail) ?_); first|done|fail) (by first|exact Uy rfl|((repeat first|exact fzz _|refine fcc rfl ?_|refine fii rfl (by omega) ?_|refine fss rfl (by omega) (by omega) ?_); first|done|fail))):G := s a
theorem cz:True := trivial
theorem ct {a b:Prop}(x:a) (y:b):a∧b := ⟨x, y⟩
end Go.Proofs.YtpienolhkccpnaaGreat
namespace Go.Fw
open Go.ChangeShapes Go.WideShapes Go.RowKit
def Ow {α:Type}(P:Program) (t:TypeId) (E:Enc α):Prop :=
 P.cellsOf t=E.size∧P.bytesOf t=E.bytes∧∀ {H:Type}(enc:TypeId×Value→H) (W:World) (fuel:Nat) (cs:List Value) (d:DataW H) (ps:List MemPlace),
  DataW.trod enc P W 0 (fun _=>true) true fuel t cs=some (d,ps)→(∀ n∈d.weights P t,n≤reachBytes)→∃ x:α,E.rd W (fun k=>k<W.heap.size) cs x
theorem ABb {k:IntKind}{n:Int}(h:(Lit.int k n).wf=true):Bv k n:=by
 cases k <;> simp [Lit.wf,IntKind.min,IntKind.max,IntKind.bits,IntKind.signed] at h <;> simp only [Bv] <;> omega
section
variable {P:Program}{t:TypeId}
theorem AGo {k:IntKind}{by':Nat}(ht:P.underlying t=some (.int k)) (hc:P.cellsOf t=1) (hb:P.bytesOf t=by'):Ow P t (Dy k by') :=
 ⟨hc,hb,fun enc W fuel cs d ps h _=>by
  obtain ⟨n,rfl,_,hw⟩:=DataW.trod_int ht h
  exact ⟨n,rfl,ABb hw⟩⟩
theorem M0 {W:World}{a:Addr}{n:Nat}{cs:List Value}(h:W.cells? 0 a n=some cs) (hn:0<n):a.spot=none∧a.block<W.heap.size∧Fv W a.block a.off n cs:=by
 obtain ⟨_,hl,hc⟩:=World.cells?_some h
 have h0:=hc 0 hn
 rw [List.getElem?_eq_getElem (by omega)] at h0
 have e0:a.add 0=a:=rfl
 rw [e0] at h0
 unfold World.cell? at h0
 split at h0
 ·rename_i c T fr hb
  split at h0
  ·cases h0
  ·rename_i hs
   have hs':a.spot=none:=by cases ha:a.spot with
    | none=>rfl
    | some _=>rw [ha] at hs;simp at hs
   refine ⟨hs',?_,c,T,fr,hb,?_,hl⟩
   ·rcases Nat.lt_or_ge a.block W.heap.size with h|h
    ·exact h
    ·rw [Array.getElem?_eq_none h] at hb;cases hb
   ·apply List.ext_getElem?
    intro i
    by_cases hi:i<n
    ·have:=hc i hi
     unfold World.cell? Addr.add at this
     rw [List.getElem?_take,if_pos hi,List.getElem?_drop,← this]
     by_cases h0:i=0
     ·subst h0;simp [hb,hs']
     ·simp [h0,hb]
    ·rw [List.getElem?_take,if_neg hi,List.getElem?_eq_none (by omega)]
 ·cases h0
theorem ADy {α:Type}:∀ (n:Nat) (p:Nat→α→Prop),(∀ i,i<n→∃ x,p i x)→∃ l:List α,l.length=n∧∀ i x,l[i]?=some x→p i x:=by
 intro n p h
 refine ⟨List.ofFn (fun i:Fin n=>Classical.choose (h i.1 i.2)),by simp,fun i x hx=>?_⟩
 have hi:i<n:=by
  have:=(List.getElem?_eq_some_iff.1 hx).1
  simpa using this
 have e:x=Classical.choose (h i hi):=by
  rw [List.getElem?_eq_getElem (by simpa using hi),List.getElem_ofFn] at hx
  exact (Option.some.inj hx).symm
 rw [e]
 exact Classical.choose_spec (h i hi)
theorem Tz {H:Type}{e:TypeId}:∀ {l:List (DataW H)}{d:DataW H},d∈l→∀ n∈d.weights P e,n∈DataW.weightsAll P e l
 | [],_,hd,_,_=>by cases hd
 | x::l,d,hd,n,hn=>by
  simp only [DataW.weightsAll,List.mem_append]
  rcases List.mem_cons.1 hd with rfl|hd
  ·exact .inl hn
  ·exact .inr (Tz hd n hn)
theorem ADH {α:Type}{E:Enc α}{e:TypeId}(ht:P.underlying t=some (.slice e)) (hE:Ow P e E) (hc:P.cellsOf t=1) (hb:P.bytesOf t=24) (hs:0<E.size):Ow P t (Aj E) :=
 ⟨hc,hb,fun enc W fuel cs d ps h hw=>by
  obtain ⟨he,hby,hE⟩:=hE
  rcases Deep.open_slice ht h with ⟨rfl,_⟩|⟨a,len,cap,m,n,D,Pl,rfl,_,hl,_,hm,hx,hel⟩
  ·exact ⟨[],none,0,rfl,Nat.zero_le _,by simp,.inl rfl⟩
  ·simp only [Prod.mk.injEq] at hx
   obtain ⟨rfl,_⟩:=hx
   simp only [if_true] at hm
   subst hm
   have hsz:len*E.bytes≤140737488355328:=by
    have h1:((List.range len).map D).length+((List.range (m-len)).map fun j=>D (len+j)).length=m:=by simp;omega
    have h2:=hw (m*P.bytesOf e) (by rw [DataW.weights,ht];show m*P.bytesOf e∈_::_;rw [h1];exact List.mem_cons_self)
    rw [hby] at h2
    exact Nat.le_trans (Nat.mul_le_mul_right _ hl) (Nat.le_trans h2 (by decide))
   have each:∀ i,i<len→∃ x:α,(a.spot=none∧a.block<W.heap.size)∧∃ vs,Fv W a.block (a.off+i*E.size) E.size vs∧E.rd W (fun k=>k<W.heap.size) vs x:=by
    intro i hi
    obtain ⟨cs',h1,h2⟩:=hel i (by omega)
    obtain ⟨x,hxr⟩:=hE enc W n cs' _ _ h2 (fun k hk=>hw k (by
     rw [DataW.weights,ht]
     refine List.mem_cons_of_mem _ (List.mem_append_left _ (Tz (List.mem_map.2 ⟨i,List.mem_range.2 hi,rfl⟩) k hk))))
    rw [he] at h1
    obtain ⟨hsp,hlt,hca⟩:=M0 h1 hs
    have hadd:(a.add (i*E.size)).block=a.block∧(a.add (i*E.size)).off=a.off+i*E.size:=by
     unfold Addr.add
     split
     ·rename_i h;rw [h];exact ⟨rfl,rfl⟩
     ·exact ⟨rfl,rfl⟩
    rw [hadd.1] at hlt
    rw [hadd.1,hadd.2] at hca
    have hsp0:a.spot=none:=by
     obtain ⟨cs0,h10,_⟩:=hel 0 (by omega)
     rw [he,Nat.zero_mul] at h10
     exact (M0 h10 hs).1
    exact ⟨x,⟨hsp0,hlt⟩,cs',hca,hxr⟩
   obtain ⟨l,hll,hlx⟩:=ADy len _ each
   refine ⟨l,some a,m,by rw [hll],by omega,by rw [hll];exact hsz,?_⟩
   cases l with
   | nil=>exact .inl rfl
   | cons y l =>
    obtain ⟨⟨h1,h2⟩,_⟩:=hlx 0 y rfl
    refine .inr ⟨a.block,a.off,?_,h2,fun i x hi=>(hlx i x hi).2⟩
    cases a;simp_all⟩
def Vb {α:Type}(P:Program) (fs:List Field) (off:Nat) (E:Enc α):Prop :=
 ∀ {H:Type}(enc:TypeId×Value→H) (W:World) (n:Nat) (cs:List Value) (xs:List (DataW H×List MemPlace)),xs.length=fs.length →
  (∀ (i:Nat) (f:Field),fs[i]?=some f→DataW.trod enc P W 0 (fun _=>true) true n f.type ((cs.drop f.offset).take (P.cellsOf f.type))=xs[i]?)→cs.length=off+E.size →
  (∀ n∈DataW.weightsEach P (fs.map fun f:Field=>f.type) (xs.map (·.1)),n≤reachBytes)→∃ x:α,E.rd W (fun k=>k<W.heap.size) (cs.drop off) x
theorem Vr {α:Type}{E:Enc α}{f:Field}{off:Nat}(hf:f.offset=off) (hE:Ow P f.type E):Vb P [f] off E:=fun enc W n cs xs hl h hc hw=>by
 match xs,hl with
 | [x],_ =>
  have h0:=h 0 f rfl
  obtain ⟨d,ps⟩:=x
  rw [hf,hE.1,List.take_of_length_le (by rw [List.length_drop];omega)] at h0
  exact hE.2.2 enc W n _ d ps h0 (fun k hk=>hw k (by simp [DataW.weightsEach,hk]))
theorem J0 {α β:Type}{E:Enc α}{F:Enc β}{f:Field}{fs:List Field}{off:Nat}(by':Nat) (hf:f.offset=off) (hE:Ow P f.type E) (hF:Vb P fs (off+E.size) F):Vb P (f::fs) off (Fh E F by'):=fun enc W n cs xs hl h hc hw=>by
 match xs,hl with
 | x::xs,hl =>
  have h0:=h 0 f rfl
  obtain ⟨d,ps⟩:=x
  rw [hf,hE.1] at h0
  have hc':cs.length=off+(E.size+F.size):=hc
  obtain ⟨y,hy⟩:=hE.2.2 enc W n _ d ps h0 (fun k hk=>hw k (by simp [DataW.weightsEach,hk]))
  obtain ⟨z,hz⟩:=hF enc W n cs xs (by simpa using hl) (fun i g hg=>by simpa using h (i+1) g (by simpa using hg)) (by omega) (fun k hk=>hw k (by
   simp only [List.map_cons,DataW.weightsEach,List.mem_append];exact .inr hk))
  refine ⟨(y,z),_,_,?_,hy,hz⟩
  rw [← List.drop_drop,List.take_append_drop]
theorem Vv {α:Type}{E:Enc α}{fs:Array Field}(ht:P.underlying t=some (.struct fs)) (hE:Vb P fs.toList 0 E) (hc:P.cellsOf t=E.size) (hb:P.bytesOf t=E.bytes):Ow P t E :=
 ⟨hc,hb,fun enc W fuel cs d ps h hw=>by
  obtain ⟨xs,n,_,hx,hl,hlen,hf⟩:=DataW.trod_struct ht h
  simp only [Prod.mk.injEq] at hx
  obtain ⟨rfl,_⟩:=hx
  obtain ⟨x,hx⟩:=hE enc W n cs xs (by simpa using hlen) (fun i f hi=>hf i f (by simpa using hi)) (by rw [hl,hc];omega) (fun k hk=>hw k (by rw [DataW.weights,ht];exact hk))
  exact ⟨x,by simpa using hx⟩⟩
def Arg (P:Program) (W:World) (t:TypeId) (v:Value):Prop :=
 (∃ b,Value.okWide P W .any b t v)∧∃ (H:Type) (enc:TypeId×Value→H) (d:DataW H) (p:List MemPlace),DataW.Trod enc P W 0 (fun _=>true) true t v d p∧∀ n∈d.weights P t,n≤reachBytes
def AJh (P:Program) (W:World):List TypeId→List Value→Prop
 | [],[]=>True
 | t::ts,v::vs=>Arg P W t v∧AJh P W ts vs
 | _,_=>False
variable {W:World}{v:Value}
theorem Arg.slice {α:Type}{E:Enc α}{e:TypeId}(h:Arg P W t v) (ht:P.underlying t=some (.slice e)) (hE:Ow P t (Aj E)):∃ pa ca l,v = .slice pa l.length ca∧(Ap E pa l.length ca l).holds W (fun k=>k<W.heap.size):=by
 obtain ⟨⟨b,hv⟩,H,enc,d,p,⟨fuel,hf⟩,hw⟩:=h
 obtain ⟨a,len,cap,rfl⟩:=okWide_slice ht hv
 obtain ⟨l,pa,ca,e1,hs⟩:=hE.2.2 enc W fuel _ d p hf hw
 have e2:Value.slice a len cap = .slice pa l.length ca:=by simpa [Value.cells] using e1
 exact ⟨pa,ca,l,e2,rfl,hs⟩
theorem Arg.int {k:IntKind}(h:Arg P W t v) (ht:P.underlying t=some (.int k)):∃ n,v = .int k n∧Bv k n:=by
 obtain ⟨⟨b,hv⟩,H,enc,d,p,hf,hw⟩:=h
 obtain ⟨n,e,_,_,hn⟩:=open_int ht hv hf
 exact ⟨n,e,ABb hn⟩
theorem Arg.bool (h:Arg P W t v) (ht:P.underlying t=some .bool):∃ b,v = .bool b:=by
 obtain ⟨⟨b,hv⟩,H,enc,d,p,hf,hw⟩:=h
 obtain ⟨n,e,_⟩:=open_bool ht hv hf
 exact ⟨n,e⟩
theorem Arg.agg {α:Type}{E:Enc α}{fs:Array Field}(h:Arg P W t v) (ht:P.underlying t=some (.struct fs)) (hE:Ow P t E):∃ vs x,v = .agg vs.toArray∧(vF E vs x).holds W (fun k=>k<W.heap.size):=by
 obtain ⟨⟨b,hv⟩,H,enc,d,p,⟨fuel,hf⟩,hw⟩:=h
 obtain ⟨cs,rfl,_⟩:=okWide_struct ht hv
 obtain ⟨x,hx⟩:=hE.2.2 enc W fuel _ d p hf hw
 have hx':E.rd W (fun k=>k<W.heap.size) cs.toList x:=hx
 exact ⟨cs.toList,x,by simp,hx'⟩
end
theorem T3 {H:Type}{enc:TypeId×Value→H}{P:Program}(hl:laidOutB P=true) {W W':World}(hb:Below W.heap.size W W'):∀ {ts:List TypeId}{vs:List Value}{ds:List (DataW H)}{ps:List MemPlace},
  (ts.all fun t=>P.readableRec t && decide (t<P.types.size))=true→DataW.TrodAll enc P W 0 (fun _=>true) true ts vs ds ps→DataW.TrodAll enc P W' 0 (fun b=>decide (b<W.heap.size)) true ts vs ds ps
 | [],[],[],_,_,h=>h
 | t::ts,v::vs,d::ds,ps,ha,⟨p,q,h1,h2,e⟩=>by
  simp only [List.all_cons,Bool.and_eq_true,decide_eq_true_eq] at ha
  refine ⟨p,q,Below.trod hl ha.1.1 ha.1.2 h1 hb ?_,T3 hl hb (by simpa using ha.2) h2,e⟩
  obtain ⟨m,hm⟩:=h1
  exact DataW.trod_lt m _ _ _ hm
 | [],_::_,_,_,_,h=>h.elim
 | [],[],_::_,_,_,h=>h.elim
 | _::_,[],_,_,_,h=>h.elim
 | _::_,_::_,[],_,_,h=>h.elim
theorem AEV {H:Type}{enc:TypeId×Value→H}{P:Program}{W:World}{base:Nat}:∀ (ts:List TypeId) (vs:List Value) (ds:List (DataW H)) (ps:List MemPlace),
  (∀ (j:Nat) t v,ts[j]?=some t→vs[j]?=some v→Value.okWide P W .any base t v)→DataW.TrodAll enc P W 0 (fun _=>true) true ts vs ds ps→(∀ n∈DataW.weightsEach P ts ds,n≤reachBytes)→AJh P W ts vs
 | [],[],[],_,_,_,_=>trivial
 | t::ts,v::vs,d::ds,ps,hv,⟨p,q,h1,h2,e⟩,hw=>by
  refine ⟨⟨⟨base,hv 0 t v rfl rfl⟩,H,enc,d,p,h1,fun n hn=>hw n (by simp only [DataW.weightsEach,List.mem_append];exact .inl hn)⟩,AEV ts vs ds q (fun j t v ht hv'=>hv (j+1) t v (by simpa using ht) (by simpa using hv')) h2 (fun n hn=>hw n (by simp only [DataW.weightsEach,List.mem_append];exact .inr hn))⟩
 | [],_::_,_,_,_,h,_=>h.elim
 | [],[],_::_,_,_,h,_=>h.elim
 | _::_,[],_,_,_,h,_=>h.elim
 | _::_,_::_,[],_,_,h,_=>h.elim
def AFm (P:Program) (f:FuncId) (fn:Func):Prop :=
 ∀ (W:World) (args:List Value),AJh P W fn.params.toList args→Calls P f args.toArray W (Ret fun v W'=>v = .bool true∧Below W.heap.size W W')
theorem ACa {P:Program}{f:FuncId}{args:List Value}{Γ:List Fact}{W:World}{Q:Value→List Fact→List A4→Prop}(h:Bt P f args [] Γ Q) (hq:∀ v Φ β,Q v Φ β→v = .bool true) (hG:∀ g∈Γ,g.holds W (fun k=>k<W.heap.size)) :
  Calls P f args.toArray W (Ret fun v W'=>v = .bool true∧Below W.heap.size W W'):=by
 refine (h.2 W (fun k=>k<W.heap.size) (fun k hk=>hk) (fun x hx=>by cases hx) trivial (fun g hg=>g.stable (fun k hk=>⟨⟨hk,fun ⟨x,hx,_⟩=>by cases hx⟩,rfl⟩) (hG g hg))).mono ?_
 intro e w' he
 cases e <;> try exact he.elim
 obtain ⟨Φ,β,hQ,hO,_⟩:=he
 exact ⟨hq _ _ _ hQ,hO.ext.os,hO.ext.tape,hO.ext.output,hO.ext.size,fun k hk=>hO.ext.block k hk (fun ⟨x,hx,_⟩=>by cases hx)⟩
theorem AIe {H:Type}{enc:TypeId×Value→H}{C:Checked}{f:FuncId}{fn:Func}{s:ChangeSpec}{tb:TypeId}{os:Os}{conds:List PathCond}
  (own:ownKnob C.prog.godebug=none) (started:os.Started) (noInit:C.prog.inits.idxOf? f=none) (hfn:C.prog.funcs[f]?=some fn)
  (witness:∃ (w:World) (tape:Tape) (i:Input),w.os=os∧(w.forCall tape i).Shaped C.prog∧i.vars=[]∧Input.okWide C.prog (w.forCall tape i) .any w.heap.size f i ∧
   s.pre6 enc C.prog fn conds false (w.forCall tape i).memory i.args∧(Assume.holds {} C.prog (lone (Frame.enter C.prog f i.args .normal) [] (w.forCall tape i))))
  (laid:laidOutB C.prog=true) (hvars:s.vars=[]) (hts:(fn.params.toList.all fun t=>C.prog.readableRec t && decide (t<C.prog.types.size))=true)
  (hres:fn.resultTypes=#[tb]) (htb:C.prog.underlying tb=some .bool)
  (hspec:∀ ds:List (DataW H),ds.length=fn.params.toList.length→s.fn H ds={ results:=[.lit (.bool true)],args:=ds })
  (walk:AFm C.prog f fn) :
  ReturnsInHanded {} C os f .any (s.pre6 enc C.prog fn conds false) (s.post enc C.prog fn false true false false):=by
 refine returnsInHanded_of_change_sized own started noInit hfn witness ?_
 intro W base args ds gs before hval hW _ hsz _
 have hW':=hW
 obtain ⟨p,q,hA,hV,rfl,_,_⟩:=hW
 rw [hvars] at hV
 obtain ⟨rfl,rfl⟩:=trodVars_none hV
 have hlen:∀ {ts:List TypeId}{vs:List Value}{ds:List (DataW H)}{ps:List MemPlace},DataW.TrodAll enc C.prog W 0 (fun _=>true) true ts vs ds ps→ds.length=ts.length:=by
  intro ts
  induction ts with
  | nil=>intro vs ds ps h;cases vs <;> cases ds <;> first|rfl|exact h.elim
  | cons t ts ih =>
   intro vs ds ps h
   cases vs <;> cases ds <;> try exact h.elim
   obtain ⟨p,q,_,h2,_⟩:=h
   simp [ih h2]
 have hw:∀ n∈DataW.weightsEach C.prog fn.params.toList ds,n≤reachBytes:=fun n hn=>by
  have e:s.plain.varTypes C.prog=[]:=by
   unfold DataSpec.varTypes ChangeSpec.plain
   rw [hvars];rfl
  rw [e,List.append_nil,List.append_nil] at hsz
  simpa using List.all_eq_true.1 hsz n hn
 have:=walk W args.toList (AEV fn.params.toList args.toList ds p (fun j t v ht hv=>hval j t v (by simpa using ht) (by simpa using hv)) hA hw)
 rw [Array.toArray_toList] at this
 refine this.mono fun e W' he=>?_
 cases e <;> try exact he.elim
 obtain ⟨rfl,hb⟩:=he
 refine ⟨_,rfl,ds,[],p++[],[],p,[],hW',?_,?_,?_,hb.frame _,fun h=>by cases h⟩
 ·rw [List.append_nil,hspec ds (hlen hA),hres]
  exact trodAll_mk1 (shut_bool htb _)
 ·rw [List.append_nil,hspec ds (hlen hA)]
  exact T3 laid hb hts hA
 ·rw [List.append_nil,hspec ds (hlen hA),hvars]
  rfl
end Go.Fw
namespace Go.Proofs.YtpienolhkccpnaaGreat
set_option maxRecDepth 100000
set_option linter.unusedVariables false
set_option linter.unusedSimpArgs false
def dot:List Rat→List Rat→Rat
 | a::l,b::m=>a*b+dot l m
 | _,_=>0
def rows (A:List (List Rat)) (x:List Rat):List Rat:=A.map fun r=>dot r x
end Go.Proofs.YtpienolhkccpnaaGreat
namespace Go.Fw
open Go.RowKit (Below)
set_option linter.unusedVariables false
section
variable {P:Program}{F:Fun P}{C:Cx}{S:List It}{σ:Fr}{ty:TypeId}{β:List A4}{Γ:List Fact}{R:Value→World→Prop}{K:Value→List A4→List Fact→Prop}
theorem ACQ {t e:TypeId}{m:Nat}{x y:Operand}{ky:IntKind}(hx:ev σ x=some (.slice none 0 0)) (hy:ev σ y=some (.int ky 0))
  (hT:Ev P t=some (e,m)) (h:K (.slice none 0 0) β Γ):Fb P C (.slice t x none (some y) none) ty σ β Γ K :=
 Fa (fun w ρ hρ=>by
  obtain ⟨hu,_⟩:=Cu hT
  have:=run_slice_h (P:=P) w t none 0 0 (by rw [Pj hu];exact hu) ky 0 (by omega) (by omega)
  have e1:sliced none 0 0 0 m = .slice none 0 0:=by simp [sliced]
  simp [execOp,Da,hρ _ _ hx,hρ _ _ hy,J7 hT,this,Kb hT,e1]) h
end
set_option linter.unusedVariables false
variable {P:Program}
section
variable {P:Program}{C:Cx}{σ:Fr}{ty:TypeId}{β:List A4}{Γ:List Fact}{K:Value→List A4→List Fact→Prop}
end
def Fun.inR (F:Fun P) (l:Nat):Fun P:={ F with rnd:=some l,dfs:=[] }
def Fun.mkd (F:Fun P) (D:Nat):Fun P:={ F with dfs:={ target:=.collected D,args:=#[] }::F.dfs }
structure Off (C:Cx) (l:Nat) (o:Obj):Prop where
 lt:l<C.w0.heap.size
 a:¬ C.A l
 m:¬ C.M l
 at_:C.w0.heap[l]?=some o
structure OwnX (C:Cx) (X:Nat→Prop) (w:World) (β:List A4):Prop where
 own:Own ⟨C.w0,C.A,fun k=>C.M k∨X k⟩ w β
 no:∀ x∈β,∀ k,x.1=some k→¬ X k
section
variable {C:Cx}{l:Nat}{o:Obj}{w:World}{β:List A4}{Γ:List Fact}{X:Nat→Prop}
theorem Off.now (h:Off C l o) (hO:Own C w β):w.heap[l]?=some o:=(hO.ext.block l h.lt h.m).trans h.at_
theorem Off.nok (h:Off C l o) {w:World}{β:List A4}:¬ ok C w β l:=fun hk=>by
 rcases hk.1 with h1|h1|h1
 ·exact h.a h1
 ·exact h.m h1
 ·have:=h.lt;omega
theorem Off.nb (h:Off C l o) (hO:Own C w β):∀ x∈β,x.1≠some l:=fun x hx e=>by
 rcases hO.new x hx l e with h1|h1
 ·have:=h.lt;omega
 ·exact h.m h1
theorem Own.ownX (hO:Own C w β) (h:∀ x∈β,∀ k,x.1=some k→¬ X k):OwnX C X w β :=
 ⟨⟨⟨hO.ext.os,hO.ext.tape,hO.ext.output,hO.ext.size,fun k hk hm=>hO.ext.block k hk fun h=>hm (.inl h)⟩,fun x hx b hb=>(hO.new x hx b hb).imp id .inl,hO.blk,hO.apart⟩,h⟩
abbrev reb (w2 w:World) (C:Cx) (β:List A4):Cx:=⟨w2,ok C w β,Wm β⟩
theorem AHS {w2:World}(hO:OwnX C X w β) (hG:∀ f∈Γ,f.holds w (ok C w β)) (hs:w.heap.size≤w2.heap.size) (hk:∀ k,k<w.heap.size→¬ X k→w2.heap[k]?=w.heap[k]?) (hX:∀ k,X k→¬ ok C w β k) :
  Own (reb w2 w C β) w2 β∧∀ f∈Γ,f.holds w2 (ok (reb w2 w C β) w2 β):=by
 refine ⟨⟨Keep.refl _ _,fun x hx b hb=>.inr ⟨x,hx,hb⟩,fun x hx b hb=>?_,hO.own.apart⟩,fun f hf=>f.stable (fun k h=>?_) (hG f hf)⟩
 ·rw [hk b (hO.own.lt hx hb) (hO.no x hx b hb)]
  exact hO.own.blk x hx b hb
 ·exact ⟨⟨.inl h,Nat.lt_of_lt_of_le h.2.1 hs,h.2.2⟩,hk k h.2.1 fun hx=>hX k hx h⟩
theorem ACZ {w2 w':World}{β':List A4}(hO:OwnX C X w β) (hos:w2.os=w.os) (htp:w2.tape=w.tape) (hou:w2.output=w.output) (hs:w.heap.size≤w2.heap.size) (hk:∀ k,k<w.heap.size→¬ X k→w2.heap[k]?=w.heap[k]?)
  (h':Own (reb w2 w C β) w' β') (hX:∀ k,X k→k<w2.heap.size) :
  OwnX C X w' β'∧∀ k,ok (reb w2 w C β) w' β' k→¬ X k→ok C w' β' k:=by
 have hold:∀ k,Wm β k→(C.w0.heap.size≤k∨C.M k)∧¬ X k:=fun k ⟨x,hx,e⟩=>by
  have h1:=hO.no x hx k e
  rcases hO.own.new x hx k e with h|h|h
  ·exact ⟨.inl h,h1⟩
  ·exact ⟨.inr h,h1⟩
  ·exact absurd h h1
 have hsz:C.w0.heap.size≤w.heap.size:=hO.own.ext.size
 refine ⟨⟨⟨⟨?_,?_,?_,?_,fun k h1 h2=>?_⟩,fun x hx b hb=>?_,h'.blk,h'.apart⟩,fun x hx k e hx'=>?_⟩,fun k h1 h2=>⟨?_,h1.2.1,h1.2.2⟩⟩
 ·exact (h'.ext.os.trans hos).trans hO.own.ext.os
 ·exact (h'.ext.tape.trans htp).trans hO.own.ext.tape
 ·exact (h'.ext.output.trans hou).trans hO.own.ext.output
 ·exact Nat.le_trans hsz (Nat.le_trans hs h'.ext.size)
 ·have h3:¬ Wm β k:=fun hb=>by
   rcases (hold k hb).1 with h|h
   ·have h1:k<C.w0.heap.size:=h1;omega
   ·exact h2 (.inl h)
  have h1':k<C.w0.heap.size:=h1
  rw [h'.ext.block k (show k<w2.heap.size by omega) h3,hk k (by omega) fun hx=>h2 (.inr hx)]
  exact hO.own.ext.block k h1 h2
 ·rcases h'.new x hx b hb with h|h
  ·have h:w2.heap.size≤b:=h
   exact .inl (show C.w0.heap.size≤b by omega)
  ·exact (hold b h).1.imp id .inl
 ·rcases h'.new x hx k e with h|h
  ·have h:w2.heap.size≤k:=h
   have:=hX k hx';omega
  ·exact (hold k h).2 hx'
 ·rcases h1.1 with h|h|h
  ·have h:ok C w β k:=h
   exact h.1
  ·rcases (hold k h).1 with h|h
   ·exact .inr (.inr h)
   ·exact .inr (.inl h)
  ·have h:w2.heap.size≤k:=h
   exact .inr (.inr (show C.w0.heap.size≤k by omega))
end
def RB (C:Cx) (l:Nat) (r:Loop) (Q0:Value→List Fact→List A4→Prop):Value→World→Prop:=fun v w' =>
 ∃ w β,Own C w β∧Fg (reb (w.putObj l (.loop { r with state:=.busy })) w C β) Q0 v w'
section
variable {F:Fun P}{C:Cx}{S:List It}{σ:Fr}{β:List A4}{Γ:List Fact}{R:Value→World→Prop}{l:Nat}{r:Loop}{Q0:Value→List Fact→List A4→Prop}
theorem ABr {w:World}{l:Nat}{o:Obj}:∀ k,k<w.heap.size→¬ (k=l)→(w.putObj l o).heap[k]?=w.heap[k]?:=fun k _ h=>World.putObj_heap_other h
theorem ALd {w:World}{R:Value→World→Prop}(hk:F.rnd=some l) (hl:w.heap[l]?=some (.loop r)) (hr:r.state = .ready) (h:L9 F S σ (w.putObj l (.loop { r with state:=.busy })) R):L9 F (.br::S) σ w R:=by
 intro a ha cs
 refine (h a ha cs).step (.one ?_)
 simp only [List.map_cons,It.item]
 exact stepR_beginRound (b:=F.base) hk (run_beginRound hl hr)
theorem AKF (hl:Off C l (.loop r)) (hr:r.state = .ready) (h:∀ C',J F C' S σ β Γ (Fg C' Q0)) (hk:F.rnd=some l:=by rfl):J F C (.br::S) σ β Γ (RB C l r Q0):=fun w hO hG=>by
 refine ALd hk (hl.now hO) hr ?_
 obtain ⟨h1,h2⟩:=AHS (X:=fun k=>k=l) (w2:=w.putObj l (.loop { r with state:=.busy })) (hO.ownX fun x hx k e hk=>hl.nb hO x hx (hk▸e)) hG (Nat.le_of_eq World.putObj_size.symm) ABr (fun k hk=>hk▸hl.nok)
 exact AAr (h _ _ h1 h2) fun v w' hg=>⟨w,β,hO,hg⟩
theorem ABM {Φ:List Fact}(ix:List Nat) (hp:pick Γ ix=some Φ) (h:Q0 (jv none) Φ β) (hk:F.rnd=some l:=by rfl):J F C [] σ β Γ (Fg C Q0) :=
 fun w hO hG=>AGF hk ⟨Φ,β,h,hO,fun f hf=>hG f (Ee hp f hf)⟩
theorem AK8 {Φ:List Fact}{p:List Nat}(ix:List Nat) (hq:L6 F.B p=true) (hp:pick Γ ix=some Φ) (h:Q0 (jv (some p)) Φ β) (hk:F.rnd=some l:=by rfl):J F C (.c p::S) σ β Γ (Fg C Q0) :=
 fun w hO hG=>AHK hk hq ⟨Φ,β,h,hO,fun f hf=>hG f (Ee hp f hf)⟩
end
def AJX (C:Cx) (l:Nat) (r:Loop) (B:Code) (Q0:Value→List Fact→List A4→Prop) (v:Value) (w:World):Prop :=
 ∃ q Φ β,Q0 (jv q) Φ β∧v = .bool q.isNone∧w.heap[l]?=some (.loop { r with state:=if q.isNone then .ready else .done,pending:=q.map fun p=>sub p B }) ∧
  OwnX C (fun k=>k=l) w β∧∀ f∈Φ,f.holds w (ok C w β)
def AFF (P:Program) (l:Nat) (r:Loop) (B:Code) (vals:List Value) (β:List A4) (Γ:List Fact) (Q0:Value→List Fact→List A4→Prop):Prop :=
 ∀ w A,(∀ k,A k→k<w.heap.size∧k≠l)→(∀ x∈β,∀ b,x.1=some b→w.heap[b]?=some (.cells x.2.2.toArray x.2.1 (0,0)))→Ay β→(∀ x∈β,x.1≠some l)→w.heap[l]?=some (.loop r) →
  (∀ g∈Γ,g.holds w (fun k=>A k∧¬ Wm β k)) →
  ∃ fn tmps assign body,(Instr.yield l vals.toArray).run P w = .ok (.round l fn tmps assign body) w∧Rnd P l fn tmps assign body w (AJX ⟨w,A,Wm β⟩ l r B Q0)
def IR (C:Cx) (l:Nat) (r:Loop) (B:Code) (Q:List Fact→List A4→Prop) (Qs:List Nat→List Fact→List A4→Prop) (v:Value) (w:World):Prop :=
 ∃ (q:Option (List Nat)) (Φ:List Fact) (β:List A4),(match q with|none=>Q Φ β|some p=>Qs p Φ β) ∧
  w.heap[l]?=some (.loop { r with state:=if q.isNone then .ready else .done,pending:=q.map fun p=>sub p B })∧OwnX C (fun k=>k=l) w β∧∀ f∈Φ,f.holds w (ok C w β)
def AJe (P:Program) (f:FuncId) (args:List Value) (l:Nat) (r:Loop) (B:Code) (β:List A4) (Γ:List Fact) (Q:List Fact→List A4→Prop) (Qs:List Nat→List Fact→List A4→Prop):Prop :=
 P3 P f=true∧∀ w A,(∀ k,A k→k<w.heap.size∧k≠l)→(∀ x∈β,∀ b,x.1=some b→w.heap[b]?=some (.cells x.2.2.toArray x.2.1 (0,0)))→Ay β→(∀ x∈β,x.1≠some l)→w.heap[l]?=some (.loop r) →
  (∀ g∈Γ,g.holds w (fun k=>A k∧¬ Wm β k))→Calls P f args.toArray w (Ret (IR ⟨w,A,Wm β⟩ l r B Q Qs))
def Rdy (r:Loop):Prop:=r.state = .ready∧r.pending=none
theorem Rdy.same {r:Loop}(h:Rdy r):{ r with state:=.ready,pending:=none }=r:=by
 obtain ⟨h1,h2⟩:=h
 cases r;subst h1;subst h2;rfl
theorem AGZ {w:World}{A:Nat→Prop}{β:List A4}{l:Nat}{o:Obj}(hA:∀ k,A k→k<w.heap.size∧k≠l) (hb:∀ x∈β,x.1≠some l) (hl:w.heap[l]?=some o):Off ⟨w,A,Wm β⟩ l o :=
 ⟨(Array.getElem?_eq_some_iff.1 hl).1,fun h=>(hA l h).2 rfl,fun ⟨x,hx,e⟩=>hb x hx e,hl⟩
section
variable {F:Fun P}{C:Cx}{S:List It}{σ:Fr}{β:List A4}{Γ:List Fact}{R:Value→World→Prop}{l:Nat}{r:Loop}{B:Code}{Q:List Fact→List A4→Prop}{Qs:List Nat→List Fact→List A4→Prop}
theorem ABs {args:List Value}(hl:Nat.ble args.length F.fn.ntmps=true) (h:∀ C,Off C l (.loop r)→J F C [.c []] (AFK 0 args) β Γ (IR C l r B Q Qs)) (hk:F.rnd=none:=by rfl) (hd:F.dfs=[]:=by rfl) :
  AJe P F.f args l r B β Γ Q Qs:=⟨F.plain,fun w A hA hb hdi hnl hlo hG =>
 Vx (h ⟨w,A,Wm β⟩ (AGZ hA hnl hlo) w ⟨Keep.refl _ _,fun x hx _ hxb=>.inr ⟨x,hx,hxb⟩,hb,hdi⟩
  fun f hf=>f.stable (fun k hk=>⟨⟨.inl hk.1,(hA k hk.1).1,fun x hx e=>hk.2 ⟨x,hx,e⟩⟩,rfl⟩) (hG f hf)) (Nat.le_of_ble_eq_true hl) (fun t v ht=>by simpa using (AC1 _ _ _ _ ht).2) hk hd⟩
theorem AKw {R':Value→World→Prop}(hr:∀ v w,R v w→R' v w) (h:J F C S σ β Γ R):J F C S σ β Γ R':=fun w hO hG=>AAr (h w hO hG) hr
theorem AJN (hl:Off C l (.loop r)) (hr:Rdy r) (h:J F C S σ β Γ (Fg C fun _ Φ β=>Q Φ β)):J F C S σ β Γ (IR C l r B Q Qs) :=
 AKw (fun v w ⟨Φ,β',hq,hO,hG⟩=>⟨none,Φ,β',hq,by rw [hl.now hO];exact congrArg (fun r=>some (Obj.loop r)) hr.same.symm,hO.ownX fun x hx k e hk=>hl.nb hO x hx (hk▸e),hG⟩) h
theorem Wh {β:List A4}{n:Nat}(h:Ay β):Ay (β.take n)∧Ay (β.drop n)∧∀ x∈β.take n,∀ y∈β.drop n,∀ b,x.1=some b→y.1≠some b:=by
 rw [← List.take_append_drop n β] at h
 revert h
 generalize β.take n=β1
 generalize β.drop n=β2
 intro h
 induction β1 with
 | nil=>exact ⟨trivial,h,fun x hx=>by cases hx⟩
 | cons y l ih =>
  obtain ⟨h1,h2⟩:=h
  obtain ⟨i1,i2,i3⟩:=ih h2
  refine ⟨⟨fun z hz=>h1 z (List.mem_append_left _ hz),i1⟩,i2,fun x hx z hz b hb=>?_⟩
  rcases List.mem_cons.1 hx with rfl|hx
  ·exact h1 z (List.mem_append_right _ hz) b hb
  ·exact i3 x hx z hz b hb
theorem AC4 {p:List Nat}{vs:List Value}{Q:Value→List Fact→List A4→Prop}{Φ:List Fact}(hp:L6 F.B p=true) (hr:Mf σ F.fn.results.toList=some vs) (h:Q (Hg vs) Φ β) (hl:∀ g∈Φ,g∈Γ) (hk:F.rnd=none:=by rfl):J F C (.c p::S) σ β Γ (Fg C Q) :=
 AHH (hk:=hk) hp hr fun _ hO hG=>⟨Φ,β,h,hO,fun f hf=>hG f (hl f hf)⟩
theorem AE6 {p:List Nat}{i n:Nat}{d:Option Tmp}{ty:TypeId}{x:Operand}{xs:List Operand}{ts:Array TypeId}{vals:List Value}{Γ1:List Fact}{Q0:Value→List Fact→List A4→Prop}(ix:List Nat)
  (hoff:Off C l (.loop r)) (hr:Rdy r) (ho:AAa F p i=some (d,.call { callee:=.value x,args:=xs.toArray,argTypes:=ts },ty)) (hx:ev σ x=some (.func (.yield l) #[] #[])) (ha:Yv σ xs=some vals)
  (hY:AFF P l r B vals (β.take n) Γ1 Q0) (hp:pick Γ ix=some Γ1)
  (hgo:∀ Φ β',Q0 (jv none) Φ β'→J F C (.o p (i+1)::S) (putF d (.bool true) σ) (β'++β.drop n) (Φ++Γ) (IR C l r B Q Qs))
  (hstop:∀ q Φ β' C',Q0 (jv (some q)) Φ β'→J F C' (.o p (i+1)::S) (putF d (.bool false) σ) (β'++β.drop n) (Φ++Γ) (Fg C' fun _ Φ β=>Qs q Φ β)) :
  J F C (.o p i::S) σ β Γ (IR C l r B Q Qs):=by
 intro w hO hG
 have hnl:=hoff.nb hO
 have hsub:∀ x∈β.take n,x∈β:=fun x hx=>List.mem_of_mem_take hx
 have hap:=Wh (n:=n) hO.apart
 obtain ⟨fn,tmps,assign,body,hy,hR⟩:=hY w (ok C w β) (fun k hk=>⟨hk.2.1,fun e=>hoff.nok (e▸hk)⟩) (fun x hx=>hO.blk x (hsub x hx)) hap.1 (fun x hx=>hnl x (hsub x hx)) (hoff.now hO)
  fun g hg=>g.stable (fun k hk=>⟨⟨hk,fun ⟨x,hx,e⟩=>hk.2.2 x (hsub x hx) e⟩,rfl⟩) (hG g (Ee hp g hg))
 refine ADZ (post:=fun v w'=>AJX ⟨w,ok C w β,Wm (β.take n)⟩ l r B Q0 v w') ho ?_ fun v w' hpost=>?_
 ·intro ρ hρ
  have h1:ρ x = .func (.yield l) #[] #[]:=hρ _ _ hx
  have h2:xs.toArray.map ρ=vals.toArray:=by rw [List.map_toArray,T6 hρ ha]
  simp only [execOp,Da,resolve,h1,h2,Deferred.ofValue,Sem.run_bind,Sem.run_pure,Result.andThen_ok,invoke,Array.append_empty,Array.empty_append,hy]
  exact hR
 obtain ⟨q,Φ,β',hq,rfl,hlp,hOX,hΦ⟩:=hpost
 -- the own blocks behind the call,and the facts
 have hls:l<w.heap.size:=(Array.getElem?_eq_some_iff.1 (hoff.now hO)).1
 have hnew:∀ x∈β',∀ b,x.1=some b→(w.heap.size≤b∨Wm (β.take n) b)∧b≠l:=fun x hx b hb=>by
  have h1:=hOX.no x hx b hb
  rcases hOX.own.new x hx b hb with h|h|h
  ·exact ⟨.inl h,h1⟩
  ·exact ⟨.inr h,h1⟩
  ·exact absurd h h1
 have hkeep:∀ k,k<w.heap.size→¬ Wm (β.take n) k→k≠l→w'.heap[k]?=w.heap[k]?:=fun k h1 h2 h3=>hOX.own.ext.block k h1 fun h=>h.elim h2 h3
 have hd2:∀ y∈β.drop n,y∈β:=fun y hy=>List.mem_of_mem_drop hy
 have hO2:OwnX C (fun k=>k=l) w' (β'++β.drop n):=by
  refine ⟨⟨⟨hOX.own.ext.os.trans hO.ext.os,hOX.own.ext.tape.trans hO.ext.tape,hOX.own.ext.output.trans hO.ext.output,Nat.le_trans hO.ext.size hOX.own.ext.size,fun k h1 h2=>?_⟩,fun x hx b hb=>?_,fun x hx b hb=>?_,?_⟩,fun x hx k e hk=>?_⟩
  ·have h3:k<C.w0.heap.size:=h1
   refine (hkeep k (Nat.lt_of_lt_of_le h3 hO.ext.size) (fun ⟨x,hx,e⟩=>?_) (fun e=>h2 (.inr e))).trans (hO.ext.block k h3 fun h=>h2 (.inl h))
   rcases hO.new x (hsub x hx) k e with h|h
   ·omega
   ·exact h2 (.inl h)
  ·rcases List.mem_append.1 hx with hx|hx
   ·rcases (hnew x hx b hb).1 with h|⟨y,hy,e⟩
    ·exact .inl (Nat.le_trans hO.ext.size h)
    ·exact (hO.new y (hsub y hy) b e).imp id .inl
   ·exact (hO.new x (hd2 x hx) b hb).imp id .inl
  ·rcases List.mem_append.1 hx with hx|hx
   ·exact hOX.own.blk x hx b hb
   ·rw [hkeep b (hO.lt (hd2 x hx) hb) (fun ⟨y,hy,e⟩=>hap.2.2 y hy x hx b e hb) (fun e=>hnl x (hd2 x hx) (e▸hb))]
    exact hO.blk x (hd2 x hx) b hb
  ·refine hOX.own.apart.append hap.2.1 fun x hx y hy b hb e=>?_
   rcases (hnew x hx b hb).1 with h|⟨z,hz,e2⟩
   ·have:=hO.lt (hd2 y hy) e;omega
   ·exact hap.2.2 z hz y hy b e2 e
  ·rcases List.mem_append.1 hx with hx|hx
   ·exact (hnew x hx k e).2 hk
   ·exact hnl x (hd2 x hx) (hk▸e)
 have hG2:∀ f∈Φ++Γ,f.holds w' (ok C w' (β'++β.drop n)):=fun g hg=>by
  rcases List.mem_append.1 hg with hg|hg
  ·refine g.stable (fun k hk=>⟨⟨?_,hk.2.1,fun x hx=>?_⟩,rfl⟩) (hΦ g hg)
   ·rcases hk.1 with h1|⟨x,hx,e⟩|h1
    ·have h1:ok C w β k:=h1
     exact h1.1
    ·rcases hO.new x (hsub x hx) k e with h|h
     ·exact .inr (.inr h)
     ·exact .inr (.inl h)
    ·exact .inr (.inr (Nat.le_trans hO.ext.size h1))
   ·rcases List.mem_append.1 hx with hx|hx
    ·exact hk.2.2 x hx
    ·intro e
     rcases hk.1 with h1|⟨y,hy,e2⟩|h1
     ·have h1:ok C w β k:=h1
      exact h1.2.2 x (hd2 x hx) e
     ·exact hap.2.2 y hy x hx k e2 e
     ·have h2:=hO.lt (hd2 x hx) e
      have h1:w.heap.size≤k:=h1
      omega
  ·refine g.stable (fun k hk=>⟨⟨hk.1,Nat.lt_of_lt_of_le hk.2.1 hOX.own.ext.size,fun x hx=>?_⟩,hkeep k hk.2.1 (fun ⟨y,hy,e⟩=>hk.2.2 y (hsub y hy) e) (fun e=>hoff.nok (e▸hk))⟩) (hG g hg)
   rcases List.mem_append.1 hx with hx|hx
   ·intro e
    rcases (hnew x hx k e).1 with h|⟨y,hy,e2⟩
    ·have:=hk.2.1;omega
    ·exact hk.2.2 y (hsub y hy) e2
   ·exact hk.2.2 x (hd2 x hx)
 cases q with
 | none =>
  refine hgo Φ β' hq w' ⟨⟨hO2.own.ext.os,hO2.own.ext.tape,hO2.own.ext.output,hO2.own.ext.size,fun k h1 h2=>?_⟩,fun x hx b hb=>?_,hO2.own.blk,hO2.own.apart⟩ hG2
  ·by_cases e:k=l
   ·subst e
    rw [hlp,hoff.at_]
    exact congrArg (fun r=>some (Obj.loop r)) hr.same
   ·exact hO2.own.ext.block k h1 fun h=>h.elim h2 e
  ·rcases hO2.own.new x hx b hb with h|h|h
   ·exact .inl h
   ·exact .inr h
   ·exact absurd h (hO2.no x hx b hb)
 | some q =>
  obtain ⟨h1,h2⟩:=AHS (w2:=w') hO2 hG2 (Nat.le_refl _) (fun _ _ _=>rfl) (fun k hk=>by rw [hk];exact hoff.nok)
  refine AAr (hstop q Φ β' _ hq w' h1 h2) fun v w3 ⟨Φ3,β3,hq3,hO3,hG3⟩=>?_
  obtain ⟨b1,b2⟩:=ACZ hO2 rfl rfl rfl (Nat.le_refl _) (fun _ _ _=>rfl) hO3 (fun k hk=>by rw [hk];exact Nat.lt_of_lt_of_le hls hOX.own.ext.size)
  have hl3:¬ ok (reb w' w' C (β'++β.drop n)) w3 β3 l:=fun hk=>by
   rcases hk.1 with h|⟨x,hx,e⟩|h
   ·exact hoff.nok h
   ·exact hO2.no x hx l e rfl
   ·have h:w'.heap.size≤l:=h
    have:=hOX.own.ext.size
    have:w.heap.size≤w'.heap.size:=this
    omega
  refine ⟨some q,Φ3,β3,hq3,?_,b1,fun f hf=>f.stable (fun k hk=>⟨b2 k hk fun e=>hl3 (e▸hk),rfl⟩) (hG3 f hf)⟩
  rw [hO3.ext.block l (show l<w'.heap.size from Nat.lt_of_lt_of_le hls hOX.own.ext.size) (fun ⟨x,hx,e⟩=>hO2.no x hx l e rfl)]
  exact hlp
end
def AKZ (B:Code) (p:List Nat):Option (Operand×List Tmp) :=
 match sub p B with
 | .rangeFunc g ps _ _=>some (g,ps.toList)
 | _=>none
def ADC (n:Nat):List Nat→Bool
 | []=>true
 | t::l=>Nat.blt t n && ADC n l
def AC3:List Tmp→List Value→Fr→Fr
 | t::ts,v::vs,σ=>AC3 ts vs ((t,v)::σ)
 | _,_,σ=>σ
theorem Fits.par {n:Nat}{D:List Deferred}:∀ {ts:List Tmp}{vs:List Value}{σ:Fr}{a:Act},Fits n D σ a→ADC n ts=true →
  Fits n D (AC3 ts vs σ) { a with tmps:=(ts.zip vs).foldl (fun tmps x=>tmps.setIfInBounds x.1 x.2) a.tmps }
 | [],_,_,a,h,_=>by simpa [AC3] using h
 | _::_,[],_,a,h,_=>by simpa [AC3] using h
 | t::ts,v::vs,σ,a,h,hl=>by
  simp only [ADC,Bool.and_eq_true] at hl
  have h1:=h.put (Nat.le_of_ble_eq_true hl.1) v
  exact Fits.par (a:=a.put (some t) v) h1 hl.2
section
variable {F:Fun P}{C:Cx}{S:List It}{σ:Fr}{β:List A4}{Γ:List Fact}{R:Value→World→Prop}
theorem AF2 {p:List Nat}{g:Operand}{ps:List Tmp}{l:Nat}{r:Loop}{vals:List Value}{Q0:Value→List Fact→List A4→Prop}{a0:Act}(hs:AKZ F.B p=some (g,ps)) (hps:ADC F.fn.ntmps ps=true) (hlen:vals.length=ps.length)
  (ha0:Fits F.fn.ntmps F.dfs σ a0) (hfn:r.fn=F.f) (htm:r.tmps=a0.tmps) (hpr:r.params=ps.toArray) (hab:Code.rangeFunc g ps.toArray r.assign r.body=sub p F.B)
  (h:∀ C,Off C l (.loop r)→J (F.inR l) C [.c (p++[0]),.br,.c (p++[1])] (AC3 ps vals σ) β Γ (RB C l r Q0)):AFF P l r F.B vals β Γ Q0:=by
 intro w A hA hb hdi hnl hlo hG
 refine ⟨_,_,_,_,run_yield hlo (by rw [hpr];simpa using hlen),fun c cs=>?_⟩
 let C:Cx:=⟨w,A,Wm β⟩
 have hoff:Off C l (.loop r):=AGZ hA hnl hlo
 have hw:=h C hoff w ⟨Keep.refl _ _,fun x hx _ hxb=>.inr ⟨x,hx,hxb⟩,hb,hdi⟩
  fun f hf=>f.stable (fun k hk=>⟨⟨.inl hk.1,(hA k hk.1).1,fun x hx e=>hk.2 ⟨x,hx,e⟩⟩,rfl⟩) (hG f hf)
 have hfit:Fits F.fn.ntmps [] (AC3 ps vals σ) { tmps:=(r.params.zip vals.toArray).foldl (fun tmps (t,a)=>tmps.setIfInBounds t a) r.tmps,defers:=[] }:=by
  have:=(Fits.par (vs:=vals) (σ:=σ) (a:={ a0 with defers:=[] }) ⟨ha0.size,rfl,ha0.get⟩ hps)
  have e:(r.params.zip vals.toArray).foldl (fun tmps (t,a)=>tmps.setIfInBounds t a) r.tmps=(ps.zip vals).foldl (fun tmps x=>tmps.setIfInBounds x.1 x.2) a0.tmps:=by
   rw [hpr,htm,List.zip_toArray,List.foldl_toArray]
  rw [e]
  exact this
 have hfin:=hw _ hfit (c::cs)
 have hB:(F.inR l).B=F.B:=rfl
 have hst:(F.inR l).base.atR { tmps:=(r.params.zip vals.toArray).foldl (fun tmps (t,a)=>tmps.setIfInBounds t a) r.tmps,defers:=[] } ([It.c (p++[0]),.br,.c (p++[1])].map (It.item (F.inR l).B)) =
   Frame.round l r.fn ((r.params.zip vals.toArray).foldl (fun tmps (t,a)=>tmps.setIfInBounds t a) r.tmps) r.assign r.body .normal:=by
  simp only [List.map_cons,List.map_nil,It.item,sub_append,hB,← hab,sub,Zj]
  simp [Frame.atR,Frame.round,Fun.base,Fun.inR,hfn]
 rw [hst] at hfin
 have hfin:∃ q w' a k,RB C l r Q0 (jv q) w'∧a.defers=[]∧Steps P (lone (Frame.round l r.fn ((r.params.zip vals.toArray).foldl (fun tmps (t,a)=>tmps.setIfInBounds t a) r.tmps) r.assign r.body .normal) (c::cs) w) (lone ((F.inR l).base.atR a k) (c::cs) w')∧AHW (F.inR l).B q k:=hfin
 obtain ⟨q,w',a,k,⟨w1,β1,hO1,Φ,β',hq,hO',hΦ⟩,_,hsteps,hend⟩:=hfin
 -- the record,busy since the round began
 have hl1:l<w1.heap.size:=(Array.getElem?_eq_some_iff.1 (hoff.now hO1)).1
 have hlow:l<(w1.putObj l (.loop { r with state:=.busy })).heap.size:=by rw [World.putObj_size];exact hl1
 have hX1:OwnX C (fun k=>k=l) w1 β1:=hO1.ownX fun x hx k e hk=>hoff.nb hO1 x hx (hk▸e)
 have hnb:¬ Wm β1 l:=fun ⟨x,hx,e⟩=>hoff.nb hO1 x hx e
 have hbusy:w'.heap[l]?=some (.loop { r with state:=.busy }):=by
  rw [hO'.ext.block l hlow hnb]
  exact World.putObj_heap_same hl1
 obtain ⟨b1,b2⟩:=ACZ (w2:=w1.putObj l (.loop { r with state:=.busy })) hX1 rfl rfl rfl (Nat.le_of_eq World.putObj_size.symm) ABr hO' (fun k hk=>by rw [hk];exact hlow)
 have hnok:¬ ok (reb (w1.putObj l (.loop { r with state:=.busy })) w1 C β1) w' β' l:=fun hk=>by
  rcases hk.1 with h|h|h
  ·exact hoff.nok h
  ·exact hnb h
  ·have h:(w1.putObj l (.loop { r with state:=.busy })).heap.size≤l:=h
   omega
 have hls:l<w'.heap.size:=(Array.getElem?_eq_some_iff.1 hbusy).1
 -- what endRound leaves
 have fin:∀ o:Obj,OwnX C (fun k=>k=l) (w'.putObj l o) β'∧∀ f∈Φ,f.holds (w'.putObj l o) (ok C (w'.putObj l o) β'):=fun o=>by
  refine ⟨⟨⟨⟨b1.own.ext.os,b1.own.ext.tape,b1.own.ext.output,by rw [World.putObj_size];exact b1.own.ext.size,fun k h1 h2=>?_⟩,b1.own.new,fun x hx b hb=>?_,b1.own.apart⟩,b1.no⟩,fun f hf=>f.stable (fun k hk=>?_) (hΦ f hf)⟩
  ·rw [World.putObj_heap_other (fun e=>h2 (.inr e))]
   exact b1.own.ext.block k h1 h2
  ·rw [World.putObj_heap_other (fun e=>b1.no x hx b hb e)]
   exact b1.own.blk x hx b hb
  ·have hkl:k≠l:=fun e=>hnok (e▸hk)
   have:=b2 k hk hkl
   exact ⟨⟨this.1,by rw [World.putObj_size];exact this.2.1,this.2.2⟩,World.putObj_heap_other hkl⟩
 have hkind:(F.inR l).base.kind = .normal:=rfl
 have hrd:(F.inR l).base.roundOf=some l:=rfl
 cases q with
 | none =>
  obtain rfl:k=[]:=hend
  refine ⟨.bool true,w'.putObj l (.loop { r with state:=.ready,pending:=none }),⟨none,Φ,β',hq,rfl,World.putObj_heap_same hls,(fin _).1,(fin _).2⟩,hsteps.trans (.one ?_)⟩
  exact stepR_round_end hrd hkind (run_endRound (r:={ r with state:=.busy }) none hbusy)
 | some q =>
  refine ⟨.bool false,w'.putObj l (.loop { r with state:=.done,pending:=some (sub q F.B) }),⟨some q,Φ,β',hq,rfl,World.putObj_heap_same hls,(fin _).1,(fin _).2⟩,hsteps.trans (.one ?_)⟩
  rcases hend with ⟨e,k',rfl⟩|⟨id,k',e,rfl,hx⟩
  ·have e:sub q F.B = .ret:=e
   rw [e]
   exact stepR_round_ret hrd hkind (run_endRound (r:={ r with state:=.busy }) (some .ret) hbusy)
  ·have e:sub q F.B = .exit id:=e
   rw [e]
   exact stepR_round_exit hrd hkind hx (run_endRound (r:={ r with state:=.busy }) (some (.exit id)) hbusy)
theorem AId {w:World}{D:Nat}{d:Option (List Deferred)}{o:Obj}(h:w.heap[D]?=some (.deferred d)):ABp w (w.putObj D o):=fun k c t z hk=>by
 rw [World.putObj_heap_other (fun e=>by rw [e,h] at hk;cases hk)]
 exact hk
theorem AHs {D:Nat}{R':Value→World→Prop}{cs:List Frame}{m:Machine}(hk:F.rnd=none) (h:O6 (F.mkd D) R' cs m) (hR:∀ v w,R' v w→w.heap[D]?=some (.deferred (some []))∧R v (w.putObj D (.deferred none))):O6 F R cs m:=by
 have h:∃ vs w' fr,R' (Hg vs) w'∧Steps P m (lone fr cs w')∧fr.fn=F.f∧fr.mode = .returning∧fr.defers={ target:=.collected D,args:=#[] }::F.dfs∧fr.kind = .normal∧∀ w5,ABp w' w5→ResAll P w5 fr.tmps F.fn.results.toList vs:=by
  unfold O6 at h
  have e:(F.mkd D).rnd=none:=hk
  rw [e] at h
  exact h
 obtain ⟨vs,w',fr,h1,h2,h3,h4,h5,h6,h7⟩:=h
 obtain ⟨hd,hr⟩:=hR _ _ h1
 have hs:=step_collected (P:=P) (cs:=cs) (by rw [h4];simp) h5 rfl (run_takeDeferred hd)
 unfold O6
 rw [hk]
 exact ⟨vs,w'.putObj D (.deferred none),{ fr with defers:=[]++F.dfs },hr,h2.trans (.one hs),h3,h4,rfl,h6,fun w5 h5=>h7 w5 fun k c t z hk=>h5 k c t z (AId hd k c t z hk)⟩
theorem Zq {p:List Nat}{n:Nat}{f:FuncId}{g:Operand}{ps:List Tmp}{caps:List Value}{Γ1:List Fact}{Q:List Fact→List A4→Prop}{Qs:List Nat→List Fact→List A4→Prop}{Q':Value→List Fact→List A4→Prop}(ix:List Nat)
  (hs:AKZ F.B p=some (g,ps)) (hps:ADC F.fn.ntmps ps=true) (hg:ev σ g=some (.func (.func f) #[] caps.toArray)) (hp:pick Γ ix=some Γ1)
  (hI:∀ l r,Rdy r→(∀ (vals:List Value) (β':List A4) (Γ':List Fact) (Q0:Value→List Fact→List A4→Prop),vals.length=ps.length→(∀ C,Off C l (.loop r)→J (F.inR l) C [.c (p++[0]),.br,.c (p++[1])] (AC3 ps vals σ) β' Γ' (RB C l r Q0))→AFF P l r F.B vals β' Γ' Q0) →
   AJe P f (.func (.yield l) #[] #[]::caps) l r F.B (β.take n) Γ1 Q Qs)
  (hdone:∀ Φ β' D C',Q Φ β'→J (F.mkd D) C' S σ (β'++β.drop n) (Φ++Γ) (Fg C' Q'))
  (hstop:∀ q Φ β' D C',Qs q Φ β'→J (F.mkd D) C' (.c q::S) σ (β'++β.drop n) (Φ++Γ) (Fg C' Q')) (hk:F.rnd=none:=by rfl) :
  J F C (.c p::S) σ β Γ (Fg C Q'):=by
 obtain ⟨assign,body,hsub⟩:∃ assign body,sub p F.B = .rangeFunc g ps.toArray assign body:=by
  unfold AKZ at hs
  cases hc:sub p F.B <;> rw [hc] at hs <;> simp only [Option.some.injEq,Prod.mk.injEq,reduceCtorEq] at hs
  rename_i g' ps' a' b'
  obtain ⟨rfl,rfl⟩:=hs
  exact ⟨a',b',rfl⟩
 intro w hO hG a ha cs
 have hro:F.base.roundOf=none:=hk
 let r:Loop:={ state:=.ready,pending:=none,fn:=F.f,tmps:=a.tmps,params:=ps.toArray,assign,body,defers:=w.heap.size }
 let w1:World:=(w.alloc (.deferred (some []))).alloc (.loop r)
 let l:Nat:=w.heap.size+1
 let D:Nat:=w.heap.size
 have hsz1:w1.heap.size=w.heap.size+2:=by simp [w1,World.size_alloc]
 have hold:∀ k,k<w.heap.size→w1.heap[k]?=w.heap[k]?:=fun k h=>by
  rw [show w1.heap[k]?=(w.alloc (.deferred (some []))).heap[k]? from heap_alloc_old _ _ k (by rw [World.size_alloc];omega)]
  exact heap_alloc_old _ _ k h
 have hD1:w1.heap[D]?=some (.deferred (some [])):=by
  rw [show w1.heap[D]?=(w.alloc (.deferred (some []))).heap[D]? from heap_alloc_old _ _ D (by rw [World.size_alloc];omega)]
  exact heap_alloc_new w _
 have hl1:w1.heap[l]?=some (.loop r):=by
  have h:=heap_alloc_new (w.alloc (.deferred (some []))) (.loop r)
  rw [World.size_alloc] at h
  exact h
 have hsubt:∀ x∈β.take n,x∈β:=fun x hx=>List.mem_of_mem_take hx
 have hsubd:∀ x∈β.drop n,x∈β:=fun x hx=>List.mem_of_mem_drop hx
 have hap:Ay (β.take n)∧Ay (β.drop n)∧∀ x∈β.take n,∀ y∈β.drop n,∀ b,x.1=some b→y.1≠some b:=Wh hO.apart
 have hY:∀ (vals:List Value) (β':List A4) (Γ':List Fact) (Q0:Value→List Fact→List A4→Prop),vals.length=ps.length→(∀ C,Off C l (.loop r)→J (F.inR l) C [.c (p++[0]),.br,.c (p++[1])] (AC3 ps vals σ) β' Γ' (RB C l r Q0))→AFF P l r F.B vals β' Γ' Q0 :=
  fun vals β' Γ' Q0 hlen h=>AF2 hs hps hlen ha rfl rfl rfl hsub.symm h
 have hcall:=(hI l r ⟨rfl,rfl⟩ hY).2 w1 (ok C w β) (fun k hk=>⟨by have:=hk.2.1;omega,fun e=>by have:=hk.2.1;omega⟩) (fun x hx b hb=>by
   rw [hold b (hO.lt (hsubt x hx) hb)];exact hO.blk x (hsubt x hx) b hb) hap.1 (fun x hx e=>by have:=hO.lt (hsubt x hx) e;omega) hl1
  fun g hg=>g.stable (fun k hk=>⟨⟨hk,fun ⟨x,hx,e⟩=>hk.2.2 x (hsubt x hx) e⟩,hold k hk.2.1⟩) (hG g (Ee hp g hg))
 -- into the iterator
 let mark:List Deferred:=[{ target:=.collected D,args:=#[] }]
 obtain ⟨e,w2,fr,hRe,hsteps,hfr,hleave⟩:=hcall (F.base.atR { a with defers:=mark++a.defers } (.inRangeFunc l::S.map (It.item F.B))::cs)
 have hev:a.eval g = .func (.func f) #[] caps.toArray:=ha.eval hg
 have hpl:=(hI l r ⟨rfl,rfl⟩ hY).1
 have henter:step P (lone (F.base.atR a (.code (.rangeFunc g ps.toArray assign body)::S.map (It.item F.B))) cs w) =
   .next (lone (Frame.enter P f (.func (.yield l) #[] #[]::caps).toArray .normal) (F.base.atR { a with defers:=mark++a.defers } (.inRangeFunc l::S.map (It.item F.B))::cs) w1):=by
  have hent:(Instr.enterLoop F.base.fn a.tmps ps.toArray assign body F.base.roundOf).run P w = .ok (l,mark) w1:=by
   rw [hro];exact run_enterLoop_outer _ _ _ _ _
  unfold P3 at hpl
  cases hpf:P.funcs[f]? with
  | none=>rw [hpf] at hpl;simp at hpl
  | some fn =>
   rw [hpf] at hpl
   simp at hpl
   have hc:=V6 (P:=P) (w:=w1) (args:=(Value.func (.yield l) #[] #[]::caps).toArray) hpf hpl.1 (by simpa using hpl.2)
   refine stepR_rangeFunc (d:={ target:=.fn (.func f) caps.toArray,args:=#[.func (.yield l) #[] #[]] }) (w₁':=w1) hent ?_ ?_
   ·have hc:a.eval (.const (.func (.yield l) #[] #[])) = .func (.yield l) #[] #[]:=rfl
    simp [resolve,rangeCall,hev,hc,Deferred.ofValue]
   ·simpa [invoke] using hc
 cases e with
 | panicked _=>exact hRe.elim
 | outgrown=>exact hRe.elim
 | returned v =>
 obtain ⟨q,Φ,β',hq,hlp,hOX,hΦ⟩:=hRe
 have hback:Steps P (lone (F.base.atR a (.code (.rangeFunc g ps.toArray assign body)::S.map (It.item F.B))) cs w) (lone (F.base.atR { a with defers:=mark++a.defers } (.endRangeFunc l::S.map (It.item F.B))) cs w2):=by
  refine .head henter (hsteps.trans (.one ?_))
  rw [← finish_atR_inRangeFunc l v]
  exact step_leave_returned hleave
 have hX1:∀ k,Wm (β.take n) k→k<w.heap.size:=fun k ⟨x,hx,e⟩=>hO.lt (hsubt x hx) e
 have hsz2:w.heap.size+2≤w2.heap.size:=by have:w1.heap.size≤w2.heap.size:=hOX.own.ext.size;omega
 have hnew:∀ x∈β',∀ b,x.1=some b→(w.heap.size+2≤b∨Wm (β.take n) b):=fun x hx b hb=>by
  rcases hOX.own.new x hx b hb with h|h|h
  ·have h:w1.heap.size≤b:=h
   exact .inl (by omega)
  ·exact .inr h
  ·exact absurd h (hOX.no x hx b hb)
 have hkeep:∀ k,k<w.heap.size→¬ Wm (β.take n) k→w2.heap[k]?=w.heap[k]?:=fun k h1 h2 =>
  (hOX.own.ext.block k (show k<w1.heap.size by omega) fun h=>h.elim h2 fun e=>by have e:k=w.heap.size+1:=e;omega).trans (hold k h1)
 have hD2:w2.heap[D]?=some (.deferred (some [])):=(hOX.own.ext.block D (show w.heap.size<w1.heap.size by omega) fun h=>h.elim (fun h=>by have:=hX1 _ h;omega) fun e=>by have e:w.heap.size=w.heap.size+1:=e;omega).trans hD1
 let w3:World:=w2.putObj l (.loop { r with state:=.exhausted,pending:=q.map fun p=>sub p F.B })
 have hend:(Instr.endLoop l).run P w2 = .ok (q.map fun p=>sub p F.B) w3:=by
  have:=run_endLoop (P:=P) hlp (by cases q <;> simp)
  exact this
 let X:Nat→Prop:=fun k=>k=l∨k=D
 have hXe:∀ k,X k→k=w.heap.size∨k=w.heap.size+1:=fun k h=>h.elim .inr .inl
 -- the own blocks and the facts behind the loop
 have hO2:OwnX C X w2 (β'++β.drop n):=by
  refine ⟨⟨⟨?_,?_,?_,?_,fun k h1 h2=>?_⟩,fun x hx b hb=>?_,fun x hx b hb=>?_,?_⟩,fun x hx k e hk=>?_⟩
  ·exact (show w2.os=w1.os from hOX.own.ext.os).trans hO.ext.os
  ·exact (show w2.tape=w1.tape from hOX.own.ext.tape).trans hO.ext.tape
  ·exact (show w2.output=w1.output from hOX.own.ext.output).trans hO.ext.output
  ·have:=hO.ext.size
   exact show C.w0.heap.size≤w2.heap.size by omega
  ·have h3:k<C.w0.heap.size:=h1
   refine (hkeep k (Nat.lt_of_lt_of_le h3 hO.ext.size) fun ⟨x,hx,e⟩=>?_).trans (hO.ext.block k h3 fun h=>h2 (.inl h))
   rcases hO.new x (hsubt x hx) k e with h|h
   ·omega
   ·exact h2 (.inl h)
  ·rcases List.mem_append.1 hx with hx|hx
   ·rcases hnew x hx b hb with h|⟨y,hy,e⟩
    ·have:=hO.ext.size
     exact .inl (show C.w0.heap.size≤b by omega)
    ·exact (hO.new y (hsubt y hy) b e).imp id .inl
   ·exact (hO.new x (hsubd x hx) b hb).imp id .inl
  ·rcases List.mem_append.1 hx with hx|hx
   ·exact hOX.own.blk x hx b hb
   ·rw [hkeep b (hO.lt (hsubd x hx) hb) (fun ⟨y,hy,e⟩=>hap.2.2 y hy x hx b e hb)]
    exact hO.blk x (hsubd x hx) b hb
  ·refine hOX.own.apart.append hap.2.1 fun x hx y hy b hb e=>?_
   rcases hnew x hx b hb with h|⟨z,hz,e2⟩
   ·have:=hO.lt (hsubd y hy) e;omega
   ·exact hap.2.2 z hz y hy b e2 e
  ·have hk:=hXe k hk
   rcases List.mem_append.1 hx with hx|hx
   ·rcases hnew x hx k e with h|h
    ·omega
    ·have:=hX1 k h;omega
   ·have:=hO.lt (hsubd x hx) e;omega
 -- a smaller set of blocks on which facts may lean: neither the record nor the mark's
 let C2:Cx:=⟨w3,fun k=>ok C w2 (β'++β.drop n) k∧¬ X k,Wm (β'++β.drop n)⟩
 have hw3:∀ k,¬ X k→w3.heap[k]?=w2.heap[k]?:=fun k h=>World.putObj_heap_other fun e=>h (.inl e)
 have hs3:w3.heap.size=w2.heap.size:=World.putObj_size
 have hOwn3:Own C2 w3 (β'++β.drop n):=⟨Keep.refl _ _,fun x hx b hb=>.inr ⟨x,hx,hb⟩,fun x hx b hb=>by
  rw [hw3 b (hO2.no x hx b hb)];exact hO2.own.blk x hx b hb,hO2.own.apart⟩
 have hG3:∀ f∈Φ++Γ,f.holds w3 (ok C2 w3 (β'++β.drop n)):=fun g hg=>by
  rcases List.mem_append.1 hg with hg|hg
  ·refine g.stable (fun k hk=>?_) (hΦ g hg)
   have hkn:¬ X k:=fun h=>by
    have h:=hXe k h
    rcases hk.1 with h1|h1|h1
    ·have h1:ok C w β k:=h1
     have:=h1.2.1;omega
    ·have:=hX1 k h1;omega
    ·have h1:w1.heap.size≤k:=h1
     omega
   have hnb:∀ x∈β'++β.drop n,x.1≠some k:=fun x hx=>by
    rcases List.mem_append.1 hx with hx|hx
    ·exact hk.2.2 x hx
    ·intro e
     rcases hk.1 with h1|⟨y,hy,e2⟩|h1
     ·have h1:ok C w β k:=h1
      exact h1.2.2 x (hsubd x hx) e
     ·exact hap.2.2 y hy x hx k e2 e
     ·have h2:=hO.lt (hsubd x hx) e
      have h1:w1.heap.size≤k:=h1
      omega
   have hok:ok C w2 (β'++β.drop n) k:=by
    refine ⟨?_,hk.2.1,hnb⟩
    rcases hk.1 with h1|⟨x,hx,e⟩|h1
    ·have h1:ok C w β k:=h1
     exact h1.1
    ·rcases hO.new x (hsubt x hx) k e with h|h
     ·exact .inr (.inr h)
     ·exact .inr (.inl h)
    ·have h1:w1.heap.size≤k:=h1
     have:=hO.ext.size
     exact .inr (.inr (show C.w0.heap.size≤k by omega))
   exact ⟨⟨.inl ⟨hok,hkn⟩,by rw [hs3];exact hk.2.1,hnb⟩,hw3 k hkn⟩
  ·refine g.stable (fun k hk=>?_) (hG g hg)
   have hlt:=hk.2.1
   have hkn:¬ X k:=fun h=>by have:=hXe k h;omega
   have hnb:∀ x∈β'++β.drop n,x.1≠some k:=fun x hx=>by
    rcases List.mem_append.1 hx with hx|hx
    ·intro e
     rcases hnew x hx k e with h|⟨y,hy,e2⟩
     ·omega
     ·exact hk.2.2 y (hsubt y hy) e2
    ·exact hk.2.2 x (hsubd x hx)
   refine ⟨⟨.inl ⟨⟨hk.1,by omega,hnb⟩,hkn⟩,by omega,hnb⟩,(hw3 k hkn).trans (hkeep k hlt fun ⟨y,hy,e⟩=>hk.2.2 y (hsubt y hy) e)⟩
 -- what is given in the new context is given in the old one
 have hlD:¬ Wm (β'++β.drop n) D:=fun ⟨x,hx,e⟩=>hO2.no x hx D e (.inr rfl)
 have hR:∀ v w4,Fg C2 Q' v w4→w4.heap[D]?=some (.deferred (some []))∧Fg C Q' v (w4.putObj D (.deferred none)):=fun v w4 ⟨Φ4,β4,hq4,hO4,hG4⟩=>by
  have hD4:w4.heap[D]?=some (.deferred (some [])):=by
   rw [hO4.ext.block D (show w.heap.size<w3.heap.size by omega) hlD,show w3.heap[D]?=w2.heap[D]? from World.putObj_heap_other (by show w.heap.size≠w.heap.size+1;omega)]
   exact hD2
  have hs4:w3.heap.size≤w4.heap.size:=hO4.ext.size
  have hoin:∀ k,Wm (β'++β.drop n) k→C.w0.heap.size≤k∨C.M k:=fun k ⟨x,hx,e⟩=>by
   rcases hO2.own.new x hx k e with h|h|h
   ·exact .inl h
   ·exact .inr h
   ·exact absurd h (hO2.no x hx k e)
  have h4D:∀ x∈β4,∀ k,x.1=some k→k≠D:=fun x hx k e=>by
   rcases hO4.new x hx k e with h|h
   ·have h:w3.heap.size≤k:=h
    show k≠w.heap.size
    omega
   ·exact fun e=>hlD (e▸h)
  have hCs:=hO.ext.size
  refine ⟨hD4,Φ4,β4,hq4,⟨⟨?_,?_,?_,?_,fun k h1 h2=>?_⟩,fun x hx b hb=>?_,fun x hx b hb=>?_,hO4.apart⟩,fun g hg=>g.stable (fun k hk=>?_) (hG4 g hg)⟩
  ·exact (show w4.os=w2.os from hO4.ext.os).trans hO2.own.ext.os
  ·exact (show w4.tape=w2.tape from hO4.ext.tape).trans hO2.own.ext.tape
  ·exact (show w4.output=w2.output from hO4.ext.output).trans hO2.own.ext.output
  ·rw [World.putObj_size];omega
  ·have hkD:k≠D:=by show k≠w.heap.size;omega
   have hkn:¬ X k:=fun h=>by have:=hXe k h;omega
   have hkb:¬ Wm (β'++β.drop n) k:=fun h=>(hoin k h).elim (fun h=>by omega) h2
   rw [World.putObj_heap_other hkD,hO4.ext.block k (show k<w3.heap.size by omega) hkb,hw3 k hkn]
   exact hO2.own.ext.block k h1 fun h=>h.elim h2 hkn
  ·rcases hO4.new x hx b hb with h|h
   ·have h:w3.heap.size≤b:=h
    exact .inl (by omega)
   ·exact hoin b h
  ·rw [World.putObj_heap_other (h4D x hx b hb)]
   exact hO4.blk x hx b hb
  ·have hkD:k≠D:=fun e=>by
    rcases hk.1 with h|h|h
    ·have h:ok C w2 (β'++β.drop n) k∧¬ X k:=h
     exact h.2 (.inr e)
    ·exact hlD (e▸h)
    ·have h:w3.heap.size≤k:=h
     have e:k=w.heap.size:=e
     omega
   refine ⟨⟨?_,by rw [World.putObj_size];exact hk.2.1,hk.2.2⟩,World.putObj_heap_other hkD⟩
   rcases hk.1 with h|h|h
   ·have h:ok C w2 (β'++β.drop n) k∧¬ X k:=h
    exact h.1.1
   ·rcases hoin k h with h|h
    ·exact .inr (.inr h)
    ·exact .inr (.inl h)
   ·have h:w3.heap.size≤k:=h
    exact .inr (.inr (show C.w0.heap.size≤k by omega))
 have hit:It.item F.B (.c p) = .code (.rangeFunc g ps.toArray assign body):=by simp only [It.item,hsub]
 have hB:(F.mkd D).B=F.B:=rfl
 have hbase:(F.mkd D).base=F.base:=rfl
 have hfit:Fits (F.mkd D).fn.ntmps (F.mkd D).dfs σ { a with defers:=mark++a.defers }:=⟨ha.size,by show mark++a.defers=_;rw [ha.defers];rfl,ha.get⟩
 rw [List.map_cons,hit]
 refine O6.step (hback.trans (.one (stepR_endRangeFunc hend))) (AHs (D:=D) hk ?_ hR)
 cases q with
 | none=>exact hdone Φ β' D C2 hq w3 hOwn3 hG3 _ hfit cs
 | some q=>exact hstop q Φ β' D C2 hq w3 hOwn3 hG3 _ hfit cs
end
end Go.Fw
