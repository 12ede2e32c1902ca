/-
Fw21 Fw22 Numbers as lists of limbs to the base 2^32: their values, the canonical lists, and how lists are cut. The canonical list of limbs of a number, and how it goes with values. Binomial coefficients. Krawtchouk numbers: the coefficients of (1 + a z)^m (1 - z)^x, and their laws. Residues of whole polynomials by a monic one, as a module with an operator; products of polynomials by their values at the operator; division. Residues of polynomials by a prime and a monic polynomial: where a product of two others is 0, the polynomial has a divisor. Numbers as lists of digits; the field of residues on numbers: its laws. Fractions: what a sign, a numerator and a denominator in limbs say, and the canonical form. Numbers with a sign, as the program has them; the program's table of Krawtchouk numbers. Integers among the fractions. The transform of a distribution, as the program reckons it. Sums of fractions; the transform of the transform. Delsarte's inequalities, the linear programming bound, the certificate of Singleton. A field on integers; sums over it; words, their products, and the sums over all words. Words that rows generate; the words that are orthogonal to them; sums over both. Weights of words against the kernel: the identity of MacWilliams, and the moments of Pless. The words that rows generate are closed, differ from each other, and any of them moves the list onto itself; distances between codewords. Spans are linear, and list each word once; words of the least weight with one support are multiples. Elimination over a finite field. Solution spaces, pivots and null vectors of reduced rows. Combinations of rows, reduced rows without the empty ones, and the words that vanish at some places. Rows of an elimination are combinations of the rows; solutions of equations. What is left of a word when the rows of a reduced matrix are taken off; words of a code that vanish at the helpers. A word of the span of a reduced matrix leaves nothing. Reduced rows are told by their solutions; spaces and their duals. The reduction of a row of coefficients from its top, step by step; the document's test for divisors. The document's fields: orders, primes, digits, values. The document's test for divisors of polynomials. The document's fields: irreducible polynomials, Check, elements, their digits and sums. The document's fields: elements, their digits, sums and products.
-/
import Derived.Calls
import Derived.Test.YtpienolhkccpnaaGreatXC3
set_option linter.unusedVariables false
set_option linter.unusedSimpArgs false
namespace Go.Fw
open Go.RowKit (Below)
set_option linter.unusedVariables false
section
variable {P:Program}{F:Fun P}{C:Cx}{S:List It}{σ:Fr}{β:List A4}{Γ:List Fact}{R:Value→World→Prop}{ty:TypeId}{K:Value→List A4→List Fact→Prop}
theorem ABn {α:Type}{E:Enc α}{w:World}{pa:Option Addr}{n c:Nat}{l:List α}(h:(Ap E pa n c l).holds w (ok C w β)):∃ vss,G2 E vss l w (ok C w β)∧(n=0∨∃ a,pa=some a∧∀ jj u,vss.flatten[jj]?=some u→w.cell? (a.add jj)=some u):=by
 obtain ⟨hml,_,_,hs⟩:=h
 rcases hs with rfl|⟨b,o,rfl,_,hel⟩
 ·exact ⟨[],⟨rfl,fun i vs x hv=>by simp at hv⟩,.inl (by simpa using hml)⟩
 ·obtain ⟨vss,h1,h2⟩:=Np.all (A:=ok C w β) hel
  exact ⟨vss,h1,.inr ⟨_,rfl,fun jj u hu=>by rw [Addr.add_mid];exact h2 jj u hu⟩⟩
theorem AKe {α:Type}{E:Enc α}{t e:TypeId}{x y:Operand}{pa pb:Option Addr}{n m c:Nat}{zs:List Value}{l l2:List α}(i j:Nat)
  (hi:A5 Γ i=some (Ap E pa n n l)) (hj:A5 Γ j=some (Ap E pb m c l2)) (hx:ev σ x=some (.slice pa n n)) (hy:ev σ y=some (.slice pb m c))
  (hT:Ev P t=some (e,E.size)) (hz:Cr P e=some zs) (hzl:zs.length=E.size)
  (hmax:n+m≤9223372036854775807) (by':Nat) (hbe:P.bytesOf e=by') (hby:(n+m)*by'≤140737488355328) (hbE:(n+m)*E.bytes≤140737488355328)
  (h:∀ (pr:Option Addr) (cr:Nat),K (.slice pr (n+m) cr) β (Ap E pr (n+m) cr (l++l2)::Γ)) :
  Fb P C (.call { callee:=.builtin .append,args:=#[x,y],argTypes:=#[t,t] }) ty σ β Γ K:=fun w hO hG=>by
 subst hbe
 obtain ⟨hu,ii,hii,hsz⟩:=Cu hT
 obtain ⟨i',z,hi',hz',hzc⟩:=Fj hz
 obtain rfl:ii=i':=Option.some.inj (hii.symm.trans hi')
 have hbi:P.bytesOf e=ii.bytes:=by simp [Program.bytesOf,hii]
 rw [hbi] at hby
 have hzs:z.cells.size=E.size:=by rw [← Array.length_toList,Dz,hzc,hzl]
 have hfi:=hG _ (Af hi)
 have hfj:=hG _ (Af hj)
 obtain ⟨v1,ha1,hc1⟩:=ABn hfi
 obtain ⟨v2,ha2,hc2⟩:=ABn hfj
 have hn1:n=l.length:=hfi.1
 have hm1:m=l2.length:=hfj.1
 have hl1:v1.flatten.length=n*E.size:=by rw [Gf (Gb ha1),ha1.1,hn1]
 have hl2:v2.flatten.length=m*E.size:=by rw [Gf (Gb ha2),ha2.1,hm1]
 by_cases hm:m=0
 ·subst hm
  obtain rfl:l2=[]:=List.eq_nil_of_length_eq_zero hm1.symm
  refine Lh hx hy (Km hu hii (Nat.le_refl n)) ⟨β,_,h pa n,hO,fun f hf=>?_⟩
  rcases List.mem_cons.1 hf with rfl|hf
  ·rw [List.append_nil,Nat.add_zero];exact hfi
  ·exact hG f hf
 ·obtain ⟨a2,rfl,hd2⟩:=hc2.resolve_left hm
  -- the new row
  have key:∀ C':Nat,n+m≤C'→∀ w',w'=w.drew.alloc (.cells ((v1.flatten++v2.flatten)++(Builtin.zeroCells z.cells (C'-(n+m))).toList).toArray e) →
    Own C w' β∧(Ap E (some ⟨w.heap.size,0,none⟩) (n+m) C' (l++l2)).holds w' (ok C w' β)∧∀ f∈Γ,f.holds w' (ok C w' β):=by
   intro C' hC w' hw'
   subst hw'
   have hO':=(hO.drew).push e ((v1.flatten++v2.flatten)++(Builtin.zeroCells z.cells (C'-(n+m))).toList)
   have hG':∀ f∈Nl E (v1++v2) (l++l2)::Γ,f.holds (w.drew.alloc (.cells ((v1.flatten++v2.flatten)++(Builtin.zeroCells z.cells (C'-(n+m))).toList).toArray e)) (ok C (w.drew.alloc (.cells ((v1.flatten++v2.flatten)++(Builtin.zeroCells z.cells (C'-(n+m))).toList).toArray e)) ((some w.heap.size,e,(v1.flatten++v2.flatten)++(Builtin.zeroCells z.cells (C'-(n+m))).toList)::β)) :=
    Uo (w:=w.drew) (Mj fun f hf=>by
     rcases List.mem_cons.1 hf with rfl|hf
     ·exact Xk ha1 ha2
     ·exact hG f hf)
   have hsub:β.Sublist ((some w.heap.size,e,(v1.flatten++v2.flatten)++(Builtin.zeroCells z.cells (C'-(n+m))).toList)::β):=List.sublist_cons_self _ _
   have hall:=hG' _ (.head _)
   refine ⟨hO'.sub hsub,⟨by simp [hn1,hm1],by simp only [List.length_append];omega,by simp only [List.length_append,← hn1,← hm1];exact hbE,.inr ⟨w.heap.size,0,rfl,?_,fun k y hk=>?_⟩⟩,Lg hsub fun f hf=>hG' f (.tail _ hf)⟩
   ·have hlt:=hO'.lt (.head _) rfl
    refine ⟨?_,hlt,fun x hx e=>?_⟩
    ·rcases hO'.new _ (.head _) _ rfl with h1|h1
     ·exact .inr (.inr h1)
     ·exact .inr (.inl h1)
    ·exact (hO'.apart).1 x hx _ rfl e
   ·have hlt:k<(l++l2).length:=(List.getElem?_eq_some_iff.1 hk).1
    obtain ⟨vs,hvs⟩:∃ vs,(v1++v2)[k]?=some vs:=⟨(v1++v2)[k]'(by have:=hall.1;omega),by simp⟩
    have hpart:=Hi (Gb hall) k vs hvs
    have hrd:=hall.2 k vs y hvs hk
    refine ⟨vs,⟨_,e,(0,0),hO'.blk _ (.head _) _ rfl,?_,E.len hrd⟩,E.stable (fun _ hk=>⟨⟨hk.1,hk.2.1,fun x hx=>hk.2.2 x (hsub.subset hx)⟩,rfl⟩) hrd⟩
    have hfl:(v1++v2).flatten=v1.flatten++v2.flatten:=by simp
    rw [hfl] at hpart
    rw [← hpart,Nat.zero_add]
    have h4:(k+1)*E.size≤(l++l2).length*E.size:=Nat.mul_le_mul_right _ hlt
    rw [Nat.succ_mul,List.length_append,← hn1,← hm1,Nat.add_mul] at h4
    have h5:(v1.flatten++v2.flatten).length=n*E.size+m*E.size:=by rw [List.length_append,hl1,hl2]
    generalize v1.flatten++v2.flatten=X at *
    rw [List.drop_append_of_le_length (by omega),List.take_append_of_le_length (by rw [List.length_drop];omega)]
  have hge:=grownCap_ge w (n+m) n e
  obtain ⟨f1,f2,f3⟩:=key (grownCap w (n+m) n e) hge _ rfl
  have hfin:∀ f∈Ap E (some ⟨w.heap.size,0,none⟩) (n+m) (grownCap w (n+m) n e) (l++l2)::Γ,f.holds _ (ok C _ β):=fun f hf=>by
   rcases List.mem_cons.1 hf with rfl|hf
   ·exact f2
   ·exact f3 f hf
  refine Lh hx hy ?_ ⟨β,_,h (some ⟨w.heap.size,0,none⟩) (grownCap w (n+m) n e),f1,hfin⟩
  have e1:((v1.flatten++v2.flatten)++(Builtin.zeroCells z.cells (grownCap w (n+m) n e-(n+m))).toList).toArray=v1.flatten.toArray++v2.flatten.toArray++Builtin.zeroCells z.cells (grownCap w (n+m) n e-(n+m)):=by
   apply Array.ext';simp
  rw [e1]
  cases pa with
  | none =>
   have hn0:n=0:=by
    rcases hc1 with h0|⟨a,h0,_⟩
    ·exact h0
    ·cases h0
   subst hn0
   obtain rfl:v1=[]:=List.eq_nil_of_length_eq_zero (ha1.1.trans hn1.symm)
   have hr:=run_append_nil (P:=P) w t ty e ii z hu hii hz' a2 m c v2.flatten (by rw [hsz];exact hl2) hd2 (by omega) (by omega) (by simp only [Nat.zero_add] at hby;omega)
   simpa using hr
  | some a1 =>
   have hh:∀ j v,v1.flatten[j]?=some v→w.cell? (a1.add j)=some v:=fun j v hv=>by
    rcases hc1 with h0|⟨a,h0,h1⟩
    ·rw [List.eq_nil_of_length_eq_zero (show v1.flatten.length=0 by rw [hl1,h0,Nat.zero_mul])] at hv
     simp at hv
    ·cases h0;exact h1 j v hv
   exact run_append_grow (P:=P) w t ty e ii z hu hii hz' a1 n n v1.flatten (by rw [hsz];exact hl1) hh a2 m c v2.flatten (by rw [hsz];exact hl2) hd2 (by omega) (by omega) (growslice_fits (by omega) hby)
theorem AHE {α:Type}{E:Enc α}{r:Row}{n k:Nat}{l:List α}{w:World}{A:Nat→Prop}(h:(A7 E r n l).holds w A) (hk:k≤n):(A7 E r k (l.take k)).holds w A:=by
 obtain ⟨h1,h2,vss,h3,h4⟩:=h
 refine ⟨by rw [List.length_take];omega,?_,vss.take k,⟨by rw [List.length_take,List.length_take,h3.1],fun i vs x hv hx=>?_⟩,?_⟩
 ·rcases h2 with ⟨g1,g2,g3,g4⟩|⟨b,g1,g2,g3,g4⟩
  ·exact .inl ⟨g1,by omega,g3,g4⟩
  ·exact .inr ⟨b,g1,by omega,g3,g4⟩
 ·rw [List.getElem?_take] at hv hx
  split at hv
  ·rename_i hik
   rw [if_pos hik] at hx
   exact h3.2 i vs x hv hx
  ·cases hv
 ·have hfl:∀ (k:Nat) (L:List (List Value)),(∀ vs∈L,vs.length=E.size)→(L.take k).flatten=L.flatten.take (k*E.size):=by
   intro k
   induction k with
   | zero=>intro L _;simp
   | succ k ih =>
    intro L hL
    cases L with
    | nil=>simp
    | cons a L =>
     rw [List.take_succ_cons,List.flatten_cons,List.flatten_cons,ih L fun vs hv=>hL vs (.tail _ hv),Nat.succ_mul,Nat.add_comm,← hL a (.head _),List.take_append,List.take_of_length_le (show a.length≤a.length+k*a.length by omega),Nat.add_sub_cancel_left]
  rw [hfl k vss (Gb h3),← h4,List.take_take]
  congr 1
  have:=Nat.mul_le_mul_right E.size hk
  omega
theorem AAV {α:Type}{E:Enc α}{t e:TypeId}{x y:Operand}{r:Row}{n:Nat}{l:List α}{ky:IntKind}{hi:Int}(k j:Nat) (hj:A5 Γ j=some (A7 E r n l)) (hx:ev σ x=some (.slice (ad r.bo) n r.cap)) (hy:ev σ y=some (.int ky hi))
  (hT:Ev P t=some (e,E.size)) (hk:hi=(k:Int)) (h2:k≤n) (h:K (.slice (ad r.bo) k r.cap) β (A7 E r k (l.take k)::Γ)):Fb P C (.slice t x none (some y) none) ty σ β Γ K:=fun w hO hG=>by
 have hrow:=hG _ (Af hj)
 have hG':∀ f∈A7 E r k (l.take k)::Γ,f.holds w (ok C w β):=fun f hf=>by
  rcases List.mem_cons.1 hf with rfl|hf
  ·exact AHE hrow h2
  ·exact hG f hf
 obtain ⟨bo,cap,cs⟩:=r
 cases bo with
 | none =>
  rcases hrow.2.1 with ⟨_,g2,g3,_⟩|⟨b,g1,_⟩
  ·have g2:n=0:=g2
   have g3:cap=0:=g3
   subst g2 g3
   obtain rfl:k=0:=by omega
   subst hk
   exact ACQ (Γ:=A7 E ⟨none,0,cs⟩ 0 (l.take 0)::Γ) hx hy hT h w hO hG'
  ·cases g1
 | some b =>
  exact T0 (Γ:=A7 E ⟨some b,cap,cs⟩ k (l.take k)::Γ) k hx hy hT hk h2 hrow.2.1.le h w hO hG'
theorem AG6 {α:Type}{E:Enc α}{f:FuncId}{xs:List Operand}{ts:Array TypeId}{args:List Value}{Γ':List Fact}{e:TypeId}{n:Nat}{ls:List α}(l:List Nat)
  (hx:Yv σ xs=some args) (hc:Bt P f args [] Γ' (fun v Φ β'=>∃ r:Row,v = .slice (ad r.bo) n r.cap∧Φ=[A7 E r n ls]∧β'=[(r.bo,e,r.cs)])) (hp:pick Γ l=some Γ') (hby:n*E.bytes≤140737488355328) :
  JG P (.call { callee:=.value (.func f),args:=xs.toArray,argTypes:=ts }) ty σ (some []) Γ (fun g=>Kp e (g 0).2.1 (g 0).2.2.2) (fun g=>.slice (g 0).1 n (g 0).2.2.1) (fun g=>[Q8 E (g 0).1 n (g 0).2.2.1 (g 0).2.1 (g 0).2.2.2 ls]):=by
 intro w A hA hpb hd hG
 have hcall:=hc.2 w A (fun k hk=>(hA k hk).1) hpb hd (fun g hg=>g.stable (fun k hk=>⟨⟨hk,(hA k hk).2⟩,rfl⟩) (hG g (Ee hp g hg)))
 refine (Yw hc.1 hx hcall).mono ?_
 rintro v w' ⟨Φ,β',⟨⟨bo,cap,cs⟩,rfl,rfl,rfl⟩,hO',hΦ⟩
 have hrow:=hΦ _ (.head _)
 cases bo with
 | none =>
  refine ⟨fun _=>(none,0,cap,cs),rfl,hO'.ext,trivial,fun y hy=>(by cases hy),fun g hg=>?_⟩
  obtain rfl:=List.mem_singleton.1 hg
  obtain ⟨h1,h2,_⟩:=hrow
  rcases h2 with ⟨_,h3,h4,_⟩|⟨b,h3,_⟩
  ·have h3:n=0:=h3
   have h4:cap=0:=h4
   subst h3 h4
   obtain rfl:ls=[]:=List.eq_nil_of_length_eq_zero h1.symm
   exact ⟨rfl,Do E _ _ _ _⟩
  ·cases h3
 | some b =>
  refine ⟨fun _=>(some ⟨b,0,none⟩,b+1,cap,cs),rfl,hO'.ext,hO'.apart,fun y hy b' hb=>⟨hO'.new y hy b' hb,hO'.blk y hy b' hb⟩,fun g hg=>?_⟩
  obtain rfl:=List.mem_singleton.1 hg
  refine ⟨rfl,(A7 E ⟨some b,cap,cs⟩ n ls).stable (fun k hk=>⟨⟨?_,hk.2.1,hk.2.2⟩,rfl⟩) hrow⟩
  rcases hk.1 with h|⟨y,hy,_⟩|h
  ·exact .inl h
  ·cases hy
  ·exact .inr h
theorem AFY {α:Type}{E:Enc α}{p:List Nat}{i:Nat}{d:Option Tmp}{it:List (TypeId×IntKind)}{L:List Oper}{pos:List Po}{pt:List (List Nat)}{κ:Fr}{fs:List (Nat×Fact)}{al:List A4}{k:Nat}{f:FuncId}{xs:List Operand}{ts:Array TypeId}{args:List Value}{Γ':List Fact}{e:TypeId}{n:Nat}{ls:List α}(l:List Nat)
  (ho:Sz F.fn.ntmps L κ i=some (d,.call { callee:=.value (.func f),args:=xs.toArray,argTypes:=ts },ty))
  (hx:Yv σ xs=some args) (hc:Bt P f args [] Γ' (fun v Φ β'=>∃ r:Row,v = .slice (ad r.bo) n r.cap∧Φ=[A7 E r n ls]∧β'=[(r.bo,e,r.cs)])) (hp:pick (Sk (B3 pt i) fs++Γ) l=some Γ') (hby:n*E.bytes≤140737488355328)
  (h:∀ pa cap b cs,Je it F C p S L pt β Γ R k (i+1) pos (Hb d κ) (putF d (.slice pa n cap) σ) ((i,Q8 E pa n cap b cs ls)::fs) al (some (Kp e b cs++[]))) (hcc:Gp pt i (i+1) pos=true) :
  Je it F C p S L pt β Γ R k i (.sh (fun g=>Kp e (g 0).2.1 (g 0).2.2.2++[]) (fun g=>.slice (g 0).1 n (g 0).2.2.1) (fun g=>[Q8 E (g 0).1 n (g 0).2.2.1 (g 0).2.1 (g 0).2.2.2 ls])::pos) κ σ fs al (some []) :=
 AHI (x0:=[]) ho (by simpa only [List.append_nil] using AG6 (ty:=ty) l hx hc hp hby) (fun x=>h _ _ _ _) hcc
theorem AL2 {op:Op}{x0:List A4}{bl:Gh→List A4}{val:Gh→Value}{f:Gh→List Fact}
  (h:∀ C:Cx,Fb P C op ty σ x0 Γ fun v β' Γ'=>∃ x,v=val x∧β'=bl x∧(∀ y∈x0,∃ z∈bl x,z.1=y.1)∧∀ g∈f x,g∈Γ'):JG P op ty σ (some x0) Γ bl val f:=by
 intro w A hA hpb hd hG
 have hO:Own ⟨w,A,N9 (some x0)⟩ w x0:=⟨Keep.refl _ _,fun x hx b hb=>.inr ⟨x,hx,hb⟩,hpb,hd⟩
 refine (h ⟨w,A,N9 (some x0)⟩ w hO fun g hg=>g.stable (fun k hk=>⟨⟨.inl hk,(hA k hk).1,fun x hx e=>(hA k hk).2 ⟨x,hx,e⟩⟩,rfl⟩) (hG g hg)).mono ?_
 rintro v w' ⟨β',Γ',⟨x,rfl,rfl,hst,hf⟩,hO',hG'⟩
 refine ⟨x,rfl,hO'.ext,hO'.apart,fun y hy b hb=>⟨hO'.new y hy b hb,hO'.blk y hy b hb⟩,fun g hg=>?_⟩
 refine g.stable (fun k hk=>⟨⟨?_,hk.2.1,hk.2.2⟩,rfl⟩) (hG' g (hf g hg))
 rcases hk.1 with h|⟨y,hy,e⟩|h
 ·exact .inl h
 ·obtain ⟨z,hz,e2⟩:=hst y hy
  exact absurd (e2.trans e) (hk.2.2 z hz)
 ·exact .inr h
theorem AH4 {α:Type}{E:Enc α}{p:List Nat}{i:Nat}{d:Option Tmp}{it:List (TypeId×IntKind)}{L:List Oper}{pos:List Po}{pt:List (List Nat)}{κ:Fr}{fs:List (Nat×Fact)}{al:List A4}{k:Nat}{t e e2:TypeId}{m n cap b:Nat}{cs:List Value}{pa:Option Addr}{parts:List (Nat×Operand)}{zs:List Value}{l:List α}(q:Nat)
  (ho:Sz F.fn.ntmps L κ i=some (d,.buildSlice t 1 parts.toArray,ty))
  (hi:A5 (Sk (B3 pt i) fs++Γ) q=some (Q8 E pa n cap b cs l)) (hT:Ev P t=some (e2,m)) (hz:Cr P e2=some zs) (hl:zs.length=m)
  (hv:Im σ 0 parts=some [[.slice pa n cap]]) (ha:Y9 m [[.slice pa n cap]]=true) (hp:1*m≠0) (hs:1*m≤16777216)
  (h:∀ pa cap b cs b2,Je it F C p S L pt β Γ R k (i+1) pos (Hb d κ) (putF d (.slice (some ⟨b2,0,none⟩) 1 1) σ) ((i,Q8 E pa n cap b cs l)::fs) ((some b2,e2,[.slice pa n cap])::(Kp e b cs++al)) (some [])) (hcc:Gp pt i (i+1) pos=true) :
  Je it F C p S L pt β Γ R k i (.si (fun g=>(some (g 1).2.1,e2,[.slice (g 0).1 n (g 0).2.2.1])::Kp e (g 0).2.1 (g 0).2.2.2) (fun g=>.slice (some ⟨(g 1).2.1,0,none⟩) 1 1) (fun g=>[Q8 E (g 0).1 n (g 0).2.2.1 (g 0).2.1 (g 0).2.2.2 l])::pos) κ σ fs al (some (Kp e b cs++[])):=by
 refine AH1 ho (AL2 fun C=>Iu (n:=1) hT hz hl hv ha rfl hp hs rfl fun b2=>⟨fun j=>if j=0 then (pa,b,cap,cs) else (none,b2,0,[]),rfl,by simp,fun y hy=>⟨y,by simpa using .inr (by simpa using hy),rfl⟩,fun g hg=>?_⟩) (fun x=>h _ _ _ _ _) hcc
 obtain rfl:=List.mem_singleton.1 hg
 exact Af hi
theorem ALy {pa:Option Addr}{n c:Nat}{l:List Int}(j:Nat) (hj:A5 Γ j=some (Ap Ai pa n c l)) (h:(∀ x∈l,Bv .i64 x)→J F C S σ β Γ R):J F C S σ β Γ R :=
 AAk (q:=∀ x∈l,Bv .i64 x) (fun w A hG x hx=>by
  obtain ⟨_,_,_,hs⟩:=hG _ (Af hj)
  obtain ⟨i,hi⟩:=List.getElem?_of_mem hx
  rcases hs with rfl|⟨b,o,_,_,hel⟩
  ·cases hx
  ·obtain ⟨vs,_,h2⟩:=hel i x hi;exact h2.2) h
theorem Bt.pubT {α γ:Type}{E:Enc α}{G:Enc γ}{f:FuncId}{args:List Value}{e:TypeId}{n k:Nat}{l:List α}{l2:List γ}(hby:n*E.bytes≤140737488355328)
  (h:Bt P f args β Γ (fun v Φ β'=>∃ (r:Row) (pp:Option Addr) (cp:Nat),v = .tuple #[.slice (ad r.bo) n r.cap,.slice pp k cp]∧Φ=[A7 E r n l,Ap G pp k cp l2]∧β'=[(r.bo,e,r.cs)])) :
  Bt P f args β Γ (fun v Φ β'=>∃ (pb pp:Option Addr) (cb cp:Nat),v = .tuple #[.slice pb n cb,.slice pp k cp]∧Φ=[Ap E pb n cb l,Ap G pp k cp l2]∧β'=[]) :=
 h.mono fun C w v Φ β' ⟨r,pp,cp,h1,h2,h3⟩ hO hf=>by
  subst h1;subst h2;subst h3
  have hO':Own C w []:=hO.sub (List.nil_sublist _)
  refine ⟨_,_,⟨_,_,_,_,rfl,rfl,rfl⟩,hO',fun g hg=>?_⟩
  rcases List.mem_cons.1 hg with rfl|hg
  ·exact AFd (k:=0) hO rfl (hf _ (.head _)) hby
  ·obtain rfl:=List.mem_singleton.1 hg
   exact Lg (List.nil_sublist _) hf _ (.tail _ (.head _))
end
open Go.RowKit (Below)
set_option linter.unusedVariables false
section
variable {P:Program}{F:Fun P}{C:Cx}{S:List It}{R:Value→World→Prop}{β:List A4}{Γ:List Fact}{it:List (TypeId×IntKind)}{L:List Oper}{pos:List Po}{pt:List (List Nat)}{p:List Nat}{σ:Fr}{pb:Pb}
theorem AG1 {w0 w:World}{T:Nat→Prop}{vs:Nat→Gh}{a:Act}(hL:∀ (vs:Nat→Gh) (i:Nat),i≤pos.length→Lx it F C p S L pt β Γ R i (pos.drop i) (Mx it L pos σ i) (Fi it L pos σ vs i) (F1 it L pos σ vs i) (Dw it L pos σ pb vs i) (B6 it L pos σ pb vs i))
  (hO':Own C w0 (Nz pb++β)) (hG':∀ g∈Γ,g.holds w0 (ok C w0 (Nz pb++β))) (hm:Mid F C it L pos β σ pb w0 T vs a w) (hT:∀ j,j<pos.length→kv it L pos σ j=none→(∀ ts g,A5 pos j≠some (.pv ts g))→T j) :
  Own C w (Dw it L pos σ pb vs pos.length++(Nz (B6 it L pos σ pb vs pos.length)++β))∧∀ g∈(F1 it L pos σ vs pos.length).map (·.2)++Γ,g.holds w (ok C w (Dw it L pos σ pb vs pos.length++(Nz (B6 it L pos σ pb vs pos.length)++β))):=by
 have hO2:Own C w β:=ABT hO' hm.ext
 have hsubB:β.Sublist (Nz pb++β):=List.sublist_append_right _ _
 have hnb:∀ k,N9 pb k→∀ x∈β,x.1≠some k:=by
  rintro k ⟨y,hy,e⟩ x hxx hxk
  have hd:=Jw.1 hO'.apart
  rw [List.pairwise_append] at hd
  exact hd.2.2 y hy x hxx k e hxk
 have hpnew:∀ k,N9 pb k→C.w0.heap.size≤k∨C.M k:=fun k ⟨y,hy,e⟩=>hO'.new y (List.mem_append_left _ hy) k e
 have hord:Ord it L pos pt σ:=AEg hL
 have hTC:∀ j,Rr it L pos σ j→T j:=fun j hC=>hT j hC.lt hC.kv fun ts g e=>by
  rcases hC with ⟨_,h⟩|h
  ·rw [h.2.2] at e;cases e
  ·obtain ⟨_,_,_,_,_,q2|q2|q2⟩:=h <;> (rw [q2] at e;cases e)
 have hTa:∀ j x,j<pos.length→kv it L pos σ j=none→x∈Kq (A5 pos j) (vs j)→T j:=fun j x h1 h2 h3=>hT j h1 h2 fun ts g e=>by rw [e] at h3;cases h3
 have hTs:∀ j cs,j<pos.length→kv it L pos σ j=none→A5 pos j=some (.st cs)→T j:=fun j cs h1 h2 h3=>hT j h1 h2 fun ts g e=>by rw [e] at h3;cases h3
 -- a store takes what was handed in
 have hpbSt:∀ {j cs x},j<pos.length→kv it L pos σ j=none→A5 pos j=some (.st cs)→B6 it L pos σ pb vs j=some x→pb=some x:=fun {j cs x} h1 h2 h3 h4=>by
  have hS:Td it L pos σ j cs:=⟨h1,h2,h3⟩
  rcases Gd (it:=it) (L:=L) (pos:=pos) (σ:=σ) (pb:=pb) vs j with ⟨h,_⟩|⟨m,g1,g2,_⟩|h|⟨h,m,g1,g2⟩
  ·rw [← h,h4]
  ·exact absurd hS ((hord m j (.inr g2.sg) (.inl ⟨cs,hS⟩) g1).2.2 cs)
  ·rw [h] at h4;cases h4
  ·exact absurd hS ((hord m j (.inr g2.sg) (.inl ⟨cs,hS⟩) g1).2.2 cs)
 have alC:∀ {j x},j<pos.length→kv it L pos σ j=none→x∈Kq (A5 pos j) (vs j)→Sc it L pos σ vs j x∧∀ m,Rr it L pos σ m→Rr it L pos σ j→Mk it L pos σ m=Mk it L pos σ j→m≤j:=fun {j x} h1 h2 h3=>by
  obtain ⟨g1,g2⟩:=Wb h3
  refine ⟨⟨h1,h2,g1⟩,fun m hm' hj hce=>?_⟩
  rcases Nat.lt_or_ge j m with h|h
  ·rcases (hord j m hj hm' h).1 with ⟨_,_,bl,val,f,e⟩|hs
   ·exact absurd e (g2 bl val f)
   ·have:=AG7 hs h
    omega
  ·exact h
 have alTwo:∀ {j m x y},j<pos.length→m<pos.length→kv it L pos σ j=none→kv it L pos σ m=none→x∈Kq (A5 pos j) (vs j)→y∈Kq (A5 pos m) (vs m)→j≠m→¬ (Rr it L pos σ j∧Rr it L pos σ m∧Mk it L pos σ j=Mk it L pos σ m):=fun {j m x y} h1 h2 h3 h4 h5 h6 hne hc=>by
  have g1:=(alC h1 h3 h5).2 m hc.2.1 hc.1 hc.2.2.symm
  have g2:=(alC h2 h4 h6).2 j hc.1 hc.2.1 hc.2.2
  omega
 -- the blocks that were made,and the one that was written
 have hal:∀ x∈Dw it L pos σ pb vs pos.length,∀ b,x.1=some b→NAp it L pos σ pb T vs b∧(w0.heap.size≤b∨N9 pb b)∧w.heap[b]?=some (.cells x.2.2.toArray x.2.1 (0,0)):=by
  intro x hx b hb
  rcases Is hx with ⟨j,h1,h2,h3⟩|⟨j,b',T',cs0,cs,h1,h2,h3,h4,rfl⟩
  ·obtain ⟨hA,hlast⟩:=alC h1 h2 h3
   obtain ⟨_,g1,g2⟩:=hm.made j x (hTa j x h1 h2 h3) hA b hb
   exact ⟨.inl ⟨j,x,hTa j x h1 h2 h3,hA,hb⟩,g2.imp_right (·.2.2),g1 fun m _=>hlast m⟩
  ·obtain rfl:=Option.some.inj hb
   have hpb0:=hpbSt h1 h2 h3 h4
   have hk:N9 pb b':=⟨(some b',T',cs0),by rw [hpb0];exact .head _,rfl⟩
   exact ⟨.inr hk,.inr hk,hm.sted b' T' cs0 hpb0 j cs (hTs j cs h1 h2 h3) ⟨h1,h2,h3⟩⟩
 -- those that still wait
 have hpl:∀ x∈Nz (B6 it L pos σ pb vs pos.length),∀ b,x.1=some b→NAp it L pos σ pb T vs b∧(w0.heap.size≤b∨N9 pb b)∧w.heap[b]?=some (.cells x.2.2.toArray x.2.1 (0,0))∧∀ y∈Dw it L pos σ pb vs pos.length,y.1≠some b:=by
  intro x hx b hb
  rcases Gd (it:=it) (L:=L) (pos:=pos) (σ:=σ) (pb:=pb) vs pos.length with ⟨hlp,hnone⟩|⟨m,hml,hms,hlp,hmax⟩|hlp|⟨hlp,_⟩
  ·rw [hlp] at hx
   refine ⟨.inr ⟨x,hx,hb⟩,.inr ⟨x,hx,hb⟩,hm.pend (fun j _ hc=>hnone j hc.lt hc) x hx b hb,fun y hy e=>?_⟩
   rcases Is hy with ⟨j,h1,h2,h3⟩|⟨j,b'',T',cs1,cs',h1,h2,h3,_,rfl⟩
   ·have g3:=hm.low b ⟨x,hx,hb⟩
    rcases (hm.made j y (hTa j y h1 h2 h3) (alC h1 h2 h3).1 b e).2.2 with g2|⟨g2,_⟩
    ·omega
    ·exact hnone j h1 (.inr g2)
   ·exact hnone j h1 (.inl ⟨cs',h1,h2,h3⟩)
  ·rw [hlp] at hx
   have hA:Sc it L pos σ vs m x:=⟨hms.1,hms.2.1,hx⟩
   have hTm:T m:=hTC m (.inr hms.sg)
   obtain ⟨_,g1,g2⟩:=hm.made m x hTm hA b hb
   refine ⟨.inl ⟨m,x,hTm,hA,hb⟩,g2.imp_right (·.2.2),g1 fun j _ hj _ _=>hmax j hj.lt hj,fun y hy e=>?_⟩
   rcases Is hy with ⟨j,h1,h2,h3⟩|⟨j,b'',T',cs1,cs',h1,h2,h3,_,rfl⟩
   ·obtain ⟨hB,hlast⟩:=alC h1 h2 h3
    have hne:j≠m:=fun e=>by
     obtain ⟨_,_,bl,val,f,e2⟩:=hms
     subst e
     exact (Wb h3).2 _ _ _ e2
    refine hm.apart j m y x (hTa j y h1 h2 h3) hTm hB hA hne (fun hc=>?_) b e hb
    have q1:=hmax j h1 hc.1
    have q2:=hlast m hc.2.1 hc.1 hc.2.2.symm
    omega
   ·have hS:Td it L pos σ j cs':=⟨h1,h2,h3⟩
    have:=hord.one hS (.inr hms.sg)
    obtain ⟨_,_,bl,val,f,e2⟩:=hms
    subst this
    rw [h3] at e2;cases e2
  ·rw [hlp] at hx;cases hx
  ·rw [hlp] at hx;cases hx
 have hlocN:∀ b,(w0.heap.size≤b∨N9 pb b)→C.w0.heap.size≤b∨C.M b:=fun b h=>by
  rcases h with h|h
  ·exact .inl (Nat.le_trans hO'.ext.size h)
  ·exact hpnew b h
 have hlocB:∀ b,(w0.heap.size≤b∨N9 pb b)→∀ y∈β,y.1≠some b:=fun b h y hy hyb=>by
  rcases h with h1|h1
  ·have h2:=hO'.lt (hsubB.subset hy) hyb
   omega
  ·exact hnb b h1 y hy hyb
 have hown:Own C w (Dw it L pos σ pb vs pos.length++(Nz (B6 it L pos σ pb vs pos.length)++β)):=by
  refine ⟨hO2.ext,fun x hx b hb=>?_,fun x hx b hb=>?_,?_⟩
  ·rcases List.mem_append.1 hx with hx|hx
   ·exact hlocN b (hal x hx b hb).2.1
   ·rcases List.mem_append.1 hx with hx|hx
    ·exact hlocN b (hpl x hx b hb).2.1
    ·exact hO2.new x hx b hb
  ·rcases List.mem_append.1 hx with hx|hx
   ·exact (hal x hx b hb).2.2
   ·rcases List.mem_append.1 hx with hx|hx
    ·exact (hpl x hx b hb).2.2.1
    ·exact hO2.blk x hx b hb
  ·refine Ay.append (Sf pos.length (Nat.le_refl _) (fun j hj hk=>?_) (fun j j' y z h1 h2 h3 h4 h5 h6 hne b hb hzb=>?_) fun j b T' cs0 cs h1 h2 h3 h4=>?_) (Ay.append ?_ hO2.apart fun x hx y hy b hb hyb=>?_) fun x hx y hy b hb hyb=>?_
   ·by_cases hp:∃ ts g,A5 pos j=some (.pv ts g)
    ·obtain ⟨ts,g,hp⟩:=hp
     rw [hp];exact trivial
    have hd:=hm.mdist j (hT j hj hk fun ts g e=>hp ⟨ts,g,e⟩) hj hk
    unfold Kq
    split
    ·rename_i e;rw [e] at hd;exact hd
    ·rename_i e;rw [e] at hd;exact hd
    ·rename_i e;rw [e] at hd;exact hd
    ·exact trivial
   ·exact hm.apart j j' y z (hTa j y h1 h3 h5) (hTa j' z h2 h4 h6) (alC h1 h3 h5).1 (alC h2 h4 h6).1 hne (alTwo h1 h2 h3 h4 h5 h6 hne) b hb hzb
   ·have hS:Td it L pos σ j cs:=⟨h1,h2,h3⟩
    have hpb0:=hpbSt h1 h2 h3 h4
    refine ⟨fun j' y g1 g2 g3 e=>?_,fun j' cs' g1 g2 g3=>hord.one hS (.inl ⟨cs',g1,g2,g3⟩)⟩
    have hk:N9 pb b:=⟨(some b,T',cs0),by rw [hpb0];exact .head _,rfl⟩
    have q:=hm.low b hk
    rcases (hm.made j' y (hTa j' y g1 g2 g3) (alC g1 g2 g3).1 b e).2.2 with q1|⟨q1,_⟩
    ·omega
    ·have:=hord.one hS (.inr q1)
     subst this
     obtain ⟨_,_,_,_,_,q2|q2|q2⟩:=q1
     ·rw [h3] at q2;cases q2
     ·rw [h3] at q2;cases q2
     ·rw [h3] at q2;cases q2
   ·have hdp:Ay (Nz pb):=hO'.apart.sub (List.sublist_append_left _ _)
    rcases Gd (it:=it) (L:=L) (pos:=pos) (σ:=σ) (pb:=pb) vs pos.length with ⟨h,_⟩|⟨m,_,hms,h,_⟩|h|⟨h,_⟩
    ·rw [h];exact hdp
    ·rw [h];exact hm.mdist m (hTC m (.inr hms.sg)) hms.1 hms.2.1
    ·rw [h];exact trivial
    ·rw [h];exact trivial
   ·exact hlocB b (hpl x hx b hb).2.1 y hy hyb
   ·rcases List.mem_append.1 hy with hy|hy
    ·exact (hpl y hy b hyb).2.2.2 x hx hb
    ·exact hlocB b (hal x hx b hb).2.1 y hy hyb
 have hokN:∀ k,okN C w β (NAp it L pos σ pb T vs) k→ok C w (Dw it L pos σ pb vs pos.length++(Nz (B6 it L pos σ pb vs pos.length)++β)) k:=fun k hk =>
  ⟨hk.1.1,hk.1.2.1,fun x hx e=>by
   rcases List.mem_append.1 hx with hx|hx
   ·exact hk.2 (hal x hx k e).1
   ·rcases List.mem_append.1 hx with hx|hx
    ·exact hk.2 (hpl x hx k e).1
    ·exact hk.1.2.2 x hx e⟩
 refine ⟨hown,fun g hg=>g.stable (A:=okN C w β (NAp it L pos σ pb T vs)) (fun k hk=>⟨hokN k hk,rfl⟩) ?_⟩
 rcases List.mem_append.1 hg with hg|hg
 ·obtain ⟨⟨j,g'⟩,hjg,rfl⟩:=List.mem_map.1 hg
  obtain ⟨h1,h2,h4⟩:=Xd hjg
  exact hm.fact j (hT j h1 h2 fun ts g e=>by rw [e] at h4;cases h4) h1 h2 _ h4
 ·exact g.stable (fun k hk=>by
   have hnp:¬ N9 pb k:=fun ⟨y,hy,e⟩=>hk.2.2 y (List.mem_append_left _ hy) e
   exact ⟨⟨⟨hk.1,Nat.lt_of_lt_of_le hk.2.1 hm.ext.size,fun x hx=>hk.2.2 x (hsubB.subset hx)⟩,by
    rintro (⟨j,y,hj,hA,e⟩|hp)
    ·rcases (hm.made j y hj hA k e).2.2 with h1|⟨_,_,h1⟩
     ·have h2:=hk.2.1
      omega
     ·exact hnp h1
    ·exact hnp hp⟩,hm.ext.block k hk.2.1 hnp⟩) (hG' g hg)
theorem AHl {it:List (TypeId×IntKind)}(hit:Bw P it) (hmx:P.follows .mixedOrders=true) (pos:List Po) (A:List Nat) (m:Nat) (hd:Mc F.B p=true) (hc:AGt (Ak (sub p F.B)) (Iq (Ak (sub p F.B)) []) pos.length A m=true) (hnd:A.Nodup)
  (hA:∀ j∈A,j<pos.length→A5 pos j=some .auto∨(∃ v,A5 pos j=some (.eq v))∨∃ ts g,A5 pos j=some (.pv ts g)) (h:Lx it F C p (.win A m::S) (Ak (sub p F.B)) (Iq (Ak (sub p F.B)) []) β Γ R 0 pos σ σ [] [] pb):J F C (.c p::S) σ (Nz pb++β) Γ R:=by
 intro w hO hG a ha
 have hr:=AA7 hc
 obtain ⟨id,ops,hs⟩:∃ id ops,sub p F.B = .region id ops true:=by
  unfold Mc at hd
  cases hs:sub p F.B <;> rw [hs] at hd <;> try (simp at hd;done)
  rename_i id ops dr
  cases dr with
  | true=>exact ⟨id,ops,rfl⟩
  | false=>simp at hd
 have hops:Ak (sub p F.B)=ops.toList:=by rw [hs];rfl
 have hO':=hO.drew
 have hG':=Mj hG
 -- a late operation is Cj
 have hkn:∀ j∈A,j<pos.length→(∀ ts g,A5 pos j≠some (.pv ts g))→kv it (Ak (sub p F.B)) pos σ j≠none:=fun j hj hjl hpv hk=>by
  have hlx:=Rs h (fun _ _=>default) j (Nat.le_of_lt hjl)
  rcases hA j hj hjl with hA|⟨v,hA⟩|⟨ts,g,hA⟩
  case inr.inr=>exact hpv ts g hA
  case inr.inl =>
   rw [Ix hA] at hlx
   simp only [Lx] at hlx
   cases ho:A5 (Ak (sub p F.B)) j with
   | none=>rw [ho] at hlx;exact hlx.elim
   | some o =>
    simp only [kv,ho,hA,Cj] at hk
    split at hk <;> cases hk
  rw [Ix hA] at hlx
  simp only [Lx] at hlx
  cases ho:A5 (Ak (sub p F.B)) j with
  | none=>rw [ho] at hlx;exact hlx.elim
  | some o =>
   rw [ho] at hlx
   simp only [kv,ho,hA] at hk
   simp only at hlx
   cases hout:Nj o.dst F.fn.ntmps with
   | false=>rw [hout] at hlx;exact hlx.elim
   | true =>
    rw [hout] at hlx
    cases hg:gd (Ak (sub p F.B)) (Mx it (Ak (sub p F.B)) pos σ j) o with
    | none=>rw [hg] at hlx;exact hlx.elim
    | some b =>
     cases b with
     | false=>simp only [Cj,hg] at hk;cases hk
     | true =>
      rw [hg] at hlx
      simp only at hlx
      simp only [Cj,hg] at hk
      cases hp:pev it (Mx it (Ak (sub p F.B)) pos σ j) o.op with
      | none=>rw [hp] at hlx;exact hlx.elim
      | some vq=>rw [hp] at hk;cases hk
 -- whatever is late: the rest
 have late:∀ (vs:Nat→Gh) (a':Act) (w':World) (T:Nat→Prop) (pend sched:List Nat),Mid F C it (Ak (sub p F.B)) pos β σ pb w.drew T vs a' w'→(∀ j,j<pos.length→j∉pend→T j)→(∀ j∈pend,j∈A∧j<pos.length)→(∀ j,T j→j<pos.length)→pend.Nodup →
   Inter (Ak (sub p F.B)) A (pos.length+m) pend pos.length sched→At F (.inRegion (Ak (sub p F.B)).toArray sched::S.map (It.item F.B)) a' w' R:=fun vs a' w' T pend sched hm hT hpA hTl hnd2 hI=>by
  have hfin:=Rs h vs pos.length (Nat.le_refl _)
  rw [List.drop_length] at hfin
  have hfin:WIN F C p A m pos.length S (Fi it (Ak (sub p F.B)) pos σ vs pos.length) (Dw it (Ak (sub p F.B)) pos σ pb vs pos.length++(Nz (B6 it (Ak (sub p F.B)) pos σ pb vs pos.length)++β)) ((F1 it (Ak (sub p F.B)) pos σ vs pos.length).map (·.2)++Γ) R:=hfin
  obtain ⟨h1,h2⟩:=AG1 (fun vs i hi=>Rs h vs i hi) hO' hG' hm fun j hj hk hpv=>hT j hj fun hjp=>hkn j (hpA j hjp).1 (hpA j hjp).2 hpv hk
  refine hfin pend sched hpA hnd2 hI w' h1 h2 a' hm.size hm.defers fun t v hno hv=>?_
  rcases Wk vs t pos.length v hv with ⟨j,h3,h4,h5,rfl⟩|⟨h3,h4⟩
  ·exact hm.last t j (hT j h3 fun hjp=>hno j hjp h4) h3 h4 fun m hm' _ hmd=>h5 m (hTl m hm') hmd
  ·exact hm.rest t v (fun j hj _=>h3 j (hTl j hj)) h4
 intro cs
 refine At.of_step (F:=F) (k':=.inRegion ops (Region.linearise.go .any ops ops.size (w.tape w.drawn (.order F.f id)) (Array.replicate ops.size false) [])::S.map (It.item F.B)) (a':=a) (w':=w.drew) (fun cs=>?_) ?_ cs
 ·have:=stepR_region_draw (P:=P) (b:=F.base) (a:=a) (k:=S.map (It.item F.B)) (cs:=cs) (w:=w) (id:=id) (ops:=ops)
  simp only [List.map_cons,It.item,hs]
  rw [this]
  simp only [Region.schedule,hmx,Bool.true_or,if_true]
  rfl
 ·have key:=ABB (R:=R) (k:=S.map (It.item F.B)) (w0:=w.drew) hr.toRegB (fun vs i hi=>Rs h vs i hi) hit hO' hG' ?_ ?_ ops.size (w.tape w.drawn (.order F.f id)) (Array.replicate ops.size false) (fun _ _=>default) a w.drew
   (by rw [hops];simp) (fun i hi=>?_) (fun i hi=>?_) (by simp [ADX]) ?_
  ·rw [hops,Array.toArray_toList] at key
   exact key
  ·intro fuel t listed vs a' w' hs2 hl2 hf2 hm
   exact late vs a' w' (fun i=>i<pos.length) [] _ hm (fun j hj _=>hj) (fun j hj=>by cases hj) (fun j hj=>hj) List.nodup_nil (Vp hr fuel t pos.length listed [] (Nat.le_refl _) hr.le hs2 (fun y hy=>by rw [hl2 y hy];simp) List.nodup_nil (fun y hy=>by cases hy) (fun q hq o ho e he=>by
    have h1:=hr.deps q o ho e he
    have h2:q<(Ak (sub p F.B)).length:=(List.getElem?_eq_some_iff.1 ho).1
    rw [hl2 q h2] at hq
    have h3:q<pos.length:=by simpa using hq
    rw [hl2 e (by omega),decide_eq_true (by omega)]) hf2)
  ·intro fuel t listed vs a' w' i hsz hlt hcl hdi hf hm hik hif hi0 hil hpre
   have h1:∀ y,y<pos.length→y∉A→listed[y]?=some true:=fun y hy hya=>by
    rcases hr.late i hik hil y (by omega) with h|⟨h,_⟩
    ·exact hpre y h
    ·exact absurd h hya
   have hmem:∀ y,y∈A.filter (fun j=>Nat.blt j pos.length && listed[j]? == some false)↔y∈A∧y<pos.length∧listed[y]?=some false:=fun y=>by
    rw [List.mem_filter,Bool.and_eq_true]
    refine and_congr_right fun _=>and_congr ⟨fun h=>Nat.le_of_ble_eq_true h,fun h=>Nat.ble_eq_true_of_le h⟩ ?_
    simp
   have hlf:∀ y,y<(Ak (sub p F.B)).length→listed[y]?≠some true→listed[y]?=some false:=fun y hy hne=>by
    have hl:listed[y]?=some listed[y]:=by simp [hsz,hy]
    cases hb:listed[y] with
    | true=>exact absurd (by rw [hl,hb]) hne
    | false=>rw [hl,hb]
   exact late vs a' w' (fun j=>listed[j]?=some true) (A.filter (fun j=>Nat.blt j pos.length && listed[j]? == some false)) _ hm (fun j hj hjp=>by
    by_cases ht:listed[j]?=some true
    ·exact ht
    ·by_cases hjA:j∈A
     ·exact absurd ((hmem j).2 ⟨hjA,hj,hlf j (Nat.lt_of_lt_of_le hj hr.le) ht⟩) hjp
     ·exact h1 j hj hjA) (fun j hj=>⟨((hmem j).1 hj).1,((hmem j).1 hj).2.1⟩) hlt (hnd.filter _) (Vp hr (fuel+1) t pos.length listed _ (Nat.le_refl _) hr.le hsz (fun y hy=>by
    by_cases ht:listed[y]?=some true
    ·rw [ht,decide_eq_true ⟨hlt y ht,fun h=>by
      have:=((hmem y).1 h).2.2
      rw [ht] at this;cases this⟩]
    ·rw [hlf y hy ht,decide_eq_false fun h=>?_]
     refine h.2 ((hmem y).2 ⟨?_,h.1,hlf y hy ht⟩)
     exact Classical.byContradiction fun hya=>ht (h1 y h.1 hya)) (hnd.filter _) (fun y hy=>⟨((hmem y).1 hy).1,((hmem y).1 hy).2.1⟩) hcl hf)
  ·exfalso
   rw [Array.getElem?_replicate] at hi
   split at hi <;> simp at hi
  ·exfalso
   rw [Array.getElem?_replicate] at hi
   split at hi <;> simp at hi
  ·refine ⟨ha.size,ha.defers,.refl _ _,fun k ⟨y,hy,e⟩=>hO'.lt (List.mem_append_left _ hy) e,fun _ x hx b hb=>hO'.blk x (List.mem_append_left _ hx) b hb,fun b Ty cs0 e i cs hi=>?_,fun i hi=>?_,fun i _ hi=>?_,fun i hi=>?_,fun i _ _ _ hi=>?_,fun t i hi=>?_,fun t v _ hv=>ha.get t v hv⟩
   all_goals
    exfalso
    rw [Array.getElem?_replicate] at hi
    split at hi <;> simp at hi
def AJI (pos:List Po) (j:Nat):Bool :=
 match A5 pos j with
 | some .auto=>true
 | some (.eq _)=>true
 | some (.pv _ _)=>true
 | _=>false
theorem AG9 (hit:Bw P it) (hmx:P.follows .mixedOrders=true) {x0:Pb}(n k:Nat) (A:List Nat) (m:Nat) (hx:Nz x0=β.take n) (hd:Mc F.B p=true) (hc:AGt (Ak (sub p F.B)) (Iq (Ak (sub p F.B)) []) k A m=true) (hnd:A.Nodup)
  (h:Je it F C p (.win A m::S) (Ak (sub p F.B)) (Iq (Ak (sub p F.B)) []) (β.drop n) Γ R k 0 pos σ σ [] [] x0) (hA:A.all (fun j=>!(Nat.blt j k) || AJI pos j)=true):J F C (.c p::S) σ β Γ R:=by
 have e:β=Nz x0++β.drop n:=by rw [hx,List.take_append_drop]
 rw [e]
 refine AHl hit hmx pos A m hd (by have:=h.1;rw [Nat.zero_add] at this;rw [this];exact hc) hnd (fun j hj hjl=>?_) h.2
 have:=List.all_eq_true.1 hA j hj
 have hk:pos.length=k:=by have:=h.1;omega
 rw [show Nat.blt j k=true from Nat.ble_eq_true_of_le (by omega)] at this
 simp only [Bool.not_true,Bool.false_or] at this
 unfold AJI at this
 split at this
 ·exact .inl (by assumption)
 ·exact .inr (.inl ⟨_,by assumption⟩)
 ·exact .inr (.inr ⟨_,_,by assumption⟩)
 ·cases this
theorem AED {i:Nat}(hit:Bw P it) {A:List Nat}{m:Nat}{o:Oper}{dd:Tmp}{u:Value}{q:Prop}(ho:A5 (Ak (sub p F.B)) i=some o) (hg:o.guard=none) (hd:o.dst=some dd) (hlt:Nat.blt dd F.fn.ntmps=true) (hp:pev it σ o.op=some (u,q)) (hq:q)
  (hw:WIN F C p A m (i+1) S (putF (some dd) u σ) β Γ R) (hL:S7 it F.fn.ntmps (Ak (sub p F.B)) A σ (A.filter fun j=>Nat.blt j i)) (hi:Bc i A=true:=by rfl):WIN F C p A (m+1) i S σ β Γ R:=by
 have hiA:=C6.1 hi
 intro pend sched hpA hnd hI w hO hG
 have hil:i<(Ak (sub p F.B)).length:=by
  rw [B8] at ho
  exact (List.getElem?_eq_some_iff.1 ho).1
 have hoarr:(Ak (sub p F.B)).toArray[i]?=some o:=by
  rw [B8] at ho
  simpa using ho
 have hdj:Cd (Ak (sub p F.B)) i=some dd:=by simp [Cd,ho,hd]
 have ee:i+(m+1)=i+1+m:=by omega
 -- issued
 have issued:∀ (pend l:List Nat) (a:Act),(∀ j∈pend,j∈A∧j<i)→pend.Nodup→Inter (Ak (sub p F.B)) A (i+1+m) (i::pend) (i+1) l→a.tmps.size=F.fn.ntmps→a.defers=F.dfs →
   (∀ t v,(∀ j∈pend,Cd (Ak (sub p F.B)) j≠some t)→Fr.get t σ=some v→a.tmps[t]?=some v)→At F (.inRegion (Ak (sub p F.B)).toArray l::S.map (It.item F.B)) a w R:=by
  intro pend l a hpA hnd hI hsz hdf hfr
  refine hw (i::pend) l (fun j hj=>?_) (List.nodup_cons.2 ⟨fun h=>by have:=(hpA i h).2;omega,hnd⟩) hI w hO hG a hsz hdf fun t x hno hx=>?_
  ·rcases List.mem_cons.1 hj with rfl|hj
   ·exact ⟨hiA,by omega⟩
   ·exact ⟨(hpA j hj).1,by have:=(hpA j hj).2;omega⟩
  ·have hne:dd≠t:=fun e=>hno i (.head _) (by rw [hdj,e])
   simp only [putF,Fr.get] at hx
   have hb:Nat.beq dd t=false:=by
    cases hb:Nat.beq dd t with
    | true=>exact absurd (Nat.eq_of_beq_eq_true hb) hne
    | false=>rfl
   rw [hb] at hx
   exact hfr t x (fun j hj=>hno j (.tail _ hj)) hx
 have key:∀ n (pend sched:List Nat),pend.length=n→(∀ j∈pend,j∈A∧j<i)→pend.Nodup→Inter (Ak (sub p F.B)) A (i+(m+1)) pend i sched→∀ a:Act,a.tmps.size=F.fn.ntmps→a.defers=F.dfs →
   (∀ t v,(∀ j∈pend,Cd (Ak (sub p F.B)) j≠some t)→Fr.get t σ=some v→a.tmps[t]?=some v)→At F (.inRegion (Ak (sub p F.B)).toArray sched::S.map (It.item F.B)) a w R:=by
  intro n
  induction n with
  | zero =>
   intro pend sched hl hpA hnd hI a hsz hdf hfr
   have:pend=[]:=List.eq_nil_of_length_eq_zero hl
   subst this
   cases hI with
   | done =>
    have er:List.range' i ((Ak (sub p F.B)).length-i)=i::List.range' (i+1) ((Ak (sub p F.B)).length-(i+1)):=by
     have e:(Ak (sub p F.B)).length-i=((Ak (sub p F.B)).length-(i+1))+1:=by omega
     rw [e,List.range'_succ]
    rw [er]
    have hfit:Fits F.fn.ntmps F.dfs σ a:=⟨hsz,hdf,fun t v hv=>hfr t v (fun j hj=>by cases hj) hv⟩
    have hpe:=Ff (P:=P) hit (ty:=o.type) hp hq w a.eval fun x v hv=>hfit.eval hv
    have hdlt:dd<a.tmps.size:=by rw [hsz];exact Nat.le_of_ble_eq_true hlt
    refine Kz hoarr (by simp [Region.wanted,hg]) (post:=fun v w'=>v=u∧w'=w) (by rw [Ge,hpe];exact ⟨rfl,rfl⟩) ?_
    rintro v w' ⟨rfl,rfl⟩
    rw [hd]
    refine hw [] _ (fun j hj=>by cases hj) List.nodup_nil .done w' hO hG _ (by simp [Act.put,hsz]) (by simp [Act.put,hdf]) fun t x _ hx=>?_
    simp only [putF,Fr.get] at hx
    by_cases e:dd=t
    ·subst e
     rw [Nat.beq_refl] at hx
     rw [← Option.some.inj hx]
     simp [Act.put,hdlt]
    ·have hb:Nat.beq dd t=false:=by
      cases hb:Nat.beq dd t with
      | true=>exact absurd (Nat.eq_of_beq_eq_true hb) e
      | false=>rfl
     rw [hb] at hx
     simp only [Act.put]
     rw [Array.getElem?_setIfInBounds_ne e]
     exact hfr t x (fun j hj=>by cases hj) hx
   | pend hj _ _=>cases hj
   | tail _ _ h _=>exact absurd hiA h
   | issue _ _ _ hI'=>rw [ee] at hI';exact issued [] _ a hpA hnd hI' hsz hdf hfr
  | succ n ih =>
   intro pend sched hl hpA hnd hI a hsz hdf hfr
   cases hI with
   | done=>simp at hl
   | pend hj hdp hI' =>
    exact AAj hit hL hpA hj hdp hsz hdf hfr fun a' h1 h2 h3=>ih _ _ (by rw [List.length_erase_of_mem hj];omega) (fun j' hj'=>hpA j' (List.mem_of_mem_erase hj')) (hnd.erase _) hI' a' h1 h2 h3
   | tail _ _ h _=>exact absurd hiA h
   | issue _ _ _ hI'=>rw [ee] at hI';exact issued pend _ a hpA hnd hI' hsz hdf hfr
 exact fun a=>key _ pend sched rfl hpA hnd hI a
end
end Go.Fw
namespace Go.Proofs.YtpienolhkccpnaaGreat
set_option maxRecDepth 100000
set_option linter.unusedVariables false
set_option linter.unusedSimpArgs false
def val:List Nat→Nat
 | []=>0
 | x::l=>x+4294967296*val l
def AHZ (n:Nat):List Nat:=if _h:n=0 then [] else n % 4294967296::AHZ (n / 4294967296)
termination_by n
decreasing_by omega
def AGI:Nat→Nat→Nat
 | _,0=>1
 | 0,_+1=>0
 | n+1,k+1=>AGI n k+AGI n (k+1)
def lin (a:Int) (f:Nat→Int):Nat→Int
 | 0=>f 0
 | k+1=>f (k+1)+a*f k
def dl:Nat→Int
 | 0=>1
 | _+1=>0
def ALo (a:Int):Nat→(Nat→Int)→(Nat→Int)
 | 0,f=>f
 | n+1,f=>lin a (ALo a n f)
def pw (a:Int) (m x:Nat):Nat→Int:=ALo a m (ALo (-1) x dl)
def sm:Nat→(Nat→Int)→Int
 | 0,_=>0
 | n+1,f=>sm n f+f n
theorem Sg {n:Nat}{f g:Nat→Int}(h:∀ i,i<n→f i=g i):sm n f=sm n g:=by
 induction n with
 | zero=>rfl
 | succ n ih=>rw [sm,sm,ih fun i hi=>h i (by omega),h n (by omega)]
theorem AKY (n:Nat) (f g:Nat→Int):sm n (fun i=>f i+g i)=sm n f+sm n g:=by
 induction n with
 | zero=>rfl
 | succ n ih=>simp only [sm,ih];omega
theorem ALi (n:Nat) (f g:Nat→Int):sm n (fun i=>f i-g i)=sm n f-sm n g:=by
 induction n with
 | zero=>rfl
 | succ n ih=>simp only [sm,ih];omega
theorem Wf (n:Nat):sm n (fun _=>0)=0:=by
 induction n with
 | zero=>rfl
 | succ n ih=>simp only [sm,ih];rfl
theorem AJb (n m:Nat) (f:Nat→Nat→Int):sm n (fun i=>sm m (fun j=>f i j))=sm m (fun j=>sm n (fun i=>f i j)):=by
 induction n with
 | zero=>simp only [sm];exact (Wf m).symm
 | succ n ih=>simp only [sm,ih,AKY]
def conv (f g:Nat→Int) (k:Nat):Int:=sm (k+1) (fun j=>f j*g (k-j))
def bf (f:Nat→Int):Nat→Int
 | 0=>0
 | k+1=>f k
abbrev Vz:=Nat→Int
def Wx (Y:Vz→Vz):Prop:=∀ (a b:Int) (u v:Vz),Y (fun j=>a*u j+b*v j)=fun j=>a*Y u j+b*Y v j
theorem Wx.add {Y:Vz→Vz}(h:Wx Y) (u v:Vz):Y (fun j=>u j+v j)=fun j=>Y u j+Y v j:=by
 have:=h 1 1 u v
 simp only [Int.one_mul] at this
 exact this
theorem Wx.mul {Y:Vz→Vz}(h:Wx Y) (a:Int) (u:Vz):Y (fun j=>a*u j)=fun j=>a*Y u j:=by
 have:=h a 0 u u
 simp only [Int.zero_mul,Int.add_zero] at this
 exact this
theorem Wx.zero {Y:Vz→Vz}(h:Wx Y):Y (fun _=>0)=fun _=>0:=by
 have:=h 0 0 (fun _=>0) (fun _=>0)
 simp only [Int.zero_mul,Int.add_zero] at this
 exact this
def Bi (Y:Vz→Vz):List Int→Vz→Vz
 | [],_=>fun _=>0
 | a::F,w=>fun j=>a*w j+Y (Bi Y F w) j
theorem K1 {Y:Vz→Vz}(h:Wx Y):∀ F,Wx (Bi Y F)
 | []=>fun a b u v=>by funext j;simp [Bi]
 | c::F=>fun a b u v=>by
  funext j
  simp only [Bi]
  rw [K1 h F a b u v,h]
  grind
theorem AGJ {Y:Vz→Vz}(h:Wx Y):∀ (F:List Int) (w:Vz),Y (Bi Y F w)=Bi Y F (Y w)
 | [],w=>h.zero
 | c::F,w=>by
  have e:Bi Y (c::F) w=fun j=>c*w j+1*Y (Bi Y F w) j:=by funext j;simp only [Bi,Int.one_mul]
  rw [e,h]
  funext j
  simp only [Bi,Int.one_mul]
  rw [AGJ h F w]
theorem Ke {Y:Vz→Vz}(h:Wx Y):∀ (F G:List Int) (w:Vz),Bi Y F (Bi Y G w)=Bi Y G (Bi Y F w)
 | [],G,w=>(K1 h G).zero.symm
 | a::F,G,w=>by
  have e:Bi Y (a::F) w=fun j=>a*w j+1*Y (Bi Y F w) j:=by funext j;simp only [Bi,Int.one_mul]
  rw [e,K1 h G,← AGJ h G,← Ke h F G w]
  funext j
  simp only [Bi,Int.one_mul]
def Jd (Y:Vz→Vz):Nat→Vz→Vz
 | 0,w=>w
 | n+1,w=>Y (Jd Y n w)
theorem H0 {Y:Vz→Vz}(h:Wx Y) (c:Int) (w:Vz):∀ F:List Int,Bi Y (F++[c]) w=fun j=>Bi Y F w j+c*Jd Y F.length w j
 | []=>by
  funext j
  show c*w j+Y (fun _=>0) j=0+c*w j
  rw [h.zero];simp
 | a::F=>by
  funext j
  show a*w j+Y (Bi Y (F++[c]) w) j=a*w j+Y (Bi Y F w) j+c*Y (Jd Y F.length w) j
  have e:(fun j=>Bi Y F w j+c*Jd Y F.length w j)=fun j=>1*Bi Y F w j+c*Jd Y F.length w j:=by funext j;rw [Int.one_mul]
  rw [H0 h c w F,e,h]
  grind
theorem AFk {Y:Vz→Vz}(h:Wx Y) (c:Int) (w:Vz):∀ {u g:List Int},u.length=g.length→Bi Y (List.zipWith (fun x y=>x-c*y) u g) w=fun j=>Bi Y u w j-c*Bi Y g w j
 | [],[],_=>by funext j;simp [Bi]
 | a::u,b::g,e=>by
  have ih:=AFk h c w (u:=u) (g:=g) (by simpa using e)
  funext j
  show (a-c*b)*w j+Y (Bi Y (List.zipWith (fun x y=>x-c*y) u g) w) j=a*w j+Y (Bi Y u w) j-c*(b*w j+Y (Bi Y g w) j)
  have e2:(fun j=>Bi Y u w j-c*Bi Y g w j)=fun j=>1*Bi Y u w j+(-c)*Bi Y g w j:=by funext j;grind
  rw [ih,e2,h]
  grind
def Ny (g:List Int):List Int→List Int→List Int×List Int
 | [],r=>([],r)
 | a::F,r0 =>
  let x:=Ny g F r0
  let c:=x.2.getLastD 0
  (c::x.1,List.zipWith (fun x y=>x-c*y) (a::x.2.dropLast) g)
theorem V7 {g:List Int}:∀ {F r0:List Int},1≤g.length→r0.length=g.length→(Ny g F r0).1.length=F.length∧(Ny g F r0).2.length=g.length
 | [],r0,_,h=>⟨rfl,h⟩
 | a::F,r0,h1,h=>by
  obtain ⟨e1,e2⟩:=V7 (F:=F) h1 h
  refine ⟨by simp [Ny,e1],?_⟩
  simp only [Ny,List.length_zipWith,List.length_cons,List.length_dropLast]
  omega
theorem Oa {l:List Int}(h:1≤l.length):l=l.dropLast++[l.getLastD 0]:=by
 have hne:l≠[]:=fun e=>by rw [e] at h;simp at h
 have:=(List.dropLast_concat_getLast hne).symm
 rw [List.getLastD_eq_getLast?,List.getLast?_eq_some_getLast hne]
 exact this
theorem ACA {Y:Vz→Vz}(h:Wx Y) {g:List Int}(h1:1≤g.length) (w:Vz):∀ {F r0:List Int},r0.length=g.length →
  Bi Y (F++r0) w=fun j=>Bi Y (Ny g F r0).1 (Bi Y (g++[1]) w) j+Bi Y (Ny g F r0).2 w j
 | [],r0,_=>by funext j;simp [Ny,Bi]
 | a::F,r0,hr=>by
  have ih:=ACA h h1 w (F:=F) hr
  obtain ⟨_,l2⟩:=V7 (F:=F) h1 hr
  funext j
  show a*w j+Y (Bi Y (F++r0) w) j=_
  rw [ih,h.add]
  simp only [Ny]
  generalize (Ny g F r0).1=s at *
  generalize hx:(Ny g F r0).2=r at *
  have hl:=Oa (l:=r) (by omega)
  generalize hc:r.getLastD 0=c at *
  rw [AFk h c w (by simp only [List.length_cons,List.length_dropLast];omega)]
  have e1:Bi Y r w=fun j=>Bi Y r.dropLast w j+c*Jd Y r.dropLast.length w j:=by
   conv=>lhs;rw [hl]
   exact H0 h c w _
  have e2:Bi Y (g++[1]) w=fun j=>Bi Y g w j+1*Jd Y g.length w j:=H0 h 1 w _
  have e3:(fun j=>Bi Y r.dropLast w j+c*Jd Y r.dropLast.length w j)=fun j=>1*Bi Y r.dropLast w j+c*Jd Y r.dropLast.length w j:=by funext j;rw [Int.one_mul]
  have e4:Y (Jd Y r.dropLast.length w) j=Jd Y g.length w j:=by
   rw [show g.length=r.dropLast.length+1 by rw [List.length_dropLast];omega];rfl
  rw [e1,e3,h]
  show a*w j+(Y (Bi Y s (Bi Y (g++[1]) w)) j+(1*Y (Bi Y r.dropLast w) j+c*Y (Jd Y r.dropLast.length w) j))=c*Bi Y (g++[1]) w j+Y (Bi Y s (Bi Y (g++[1]) w)) j+(a*w j+Y (Bi Y r.dropLast w) j-c*Bi Y g w j)
  rw [e4]
  generalize Y (Bi Y s (Bi Y (g++[1]) w)) j=z
  rw [e2]
  grind
theorem Z6 (g:List Int):∀ {F r0:List Int},1≤F.length→(Ny g F r0).1.getLastD 0=r0.getLastD 0
 | [a],r0,_=>by simp [Ny]
 | a::b::F,r0,_=>by
  have ih:=Z6 g (F:=b::F) (r0:=r0) (by simp)
  rw [← ih]
  show List.getLastD (_::(Ny g (b::F) r0).1) 0=_
  have:(Ny g (b::F) r0).1=((Ny g F r0).2.getLastD 0)::(Ny g F r0).1:=rfl
  rw [this]
  simp only [List.getLastD_cons]
def Xg (g:List Int) (v:Vz):Vz:=fun j=>if j<g.length then (if j=0 then 0 else v (j-1))-g.getD j 0*v (g.length-1) else 0
def Bx:Vz:=fun j=>if j=0 then 1 else 0
def Es (u:List Int):Vz:=fun j=>u.getD j 0
theorem Eu (g:List Int):Wx (Xg g):=fun a b u v=>by
 funext j
 simp only [Xg]
 by_cases h:j<g.length
 ·simp only [if_pos h]
  by_cases h0:j=0
  ·simp only [if_pos h0];grind
  ·simp only [if_neg h0];grind
 ·simp only [if_neg h];grind
theorem AG5 (a:Int) (u:List Int) (j:Nat):Es (a::u) j=if j=0 then a else Es u (j-1):=by
 cases j with
 | zero=>rfl
 | succ j=>simp [Es]
theorem Lb {u:List Int}{j:Nat}(h:u.length≤j):Es u j=0:=by
 rw [Es,List.getD_eq_getElem?_getD,List.getElem?_eq_none h];rfl
theorem Nv {g:List Int}:∀ {u:List Int},u.length≤g.length→Bi (Xg g) u Bx=Es u
 | [],_=>by funext j;simp [Bi,Es]
 | a::u,h=>by
  have h:u.length+1≤g.length:=h
  have ih:=Nv (g:=g) (u:=u) (by omega)
  funext j
  show a*Bx j+Xg g (Bi (Xg g) u Bx) j=Es (a::u) j
  rw [ih,AG5,Xg,Lb (u:=u) (j:=g.length-1) (by omega),Int.mul_zero,Int.sub_zero]
  by_cases h0:j=0
  ·subst h0
   rw [if_pos rfl,if_pos (by omega),if_pos rfl,Bx,if_pos rfl];omega
  ·rw [if_neg h0,if_neg h0,Bx,if_neg h0,Int.mul_zero,Int.zero_add]
   by_cases hj:j<g.length
   ·rw [if_pos hj]
   ·rw [if_neg hj,Lb (by omega)]
theorem AHJ {g:List Int}:∀ {k:Nat},k<g.length→Jd (Xg g) k Bx=fun j=>if j=k then 1 else 0
 | 0,_=>rfl
 | k+1,h=>by
  funext j
  show Xg g (Jd (Xg g) k Bx) j=_
  rw [AHJ (k:=k) (by omega),Xg,if_neg (show ¬ g.length-1=k by omega),Int.mul_zero,Int.sub_zero]
  by_cases h0:j=0
  ·subst h0;rw [if_pos (by omega),if_pos rfl,if_neg (by omega)]
  ·by_cases hj:j<g.length
   ·rw [if_pos hj,if_neg h0]
    by_cases e:j=k+1
    ·rw [if_pos e,if_pos (by omega)]
    ·rw [if_neg e,if_neg (by omega)]
   ·rw [if_neg hj,if_neg (by omega)]
theorem AHt {g:List Int}(h:1≤g.length):Jd (Xg g) g.length Bx=fun j=>-Es g j:=by
 obtain ⟨k,hk⟩:∃ k,g.length=k+1:=⟨g.length-1,by omega⟩
 rw [hk]
 funext j
 show Xg g (Jd (Xg g) k Bx) j=_
 rw [AHJ (k:=k) (by omega),Xg,if_pos (show g.length-1=k by omega),Int.mul_one]
 by_cases hj:j<g.length
 ·rw [if_pos hj]
  by_cases h0:j=0
  ·rw [if_pos h0];show 0-Es g j=_;omega
  ·rw [if_neg h0,if_neg (by omega)];show 0-Es g j=_;omega
 ·rw [if_neg hj,Lb (by omega)];rfl
theorem Ro {g:List Int}(h:1≤g.length):Bi (Xg g) (g++[1]) Bx=fun _=>0:=by
 rw [H0 (Eu g),Nv (Nat.le_refl _),AHt h]
 funext j
 show Es g j+1*(-Es g j)=0
 omega
theorem Pa {g:List Int}{v:Vz}(h:∀ j,g.length≤j→v j=0):Bi (Xg g) ((List.range g.length).map v) Bx=v:=by
 rw [Nv (by simp)]
 funext j
 rw [Es,List.getD_eq_getElem?_getD,List.getElem?_map]
 by_cases hj:j<g.length
 ·rw [List.getElem?_range hj];rfl
 ·rw [List.getElem?_eq_none (by simpa using hj),h j (by omega)];rfl
theorem AGl {g:List Int}(h1:1≤g.length) {v:Vz}(h:∀ j,g.length≤j→v j=0):Bi (Xg g) (g++[1]) v=fun _=>0:=by
 rw [← Pa h,Ke (Eu g),Ro h1,(K1 (Eu g) _).zero]
def Prm (p:Nat):Prop:=2≤p∧∀ d,2≤d→d<p→¬ d∣p
theorem bez:∀ (a b:Nat),∃ x y:Int,(Nat.gcd a b:Int)=a*x+b*y:=by
 intro a
 induction a using Nat.strongRecOn with
 | _ a ih =>
  intro b
  by_cases h:a=0
  ·subst h;exact ⟨0,1,by simp⟩
  ·obtain ⟨x,y,e⟩:=ih (b % a) (Nat.mod_lt _ (by omega)) a
   refine ⟨y-(b / a:Nat)*x,x,?_⟩
   rw [Nat.gcd_rec,e]
   have h2:(b:Int)=a*(b / a:Nat)+(b % a:Nat):=by
    have:=Nat.div_add_mod b a
    omega
   have h3:((b % a:Nat):Int)=b-a*(b / a:Nat):=by omega
   rw [h3]
   grind
theorem AFp {p c:Nat}(hp:Prm p) (h:¬ p∣c):Nat.gcd c p=1:=by
 have h1:Nat.gcd c p∣p:=Nat.gcd_dvd_right c p
 have h0:0<Nat.gcd c p:=Nat.gcd_pos_of_pos_right c (by have:=hp.1;omega)
 have h2:=Nat.le_of_dvd (by have:=hp.1;omega) h1
 refine Classical.byContradiction fun hne=>?_
 by_cases e:Nat.gcd c p=p
 ·exact h (by rw [← e];exact Nat.gcd_dvd_left c p)
 ·exact hp.2 _ (by omega) (by omega) h1
theorem AIY {p:Nat}(hp:Prm p) {c:Int}(h:¬ (p:Int)∣c):∃ c':Int,(p:Int)∣c*c'-1:=by
 have h1:¬ p∣c.natAbs:=fun e=>h (Int.ofNat_dvd_left.2 e)
 obtain ⟨x,y,e⟩:=bez c.natAbs p
 rw [AFp hp h1] at e
 rcases Int.natAbs_eq c with hc|hc
 ·refine ⟨x,⟨-y,?_⟩⟩
  rw [← hc] at e
  have:c*x=1-p*y:=by omega
  rw [this];grind
 ·refine ⟨-x,⟨-y,?_⟩⟩
  have h2:((c.natAbs:Nat):Int)=-c:=by omega
  rw [h2] at e
  have:c*-x=1-p*y:=by grind
  rw [this];grind
def cg (p:Nat) (u:Vz):Prop:=∀ j,(p:Int)∣u j
theorem AB7 (p:Nat):cg p (fun _=>0):=fun _=>Int.dvd_zero _
theorem Z2 {p:Nat}{Y:Vz→Vz}(h:Wx Y) {u:Vz}(hu:cg p u):cg p (Y u):=by
 have e:u=fun j=>(p:Int)*(u j / p):=by funext j;exact (Int.mul_ediv_cancel' (hu j)).symm
 rw [e,h.mul]
 exact fun j=>⟨_,rfl⟩
theorem AEO {p:Nat}{u v:Vz}(hu:cg p u) (hv:cg p v):cg p (fun j=>u j+v j):=fun j=>Int.dvd_add (hu j) (hv j)
theorem AKA {p:Nat}(a:Int) {u:Vz}(hu:cg p u):cg p (fun j=>a*u j):=fun j=>Int.dvd_mul_of_dvd_right (hu j)
theorem Y4 {p:Nat}{Y:Vz→Vz}(h:Wx Y) (w:Vz):∀ {F:List Int},(∀ x∈F,(p:Int)∣x)→cg p (Bi Y F w)
 | [],_=>AB7 p
 | a::F,hF=>AEO (fun j=>Int.dvd_mul_of_dvd_left (hF a (.head _))) (Z2 h (Y4 h w fun x hx=>hF x (.tail _ hx)))
theorem AGf {p:Nat}{u v:Vz}(h:cg p (fun j=>u j+v j)) (hv:cg p v):cg p u:=fun j=>by
 have:=Int.dvd_sub (h j) (hv j)
 rwa [show u j+v j-v j=u j by omega] at this
theorem Xh {p:Nat}:∀ (n:Nat) (r:List Int),r.length=n→(∃ x∈r,¬ (p:Int)∣x)→∃ r1:List Int,1≤r1.length∧r1.length≤r.length∧¬ (p:Int)∣r1.getLastD 0∧∀ (Y:Vz→Vz) (w:Vz),Wx Y→cg p (Bi Y r w)→cg p (Bi Y r1 w)
 | 0,r,h,⟨x,hx,_⟩=>by rw [List.length_eq_zero_iff.1 h] at hx;cases hx
 | n+1,r,h,⟨x,hx,hn⟩=>by
  by_cases hl:(p:Int)∣r.getLastD 0
  ·have hs:=Oa (l:=r) (by omega)
   have hx':x∈r.dropLast:=by
    rw [hs] at hx
    rcases List.mem_append.1 hx with h1|h1
    ·exact h1
    ·rw [List.mem_singleton.1 h1] at hn;exact absurd hl hn
   obtain ⟨r1,a1,a2,a3,a4⟩:=Xh n r.dropLast (by rw [List.length_dropLast];omega) ⟨x,hx',hn⟩
   refine ⟨r1,a1,by rw [List.length_dropLast] at a2;omega,a3,fun Y w hY hc=>a4 Y w hY ?_⟩
   rw [hs,H0 hY] at hc
   exact AGf hc fun j=>Int.dvd_mul_of_dvd_left hl
  ·exact ⟨r,by omega,Nat.le_refl _,hl,fun _ _ _ h=>h⟩
theorem AE3 {Y:Vz→Vz}(h:Wx Y) (c:Int) (w:Vz):∀ F:List Int,Bi Y (F.map (c*·)) w=fun j=>c*Bi Y F w j
 | []=>by funext j;simp [Bi]
 | a::F=>by
  funext j
  show c*a*w j+Y (Bi Y (F.map (c*·)) w) j=c*(a*w j+Y (Bi Y F w) j)
  rw [AE3 h c w F,h.mul]
  grind
def ACo (p:Nat) (f:List Int):Prop:=∃ g s:List Int,1≤g.length∧1≤s.length∧g.length+s.length=f.length∧cg p (Bi (Xg g) (f++[1]) Bx)∧cg p (Bi (Xg s) (f++[1]) Bx)
theorem AGO {p:Nat}(hp:Prm p) {f:List Int}(hf:1≤f.length) {b:Vz}(hb:∀ j,f.length≤j→b j=0) (hb0:¬ cg p b) :
  ∀ (n:Nat) (F:List Int),F.length=n→1≤n→n≤f.length→¬ (p:Int)∣F.getLastD 0→cg p (Bi (Xg f) F b)→ACo p f:=by
 intro n
 induction n using Nat.strongRecOn with
 | _ n ih =>
  intro F hn h1 h2 hl hc
  have hX:=Eu f
  have hs:=Oa (l:=F) (by omega)
  obtain ⟨c',hc'⟩:=AIY hp hl
  generalize hF0:F.dropLast=F0 at hs
  have hF0l:F0.length+1=n:=by rw [← hF0,List.length_dropLast];omega
  generalize hcc:F.getLastD 0=c at *
  -- made monic
  have hm:cg p (Bi (Xg f) (F0.map (c'*·)++[1]) b):=by
   rw [hs,H0 hX] at hc
   have h3:=AKA c' hc
   rw [H0 hX,AE3 hX,List.length_map]
   refine fun j=>?_
   have e:c'*Bi (Xg f) F0 b j+1*Jd (Xg f) F0.length b j=c'*(Bi (Xg f) F0 b j+c*Jd (Xg f) F0.length b j)-(c*c'-1)*Jd (Xg f) F0.length b j:=by grind
   show (p:Int)∣c'*Bi (Xg f) F0 b j+1*Jd (Xg f) F0.length b j
   rw [e]
   exact Int.dvd_sub (h3 j) (Int.dvd_mul_of_dvd_left hc')
  generalize hg:F0.map (c'*·)=g at hm
  have hgl:g.length=F0.length:=by rw [← hg,List.length_map]
  by_cases hg0:g.length=0
  ·exfalso
   rw [List.length_eq_zero_iff.1 hg0] at hm
   refine hb0 fun j=>?_
   have:=hm j
   have e:Bi (Xg f) ([]++[1]) b j=b j:=by
    show 1*b j+Xg f (fun _=>0) j=b j
    rw [hX.zero];simp
   rwa [e] at this
  -- division
  let d:=g.length
  let A:=(f++[1]).take (f.length+1-d)
  let r0:=(f++[1]).drop (f.length+1-d)
  have hA:A.length=f.length+1-d:=by simp only [A,List.length_take,List.length_append,List.length_singleton];omega
  have hr0:r0.length=d:=by simp only [r0,List.length_drop,List.length_append,List.length_singleton];omega
  have hAr:f++[1]=A++r0:=(List.take_append_drop _ _).symm
  have hlast:r0.getLastD 0=1:=by
   have h3:r0=(f.drop (f.length+1-d))++[1]:=by
    simp only [r0]
    rw [List.drop_append_of_le_length (by omega)]
   rw [h3];simp
  obtain ⟨q1,q2⟩:=V7 (g:=g) (F:=A) (r0:=r0) (by omega) hr0
  have ev:=fun {Y:Vz→Vz}(hY:Wx Y) (w:Vz)=>ACA hY (g:=g) (by omega) w (F:=A) (r0:=r0) hr0
  have qt:=Z6 g (F:=A) (r0:=r0) (by omega)
  rw [hlast] at qt
  rw [← hAr] at ev
  generalize (Ny g A r0).1=s' at *
  generalize (Ny g A r0).2=r at *
  have hr:cg p (Bi (Xg f) r b):=by
   have h3:=ev hX b
   rw [AGl hf hb] at h3
   have h4:cg p (Bi (Xg f) s' (Bi (Xg f) (g++[1]) b)):=Z2 (K1 hX s') hm
   refine fun j=>?_
   have h5:=congrFun h3 j
   have e:Bi (Xg f) r b j=-(Bi (Xg f) s' (Bi (Xg f) (g++[1]) b) j):=by
    have h5:(0:Int)=Bi (Xg f) s' (Bi (Xg f) (g++[1]) b) j+Bi (Xg f) r b j:=h5
    omega
   rw [e];exact (Int.dvd_neg).2 (h4 j)
  by_cases hz:∃ x∈r,¬ (p:Int)∣x
  ·obtain ⟨r1,a1,a2,a3,a4⟩:=Xh r.length r rfl hz
   exact ih r1.length (by omega) r1 rfl a1 (by omega) a3 (a4 _ _ hX hr)
  ·have hz:∀ x∈r,(p:Int)∣x:=fun x hx=>Classical.byContradiction fun h=>hz ⟨x,hx,h⟩
   have hss:=Oa (l:=s') (by omega)
   rw [qt] at hss
   have q3:s'.dropLast.length=s'.length-1:=List.length_dropLast
   generalize s'.dropLast=s at *
   refine ⟨g,s,by omega,by omega,by omega,?_,?_⟩
   ·rw [ev (Eu g) Bx,Ro (by omega),(K1 (Eu g) s').zero]
    exact AEO (AB7 p) (Y4 (Eu g) Bx hz)
   ·have hY:=Eu s
    rw [ev hY Bx]
    refine AEO ?_ (Y4 hY Bx hz)
    rw [Ke hY,hss,Ro (by omega),(K1 hY _).zero]
    exact AB7 p
theorem AIL {p:Nat}(hp:Prm p) {f:List Int}(hf:1≤f.length) (hs:¬ ACo p f) {a:List Int}(ha:a.length≤f.length) {b:Vz}(hb:∀ j,f.length≤j→b j=0) (h:cg p (Bi (Xg f) a b)) :
  (∀ x∈a,(p:Int)∣x)∨cg p b:=by
 by_cases hb0:cg p b
 ·exact .inr hb0
 ·refine .inl fun x hx=>Classical.byContradiction fun hn=>?_
  obtain ⟨r1,a1,a2,a3,a4⟩:=Xh a.length a rfl ⟨x,hx,hn⟩
  exact hs (AGO hp hf hb hb0 r1.length r1 rfl a1 (by omega) a3 (a4 _ _ (Eu f) h))
def Db (p:Nat):Nat→Nat→List Nat
 | 0,_=>[]
 | n+1,x=>x % p::Db p n (x / p)
def Gj (p:Nat):List Nat→Nat
 | []=>0
 | d::l=>d+p*Gj p l
theorem Dx (p:Nat):∀ (n x:Nat),(Db p n x).length=n
 | 0,_=>rfl
 | n+1,x=>by rw [Db,List.length_cons,Dx p n]
theorem I3 {p:Nat}(hp:0<p):∀ {n x:Nat},∀ d∈Db p n x,d<p
 | 0,_,d,h=>by cases h
 | n+1,x,d,h=>by
  rcases List.mem_cons.1 h with rfl|h
  ·exact Nat.mod_lt _ hp
  ·exact I3 hp d h
theorem ADG {p:Nat}(hp:0<p):∀ {n x:Nat},x<p ^ n→Gj p (Db p n x)=x
 | 0, x, h => by have : x = 0 := by simpa using h
                 rw [this]; rfl
 | n+1,x,h=>by
  rw [Db,Gj,ADG hp (by rw [Nat.div_lt_iff_lt_mul hp];rwa [Nat.pow_succ] at h)]
  exact Nat.mod_add_div x p
theorem Z9 {p:Nat}(hp:0<p):∀ {l:List Nat},(∀ d∈l,d<p)→Db p l.length (Gj p l)=l
 | [],_=>rfl
 | d::l,h=>by
  have hd:=h d (.head _)
  rw [List.length_cons,Db,Gj,Nat.add_mul_mod_self_left,Nat.mod_eq_of_lt hd,Nat.add_mul_div_left _ _ hp,Nat.div_eq_of_lt hd,Nat.zero_add,Z9 hp fun e he=>h e (.tail _ he)]
theorem M5 {p:Nat}(hp:0<p):∀ {l:List Nat},(∀ d∈l,d<p)→Gj p l<p ^ l.length
 | [],_=>by simp [Gj]
 | d::l,h=>by
  have hd:=h d (.head _)
  have ih:=M5 hp (l:=l) fun e he=>h e (.tail _ he)
  rw [Gj,List.length_cons,Nat.pow_succ]
  have h2:p*(Gj p l+1)≤p*p ^ l.length:=Nat.mul_le_mul_left p ih
  rw [Nat.mul_add,Nat.mul_one] at h2
  rw [Nat.mul_comm (p ^ l.length)]
  omega
theorem Zn (p:Nat):∀ n,Db p n 0=List.replicate n 0
 | 0=>rfl
 | n+1=>by rw [Db,Nat.zero_mod,Nat.zero_div,Zn p n];rfl
def Bb (l:List Nat):List Int:=l.map fun x:Nat=>(x:Int)
def C9 (p m x:Nat):Vz:=Es (Bb (Db p m x))
def un (p m:Nat) (v:Vz):Nat:=Gj p ((List.range m).map fun j=>(v j % p).toNat)
theorem U9 {p m x j:Nat}(h:m≤j):C9 p m x j=0:=Lb (by rw [Bb,List.length_map,Dx];exact h)
theorem P1 {p m x j:Nat}(h:j<m):C9 p m x j=(((Db p m x).getD j 0:Nat):Int):=by
 rw [C9,Es,Bb,List.getD_eq_getElem?_getD,List.getElem?_map,List.getD_eq_getElem?_getD]
 rw [List.getElem?_eq_getElem (by rw [Dx];exact h)];rfl
theorem ABR {p m:Nat}(hp:0<p) (v:Vz):∀ d∈(List.range m).map fun j=>(v j % p).toNat,d<p:=fun d hd=>by
 obtain ⟨j,_,rfl⟩:=List.mem_map.1 hd
 have h1:=Int.emod_lt_of_pos (v j) (show (0:Int)<p by omega)
 have h2:=Int.emod_nonneg (v j) (show (p:Int)≠0 by omega)
 omega
theorem Xt {p m:Nat}(hp:0<p) (v:Vz):un p m v<p ^ m:=by
 have:=M5 hp (ABR (m:=m) hp v)
 rwa [List.length_map,List.length_range] at this
theorem AJ7 {p m j:Nat}(hp:0<p) (v:Vz) (h:j<m):C9 p m (un p m v) j=v j % p:=by
 have e:=Z9 hp (ABR (m:=m) hp v)
 rw [List.length_map,List.length_range] at e
 rw [P1 h,un,e,List.getD_eq_getElem?_getD,List.getElem?_map,List.getElem?_range h]
 show (((v j % p).toNat:Nat):Int)=_
 have h2:=Int.emod_nonneg (v j) (show (p:Int)≠0 by omega)
 omega
theorem Gn {p m:Nat}{u v:Vz}(h:∀ j,j<m→(p:Int)∣u j-v j):un p m u=un p m v:=by
 rw [un,un]
 congr 1
 refine List.map_congr_left fun j hj=>?_
 rw [(Int.emod_eq_emod_iff_emod_sub_eq_zero).2 (Int.emod_eq_zero_of_dvd (h j (List.mem_range.1 hj)))]
theorem P7 {p m x:Nat}(hp:0<p) (h:x<p ^ m):un p m (C9 p m x)=x:=by
 have e:(List.range m).map (fun j=>(C9 p m x j % p).toNat)=Db p m x:=by
  refine List.ext_getElem? fun j=>?_
  rw [List.getElem?_map]
  by_cases hj:j<m
  ·rw [List.getElem?_range hj]
   show some ((C9 p m x j % p).toNat)=_
   rw [P1 hj]
   have hl:j<(Db p m x).length:=by rw [Dx];exact hj
   rw [List.getElem?_eq_getElem hl,List.getD_eq_getElem?_getD,List.getElem?_eq_getElem hl]
   have hd:=I3 hp _ (List.getElem_mem hl)
   congr 1
   simp only [Option.getD_some]
   rw [Int.emod_eq_of_lt (by omega) (by omega)]
   omega
  ·rw [List.getElem?_eq_none (by simpa using hj),List.getElem?_eq_none (by rw [Dx];omega)];rfl
 rw [un,e,ADG hp h]
theorem Du {p m:Nat}(hp:0<p) (v:Vz) {j:Nat}(h:j<m):(p:Int)∣C9 p m (un p m v) j-v j:=by
 rw [AJ7 hp v h]
 have:=Int.emod_add_mul_ediv (v j) p
 exact ⟨-(v j / p),by rw [Int.mul_neg];omega⟩
theorem AFi {p m x y:Nat}(hp:0<p) (hx:x<p ^ m) (hy:y<p ^ m) (h:∀ j,j<m→(p:Int)∣C9 p m x j-C9 p m y j):x=y:=by
 rw [← P7 hp hx,← P7 hp hy];exact Gn h
theorem H3 (p m:Nat) (j:Nat):C9 p m 0 j=0:=by
 by_cases h:j<m
 ·rw [P1 h,Zn,List.getD_eq_getElem?_getD,List.getElem?_replicate,if_pos h];rfl
 ·exact U9 (by omega)
structure Fld (q:Nat) (A M:Nat→Nat→Nat):Prop where
 q2:2≤q
 al:∀ x y,x<q→y<q→A x y<q
 ac:∀ x y,x<q→y<q→A x y=A y x
 aa:∀ x y z,x<q→y<q→z<q→A (A x y) z=A x (A y z)
 a0:∀ x,x<q→A x 0=x
 an:∀ x,x<q→∃ y,y<q∧A x y=0
 ml:∀ x y,x<q→y<q→M x y<q
 mc:∀ x y,x<q→y<q→M x y=M y x
 ma:∀ x y z,x<q→y<q→z<q→M (M x y) z=M x (M y z)
 md:∀ x y z,x<q→y<q→z<q→M x (A y z)=A (M x y) (M x z)
 m1:∀ x,x<q→M x 1=x
 nz:∀ x y,x<q→y<q→M x y=0→x=0∨y=0
def fA (p m x y:Nat):Nat:=un p m fun j=>C9 p m x j+C9 p m y j
def Cq (f:List Int) (u v:Vz):Vz:=Bi (Xg f) ((List.range f.length).map u) v
def fM (p:Nat) (f:List Int) (x y:Nat):Nat:=un p f.length (Cq f (C9 p f.length x) (C9 p f.length y))
theorem V8 (f:List Int) (u:Vz):Wx (Cq f u):=K1 (Eu f) _
theorem Oj {f:List Int}{u v:Vz}(hu:∀ j,f.length≤j→u j=0) (hv:∀ j,f.length≤j→v j=0):Cq f u v=Cq f v u:=by
 rw [Cq,Cq]
 conv=>lhs;rw [← Pa (g:=f) hv]
 conv=>rhs;rw [← Pa (g:=f) hu]
 exact Ke (Eu f) _ _ _
theorem AHh {g:List Int}{v:Vz}{j:Nat}(h:g.length≤j):Xg g v j=0:=if_neg (by omega)
theorem AIq {g:List Int}:∀ {F:List Int}{v:Vz},(∀ j,g.length≤j→v j=0)→∀ j,g.length≤j→Bi (Xg g) F v j=0
 | [],_,_,_,_=>rfl
 | a::F,v,hv,j,hj=>by
  show a*v j+Xg g (Bi (Xg g) F v) j=0
  rw [hv j hj,AHh hj];simp
theorem ADu {f:List Int}{u v:Vz}(hv:∀ j,f.length≤j→v j=0):∀ j,f.length≤j→Cq f u v j=0:=AIq hv
theorem Mz {p:Nat}{f:List Int}(u:Vz) {v w:Vz}(h:cg p fun j=>v j-w j):cg p fun j=>Cq f u v j-Cq f u w j:=by
 have e:(fun j=>Cq f u v j-Cq f u w j)=Cq f u (fun j=>v j-w j):=by
  have:=V8 f u 1 (-1) v w
  have e1:(fun j=>1*v j+-1*w j)=fun j=>v j-w j:=by funext j;omega
  rw [e1] at this
  rw [this];funext j;omega
 rw [e]
 exact Z2 (V8 f u) h
theorem AKR {p m:Nat}{u v:Vz}(hu:∀ j,m≤j→u j=0) (hv:∀ j,m≤j→v j=0) (h:∀ j,j<m→(p:Int)∣u j-v j):cg p fun j=>u j-v j:=fun j=>by
 by_cases hj:j<m
 ·exact h j hj
 ·show (p:Int)∣u j-v j
  rw [hu j (by omega),hv j (by omega)];exact Int.dvd_zero _
theorem E9 {a b c:Int}(h:a∣b) (e:b=c):a∣c:=e▸h
theorem AFj {m:Nat}{u v:Vz}(hu:∀ j,m≤j→u j=0) (hv:∀ j,m≤j→v j=0):∀ j,m≤j→(fun j=>u j+v j) j=0:=fun j hj=>by
 show u j+v j=0
 rw [hu j hj,hv j hj];rfl
theorem rp (p m x:Nat):∀ j,m≤j→C9 p m x j=0:=fun _ h=>U9 h
theorem Ip {p m:Nat}(hp:0<p) {v:Vz}(hv:∀ j,m≤j→v j=0):cg p fun j=>C9 p m (un p m v) j-v j:=AKR (rp p m _) hv fun _ h=>Du hp v h
theorem AE5 {p m:Nat}(hp:2≤p) (hm:1≤m):C9 p m 1=Bx:=by
 obtain ⟨k,rfl⟩:∃ k,m=k+1:=⟨m-1,by omega⟩
 funext j
 by_cases hj:j<k+1
 ·rw [P1 hj,Db,Nat.mod_eq_of_lt (by omega),Nat.div_eq_of_lt (by omega),Zn]
  cases j with
  | zero=>rfl
  | succ j=>rw [List.getD_cons_succ,List.getD_eq_getElem?_getD,List.getElem?_replicate,if_pos (by omega)];rfl
 ·rw [U9 (by omega),Bx,if_neg (by omega)]
theorem AKv {p:Nat}(hp:Prm p) {f:List Int}(hf:1≤f.length) (hs:¬ ACo p f):Fld (p ^ f.length) (fA p f.length) (fM p f):=by
 have hp0:0<p:=by have:=hp.1;omega
 generalize hm:f.length=m at *
 have hq:1<p ^ m:=Nat.one_lt_pow (by omega) hp.1
 have uc:∀ {u v:Vz},(cg p fun j=>u j-v j)→un p m u=un p m v:=fun h=>Gn fun j _=>h j
 have mo:∀ {u v:Vz},(∀ j,m≤j→v j=0)→∀ j,m≤j→Cq f u v j=0:=fun hv=>by rw [← hm] at hv ⊢;exact ADu hv
 have mcm:∀ {u v:Vz},(∀ j,m≤j→u j=0)→(∀ j,m≤j→v j=0)→Cq f u v=Cq f v u:=fun hu hv=>by rw [← hm] at hu hv;exact Oj hu hv
 have fMe:∀ x y,fM p f x y=un p m (Cq f (C9 p m x) (C9 p m y)):=fun x y=>by rw [fM,hm]
 have mass:∀ {u v w:Vz},(∀ j,m≤j→u j=0)→(∀ j,m≤j→v j=0)→(∀ j,m≤j→w j=0)→Cq f (Cq f u v) w=Cq f u (Cq f v w):=fun {u v w} hu hv hw=>by
  rw [mcm (mo hv) hw,mcm hv hw]
  exact Ke (Eu f) _ _ _
 refine ⟨by omega,fun x y _ _=>Xt hp0 _,fun x y _ _=>?_,fun x y z _ _ _=>?_,fun x hx=>?_,fun x hx=>?_,fun x y _ _=>by rw [fMe];exact Xt hp0 _,fun x y _ _=>?_,fun x y z _ _ _=>?_,fun x y z _ _ _=>?_,fun x hx=>?_,fun x y hx hy h=>?_⟩
 ·exact congrArg (un p m) (funext fun j=>Int.add_comm _ _)
 ·refine Gn fun j hj=>?_
  have h1:=Du hp0 (fun j=>C9 p m x j+C9 p m y j) hj
  have h2:=Du hp0 (fun j=>C9 p m y j+C9 p m z j) hj
  have:=Int.dvd_sub h1 h2
  rw [fA,fA]
  exact E9 this (by omega)
 ·rw [fA,show (fun j=>C9 p m x j+C9 p m 0 j)=C9 p m x from funext fun j=>by rw [H3];omega]
  exact P7 hp0 hx
 ·refine ⟨un p m fun j=>-C9 p m x j,Xt hp0 _,?_⟩
  rw [fA]
  have:un p m (fun j=>C9 p m x j+C9 p m (un p m fun j=>-C9 p m x j) j)=un p m (C9 p m 0):=Gn fun j hj=>by
   have h1:=Du hp0 (fun j=>-C9 p m x j) hj
   rw [H3]
   exact E9 h1 (by omega)
  rw [this,P7 hp0 (by omega)]
 ·rw [fMe,fMe,mcm (rp p m x) (rp p m y)]
 ·rw [fMe,fMe,fMe,fMe]
  have e1:un p m (Cq f (C9 p m (un p m (Cq f (C9 p m x) (C9 p m y)))) (C9 p m z))=un p m (Cq f (Cq f (C9 p m x) (C9 p m y)) (C9 p m z)):=by
   rw [mcm (rp p m _) (rp p m z),mcm (mo (rp p m y)) (rp p m z)]
   exact uc (Mz _ (Ip hp0 (mo (rp p m y))))
  have e2:un p m (Cq f (C9 p m x) (C9 p m (un p m (Cq f (C9 p m y) (C9 p m z)))))=un p m (Cq f (C9 p m x) (Cq f (C9 p m y) (C9 p m z))):=uc (Mz _ (Ip hp0 (mo (rp p m z))))
  rw [e1,e2,mass (rp p m x) (rp p m y) (rp p m z)]
 ·rw [fMe,fMe,fMe,fA,fA]
  have e1:un p m (Cq f (C9 p m x) (C9 p m (un p m fun j=>C9 p m y j+C9 p m z j)))=un p m (Cq f (C9 p m x) (fun j=>C9 p m y j+C9 p m z j)):=uc (Mz _ (Ip hp0 (AFj (rp p m y) (rp p m z))))
  rw [e1,(V8 f _).add]
  refine Gn fun j hj=>?_
  have h1:=Du hp0 (Cq f (C9 p m x) (C9 p m y)) hj
  have h2:=Du hp0 (Cq f (C9 p m x) (C9 p m z)) hj
  have h3:=Int.dvd_add h1 h2
  exact E9 (Int.dvd_neg.2 h3) (by omega)
 ·rw [fMe,AE5 hp.1 hf,Cq,Pa (g:=f) (fun j hj=>rp p m x j (by omega)),P7 hp0 hx]
 ·rw [fMe] at h
  have hc:cg p (Cq f (C9 p m x) (C9 p m y)):=fun j=>by
   by_cases hj:j<m
   ·have h1:=Du hp0 (Cq f (C9 p m x) (C9 p m y)) hj
    rw [h,H3] at h1
    have:=Int.dvd_neg.2 h1
    rwa [show -(0-Cq f (C9 p m x) (C9 p m y) j)=Cq f (C9 p m x) (C9 p m y) j by omega] at this
   ·rw [mo (rp p m y) j (by omega)];exact Int.dvd_zero _
  rcases AIL hp (by omega) hs (by simp) (fun j hj=>rp p m y j (by omega)) hc with h1|h1
  ·refine .inl (AFi hp0 hx (by omega) fun j hj=>?_)
   rw [H3,Int.sub_zero]
   exact h1 _ (List.mem_map.2 ⟨j,List.mem_range.2 (by omega),rfl⟩)
  ·refine .inr (AFi hp0 hy (by omega) fun j hj=>?_)
   rw [H3,Int.sub_zero]
   exact h1 j
def sg (neg:Bool) (n:Nat):Int:=if neg then -(n:Int) else n
abbrev Rt3:=Bool×List Nat×List Nat
def vq (r:Rt3):Rat:=mkRat (sg r.1 (val r.2.1)) (val r.2.2)
def rt (q:Rat):Rt3:=(decide (q.num<0),AHZ q.num.natAbs,AHZ q.den)
abbrev Zs:=Bool×Nat
def ALW (a b:Zs):Zs:=if a.1=b.1 then (a.1,a.2+b.2) else if a.2<b.2 then (b.1,b.2-a.2) else (a.1,a.2-b.2)
def AHp (a b:Zs):Zs:=ALW a (!b.1,b.2)
def AKK (a b:Zs):Zs:=(a.1 != b.1,a.2*b.2)
def iv (a:Zs):Int:=sg a.1 a.2
def AES (q:Nat) (f:Nat→Zs):Nat→Zs
 | 0=>f 0
 | k+1=>AHp (AHp (f (k+1)) (f k)) (AKK (false,q-1) (AES q f k))
def tz (q n:Nat):Nat→Nat→Zs
 | 0=>fun k=>(false,AGI n k*(q-1) ^ k)
 | x+1=>AES q (tz q n x)
def qAt (L:List Rt3) (i:Nat):Rat:=vq (L.getD i default)
def wz (L:List Rt3) (D i:Nat):Zs:=(decide ((qAt L i).num<0),(qAt L i).num.natAbs*(D / (qAt L i).den))
def rs:Nat→(Nat→Rat)→Rat
 | 0,_=>0
 | n+1,f=>rs n f+f n
theorem rs_zero (n:Nat):rs n (fun _=>0)=0:=by
 induction n with
 | zero=>rfl
 | succ n ih=>rw [rs,ih,Rat.add_zero]
def pk (a:Int):List Int→List Int→(Nat→Int)
 | x::u,y::v=>lin (if x=y then a else -1) (pk a u v)
 | _,_=>dl
def Mx (q:Nat) (x y:Int):Int:=if x=y then (q:Int)-1 else -1
theorem ADa (n:Nat) (c:Int):sm n (fun _=>c)=n*c:=by
 induction n with
 | zero=>simp [sm]
 | succ n ih=>rw [sm,ih];grind
theorem AFQ {n:Nat}{f:Nat→Int}(h:∀ i,i<n→0≤f i):0≤sm n f:=by
 induction n with
 | zero=>exact Int.le_refl 0
 | succ n ih =>
  have h1:=ih fun i hi=>h i (by omega)
  have h2:=h n (by omega)
  rw [sm];omega
theorem AFq {n x:Nat}(h:x<n) (g:Nat→Int):sm n (fun d=>if x=d then g d else 0)=g x:=by
 induction n with
 | zero=>omega
 | succ n ih =>
  rw [sm]
  by_cases e:x=n
  ·subst e
   rw [if_pos rfl,Sg (g:=fun _=>0) fun i hi=>if_neg (show ¬ x=i by omega),Wf];omega
  ·rw [if_neg e,ih (by omega)];omega
structure FI (q:Nat) (A M:Int→Int→Int):Prop where
 q2:2≤q
 al:∀ x y:Int,0≤x→x<q→0≤y→y<q→0≤A x y∧A x y<q
 ac:∀ x y:Int,0≤x→x<q→0≤y→y<q→A x y=A y x
 aa:∀ x y z:Int,0≤x→x<q→0≤y→y<q→0≤z→z<q→A (A x y) z=A x (A y z)
 a0:∀ x:Int,0≤x→x<q→A x 0=x
 an:∀ x:Int,0≤x→x<q→∃ y:Int,(0≤y∧y<q)∧A x y=0
 ml:∀ x y:Int,0≤x→x<q→0≤y→y<q→0≤M x y∧M x y<q
 mc:∀ x y:Int,0≤x→x<q→0≤y→y<q→M x y=M y x
 ma:∀ x y z:Int,0≤x→x<q→0≤y→y<q→0≤z→z<q→M (M x y) z=M x (M y z)
 md:∀ x y z:Int,0≤x→x<q→0≤y→y<q→0≤z→z<q→M x (A y z)=A (M x y) (M x z)
 m1:∀ x:Int,0≤x→x<q→M x 1=x
 nz:∀ x y:Int,0≤x→x<q→0≤y→y<q→M x y=0→x=0∨y=0
def Ad (f:Nat→Nat→Nat) (x y:Int):Int:=((f x.toNat y.toNat:Nat):Int)
theorem ALU {q:Nat}{A M:Nat→Nat→Nat}(h:Fld q A M):FI q (Ad A) (Ad M) where
 q2:=h.q2
 al:=fun x y a b c d=>by have:=h.al x.toNat y.toNat (by omega) (by omega);simp only [Ad];omega
 ac:=fun x y a b c d=>by simp only [Ad];rw [h.ac x.toNat y.toNat (by omega) (by omega)]
 aa:=fun x y z a b c d e f=>by simp only [Ad,Int.toNat_natCast];rw [h.aa x.toNat y.toNat z.toNat (by omega) (by omega) (by omega)]
 a0:=fun x a b=>by have:=h.a0 x.toNat (by omega);simp only [Ad];rw [show (0:Int).toNat=0 from rfl,this];omega
 an:=fun x a b=>by
  obtain ⟨y,hy,e⟩:=h.an x.toNat (by omega)
  refine ⟨y,⟨by omega,by omega⟩,?_⟩
  simp only [Ad,Int.toNat_natCast];rw [e];rfl
 ml:=fun x y a b c d=>by have:=h.ml x.toNat y.toNat (by omega) (by omega);simp only [Ad];omega
 mc:=fun x y a b c d=>by simp only [Ad];rw [h.mc x.toNat y.toNat (by omega) (by omega)]
 ma:=fun x y z a b c d e f=>by simp only [Ad,Int.toNat_natCast];rw [h.ma x.toNat y.toNat z.toNat (by omega) (by omega) (by omega)]
 md:=fun x y z a b c d e f=>by simp only [Ad,Int.toNat_natCast];rw [h.md x.toNat y.toNat z.toNat (by omega) (by omega) (by omega)]
 m1:=fun x a b=>by have:=h.m1 x.toNat (by omega);simp only [Ad];rw [show (1:Int).toNat=1 from rfl,this];omega
 nz:=fun x y a b c d e=>by
  simp only [Ad] at e
  rcases h.nz x.toNat y.toNat (by omega) (by omega) (by omega) with h1|h1
  ·exact .inl (by omega)
  ·exact .inr (by omega)
theorem AMe {n:Nat}{f g:Nat→Int}(h:∀ i,i<n→f i≤g i):sm n f≤sm n g:=by
 induction n with
 | zero=>exact Int.le_refl _
 | succ n ih =>
  have h1:=ih fun i hi=>h i (by omega)
  have h2:=h n (by omega)
  rw [sm,sm];omega
theorem Xi {q:Nat}{φ:Nat→Nat}(hi:∀ x y,x<q→y<q→φ x=φ y→x=y) (y:Nat):∀ n,n≤q→sm n (fun x=>if φ x=y then 1 else 0)≤1
 | 0,_=>by rw [sm];decide
 | n+1,hn=>by
  rw [sm]
  by_cases h:φ n=y
  ·rw [if_pos h]
   have:sm n (fun x=>if φ x=y then (1:Int) else 0)=0:=by
    refine (Sg (g:=fun _=>0) fun x hx=>if_neg fun e=>?_).trans (Wf n)
    have:=hi x n (by omega) (by omega) (e.trans h.symm)
    omega
   rw [this];decide
  ·rw [if_neg h]
   have:=Xi hi y n (by omega)
   omega
theorem AFg {q:Nat}{φ:Nat→Nat}(hm:∀ x,x<q→φ x<q) (hi:∀ x y,x<q→y<q→φ x=φ y→x=y) {y:Nat}(hy:y<q):sm q (fun x=>if φ x=y then 1 else 0)=1:=by
 have h1:=Xi hi y q (Nat.le_refl q)
 have h0:∀ z,0≤sm q (fun x=>if φ x=z then (1:Int) else 0):=fun z=>AFQ fun i _=>by split <;> decide
 have tot:sm q (fun z=>sm q (fun x=>if φ x=z then (1:Int) else 0))=q:=by
  rw [AJb,Sg (g:=fun _=>(1:Int)) fun x hx=>AFq (hm x hx) (fun _=>1),ADa];omega
 have split:sm q (fun z=>sm q (fun x=>if φ x=z then (1:Int) else 0))≤sm q (fun z=>(1:Int)-if y=z then 1-sm q (fun x=>if φ x=y then (1:Int) else 0) else 0):=by
  refine AMe fun z hz=>?_
  by_cases e:y=z
  ·subst e;rw [if_pos rfl];omega
  ·rw [if_neg e]
   have:=Xi hi z q (Nat.le_refl q)
   omega
 rw [tot,ALi,ADa,AFq hy (fun _=>1-sm q (fun x=>if φ x=y then (1:Int) else 0))] at split
 omega
section
variable {q:Nat}{A M:Int→Int→Int}(F:FI q A M)
include F
theorem FI.z:(0:Int)<q:=by have:=F.q2;omega
theorem FI.m0 {x:Int}(h0:0≤x) (h1:x<q):M x 0=0:=by
 have hz:=F.z
 have h:=F.md x 0 0 h0 h1 (Int.le_refl 0) hz (Int.le_refl 0) hz
 rw [F.a0 0 (Int.le_refl 0) hz] at h
 obtain ⟨b0,b1⟩:=F.ml x 0 h0 h1 (Int.le_refl 0) hz
 obtain ⟨y,⟨y0,y1⟩,e⟩:=F.an (M x 0) b0 b1
 have h2:A (A (M x 0) (M x 0)) y=A (M x 0) y:=by rw [← h]
 rw [F.aa _ _ _ b0 b1 b0 b1 y0 y1,e,F.a0 _ b0 b1] at h2
 exact h2
theorem FI.cancel {x y z:Int}(x0:0≤x) (x1:x<q) (y0:0≤y) (y1:y<q) (z0:0≤z) (z1:z<q) (h:A x y=A x z):y=z:=by
 obtain ⟨w,⟨w0,w1⟩,e⟩:=F.an x x0 x1
 have e2:A w x=0:=by rw [F.ac w x w0 w1 x0 x1];exact e
 have h2:A w (A x y)=A w (A x z):=by rw [h]
 rw [← F.aa _ _ _ w0 w1 x0 x1 y0 y1,← F.aa _ _ _ w0 w1 x0 x1 z0 z1,e2,F.ac 0 y (by omega) (by omega) y0 y1,F.ac 0 z (by omega) (by omega) z0 z1,F.a0 y y0 y1,F.a0 z z0 z1] at h2
 exact h2
end
def Wd (q n:Nat) (u:List Int):Prop:=u.length=n∧∀ x∈u,0≤x∧x<q
def Dp (A M:Int→Int→Int):List Int→List Int→Int
 | x::u,y::v=>A (M x y) (Dp A M u v)
 | _,_=>0
def Eo (A M:Int→Int→Int) (a:Int) (r u:List Int):List Int:=List.zipWith (fun x y=>A x (M a y)) u r
section
variable {q:Nat}{A M:Int→Int→Int}(F:FI q A M)
include F
theorem FI.dlt:∀ {n:Nat}{u v:List Int},Wd q n u→Wd q n v→0≤Dp A M u v∧Dp A M u v<q
 | _,[],_,_,_=>⟨Int.le_refl 0,F.z⟩
 | _,_::_,[],_,_=>⟨Int.le_refl 0,F.z⟩
 | 0,x::u,y::v,hu,_=>by have:=hu.1;simp at this
 | n+1,x::u,y::v,hu,hv=>by
  obtain ⟨x0,x1⟩:=hu.2 x (.head _)
  obtain ⟨y0,y1⟩:=hv.2 y (.head _)
  obtain ⟨m0,m1⟩:=F.ml x y x0 x1 y0 y1
  obtain ⟨d0,d1⟩:=FI.dlt (n:=n) (u:=u) (v:=v) ⟨by simpa using hu.1,fun z hz=>hu.2 z (.tail _ hz)⟩ ⟨by simpa using hv.1,fun z hz=>hv.2 z (.tail _ hz)⟩
  exact F.al _ _ m0 m1 d0 d1
theorem FI.dcomm:∀ {n:Nat}{u v:List Int},Wd q n u→Wd q n v→Dp A M u v=Dp A M v u
 | _,[],[],_,_=>rfl
 | _,[],_::_,_,_=>rfl
 | _,_::_,[],_,_=>rfl
 | 0,x::u,y::v,hu,_=>by have:=hu.1;simp at this
 | n+1,x::u,y::v,hu,hv=>by
  obtain ⟨x0,x1⟩:=hu.2 x (.head _)
  obtain ⟨y0,y1⟩:=hv.2 y (.head _)
  rw [Dp,Dp,F.mc x y x0 x1 y0 y1,FI.dcomm (n:=n) (u:=u) (v:=v) ⟨by simpa using hu.1,fun z hz=>hu.2 z (.tail _ hz)⟩ ⟨by simpa using hv.1,fun z hz=>hv.2 z (.tail _ hz)⟩]
theorem FI.swap4 {a b c d:Int}(a0:0≤a) (a1:a<q) (b0:0≤b) (b1:b<q) (c0:0≤c) (c1:c<q) (d0:0≤d) (d1:d<q):A (A a b) (A c d)=A (A a c) (A b d):=by
 obtain ⟨e0,e1⟩:=F.al c d c0 c1 d0 d1
 obtain ⟨f0,f1⟩:=F.al b d b0 b1 d0 d1
 rw [F.aa a b _ a0 a1 b0 b1 e0 e1,← F.aa b c d b0 b1 c0 c1 d0 d1,F.ac b c b0 b1 c0 c1,F.aa c b d c0 c1 b0 b1 d0 d1,← F.aa a c _ a0 a1 c0 c1 f0 f1]
theorem FI.axw {n:Nat}{a:Int}(a0:0≤a) (a1:a<q) {r u:List Int}(hr:Wd q n r) (hu:Wd q n u):Wd q n (Eo A M a r u):=by
 refine ⟨by rw [Eo,List.length_zipWith,hr.1,hu.1];omega,fun x hx=>?_⟩
 obtain ⟨i,hi⟩:=List.getElem?_of_mem hx
 rw [Eo,List.getElem?_zipWith] at hi
 cases h1:u[i]? with
 | none=>rw [h1] at hi;simp at hi
 | some y =>
  cases h2:r[i]? with
  | none=>rw [h1,h2] at hi;simp at hi
  | some z =>
   rw [h1,h2] at hi
   simp at hi
   subst hi
   obtain ⟨y0,y1⟩:=hu.2 y (List.mem_of_getElem? h1)
   obtain ⟨z0,z1⟩:=hr.2 z (List.mem_of_getElem? h2)
   obtain ⟨m0,m1⟩:=F.ml a z a0 a1 z0 z1
   exact F.al _ _ y0 y1 m0 m1
theorem FI.daxp {a:Int}(a0:0≤a) (a1:a<q):∀ {n:Nat}{d r u:List Int},Wd q n d→Wd q n r→Wd q n u→Dp A M d (Eo A M a r u)=A (Dp A M d u) (M a (Dp A M d r))
 | 0,d,r,u,hd,hr,hu=>by
  have e1:=List.length_eq_zero_iff.1 hd.1
  subst e1
  show (0:Int)=A 0 (M a 0)
  rw [F.m0 a0 a1,F.a0 0 (Int.le_refl 0) F.z]
 | n+1,[],_,_,hd,_,_=>by have:=hd.1;simp at this
 | n+1,_::_,[],_,_,hr,_=>by have:=hr.1;simp at this
 | n+1,_::_,_::_,[],_,_,hu=>by have:=hu.1;simp at this
 | n+1,x::d,y::r,z::u,hd,hr,hu=>by
  have hd':Wd q n d:=⟨by simpa using hd.1,fun w hw=>hd.2 w (.tail _ hw)⟩
  have hr':Wd q n r:=⟨by simpa using hr.1,fun w hw=>hr.2 w (.tail _ hw)⟩
  have hu':Wd q n u:=⟨by simpa using hu.1,fun w hw=>hu.2 w (.tail _ hw)⟩
  obtain ⟨x0,x1⟩:=hd.2 x (.head _)
  obtain ⟨y0,y1⟩:=hr.2 y (.head _)
  obtain ⟨z0,z1⟩:=hu.2 z (.head _)
  have ih:=FI.daxp a0 a1 hd' hr' hu'
  obtain ⟨p0,p1⟩:=F.dlt hd' hu'
  obtain ⟨s0,s1⟩:=F.dlt hd' hr'
  obtain ⟨m0,m1⟩:=F.ml a y a0 a1 y0 y1
  obtain ⟨b0,b1⟩:=F.ml x z x0 x1 z0 z1
  obtain ⟨c0,c1⟩:=F.ml x y x0 x1 y0 y1
  obtain ⟨k0,k1⟩:=F.ml a _ a0 a1 c0 c1
  obtain ⟨l0,l1⟩:=F.ml a _ a0 a1 s0 s1
  show A (M x (A z (M a y))) (Dp A M d (Eo A M a r u))=A (A (M x z) (Dp A M d u)) (M a (A (M x y) (Dp A M d r)))
  have e1:M x (M a y)=M a (M x y):=by rw [← F.ma x a y x0 x1 a0 a1 y0 y1,F.mc x a x0 x1 a0 a1,F.ma a x y a0 a1 x0 x1 y0 y1]
  rw [ih,F.md x z _ x0 x1 z0 z1 m0 m1,e1,F.md a _ _ a0 a1 c0 c1 s0 s1]
  exact F.swap4 b0 b1 k0 k1 p0 p1 l0 l1
end
set_option maxRecDepth 100000
set_option linter.unusedVariables false
set_option linter.unusedSimpArgs false
abbrev zW (n:Nat):List Int:=List.replicate n 0
theorem ALY {q n:Nat}(hq:2≤q):Wd q n (zW n):=⟨by simp,fun x hx=>by rw [(List.mem_replicate.1 hx).2];omega⟩
section
variable {q:Nat}{A M:Int→Int→Int}(F:FI q A M)
include F
theorem FI.dz:∀ {n:Nat}{d:List Int},Wd q n d→Dp A M d (zW n)=0
 | 0,d,h=>by rw [List.length_eq_zero_iff.1 h.1];rfl
 | n+1,[],h=>by have:=h.1;simp at this
 | n+1,x::d,h=>by
  obtain ⟨x0,x1⟩:=h.2 x (.head _)
  show A (M x 0) (Dp A M d (zW n))=0
  rw [F.m0 x0 x1,FI.dz (n:=n) (d:=d) ⟨by simpa using h.1,fun z hz=>h.2 z (.tail _ hz)⟩,F.a0 0 (Int.le_refl 0) F.z]
theorem FI.dz' {n:Nat}{d:List Int}(h:Wd q n d):Dp A M (zW n) d=0:=by rw [F.dcomm (ALY F.q2) h,F.dz h]
omit F in
def R8 (n i:Nat):List Int:=(zW n).set i 1
end
set_option maxRecDepth 100000
set_option linter.unusedVariables false
set_option linter.unusedSimpArgs false
def wt:List Int→Nat
 | []=>0
 | x::u=>(if x=0 then 0 else 1)+wt u
section
variable {q:Nat}{A M:Int→Int→Int}(F:FI q A M)
include F
end
set_option maxRecDepth 100000
set_option linter.unusedVariables false
set_option linter.unusedSimpArgs false
section
variable {q:Nat}{A M:Int→Int→Int}(F:FI q A M)
include F
theorem FI.one:(0:Int)≤1∧(1:Int)<q:=by have:=F.q2;omega
theorem FI.zl {x:Int}(x0:0≤x) (x1:x<q):A 0 x=x:=by
 rw [F.ac 0 x (Int.le_refl 0) F.z x0 x1,F.a0 x x0 x1]
end
set_option maxRecDepth 100000
set_option linter.unusedVariables false
set_option linter.unusedSimpArgs false
section
variable {q:Nat}{A M:Int→Int→Int}(F:FI q A M)
theorem AI0 {n:Nat}{a:Int}{r u:List Int}(hr:Wd q n r) (hu:Wd q n u) {i:Nat}{x:Int}(h:(Eo A M a r u)[i]?=some x):∃ y z,u[i]?=some y∧r[i]?=some z∧x=A y (M a z)∧(0≤y∧y<q)∧0≤z∧z<q:=by
 rw [Eo,List.getElem?_zipWith] at h
 cases h1:u[i]? with
 | none=>rw [h1] at h;simp at h
 | some y =>
  cases h2:r[i]? with
  | none=>rw [h1,h2] at h;simp at h
  | some z =>
   rw [h1,h2] at h
   exact ⟨y,z,rfl,rfl,by simpa using h.symm,hu.2 y (List.mem_of_getElem? h1),hr.2 z (List.mem_of_getElem? h2)⟩
include F
end
set_option maxRecDepth 100000
set_option linter.unusedVariables false
set_option linter.unusedSimpArgs false
structure FO (q:Nat) (A M:Int→Int→Int) (N V:Int→Int):Prop where
 fi:FI q A M
 ng:∀ x:Int,0≤x→x<q→(0≤N x∧N x<q)∧A x (N x)=0
 iv:∀ x:Int,0≤x→x<q→x≠0→(0≤V x∧V x<q)∧M x (V x)=1
abbrev Bf (u:List Int) (c:Nat):Int:=u.getD c 0
abbrev Ar (rows:List (List Int)) (i:Nat):List Int:=rows.getD i []
abbrev en (rows:List (List Int)) (i c:Nat):Int:=Bf (Ar rows i) c
def Ct (M:Int→Int→Int) (a:Int) (v:List Int):List Int:=v.map (M a)
def Cc (rows:List (List Int)) (i k:Nat):List (List Int):=(rows.set i (Ar rows k)).set k (Ar rows i)
def J1 (A M:Int→Int→Int) (N V:Int→Int) (t k c:Nat) (rows:List (List Int)):List (List Int) :=
 (List.range rows.length).map fun i=>if i=t then Ct M (V (en rows k c)) (Ar rows k) else Eo A M (N (en (Cc rows t k) i c)) (Ct M (V (en rows k c)) (Ar rows k)) (Ar (Cc rows t k) i)
def Hr (rows:List (List Int)) (t c:Nat):Option Nat:=(List.range' t (rows.length-t)).find? fun k=>decide (en rows k c≠0)
def Dr (A M:Int→Int→Int) (N V:Int→Int):Nat→Nat→Nat→List (List Int)→List (List Int)×List Nat
 | 0,_,_,rows=>(rows,[])
 | n+1,c,t,rows=>match Hr rows t c with
  | none=>Dr A M N V n (c+1) t rows
  | some k=>let x:=Dr A M N V n (c+1) (t+1) (J1 A M N V t k c rows);(x.1,c::x.2)
theorem Pw {rows:List (List Int)}{t c k:Nat}(h:Hr rows t c=some k):t≤k∧k<rows.length∧en rows k c≠0:=by
 have h1:=List.find?_some h
 have h2:=List.mem_range'_1.1 (List.mem_of_find?_eq_some h)
 exact ⟨h2.1,by omega,by simpa using h1⟩
theorem AEA {rows:List (List Int)}{t c:Nat}(h:Hr rows t c=none):∀ k,t≤k→k<rows.length→en rows k c=0:=fun k h1 h2=>by
 have:=List.find?_eq_none.1 h k (List.mem_range'_1.2 ⟨h1,by omega⟩)
 simpa using this
theorem Hc {A M:Int→Int→Int}{N V:Int→Int}(t k c:Nat) (rows:List (List Int)):(J1 A M N V t k c rows).length=rows.length:=by simp [J1]
theorem Sw {A M:Int→Int→Int}{N V:Int→Int}:∀ (n c t:Nat) (rows:List (List Int)),(Dr A M N V n c t rows).1.length=rows.length
 | 0,_,_,_=>rfl
 | n+1,c,t,rows=>by
  rw [Dr]
  cases h:Hr rows t c with
  | none=>exact Sw n _ _ _
  | some k =>
   show (Dr A M N V n (c+1) (t+1) (J1 A M N V t k c rows)).1.length=_
   rw [Sw n,Hc]
theorem J5 {rows:List (List Int)}{i:Nat}(h:i<rows.length):Ar rows i∈rows:=by
 rw [Ar,List.getD_eq_getElem?_getD,List.getElem?_eq_getElem h];exact List.getElem_mem h
theorem AC2 {rows:List (List Int)}{i j:Nat}{u:List Int}(h:i<rows.length):Ar (rows.set i u) j=if j=i then u else Ar rows j:=by
 rw [Ar,Ar,List.getD_eq_getElem?_getD,List.getD_eq_getElem?_getD,List.getElem?_set]
 by_cases e:i=j
 ·subst e;rw [if_pos rfl,if_pos h,if_pos rfl];rfl
 ·rw [if_neg e,if_neg (fun h=>e h.symm)]
theorem E0 {rows:List (List Int)}{t k:Nat}(ht:t<rows.length) (hk:k<rows.length) (j:Nat):Ar (Cc rows t k) j=if j=k then Ar rows t else if j=t then Ar rows k else Ar rows j:=by
 rw [Cc,AC2 (by rw [List.length_set];exact hk),AC2 ht]
theorem M8 {A M:Int→Int→Int}{N V:Int→Int}{t k c i:Nat}{rows:List (List Int)}(h:i<rows.length):Ar (J1 A M N V t k c rows) i=if i=t then Ct M (V (en rows k c)) (Ar rows k) else Eo A M (N (en (Cc rows t k) i c)) (Ct M (V (en rows k c)) (Ar rows k)) (Ar (Cc rows t k) i):=by
 rw [Ar,J1,List.getD_eq_getElem?_getD,List.getElem?_map,List.getElem?_range h];rfl
section
variable {q:Nat}{A M:Int→Int→Int}{N V:Int→Int}(O:FO q A M N V)
include O
theorem FO.q2:2≤q:=O.fi.q2
omit O in
theorem Bh {n:Nat}(hq:0<q) {u:List Int}(hu:Wd q n u) (i:Nat):0≤Bf u i∧Bf u i<q:=by
 rw [Bf,List.getD_eq_getElem?_getD]
 cases h:u[i]? with
 | none=>exact ⟨Int.le_refl 0,by show (0:Int)<q;omega⟩
 | some x=>exact hu.2 x (List.mem_of_getElem? h)
theorem FO.axp_at {n:Nat}{a:Int}(a0:0≤a) (a1:a<q) {r u:List Int}(hr:Wd q n r) (hu:Wd q n u) (i:Nat):Bf (Eo A M a r u) i=A (Bf u i) (M a (Bf r i)):=by
 have F:=O.fi
 have hw:=F.axw a0 a1 hr hu
 by_cases h:i<n
 ·have h1:(Eo A M a r u)[i]?=some (Bf (Eo A M a r u) i):=by rw [Bf,List.getD_eq_getElem?_getD,List.getElem?_eq_getElem (by rw [hw.1];exact h)];rfl
  obtain ⟨y,z,e1,e2,e3,_,_⟩:=AI0 hr hu h1
  rw [e3,Bf,Bf,List.getD_eq_getElem?_getD,List.getD_eq_getElem?_getD,e1,e2];rfl
 ·rw [Bf,Bf,Bf,List.getD_eq_getElem?_getD,List.getD_eq_getElem?_getD,List.getD_eq_getElem?_getD,List.getElem?_eq_none (by rw [hw.1];omega),List.getElem?_eq_none (by rw [hu.1];omega),List.getElem?_eq_none (by rw [hr.1];omega)]
  show (0:Int)=A 0 (M a 0)
  rw [F.m0 a0 a1,F.a0 0 (Int.le_refl 0) F.z]
theorem FO.scl_wd {n:Nat}{a:Int}(a0:0≤a) (a1:a<q) {v:List Int}(hv:Wd q n v):Wd q n (Ct M a v) :=
 ⟨by rw [Ct,List.length_map,hv.1],fun x hx=>by
  obtain ⟨y,hy,rfl⟩:=List.mem_map.1 hx
  obtain ⟨y0,y1⟩:=hv.2 y hy
  exact O.fi.ml a y a0 a1 y0 y1⟩
theorem FO.scl_at {a:Int}(a0:0≤a) (a1:a<q) (v:List Int) (i:Nat):Bf (Ct M a v) i=M a (Bf v i):=by
 rw [Bf,Bf,Ct,List.getD_eq_getElem?_getD,List.getD_eq_getElem?_getD,List.getElem?_map]
 cases h:v[i]? with
 | none=>exact (O.fi.m0 a0 a1).symm
 | some x=>rfl
theorem FO.scl_dot {a:Int}(a0:0≤a) (a1:a<q):∀ {n:Nat}{x v:List Int},Wd q n x→Wd q n v→Dp A M x (Ct M a v)=M a (Dp A M x v)
 | _,[],_,_,_=>(O.fi.m0 a0 a1).symm
 | _,_::_,[],_,_=>(O.fi.m0 a0 a1).symm
 | n,x::xs,v::vs,hx,hv=>by
  have F:=O.fi
  obtain ⟨k,rfl⟩:∃ k,n=k+1:=⟨n-1,by have:=hx.1;simp at this;omega⟩
  have hx':Wd q k xs:=⟨by have:=hx.1;simpa using this,fun y hy=>hx.2 y (.tail _ hy)⟩
  have hv':Wd q k vs:=⟨by have:=hv.1;simpa using this,fun y hy=>hv.2 y (.tail _ hy)⟩
  obtain ⟨x0,x1⟩:=hx.2 x (.head _)
  obtain ⟨v0,v1⟩:=hv.2 v (.head _)
  obtain ⟨d0,d1⟩:=F.dlt hx' hv'
  obtain ⟨m0,m1⟩:=F.ml x v x0 x1 v0 v1
  show A (M x (M a v)) (Dp A M xs (Ct M a vs))=M a (A (M x v) (Dp A M xs vs))
  rw [FO.scl_dot a0 a1 hx' hv',F.md a _ _ a0 a1 m0 m1 d0 d1,← F.ma x a v x0 x1 a0 a1 v0 v1,F.mc x a x0 x1 a0 a1,F.ma a x v a0 a1 x0 x1 v0 v1]
def Cw (q n:Nat) (rows:List (List Int)):Prop:=∀ r∈rows,Wd q n r
omit O in
theorem Cw.row {n:Nat}{rows:List (List Int)}(h:Cw q n rows) {i:Nat}(hi:i<rows.length):Wd q n (Ar rows i):=h _ (J5 hi)
omit O in
theorem AKW {n:Nat}{rows:List (List Int)}(h:∀ i,i<rows.length→Wd q n (Ar rows i)):Cw q n rows:=fun r hr=>by
 obtain ⟨i,hi,rfl⟩:=List.getElem_of_mem hr
 have:=h i hi
 rwa [Ar,List.getD_eq_getElem?_getD,List.getElem?_eq_getElem hi] at this
omit O in
theorem L0 {n:Nat}{rows:List (List Int)}(h:Cw q n rows) {t k:Nat}(ht:t<rows.length) (hk:k<rows.length) {i:Nat}(hi:i<rows.length):Wd q n (Ar (Cc rows t k) i):=by
 rw [E0 ht hk]
 split
 ·exact h.row ht
 ·split
  ·exact h.row hk
  ·exact h.row hi
theorem FO.piv_wd {n:Nat}{rows:List (List Int)}(h:Cw q n rows) {t k c:Nat}(ht:t<rows.length) (hk:k<rows.length) (h0:en rows k c≠0):Cw q n (J1 A M N V t k c rows):=by
 have hq:=O.q2
 have wk:=h.row hk
 obtain ⟨c0,c1⟩:=Bh (by omega) wk c
 obtain ⟨⟨v0,v1⟩,_⟩:=O.iv _ c0 c1 h0
 have wp:=O.scl_wd v0 v1 wk
 refine AKW fun i hi=>?_
 rw [Hc] at hi
 rw [M8 hi]
 split
 ·exact wp
 ·have ws:=L0 h ht hk hi
  obtain ⟨s0,s1⟩:=Bh (by omega) ws c
  obtain ⟨⟨n0,n1⟩,_⟩:=O.ng _ s0 s1
  exact O.fi.axw n0 n1 wp ws
theorem FO.piv_en {n:Nat}{rows:List (List Int)}(h:Cw q n rows) {t k c:Nat}(ht:t<rows.length) (hk:k<rows.length) (h0:en rows k c≠0) {i:Nat}(hi:i<rows.length) (e:Nat) :
  en (J1 A M N V t k c rows) i e=if i=t then M (V (en rows k c)) (en rows k e) else A (en (Cc rows t k) i e) (M (N (en (Cc rows t k) i c)) (M (V (en rows k c)) (en rows k e))):=by
 have hq:=O.q2
 have wk:=h.row hk
 obtain ⟨c0,c1⟩:=Bh (by omega) wk c
 obtain ⟨⟨v0,v1⟩,_⟩:=O.iv _ c0 c1 h0
 have wp:=O.scl_wd v0 v1 wk
 rw [en,M8 hi]
 split
 ·exact O.scl_at v0 v1 _ e
 ·have ws:=L0 h ht hk hi
  obtain ⟨s0,s1⟩:=Bh (by omega) ws c
  obtain ⟨⟨n0,n1⟩,_⟩:=O.ng _ s0 s1
  rw [O.axp_at n0 n1 wp ws,O.scl_at v0 v1]
def Oy (A M:Int→Int→Int) (rows:List (List Int)) (x:List Int):Prop:=∀ r∈rows,Dp A M x r=0
omit O in
theorem U5 {rows:List (List Int)}{x:List Int}:Oy A M rows x↔∀ i,i<rows.length→Dp A M x (Ar rows i)=0:=by
 constructor
 ·exact fun h i hi=>h _ (J5 hi)
 ·intro h r hr
  obtain ⟨i,hi,rfl⟩:=List.getElem_of_mem hr
  have:=h i hi
  rwa [Ar,List.getD_eq_getElem?_getD,List.getElem?_eq_getElem hi] at this
theorem FO.piv_sol {n:Nat}{rows:List (List Int)}(h:Cw q n rows) {t k c:Nat}(ht:t<rows.length) (hk:k<rows.length) (h0:en rows k c≠0) {x:List Int}(hx:Wd q n x):Oy A M (J1 A M N V t k c rows) x↔Oy A M rows x:=by
 have hq:=O.q2
 have F:=O.fi
 have wk:=h.row hk
 obtain ⟨c0,c1⟩:=Bh (by omega) wk c
 obtain ⟨⟨v0,v1⟩,ev⟩:=O.iv _ c0 c1 h0
 have wp:=O.scl_wd v0 v1 wk
 have vne:V (en rows k c)≠0:=fun e=>by
  rw [e,F.m0 c0 c1] at ev;cases ev
 have dp:=O.scl_dot v0 v1 hx wk
 obtain ⟨d0,d1⟩:=F.dlt hx wk
 rw [U5,U5,Hc]
 constructor
 ·intro hs
  have hkz:Dp A M x (Ar rows k)=0:=by
   have:=hs t ht
   rw [M8 ht,if_pos rfl,dp] at this
   exact (F.nz _ _ v0 v1 d0 d1 this).resolve_left vne
  have hsw:∀ i,i<rows.length→i≠t→Dp A M x (Ar (Cc rows t k) i)=0:=fun i hi hit=>by
   have ws:=L0 h ht hk hi
   obtain ⟨s0,s1⟩:=Bh (by omega) ws c
   obtain ⟨⟨n0,n1⟩,_⟩:=O.ng _ s0 s1
   obtain ⟨e0,e1⟩:=F.dlt hx ws
   have:=hs i hi
   rw [M8 hi,if_neg hit,F.daxp n0 n1 hx wp ws,dp,hkz,F.m0 v0 v1,F.m0 n0 n1,F.a0 _ e0 e1] at this
   exact this
  intro i hi
  by_cases hik:i=k
  ·rw [hik];exact hkz
  ·by_cases hit:i=t
   ·subst hit
    have:=hsw k hk (fun e=>hik e.symm)
    rw [E0 ht hk,if_pos rfl] at this
    exact this
   ·have:=hsw i hi hit
    rw [E0 ht hk,if_neg hik,if_neg hit] at this
    exact this
 ·intro hs i hi
  have hp:Dp A M x (Ct M (V (en rows k c)) (Ar rows k))=0:=by rw [dp,hs k hk,F.m0 v0 v1]
  rw [M8 hi]
  split
  ·exact hp
  ·have ws:=L0 h ht hk hi
   obtain ⟨s0,s1⟩:=Bh (by omega) ws c
   obtain ⟨⟨n0,n1⟩,_⟩:=O.ng _ s0 s1
   have hz:Dp A M x (Ar (Cc rows t k) i)=0:=by
    rw [E0 ht hk]
    by_cases e1:i=k
    ·rw [if_pos e1];exact hs t ht
    ·rw [if_neg e1]
     by_cases e2:i=t
     ·rw [if_pos e2];exact hs k hk
     ·rw [if_neg e2];exact hs i hi
   rw [F.daxp n0 n1 hx wp ws,hp,hz,F.m0 n0 n1,F.a0 0 (Int.le_refl 0) F.z]
structure Ech (rows:List (List Int)) (c:Nat) (piv:List Nat):Prop where
 le:piv.length≤rows.length
 inc:∀ (i j a b:Nat),piv[i]?=some a→piv[j]?=some b→i<j→a<b
 lt:∀ a∈piv,a<c
 one:∀ (i a:Nat),piv[i]?=some a→en rows i a=1
 zer:∀ (i a:Nat),piv[i]?=some a→∀ j,j<rows.length→j≠i→en rows j a=0
 low:∀ (i a:Nat),piv[i]?=some a→∀ e,e<a→en rows i e=0
 bot:∀ i,piv.length≤i→i<rows.length→∀ e,e<c→en rows i e=0
omit O in
theorem AGp (rows:List (List Int)):Ech rows 0 [] where
 le:=Nat.zero_le _
 inc:=fun i j a b h=>by simp at h
 lt:=fun a h=>by cases h
 one:=fun i a h=>by simp at h
 zer:=fun i a h=>by simp at h
 low:=fun i a h=>by simp at h
 bot:=fun i _ _ e he=>by omega
omit O in
theorem AHi {rows:List (List Int)}{c:Nat}{piv:List Nat}(h:Ech rows c piv) (hn:Hr rows piv.length c=none):Ech rows (c+1) piv where
 le:=h.le
 inc:=h.inc
 lt:=fun a ha=>Nat.lt_succ_of_lt (h.lt a ha)
 one:=h.one
 zer:=h.zer
 low:=h.low
 bot:=fun i h1 h2 e he=>by
  rcases Nat.lt_or_eq_of_le (Nat.le_of_lt_succ he) with h3|rfl
  ·exact h.bot i h1 h2 e h3
  ·exact AEA hn i h1 h2
theorem FO.ech_piv {n:Nat}{rows:List (List Int)}(hM:Cw q n rows) {c k:Nat}{piv:List Nat}(h:Ech rows c piv) (hk:Hr rows piv.length c=some k):Ech (J1 A M N V piv.length k c rows) (c+1) (piv++[c]):=by
 have hq:=O.q2
 have F:=O.fi
 obtain ⟨k1,k2,k3⟩:=Pw hk
 have ht:piv.length<rows.length:=by omega
 have wk:=hM.row k2
 obtain ⟨c0,c1⟩:=Bh (by omega) wk c
 obtain ⟨⟨v0,v1⟩,ev⟩:=O.iv _ c0 c1 k3
 have hen:=fun {i:Nat}(hi:i<rows.length) e=>O.piv_en hM ht k2 k3 hi e
 have hlen:=Hc (A:=A) (M:=M) (N:=N) (V:=V) piv.length k c rows
 -- where the pivot row is 0,an entry is that of the rows exchanged
 have same:∀ i e,i<rows.length→i≠piv.length→en rows k e=0→en (J1 A M N V piv.length k c rows) i e=en (Cc rows piv.length k) i e:=fun i e hi hit h0=>by
  have ws:=L0 hM ht k2 hi
  obtain ⟨s0,s1⟩:=Bh (by omega) ws c
  obtain ⟨⟨n0,n1⟩,_⟩:=O.ng _ s0 s1
  obtain ⟨e0,e1⟩:=Bh (by omega) ws e
  rw [hen hi,if_neg hit,h0,F.m0 v0 v1,F.m0 n0 n1,F.a0 _ e0 e1]
 have kz:∀ e,e<c→en rows k e=0:=h.bot k k1 k2
 have kp:∀ (i a:Nat),piv[i]?=some a→en rows k a=0:=fun i a hi=>kz a (h.lt a (List.mem_of_getElem? hi))
 have sw:∀ i e,en (Cc rows piv.length k) i e=if i=k then en rows piv.length e else if i=piv.length then en rows k e else en rows i e:=fun i e=>by
  rw [en,E0 ht k2];split
  ·rfl
  ·split <;> rfl
 have lp:∀ (i a:Nat),piv[i]?=some a→i<piv.length:=fun i a hi=>(List.getElem?_eq_some_iff.1 hi).1
 have cut:∀ (i a:Nat),(piv++[c])[i]?=some a→piv[i]?=some a∨i=piv.length∧a=c:=fun i a hi=>by
  rw [List.getElem?_append] at hi
  split at hi
  ·exact .inl hi
  ·rename_i hl
   have:i-piv.length=0:=by
    rcases Nat.eq_zero_or_pos (i-piv.length) with h|h
    ·exact h
    ·rw [List.getElem?_eq_none (by simp;omega)] at hi;cases hi
   rw [this] at hi
   exact .inr ⟨by omega,by simpa using hi.symm⟩
 refine ⟨by rw [hlen,List.length_append,List.length_singleton];omega,fun i j a b hi hj hij=>?_,fun a ha=>?_,fun i a hi=>?_,fun i a hi j hj hji=>?_,fun i a hi e he=>?_,fun i h1 h2 e he=>?_⟩
 ·rcases cut i a hi with h1|⟨e1,e2⟩
  ·rcases cut j b hj with h2|⟨e3,e4⟩
   ·exact h.inc i j a b h1 h2 hij
   ·rw [e4];exact h.lt a (List.mem_of_getElem? h1)
  ·rcases cut j b hj with h2|⟨e3,e4⟩
   ·have:=lp j b h2;omega
   ·omega
 ·rcases List.mem_append.1 ha with ha|ha
  ·exact Nat.lt_succ_of_lt (h.lt a ha)
  ·rw [List.mem_singleton.1 ha];omega
 ·rcases cut i a hi with hi|⟨rfl,rfl⟩
  ·have:=lp i a hi
   rw [same i a (by omega) (by omega) (kp i a hi),sw,if_neg (by omega),if_neg (by omega)]
   exact h.one i a hi
  ·rw [hen ht,if_pos rfl,F.mc _ _ v0 v1 c0 c1];exact ev
 ·rw [hlen] at hj
  rcases cut i a hi with hi|⟨rfl,rfl⟩
  ·have:=lp i a hi
   by_cases hjt:j=piv.length
   ·rw [hen hj,if_pos hjt,kp i a hi,F.m0 v0 v1]
   ·rw [same j a hj hjt (kp i a hi),sw]
    split
    ·exact h.zer i a hi _ ht (by omega)
    ·first|exact h.zer i a hi j hj hji|(rw [if_neg hjt];exact h.zer i a hi j hj hji)
  ·have ws:=L0 hM ht k2 hj
   obtain ⟨s0,s1⟩:=Bh (by omega) ws a
   obtain ⟨⟨n0,n1⟩,en0⟩:=O.ng _ s0 s1
   rw [hen hj,if_neg hji,F.mc _ _ v0 v1 c0 c1,ev,F.m1 _ n0 n1]
   exact en0
 ·rcases cut i a hi with hi|⟨rfl,rfl⟩
  ·have:=lp i a hi
   rw [same i e (by omega) (by omega) (kz e (by have:=h.lt a (List.mem_of_getElem? hi);omega)),sw,if_neg (by omega),if_neg (by omega)]
   exact h.low i a hi e he
  ·rw [hen ht,if_pos rfl,kz e he,F.m0 v0 v1]
 ·rw [List.length_append,List.length_singleton] at h1
  rw [hlen] at h2
  rcases Nat.lt_or_eq_of_le (Nat.le_of_lt_succ he) with h3|rfl
  ·rw [same i e h2 (by omega) (kz e h3),sw]
   split
   ·exact h.bot _ (Nat.le_refl _) ht e h3
   ·first|exact h.bot i (by omega) h2 e h3|(rw [if_neg (by omega)];exact h.bot i (by omega) h2 e h3)
  ·have ws:=L0 hM ht k2 h2
   obtain ⟨s0,s1⟩:=Bh (by omega) ws e
   obtain ⟨⟨n0,n1⟩,en0⟩:=O.ng _ s0 s1
   rw [hen h2,if_neg (by omega),F.mc _ _ v0 v1 c0 c1,ev,F.m1 _ n0 n1]
   exact en0
theorem FO.elim_all {n:Nat}:∀ (m c:Nat) {rows:List (List Int)}{piv:List Nat},Cw q n rows→Ech rows c piv →
  Cw q n (Dr A M N V m c piv.length rows).1∧Ech (Dr A M N V m c piv.length rows).1 (c+m) (piv++(Dr A M N V m c piv.length rows).2)∧∀ x,Wd q n x→(Oy A M (Dr A M N V m c piv.length rows).1 x↔Oy A M rows x)
 | 0,c,rows,piv,hM,h=>⟨hM,by rw [Dr,List.append_nil];exact h,fun x _=>Iff.rfl⟩
 | m+1,c,rows,piv,hM,h=>by
  rw [Dr]
  cases hf:Hr rows piv.length c with
  | none =>
   have:=FO.elim_all m (c+1) hM (AHi h hf)
   rw [show c+1+m=c+(m+1) by omega] at this
   exact this
  | some k =>
   obtain ⟨k1,k2,k3⟩:=Pw hf
   have ih:=FO.elim_all m (c+1) (O.piv_wd hM (show piv.length<rows.length by omega) k2 k3) (O.ech_piv hM h hf)
   rw [List.length_append,List.length_singleton,show c+1+m=c+(m+1) by omega,List.append_assoc] at ih
   exact ⟨ih.1,ih.2.1,fun x hx=>(ih.2.2 x hx).trans (O.piv_sol hM (by omega) k2 k3 hx)⟩
theorem FO.elim {n m:Nat}{rows:List (List Int)}(hM:Cw q n rows) :
  Cw q n (Dr A M N V m 0 0 rows).1∧Ech (Dr A M N V m 0 0 rows).1 m (Dr A M N V m 0 0 rows).2∧∀ x,Wd q n x→(Oy A M (Dr A M N V m 0 0 rows).1 x↔Oy A M rows x):=by
 have:=O.elim_all m 0 hM (AGp rows)
 rw [Nat.zero_add,List.nil_append] at this
 exact this
end
set_option maxRecDepth 100000
set_option linter.unusedVariables false
set_option linter.unusedSimpArgs false
section
variable {q:Nat}{A M:Int→Int→Int}{N V:Int→Int}(O:FO q A M N V)
include O
theorem FO.n0:N 0=0:=by
 have F:=O.fi
 obtain ⟨⟨h0,h1⟩,e⟩:=O.ng 0 (Int.le_refl 0) F.z
 rwa [F.zl h0 h1] at e
omit O in
theorem P5 {n:Nat}{x:Int}{u:List Int}(h:Wd q (n+1) (x::u)):(0≤x∧x<q)∧Wd q n u :=
 ⟨h.2 x (.head _),by simpa using h.1,fun y hy=>h.2 y (.tail _ hy)⟩
theorem FO.dot_zero:∀ {n:Nat}{x r:List Int},Wd q n x→Wd q n r→(∀ e,M (Bf x e) (Bf r e)=0)→Dp A M x r=0
 | 0,x,r,hx,_,_=>by rw [List.length_eq_zero_iff.1 hx.1];rfl
 | n+1,[],_,hx,_,_=>rfl
 | n+1,_::_,[],_,hr,_=>rfl
 | n+1,x::u,r::v,hx,hr,h=>by
  have h0:M x r=0:=h 0
  show A (M x r) (Dp A M u v)=0
  rw [h0,FO.dot_zero (P5 hx).2 (P5 hr).2 fun e=>h (e+1),O.fi.a0 0 (Int.le_refl 0) O.fi.z]
theorem FO.dot_one:∀ {n:Nat}{x r:List Int},Wd q n x→Wd q n r→∀ c,(∀ e,e≠c→M (Bf x e) (Bf r e)=0)→Dp A M x r=M (Bf x c) (Bf r c)
 | 0,x,r,hx,hr,c,_=>by
  have F:=O.fi
  rw [List.length_eq_zero_iff.1 hx.1,List.length_eq_zero_iff.1 hr.1]
  exact (F.m0 (Int.le_refl 0) F.z).symm
 | n+1,[],_,hx,_,_,_=>by have:=hx.1;simp at this
 | n+1,_::_,[],_,hr,_,_=>by have:=hr.1;simp at this
 | n+1,x::u,r::v,hx,hr,c,h=>by
  have F:=O.fi
  obtain ⟨⟨x0,x1⟩,hu⟩:=P5 hx
  obtain ⟨⟨r0,r1⟩,hv⟩:=P5 hr
  obtain ⟨m0,m1⟩:=F.ml x r x0 x1 r0 r1
  show A (M x r) (Dp A M u v)=M (Bf (x::u) c) (Bf (r::v) c)
  cases c with
  | zero =>
   rw [O.dot_zero hu hv fun e=>h (e+1) (by omega),F.a0 _ m0 m1];rfl
  | succ c =>
   have h0:M x r=0:=h 0 (by omega)
   obtain ⟨d0,d1⟩:=F.dlt hu hv
   rw [h0,F.zl d0 d1,FO.dot_one hu hv c fun e he=>h (e+1) (by omega)];rfl
theorem FO.dot_two:∀ {n:Nat}{x r:List Int},Wd q n x→Wd q n r→∀ c d,c≠d→(∀ e,e≠c→e≠d→M (Bf x e) (Bf r e)=0)→Dp A M x r=A (M (Bf x c) (Bf r c)) (M (Bf x d) (Bf r d))
 | 0,x,r,hx,hr,c,d,_,_=>by
  have F:=O.fi
  rw [List.length_eq_zero_iff.1 hx.1,List.length_eq_zero_iff.1 hr.1]
  show 0=A (M 0 0) (M 0 0)
  rw [F.m0 (Int.le_refl 0) F.z,F.a0 0 (Int.le_refl 0) F.z]
 | n+1,[],_,hx,_,_,_,_,_=>by have:=hx.1;simp at this
 | n+1,_::_,[],_,hr,_,_,_,_=>by have:=hr.1;simp at this
 | n+1,x::u,r::v,hx,hr,c,d,hcd,h=>by
  have F:=O.fi
  obtain ⟨⟨x0,x1⟩,hu⟩:=P5 hx
  obtain ⟨⟨r0,r1⟩,hv⟩:=P5 hr
  obtain ⟨m0,m1⟩:=F.ml x r x0 x1 r0 r1
  show A (M x r) (Dp A M u v)=A (M (Bf (x::u) c) (Bf (r::v) c)) (M (Bf (x::u) d) (Bf (r::v) d))
  cases c with
  | zero =>
   obtain ⟨d,rfl⟩:∃ k,d=k+1:=⟨d-1,by omega⟩
   rw [O.dot_one hu hv d fun e he=>h (e+1) (by omega) (by omega)];rfl
  | succ c =>
   cases d with
   | zero =>
    have hq:=O.q2
    obtain ⟨a0,a1⟩:=Bh (by omega) hu c
    obtain ⟨b0,b1⟩:=Bh (by omega) hv c
    obtain ⟨e0,e1⟩:=F.ml _ _ a0 a1 b0 b1
    rw [O.dot_one hu hv c fun e he=>h (e+1) (by omega) (by omega),F.ac _ _ m0 m1 e0 e1];rfl
   | succ d =>
    have h0:M x r=0:=h 0 (by omega) (by omega)
    obtain ⟨d0,d1⟩:=F.dlt hu hv
    rw [h0,F.zl d0 d1,FO.dot_two hu hv c d (by omega) fun e h1 h2=>h (e+1) (by omega) (by omega)];rfl
theorem FO.dot_axp_l {n:Nat}{a:Int}(a0:0≤a) (a1:a<q) {r u d:List Int}(hr:Wd q n r) (hu:Wd q n u) (hd:Wd q n d):Dp A M (Eo A M a r u) d=A (Dp A M u d) (M a (Dp A M r d)):=by
 have F:=O.fi
 rw [F.dcomm (F.axw a0 a1 hr hu) hd,F.daxp a0 a1 hd hr hu,F.dcomm hd hu,F.dcomm hd hr]
structure Red (q n:Nat) (R:List (List Int)) (P:List Nat):Prop where
 mat:Cw q n R
 ech:Ech R n P
omit O in
theorem Red.idx {n:Nat}{R:List (List Int)}{P:List Nat}(h:Red q n R P) {i a:Nat}(hi:P[i]?=some a):P.idxOf a=i:=by
 have hm:=List.mem_of_getElem? hi
 have hl:P.idxOf a<P.length:=List.idxOf_lt_length_iff.2 hm
 have h1:P[P.idxOf a]?=some a:=by rw [List.getElem?_eq_getElem hl,List.getElem_idxOf hl]
 rcases Nat.lt_trichotomy (P.idxOf a) i with h2|h2|h2
 ·have:=h.ech.inc _ _ a a h1 hi h2;omega
 ·exact h2
 ·have:=h.ech.inc _ _ a a hi h1 h2;omega
omit O in
theorem Red.at_idx {n:Nat}{R:List (List Int)}{P:List Nat}(h:Red q n R P) {a:Nat}(hm:a∈P):P.idxOf a<P.length∧P[P.idxOf a]?=some a:=by
 have hl:P.idxOf a<P.length:=List.idxOf_lt_length_iff.2 hm
 exact ⟨hl,by rw [List.getElem?_eq_getElem hl,List.getElem_idxOf hl]⟩
omit O in
theorem Uc {n:Nat}{u:List Int}(h:Wd q n u) {e:Nat}(he:n≤e):Bf u e=0:=by
 rw [Bf,List.getD_eq_getElem?_getD,List.getElem?_eq_none (by rw [h.1];exact he)];rfl
omit O in
theorem Red.null_row {n:Nat}{R:List (List Int)}{P:List Nat}(h:Red q n R P) {i:Nat}(h1:P.length≤i) (h2:i<R.length) (e:Nat):en R i e=0:=by
 by_cases he:e<n
 ·exact h.ech.bot i h1 h2 e he
 ·exact Uc (h.mat.row h2) (by omega)
theorem FO.lead {n:Nat}{R:List (List Int)}{P:List Nat}(h:Red q n R P) {c:Nat}(hc:c∈P) {x:List Int}(hx:Wd q n x) (hs:Oy A M R x) (h0:∀ e,c<e→Bf x e=0):Bf x c=0:=by
 have F:=O.fi
 have hq:=O.q2
 obtain ⟨i,hi⟩:=List.getElem?_of_mem hc
 have hil:i<R.length:=Nat.lt_of_lt_of_le (List.getElem?_eq_some_iff.1 hi).1 h.ech.le
 have hr:=h.mat.row hil
 have h1:=hs _ (J5 hil)
 obtain ⟨x0,x1⟩:=Bh (by omega) hx c
 rw [O.dot_one hx hr c fun e he=>?_,show Bf (Ar R i) c=1 from h.ech.one i c hi,F.m1 _ x0 x1] at h1
 ·exact h1
 ·rcases Nat.lt_or_gt_of_ne he with h2|h2
  ·obtain ⟨e0,e1⟩:=Bh (by omega) hx e
   rw [show Bf (Ar R i) e=0 from h.ech.low i c hi e h2,F.m0 e0 e1]
  ·obtain ⟨e0,e1⟩:=Bh (by omega) hr e
   rw [h0 e h2,F.mc 0 _ (Int.le_refl 0) F.z e0 e1,F.m0 e0 e1]
def Jf (N:Int→Int) (n:Nat) (R:List (List Int)) (P:List Nat) (c:Nat):List Int:=(List.range n).map fun e=>if e=c then 1 else if e∈P then N (en R (P.idxOf e) c) else 0
omit O in
theorem G8 {n:Nat}{R:List (List Int)}{P:List Nat}{c e:Nat}(he:e<n):Bf (Jf N n R P c) e=if e=c then 1 else if e∈P then N (en R (P.idxOf e) c) else 0:=by
 rw [Bf,Jf,List.getD_eq_getElem?_getD,List.getElem?_map,List.getElem?_range he];rfl
theorem FO.null_wd {n:Nat}{R:List (List Int)}{P:List Nat}(h:Red q n R P) (c:Nat):Wd q n (Jf N n R P c):=by
 have hq:=O.q2
 refine ⟨by simp [Jf],fun x hx=>?_⟩
 obtain ⟨e,_,rfl⟩:=List.mem_map.1 hx
 split
 ·omega
 ·split
  ·rename_i hm
   obtain ⟨hl,_⟩:=h.at_idx hm
   obtain ⟨x0,x1⟩:=Bh (by omega) (h.mat.row (Nat.lt_of_lt_of_le hl h.ech.le)) c
   exact (O.ng _ x0 x1).1
  ·omega
theorem FO.null_sol {n:Nat}{R:List (List Int)}{P:List Nat}(h:Red q n R P) {c:Nat}(hc:c<n) (hn:c∉P):Oy A M R (Jf N n R P c):=by
 have F:=O.fi
 have hq:=O.q2
 have hw:=O.null_wd h c
 rw [U5]
 intro i hi
 have hr:=h.mat.row hi
 rcases Nat.lt_or_ge i P.length with h1|h1
 ·have hp:P[i]?=some P[i]:=List.getElem?_eq_getElem h1
  generalize P[i]=p at hp
  have hpn:p<n:=h.ech.lt p (List.mem_of_getElem? hp)
  have hpc:c≠p:=fun e=>hn (e▸List.mem_of_getElem? hp)
  rw [O.dot_two hw hr c p hpc fun e he1 he2=>?_]
  ·have e1:Bf (Ar R i) p=1:=h.ech.one i p hp
   obtain ⟨x0,x1⟩:=Bh (by omega) hr c
   obtain ⟨⟨n0,n1⟩,en0⟩:=O.ng _ x0 x1
   rw [G8 hc,if_pos rfl,G8 hpn,if_neg (fun e=>hpc e.symm),if_pos (List.mem_of_getElem? hp),h.idx hp,e1,F.mc 1 _ (by omega) (by omega) x0 x1,F.m1 _ x0 x1]
   show A (Bf (Ar R i) c) (M (N (Bf (Ar R i) c)) 1)=0
   rw [F.m1 _ n0 n1,en0]
  ·obtain ⟨y0,y1⟩:=Bh (by omega) hw e
   obtain ⟨z0,z1⟩:=Bh (by omega) hr e
   by_cases hen:e<n
   ·by_cases hm:e∈P
    ·obtain ⟨j,hj⟩:=List.getElem?_of_mem hm
     have hji:i≠j:=fun e9=>by
      subst e9
      exact he2 (Option.some.inj (hj.symm.trans hp))
     rw [show Bf (Ar R i) e=0 from h.ech.zer j e hj i hi hji,F.m0 y0 y1]
    ·rw [G8 hen,if_neg he1,if_neg hm,F.mc 0 _ (Int.le_refl 0) F.z z0 z1,F.m0 z0 z1]
   ·rw [Uc hr (by omega),F.m0 y0 y1]
 ·refine O.dot_zero hw hr fun e=>?_
  obtain ⟨y0,y1⟩:=Bh (by omega) hw e
  rw [show Bf (Ar R i) e=0 from h.null_row h1 hi e,F.m0 y0 y1]
theorem FO.null_top {n:Nat}{R:List (List Int)}{P:List Nat}(h:Red q n R P) {c e:Nat}(he:c<e):Bf (Jf N n R P c) e=0:=by
 by_cases hen:e<n
 ·rw [G8 hen,if_neg (by omega)]
  split
  ·rename_i hm
   obtain ⟨_,h1⟩:=h.at_idx hm
   rw [h.ech.low _ e h1 c he,O.n0]
  ·rfl
 ·exact Uc (O.null_wd h c) (by omega)
theorem FO.piv_sub {n:Nat}{R R':List (List Int)}{P P':List Nat}(h:Red q n R P) (h':Red q n R' P') (hs:∀ x,Wd q n x→Oy A M R' x→Oy A M R x):∀ c∈P,c∈P':=fun c hc=>by
 refine Classical.byContradiction fun hn=>?_
 have hcn:=h.ech.lt c hc
 have h1:=O.lead h hc (O.null_wd h' c) (hs _ (O.null_wd h' c) (O.null_sol h' hcn hn)) fun e he=>O.null_top h' he
 rw [G8 hcn,if_pos rfl] at h1
 cases h1
omit O in
theorem Wv:∀ {l l':List Nat},l.Nodup→(∀ x∈l,x∈l')→l.length≤l'.length
 | [],_,_,_=>Nat.zero_le _
 | a::l,l',hn,hs=>by
  obtain ⟨h1,h2⟩:=List.nodup_cons.1 hn
  have ha:=hs a (.head _)
  have hle:=List.length_erase_of_mem ha
  have hpos:=List.length_pos_of_mem ha
  have:=Wv (l:=l) (l':=l'.erase a) h2 fun y hy=>(List.mem_erase_of_ne (fun (e:y=a)=>h1 (e▸hy))).2 (hs y (.tail _ hy))
  rw [List.length_cons];omega
omit O in
theorem Red.nd {n:Nat}{R:List (List Int)}{P:List Nat}(h:Red q n R P):P.Nodup:=by
 rw [List.Nodup,List.pairwise_iff_getElem]
 intro i j hi hj hij e
 have:=h.ech.inc i j P[i] P[j] (List.getElem?_eq_getElem hi) (List.getElem?_eq_getElem hj) hij
 omega
omit O in
theorem Red.piv_le {n:Nat}{R:List (List Int)}{P:List Nat}(h:Red q n R P):P.length≤n:=by
 have h1:∀ x∈P,x∈List.range n:=fun x hx=>List.mem_range.2 (h.ech.lt x hx)
 have h4:=Wv h.nd h1
 rwa [List.length_range] at h4
theorem FO.null_all {n:Nat}{R:List (List Int)}{P:List Nat}(h:Red q n R P) {z:List Int}(hz:Wd q n z) (hn:∀ c,c<n→c∉P→Dp A M (Jf N n R P c) z=0):∀ b x,Wd q n x→Oy A M R x→(∀ e,b≤e→Bf x e=0)→Dp A M x z=0
 | 0,x,hx,_,h0=>O.dot_zero hx hz fun e=>by
  have hq:=O.q2
  obtain ⟨z0,z1⟩:=Bh (by omega) hz e
  rw [h0 e (Nat.zero_le _),O.fi.mc 0 _ (Int.le_refl 0) O.fi.z z0 z1,O.fi.m0 z0 z1]
 | b+1,x,hx,hS,h0=>by
  have F:=O.fi
  have hq:=O.q2
  by_cases hb:Bf x b=0
  ·exact FO.null_all h hz hn b x hx hS fun e he=>by
    rcases Nat.lt_or_eq_of_le he with h1|rfl
    ·exact h0 e h1
    ·exact hb
  ·have hbn:b<n:=Nat.lt_of_not_le fun hl=>hb (Uc hx hl)
   have hbP:b∉P:=fun hm=>hb (O.lead h hm hx hS fun e he=>h0 e he)
   have hy:=O.null_wd h b
   have hyS:=O.null_sol h hbn hbP
   obtain ⟨x0,x1⟩:=Bh (by omega) hx b
   obtain ⟨⟨n0,n1⟩,en0⟩:=O.ng _ x0 x1
   have hw:=F.axw n0 n1 hy hx
   have h1:=FO.null_all h hz hn b (Eo A M (N (Bf x b)) (Jf N n R P b) x) hw (fun r hr=>by
    rw [O.dot_axp_l n0 n1 hy hx (h.mat r hr),hS r hr,hyS r hr,F.m0 n0 n1,F.a0 0 (Int.le_refl 0) F.z]) (fun e he=>by
    rw [O.axp_at n0 n1 hy hx]
    rcases Nat.lt_or_eq_of_le he with h1|rfl
    ·rw [h0 e h1,O.null_top h h1,F.m0 n0 n1,F.a0 0 (Int.le_refl 0) F.z]
    ·rw [G8 hbn,if_pos rfl,F.m1 _ n0 n1,en0])
   obtain ⟨d0,d1⟩:=F.dlt hx hz
   rw [O.dot_axp_l n0 n1 hy hx hz,hn b hbn hbP,F.m0 n0 n1,F.a0 _ d0 d1] at h1
   exact h1
end
set_option maxRecDepth 100000
set_option linter.unusedVariables false
set_option linter.unusedSimpArgs false
abbrev Ft (rows:List (List Int)) (j:Nat):List Int:=rows.map fun r=>Bf r j
def P4 (A M:Int→Int→Int):List Int→List (List Int)→List Int→List Int
 | a::x,r::rows,u=>P4 A M x rows (if a=0 then u else Eo A M a r u)
 | _,_,u=>u
def Yo (A M:Int→Int→Int) (n:Nat) (x:List Int) (rows:List (List Int)):List Int:=P4 A M x rows (zW n)
def Qd (A M:Int→Int→Int) (N V:Int→Int) (n:Nat) (rows:List (List Int)):List (List Int)×List Nat :=
 ((Dr A M N V n 0 0 rows).1.take (Dr A M N V n 0 0 rows).2.length,(Dr A M N V n 0 0 rows).2)
def nvL (N:Int→Int) (n:Nat) (E:List (List Int)×List Nat):List (List Int):=((List.range n).filter fun c=>decide (c∉E.2)).map (Jf N n E.1 E.2)
def nuL (A M:Int→Int→Int) (N V:Int→Int) (n:Nat) (rows:List (List Int)):List (List Int):=(Qd A M N V n (nvL N n (Qd A M N V n rows))).1
theorem L5 (n j:Nat):Bf (zW n) j=0:=by
 rw [Bf,List.getD_eq_getElem?_getD,zW,List.getElem?_replicate];split <;> rfl
theorem Jt {q n:Nat}{rows:List (List Int)}(hq:0<q) (h:Cw q n rows) (j:Nat):Wd q rows.length (Ft rows j) :=
 ⟨by rw [List.length_map],fun x hx=>by
  obtain ⟨r,hr,rfl⟩:=List.mem_map.1 hx
  exact Bh hq (h r hr) j⟩
section
variable {q:Nat}{A M:Int→Int→Int}{N V:Int→Int}(O:FO q A M N V)
include O
theorem FO.wz (n:Nat):Wd q n (zW n):=by
 have:=O.q2
 exact ⟨by rw [List.length_replicate],fun x hx=>by rw [List.eq_of_mem_replicate hx];omega⟩
theorem FO.axp0 {n:Nat}{r u:List Int}(hr:Wd q n r) (hu:Wd q n u):Eo A M 0 r u=u:=by
 have F:=O.fi
 have q2:=F.q2
 refine List.ext_getElem (by rw [Eo,List.length_zipWith,hr.1,hu.1];omega) fun i h1 h2=>?_
 rw [Eo] at h1
 simp only [Eo,List.getElem_zipWith]
 obtain ⟨y0,y1⟩:=hu.2 _ (List.getElem_mem h2)
 obtain ⟨x0,x1⟩:=hr.2 (r[i]'(by rw [hr.1,← hu.1];exact h2)) (List.getElem_mem _)
 rw [F.mc 0 _ (by omega) (by omega) x0 x1,F.m0 x0 x1,F.a0 _ y0 y1]
theorem FO.cmb_step {n:Nat}{a:Int}{r u:List Int}(hr:Wd q n r) (hu:Wd q n u):(if a=0 then u else Eo A M a r u)=Eo A M a r u:=by
 split
 ·rename_i e;rw [e,O.axp0 hr hu]
 ·rfl
theorem FO.cmbF_at {n:Nat}:∀ {x:List Int}{rows:List (List Int)}{u:List Int},(∀ a∈x,0≤a∧a<q)→Cw q n rows→Wd q n u→Wd q n (P4 A M x rows u)∧∀ j,Bf (P4 A M x rows u) j=A (Bf u j) (Dp A M x (Ft rows j))
 | [],_,u,_,_,hu=>⟨by rw [P4];exact hu;· intros;contradiction,fun j=>by
   have hq:=O.q2
   obtain ⟨h0,h1⟩:=Bh (by omega) hu j
   rw [P4]
   ·exact (O.fi.a0 _ h0 h1).symm
   ·intros;contradiction⟩
 | _::_,[],u,_,_,hu=>⟨by rw [P4];exact hu;· intros;contradiction,fun j=>by
   have hq:=O.q2
   obtain ⟨h0,h1⟩:=Bh (by omega) hu j
   rw [P4]
   ·exact (O.fi.a0 _ h0 h1).symm
   ·intros;contradiction⟩
 | a::x,r::rows,u,hx,hM,hu=>by
  have F:=O.fi
  have hq:=O.q2
  have hr:=hM r (.head _)
  have hM':Cw q n rows:=fun r h=>hM r (.tail _ h)
  obtain ⟨a0,a1⟩:=hx a (.head _)
  have hw:=F.axw a0 a1 hr hu
  rw [P4,O.cmb_step hr hu]
  obtain ⟨h1,h2⟩:=FO.cmbF_at (x:=x) (rows:=rows) (fun b hb=>hx b (.tail _ hb)) hM' hw
  refine ⟨h1,fun j=>?_⟩
  rw [h2,O.axp_at a0 a1 hr hu]
  obtain ⟨u0,u1⟩:=Bh (by omega) hu j
  obtain ⟨r0,r1⟩:=Bh (by omega) hr j
  obtain ⟨m0,m1⟩:=F.ml a _ a0 a1 r0 r1
  have hd:0≤Dp A M x (Ft rows j)∧Dp A M x (Ft rows j)<q:=FO.dot_rng x (Ft rows j) (fun b hb=>hx b (.tail _ hb)) (Jt (by omega) hM' j).2
  rw [F.aa _ _ _ u0 u1 m0 m1 hd.1 hd.2]
  rfl
where
 FO.dot_rng:∀ (x y:List Int),(∀ a∈x,0≤a∧a<q)→(∀ a∈y,0≤a∧a<q)→0≤Dp A M x y∧Dp A M x y<q
  | [],_,_,_=>⟨Int.le_refl 0,O.fi.z⟩
  | _::_,[],_,_=>⟨Int.le_refl 0,O.fi.z⟩
  | a::x,b::y,hx,hy=>by
   obtain ⟨a0,a1⟩:=hx a (.head _)
   obtain ⟨b0,b1⟩:=hy b (.head _)
   obtain ⟨m0,m1⟩:=O.fi.ml a b a0 a1 b0 b1
   obtain ⟨d0,d1⟩:=FO.dot_rng x y (fun b hb=>hx b (.tail _ hb)) (fun b hb=>hy b (.tail _ hb))
   exact O.fi.al _ _ m0 m1 d0 d1
theorem FO.cmb_wd {n:Nat}{x:List Int}{rows:List (List Int)}(hx:∀ a∈x,0≤a∧a<q) (hM:Cw q n rows):Wd q n (Yo A M n x rows):=(O.cmbF_at hx hM (O.wz n)).1
theorem FO.cmb_at {n:Nat}{x:List Int}{rows:List (List Int)}(hx:∀ a∈x,0≤a∧a<q) (hM:Cw q n rows) (j:Nat):Bf (Yo A M n x rows) j=Dp A M x (Ft rows j):=by
 have hq:=O.q2
 have h:=(O.cmbF_at hx hM (O.wz n)).2 j
 rw [L5] at h
 rw [Yo,h]
 obtain ⟨d0,d1⟩:=FO.cmbF_at.FO.dot_rng O x (Ft rows j) hx (Jt (by omega) hM j).2
 exact O.fi.zl d0 d1
omit O in
theorem Ech.take {R:List (List Int)}{P:List Nat}{n:Nat}(h:Ech R n P):Ech (R.take P.length) n P where
 le:=by rw [List.length_take];have:=h.le;omega
 inc:=h.inc
 lt:=h.lt
 one:=fun i a hi=>by rw [en_take (List.getElem?_eq_some_iff.1 hi).1];exact h.one i a hi
 zer:=fun i a hi j hj hji=>by
  rw [List.length_take] at hj
  rw [en_take (by omega)];exact h.zer i a hi j (by omega) hji
 low:=fun i a hi e he=>by rw [en_take (List.getElem?_eq_some_iff.1 hi).1];exact h.low i a hi e he
 bot:=fun i h1 h2=>by rw [List.length_take] at h2;omega
where
 en_take {R:List (List Int)}{k i c:Nat}(hi:i<k):en (R.take k) i c=en R i c:=by
  rw [en,en,Ar,Ar,List.getD_eq_getElem?_getD,List.getD_eq_getElem?_getD,List.getElem?_take,if_pos hi]
omit O in
theorem Red.take {n:Nat}{R:List (List Int)}{P:List Nat}(h:Red q n R P):Red q n (R.take P.length) P:=⟨fun r hr=>h.mat r (List.mem_of_mem_take hr),h.ech.take⟩
theorem FO.take_sol {n:Nat}{R:List (List Int)}{P:List Nat}(h:Red q n R P) {x:List Int}(hx:Wd q n x):Oy A M (R.take P.length) x↔Oy A M R x:=by
 constructor
 ·intro hs
  rw [U5]
  intro i hi
  by_cases hp:i<P.length
  ·have:Ar (R.take P.length) i=Ar R i:=by rw [Ar,Ar,List.getD_eq_getElem?_getD,List.getD_eq_getElem?_getD,List.getElem?_take,if_pos hp]
   rw [← this]
   exact U5.1 hs i (by rw [List.length_take];omega)
  ·refine O.dot_zero hx (h.mat.row hi) fun e=>?_
   have hq:=O.q2
   obtain ⟨y0,y1⟩:=Bh (by omega) hx e
   rw [show Bf (Ar R i) e=0 from h.null_row (by omega) hi e,O.fi.m0 y0 y1]
 ·exact fun hs r hr=>hs r (List.mem_of_mem_take hr)
theorem FO.cn {n:Nat}{rows:List (List Int)}(hM:Cw q n rows):Red q n (Qd A M N V n rows).1 (Qd A M N V n rows).2∧∀ x,Wd q n x→(Oy A M (Qd A M N V n rows).1 x↔Oy A M rows x):=by
 obtain ⟨h1,h2,h3⟩:=O.elim (m:=n) hM
 have hr:Red q n (Dr A M N V n 0 0 rows).1 (Dr A M N V n 0 0 rows).2:=⟨h1,h2⟩
 exact ⟨hr.take,fun x hx=>(O.take_sol hr hx).trans (h3 x hx)⟩
theorem FO.cn_len {n:Nat}{rows:List (List Int)}(hM:Cw q n rows):(Qd A M N V n rows).1.length=(Qd A M N V n rows).2.length:=by
 have h:=(O.elim (m:=n) hM).2.1.le
 show (List.take _ _).length=(Dr A M N V n 0 0 rows).2.length
 rw [List.length_take];omega
theorem FO.nv_mat {n:Nat}{E:List (List Int)×List Nat}(h:Red q n E.1 E.2):Cw q n (nvL N n E):=fun r hr=>by
 obtain ⟨c,_,rfl⟩:=List.mem_map.1 hr
 exact O.null_wd h c
theorem FO.nu {n:Nat}{rows:List (List Int)}(hM:Cw q n rows):Cw q n (nuL A M N V n rows)∧∀ z,Wd q n z→(Oy A M (nuL A M N V n rows) z↔∀ x,Wd q n x→Oy A M rows x→Dp A M x z=0):=by
 obtain ⟨h1,h2⟩:=O.cn hM
 obtain ⟨h3,h4⟩:=O.cn (O.nv_mat h1)
 refine ⟨h3.mat,fun z hz=>(h4 z hz).trans ?_⟩
 constructor
 ·intro hs x hx hS
  refine O.null_all h1 hz (fun c hc hn=>?_) n x hx ((h2 x hx).2 hS) fun e he=>Uc hx he
  rw [O.fi.dcomm (O.null_wd h1 c) hz]
  exact hs _ (List.mem_map.2 ⟨c,List.mem_filter.2 ⟨List.mem_range.2 hc,by simpa using hn⟩,rfl⟩)
 ·intro hs r hr
  obtain ⟨c,hc,rfl⟩:=List.mem_map.1 hr
  obtain ⟨hc1,hc2⟩:=List.mem_filter.1 hc
  rw [O.fi.dcomm hz (O.null_wd h1 c)]
  exact hs _ (O.null_wd h1 c) ((h2 _ (O.null_wd h1 c)).1 (O.null_sol h1 (List.mem_range.1 hc1) (by simpa using hc2)))
theorem FO.dot_unit {n j:Nat}(hj:j<n) {r:List Int}(hr:Wd q n r):Wd q n (R8 n j)∧Dp A M (R8 n j) r=Bf r j:=by
 have hq:=O.q2
 have F:=O.fi
 have hu:Wd q n (R8 n j):=⟨by simp [R8,zW],fun x hx=>by
  rcases List.mem_or_eq_of_mem_set hx with h|h
  ·rw [List.eq_of_mem_replicate h];omega
  ·omega⟩
 have hat:∀ e,Bf (R8 n j) e=if e=j then 1 else 0:=fun e=>by
  rw [Bf,R8,List.getD_eq_getElem?_getD,List.getElem?_set,zW,List.length_replicate]
  by_cases h:j=e
  ·subst h;rw [if_pos rfl,if_pos hj,if_pos rfl];rfl
  ·rw [if_neg h,if_neg fun h'=>h h'.symm,List.getElem?_replicate];split <;> rfl
 obtain ⟨r0,r1⟩:=Bh (by omega) hr j
 refine ⟨hu,?_⟩
 rw [O.dot_one hu hr j fun e he=>?_,hat,if_pos rfl,F.mc 1 _ (by omega) (by omega) r0 r1,F.m1 _ r0 r1]
 obtain ⟨e0,e1⟩:=Bh (by omega) hr e
 rw [hat,if_neg he,F.mc 0 _ (Int.le_refl 0) F.z e0 e1,F.m0 e0 e1]
theorem FO.sol_unit {n j:Nat}(hj:j<n) {R:List (List Int)}(hR:Cw q n R):Oy A M R (R8 n j)↔∀ r∈R,Bf r j=0:=by
 constructor
 ·intro h r hr;rw [← (O.dot_unit hj (hR r hr)).2];exact h r hr
 ·intro h r hr;rw [(O.dot_unit hj (hR r hr)).2];exact h r hr
def woL (A M:Int→Int→Int) (N V:Int→Int) (n:Nat) (gen h:List (List Int)):List (List Int):=(nuL A M N V gen.length h).map fun x=>Yo A M n x gen
def wiL (A M:Int→Int→Int) (N V:Int→Int) (n:Nat) (gen h:List (List Int)):List (List Int):=(Qd A M N V n (woL A M N V n gen h)).1
theorem FO.wo_mat {n:Nat}{gen h:List (List Int)}(hG:Cw q n gen) (hh:Cw q gen.length h):Cw q n (woL A M N V n gen h):=fun r hr=>by
 obtain ⟨x,hx,rfl⟩:=List.mem_map.1 hr
 exact O.cmb_wd ((O.nu hh).1 x hx).2 hG
theorem FO.wi {n:Nat}{gen h:List (List Int)}(hG:Cw q n gen) (hh:Cw q gen.length h):Cw q n (wiL A M N V n gen h)∧∀ j,j<n →
  ((∀ r∈wiL A M N V n gen h,Bf r j=0)↔∀ x,Wd q gen.length x→Oy A M h x→Dp A M x (Ft gen j)=0):=by
 have hq:=O.q2
 have hwm:=O.wo_mat hG hh
 obtain ⟨h1,h2⟩:=O.cn hwm
 obtain ⟨h3,h4⟩:=O.nu hh
 refine ⟨h1.mat,fun j hj=>?_⟩
 have hc:=Jt (by omega) hG j
 have hu:Wd q n (R8 n j):=(O.dot_unit hj (O.wz n)).1
 have hs1:=O.sol_unit hj (R:=wiL A M N V n gen h) h1.mat
 rw [← hs1,show Oy A M (wiL A M N V n gen h) (R8 n j)↔Oy A M (woL A M N V n gen h) (R8 n j) from h2 _ hu,O.sol_unit hj hwm,← h4 _ hc]
 constructor
 ·intro hs x hx
  have:=hs _ (List.mem_map.2 ⟨x,hx,rfl⟩)
  rw [O.cmb_at (h3 x hx).2 hG] at this
  rw [O.fi.dcomm hc (h3 x hx)];exact this
 ·intro hs r hr
  obtain ⟨x,hx,rfl⟩:=List.mem_map.1 hr
  rw [O.cmb_at (h3 x hx).2 hG,O.fi.dcomm (h3 x hx) hc]
  exact hs x hx
end
set_option maxRecDepth 100000
set_option linter.unusedVariables false
set_option linter.unusedSimpArgs false
inductive Cmb (q:Nat) (A M:Int→Int→Int) (n:Nat) (rows:List (List Int)):List Int→Prop
 | zero:Cmb q A M n rows (zW n)
 | add {a:Int}{r u:List Int}:r∈rows→0≤a→a<q→Cmb q A M n rows u→Cmb q A M n rows (Eo A M a r u)
section
variable {q:Nat}{A M:Int→Int→Int}{N V:Int→Int}(O:FO q A M N V)
include O
omit O in
theorem Gx {n:Nat}{u v:List Int}(hu:Wd q n u) (hv:Wd q n v) (h:∀ j,j<n→Bf u j=Bf v j):u=v:=by
 refine List.ext_getElem (by rw [hu.1,hv.1]) fun i h1 h2=>?_
 have:=h i (by rw [← hu.1];exact h1)
 rw [Bf,Bf,List.getD_eq_getElem?_getD,List.getD_eq_getElem?_getD,List.getElem?_eq_getElem h1,List.getElem?_eq_getElem h2] at this
 exact this
theorem FO.cmb_mat {n:Nat}{rows:List (List Int)}(hM:Cw q n rows) {u:List Int}(h:Cmb q A M n rows u):Wd q n u:=by
 induction h with
 | zero=>exact O.wz n
 | add hr a0 a1 _ ih=>exact O.fi.axw a0 a1 (hM _ hr) ih
theorem FO.cmb_axp {n:Nat}{rows:List (List Int)}(hM:Cw q n rows) {a:Int}(a0:0≤a) (a1:a<q) {u v:List Int}(hu:Cmb q A M n rows u) (hv:Cmb q A M n rows v):Cmb q A M n rows (Eo A M a u v):=by
 have F:=O.fi
 have hq:=O.q2
 have wv:=O.cmb_mat hM hv
 induction hu with
 | zero =>
  have:Eo A M a (zW n) v=v:=by
   refine Gx (F.axw a0 a1 (O.wz n) wv) wv fun j _=>?_
   obtain ⟨v0,v1⟩:=Bh (by omega) wv j
   rw [O.axp_at a0 a1 (O.wz n) wv,L5,F.m0 a0 a1,F.a0 _ v0 v1]
  rw [this];exact hv
 | @add b r u hr b0 b1 hu ih =>
  have wr:=hM _ hr
  have wu:=O.cmb_mat hM hu
  obtain ⟨m0,m1⟩:=F.ml a b a0 a1 b0 b1
  have w1:=F.axw b0 b1 wr wu
  have w2:=F.axw a0 a1 wu wv
  have e:Eo A M a (Eo A M b r u) v=Eo A M (M a b) r (Eo A M a u v):=by
   refine Gx (F.axw a0 a1 w1 wv) (F.axw m0 m1 wr w2) fun j _=>?_
   rw [O.axp_at a0 a1 w1 wv,O.axp_at b0 b1 wr wu,O.axp_at m0 m1 wr w2,O.axp_at a0 a1 wu wv]
   obtain ⟨v0,v1⟩:=Bh (by omega) wv j
   obtain ⟨u0,u1⟩:=Bh (by omega) wu j
   obtain ⟨r0,r1⟩:=Bh (by omega) wr j
   obtain ⟨c0,c1⟩:=F.ml b _ b0 b1 r0 r1
   obtain ⟨d0,d1⟩:=F.ml a _ a0 a1 u0 u1
   obtain ⟨e0,e1⟩:=F.ml a _ a0 a1 c0 c1
   rw [F.md a _ _ a0 a1 u0 u1 c0 c1,← F.aa _ _ _ v0 v1 d0 d1 e0 e1,F.ma a b _ a0 a1 b0 b1 r0 r1]
  rw [e];exact .add hr m0 m1 ih
theorem FO.cmb_row {n:Nat}{rows:List (List Int)}(hM:Cw q n rows) {r:List Int}(hr:r∈rows):Cmb q A M n rows r:=by
 have hq:=O.q2
 have F:=O.fi
 have:Eo A M 1 r (zW n)=r:=by
  refine Gx (F.axw (by omega) (by omega) (hM _ hr) (O.wz n)) (hM _ hr) fun j _=>?_
  obtain ⟨v0,v1⟩:=Bh (by omega) (hM _ hr) j
  rw [O.axp_at (by omega) (by omega) (hM _ hr) (O.wz n),L5,F.mc 1 _ (by omega) (by omega) v0 v1,F.m1 _ v0 v1,F.zl v0 v1]
 rw [← this];exact .add hr (by omega) (by omega) .zero
theorem FO.cmb_scl {n:Nat}{rows:List (List Int)}(hM:Cw q n rows) {a:Int}(a0:0≤a) (a1:a<q) {u:List Int}(hu:Cmb q A M n rows u):Cmb q A M n rows (Ct M a u):=by
 have hq:=O.q2
 have F:=O.fi
 have wu:=O.cmb_mat hM hu
 have:Eo A M a u (zW n)=Ct M a u:=by
  refine Gx (F.axw a0 a1 wu (O.wz n)) (O.scl_wd a0 a1 wu) fun j _=>?_
  obtain ⟨v0,v1⟩:=Bh (by omega) wu j
  obtain ⟨m0,m1⟩:=F.ml a _ a0 a1 v0 v1
  rw [O.axp_at a0 a1 wu (O.wz n),L5,O.scl_at a0 a1,F.zl m0 m1]
 rw [← this];exact O.cmb_axp hM a0 a1 hu .zero
theorem FO.cmb_trans {n:Nat}{rows rows':List (List Int)}(hM:Cw q n rows) (h:∀ r∈rows',Cmb q A M n rows r) {u:List Int}(hu:Cmb q A M n rows' u):Cmb q A M n rows u:=by
 induction hu with
 | zero=>exact .zero
 | add hr a0 a1 _ ih=>exact O.cmb_axp hM a0 a1 (h _ hr) ih
theorem FO.piv_cmb {n:Nat}{rows:List (List Int)}(h:Cw q n rows) {t k c:Nat}(ht:t<rows.length) (hk:k<rows.length) (h0:en rows k c≠0):∀ r∈J1 A M N V t k c rows,Cmb q A M n rows r:=fun r hr=>by
 have hq:=O.q2
 have wk:=h.row hk
 obtain ⟨c0,c1⟩:=Bh (by omega) wk c
 obtain ⟨⟨v0,v1⟩,_⟩:=O.iv _ c0 c1 h0
 obtain ⟨i,hi,rfl⟩:=List.getElem_of_mem hr
 have hil:i<rows.length:=by rw [Hc] at hi;exact hi
 have e:=M8 (A:=A) (M:=M) (N:=N) (V:=V) (t:=t) (k:=k) (c:=c) hil
 have e2:Ar (J1 A M N V t k c rows) i=(J1 A M N V t k c rows)[i]:=by rw [Ar,List.getD_eq_getElem?_getD,List.getElem?_eq_getElem hi];rfl
 rw [← e2,e]
 have cp:Cmb q A M n rows (Ct M (V (en rows k c)) (Ar rows k)):=O.cmb_scl h v0 v1 (O.cmb_row h (J5 hk))
 split
 ·exact cp
 ·have ws:=L0 h ht hk hil
  obtain ⟨s0,s1⟩:=Bh (by omega) ws c
  obtain ⟨⟨n0,n1⟩,_⟩:=O.ng _ s0 s1
  refine O.cmb_axp h n0 n1 cp (O.cmb_row h ?_)
  rw [E0 ht hk]
  repeat' split
  all_goals first|exact J5 ht|exact J5 hk|exact J5 hil
theorem FO.elim_cmb {n:Nat}:∀ (m c t:Nat) {rows:List (List Int)},t≤rows.length→Cw q n rows→∀ r∈(Dr A M N V m c t rows).1,Cmb q A M n rows r
 | 0,_,_,rows,_,hM,r,hr=>O.cmb_row hM hr
 | m+1,c,t,rows,ht,hM,r,hr=>by
  rw [Dr] at hr
  cases hf:Hr rows t c with
  | none=>rw [hf] at hr;exact FO.elim_cmb m (c+1) t ht hM r hr
  | some k =>
   rw [hf] at hr
   obtain ⟨k1,k2,k3⟩:=Pw hf
   have hM':=O.piv_wd hM (show t<rows.length by omega) k2 k3
   exact O.cmb_trans hM (O.piv_cmb hM (by omega) k2 k3) (FO.elim_cmb m (c+1) (t+1) (by rw [Hc];omega) hM' r hr)
theorem FO.cmb_coef {n:Nat}{rows:List (List Int)}(hM:Cw q n rows) {u:List Int}(h:Cmb q A M n rows u):∃ t,Wd q rows.length t∧∀ e,Bf u e=Dp A M t (Ft rows e):=by
 have hq:=O.q2
 have F:=O.fi
 induction h with
 | zero =>
  refine ⟨zW rows.length,O.wz _,fun e=>?_⟩
  have hc:=Jt (by omega) hM e
  rw [L5,O.dot_zero (O.wz _) hc fun i=>by
   obtain ⟨v0,v1⟩:=Bh (by omega) hc i
   rw [L5,F.mc 0 _ (Int.le_refl 0) F.z v0 v1,F.m0 v0 v1]]
 | @add a r u hr a0 a1 hu ih =>
  obtain ⟨t,ht,he⟩:=ih
  obtain ⟨i,hi,rfl⟩:=List.getElem_of_mem hr
  have hun:=(O.dot_unit hi (O.wz rows.length)).1
  refine ⟨Eo A M a (R8 rows.length i) t,F.axw a0 a1 hun ht,fun e=>?_⟩
  have hc:=Jt (by omega) hM e
  have wr:=hM _ hr
  have wu:=O.cmb_mat hM hu
  rw [O.axp_at a0 a1 wr wu,O.dot_axp_l a0 a1 hun ht hc,(O.dot_unit hi hc).2,he]
  congr 2
  rw [Bf,Bf,List.getD_eq_getElem?_getD,List.getD_eq_getElem?_getD,List.getElem?_map,List.getElem?_eq_getElem hi];rfl
theorem FO.cmbF_ind {n:Nat}{gen:List (List Int)}(hG:Cw q n gen) {P:List Int→Prop}(hP:∀ (a:Int) (r u:List Int),r∈gen→0≤a→a<q→Wd q n u→P u→P (Eo A M a r u)):∀ {x:List Int}{rows:List (List Int)}{u:List Int},(∀ a∈x,0≤a∧a<q)→(∀ r∈rows,r∈gen)→Wd q n u→P u→P (P4 A M x rows u)
 | [],_,u,_,_,_,h=>by rw [P4];exact h;· intros;contradiction
 | _::_,[],u,_,_,_,h=>by rw [P4];exact h;· intros;contradiction
 | a::x,r::rows,u,hx,hr,hu,h=>by
  obtain ⟨a0,a1⟩:=hx a (.head _)
  have hg:=hr r (.head _)
  rw [P4,O.cmb_step (hG r hg) hu]
  exact FO.cmbF_ind hG hP (fun b hb=>hx b (.tail _ hb)) (fun s hs=>hr s (.tail _ hs)) (O.fi.axw a0 a1 (hG r hg) hu) (hP a r u hg a0 a1 hu h)
end
set_option maxRecDepth 100000
set_option linter.unusedVariables false
set_option linter.unusedSimpArgs false
def rsF (A M:Int→Int→Int) (N:Int→Int) (v:List Int):List Nat→List (List Int)→List Int→List Int
 | p::ps,r::rs,out=>rsF A M N v ps rs (Eo A M (N (Bf v p)) r out)
 | _,_,out=>out
def rpF (A M:Int→Int→Int) (N:Int→Int):List Nat→List (List Int)→List Int→List Int
 | p::ps,r::rs,out=>rpF A M N ps rs (Eo A M (N (Bf out p)) r out)
 | _,_,out=>out
section
variable {q:Nat}{A M:Int→Int→Int}{N V:Int→Int}(O:FO q A M N V)
include O
theorem FO.rs_wd {n:Nat}{v:List Int}(hv:Wd q n v):∀ {P:List Nat}{R:List (List Int)}{out:List Int},Cw q n R→Wd q n out→Wd q n (rsF A M N v P R out)
 | [],_,_,_,ho=>ho
 | _::_,[],_,_,ho=>ho
 | p::ps,r::rs,out,hM,ho=>by
  have hq:=O.q2
  obtain ⟨v0,v1⟩:=Bh (by omega) hv p
  obtain ⟨⟨n0,n1⟩,_⟩:=O.ng _ v0 v1
  exact FO.rs_wd hv (P:=ps) (R:=rs) (fun x hx=>hM x (.tail _ hx)) (O.fi.axw n0 n1 (hM r (.head _)) ho)
theorem FO.rp_wd {n:Nat}:∀ {P:List Nat}{R:List (List Int)}{out:List Int},Cw q n R→Wd q n out→Wd q n (rpF A M N P R out)
 | [],_,_,_,ho=>ho
 | _::_,[],_,_,ho=>ho
 | p::ps,r::rs,out,hM,ho=>by
  have hq:=O.q2
  obtain ⟨v0,v1⟩:=Bh (by omega) ho p
  obtain ⟨⟨n0,n1⟩,_⟩:=O.ng _ v0 v1
  exact FO.rp_wd (P:=ps) (R:=rs) (fun x hx=>hM x (.tail _ hx)) (O.fi.axw n0 n1 (hM r (.head _)) ho)
theorem FO.rs_cmb {n:Nat}{G:List (List Int)}(hG:Cw q n G) {v:List Int}(hv:Wd q n v):∀ {P:List Nat}{R:List (List Int)}{out:List Int},(∀ r∈R,r∈G)→Wd q n out→Cmb q A M n G (rsF A M N v P R out)→Cmb q A M n G out
 | [],_,_,_,_,h=>h
 | _::_,[],_,_,_,h=>h
 | p::ps,r::rs,out,hR,ho,h=>by
  have hq:=O.q2
  have F:=O.fi
  obtain ⟨v0,v1⟩:=Bh (by omega) hv p
  obtain ⟨⟨n0,n1⟩,e⟩:=O.ng _ v0 v1
  have hr:=hG r (hR r (.head _))
  have h1:=FO.rs_cmb hG hv (P:=ps) (R:=rs) (fun x hx=>hR x (.tail _ hx)) (F.axw n0 n1 hr ho) h
  have h2:=O.cmb_axp hG v0 v1 (O.cmb_row hG (hR r (.head _))) h1
  have e2:Eo A M (Bf v p) r (Eo A M (N (Bf v p)) r out)=out:=by
   refine Gx (F.axw v0 v1 hr (F.axw n0 n1 hr ho)) ho fun j _=>?_
   obtain ⟨r0,r1⟩:=Bh (by omega) hr j
   obtain ⟨o0,o1⟩:=Bh (by omega) ho j
   obtain ⟨m0,m1⟩:=F.ml _ _ n0 n1 r0 r1
   obtain ⟨k0,k1⟩:=F.ml _ _ v0 v1 r0 r1
   rw [O.axp_at v0 v1 hr (F.axw n0 n1 hr ho),O.axp_at n0 n1 hr ho,F.aa _ _ _ o0 o1 m0 m1 k0 k1,F.mc _ _ n0 n1 r0 r1,F.mc _ _ v0 v1 r0 r1,← F.md _ _ _ r0 r1 n0 n1 v0 v1,F.ac _ _ n0 n1 v0 v1,e,F.m0 r0 r1,F.a0 _ o0 o1]
  rwa [e2] at h2
theorem FO.rs_zero {n:Nat}{G:List (List Int)}(hG:Cw q n G) {v:List Int}{P:List Nat}(hv:Wd q n v) (h:∀ x∈rsF A M N v P G v,x=0):Cmb q A M n G v:=by
 refine O.rs_cmb hG hv (P:=P) (fun r hr=>hr) hv ?_
 have hw:=O.rs_wd hv (P:=P) hG hv
 have:rsF A M N v P G v=zW n:=by
  refine Gx hw (O.wz n) fun j hj=>?_
  rw [L5,Bf,List.getD_eq_getElem?_getD,List.getElem?_eq_getElem (by rw [hw.1];exact hj)]
  exact h _ (List.getElem_mem _)
 rw [this];exact .zero
theorem FO.ng_mul {y z:Int}(y0:0≤y) (y1:y<q) (z0:0≤z) (z1:z<q):N (M y z)=M (N y) z:=by
 have F:=O.fi
 obtain ⟨⟨n0,n1⟩,e⟩:=O.ng y y0 y1
 obtain ⟨m0,m1⟩:=F.ml _ _ y0 y1 z0 z1
 obtain ⟨k0,k1⟩:=F.ml _ _ n0 n1 z0 z1
 obtain ⟨⟨a0,a1⟩,e2⟩:=O.ng _ m0 m1
 have h:A (M y z) (M (N y) z)=0:=by
  rw [F.mc _ _ y0 y1 z0 z1,F.mc _ _ n0 n1 z0 z1,← F.md _ _ _ z0 z1 y0 y1 n0 n1,e,F.m0 z0 z1]
 have h3:A (A (M (N y) z) (M y z)) (N (M y z))=M (N y) z:=by rw [F.aa _ _ _ k0 k1 m0 m1 a0 a1,e2,F.a0 _ k0 k1]
 rw [F.ac _ _ k0 k1 m0 m1,h] at h3
 have hq:=O.q2
 rw [← h3,F.ac 0 _ (Int.le_refl 0) (by omega) a0 a1,F.a0 _ a0 a1]
end
theorem ADm {A M:Int→Int→Int}{N:Int→Int}{p:Nat}{r:List Int}:∀ {ps:List Nat}{rs:List (List Int)}{out:List Int},ps.length=rs.length→rpF A M N (ps++[p]) (rs++[r]) out=Eo A M (N (Bf (rpF A M N ps rs out) p)) r (rpF A M N ps rs out)
 | [],[],_,_=>rfl
 | p'::ps,r'::rs,out,h=>ADm (ps:=ps) (rs:=rs) (Nat.succ.inj h)
set_option maxRecDepth 100000
set_option linter.unusedVariables false
set_option linter.unusedSimpArgs false
section
variable {q:Nat}{A M:Int→Int→Int}{N V:Int→Int}(O:FO q A M N V)
include O
theorem FO.rs_piv {n:Nat}{R:List (List Int)}{P:List Nat}(h:Red q n R P) (hl:R.length=P.length) {v:List Int}(hv:Wd q n v):∀ (k:Nat) (out:List Int),k≤P.length→Wd q n out→(∀ (j a:Nat),j<k→P[j]?=some a→Bf out a=0)→(∀ (j a:Nat),k≤j→P[j]?=some a→Bf out a=Bf v a) →
  ∀ (j a:Nat),P[j]?=some a→Bf (rsF A M N v (P.drop (P.length-(P.length-k))) (R.drop (P.length-(P.length-k))) out) a=0:=by
 have hq:=O.q2
 have F:=O.fi
 intro k
 generalize hd:P.length-k=d
 induction d generalizing k with
 | zero =>
  intro out hk _ h1 _ j a hj
  rw [Nat.sub_zero,List.drop_of_length_le (Nat.le_refl _),List.drop_of_length_le (by omega)]
  exact h1 j a (by have:=(List.getElem?_eq_some_iff.1 hj).1;omega) hj
 | succ d ih =>
  intro out hk ho h1 h2 j a hj
  have hkl:P.length-(d+1)=k:=by omega
  rw [hkl,List.drop_eq_getElem_cons (show k<P.length by omega),List.drop_eq_getElem_cons (show k<R.length by omega),rsF]
  have hp:P[k]?=some P[k]:=List.getElem?_eq_getElem (by omega)
  obtain ⟨v0,v1⟩:=Bh (by omega) hv P[k]
  obtain ⟨⟨n0,n1⟩,e⟩:=O.ng _ v0 v1
  have hr:Wd q n R[k]:=h.mat _ (List.getElem_mem _)
  have hen:∀ a,en R k a=Bf R[k] a:=fun a=>by rw [en,Ar,List.getD_eq_getElem?_getD,List.getElem?_eq_getElem (show k<R.length by omega)];rfl
  have ih':=ih (k+1) (by omega) (Eo A M (N (Bf v P[k])) R[k] out) (by omega) (F.axw n0 n1 hr ho) (fun i b hi hb=>by
   rw [O.axp_at n0 n1 hr ho]
   by_cases hik:i=k
   ·subst hik
    obtain rfl:P[i]=b:=Option.some.inj (hp.symm.trans hb)
    have:=h.ech.one i _ hp
    rw [hen] at this
    rw [this,h2 i _ (Nat.le_refl _) hp,F.m1 _ n0 n1]
    exact e
   ·have hz:=h.ech.zer i b hb k (by omega) (by omega)
    rw [hen] at hz
    obtain ⟨o0,o1⟩:=Bh (by omega) ho b
    rw [hz,F.m0 n0 n1,F.a0 _ o0 o1]
    exact h1 i b (by omega) hb) (fun i b hi hb=>by
   rw [O.axp_at n0 n1 hr ho]
   have hz:=h.ech.zer i b hb k (by omega) (by omega)
   rw [hen] at hz
   obtain ⟨o0,o1⟩:=Bh (by omega) ho b
   rw [hz,F.m0 n0 n1,F.a0 _ o0 o1]
   exact h2 i b (by omega) hb)
  rw [show P.length-d=k+1 by omega] at ih'
  exact ih' j a hj
end
set_option maxRecDepth 100000
set_option linter.unusedVariables false
set_option linter.unusedSimpArgs false
theorem Yt:∀ {l l':List Nat},l.Pairwise (·<·)→l'.Pairwise (·<·)→(∀ x,x∈l↔x∈l')→l=l'
 | [],[],_,_,_=>rfl
 | [],b::l',_,_,h=>absurd ((h b).2 (.head _)) (by simp)
 | a::l,[],_,_,h=>absurd ((h a).1 (.head _)) (by simp)
 | a::l,b::l',h1,h2,h=>by
  rw [List.pairwise_cons] at h1 h2
  have hab:a=b:=by
   rcases List.mem_cons.1 ((h a).1 (.head _)) with e|e
   ·exact e
   ·rcases List.mem_cons.1 ((h b).2 (.head _)) with e'|e'
    ·exact e'.symm
    ·have:=h2.1 a e;have:=h1.1 b e';omega
  subst hab
  rw [Yt h1.2 h2.2 fun x=>⟨fun hx=>?_,fun hx=>?_⟩]
  ·have:=h1.1 x hx
   rcases List.mem_cons.1 ((h x).1 (.tail _ hx)) with e|e
   ·omega
   ·exact e
  ·have:=h2.1 x hx
   rcases List.mem_cons.1 ((h x).2 (.tail _ hx)) with e|e
   ·omega
   ·exact e
theorem M4 {A M:Int→Int→Int}{R S:List (List Int)}{x:List Int}:Oy A M (R++S) x↔Oy A M R x∧Oy A M S x:=List.forall_mem_append
section
variable {q:Nat}{A M:Int→Int→Int}{N V:Int→Int}(O:FO q A M N V)
include O
omit O in
theorem Red.srt {n:Nat}{R:List (List Int)}{P:List Nat}(h:Red q n R P):P.Pairwise (·<·) :=
 List.pairwise_iff_getElem.2 fun i j hi hj hij=>h.ech.inc i j _ _ (List.getElem?_eq_getElem hi) (List.getElem?_eq_getElem hj) hij
theorem FO.ng_eq {x y:Int}(x0:0≤x) (x1:x<q) (y0:0≤y) (y1:y<q) (h:A y (N x)=0):y=x:=by
 have F:=O.fi
 obtain ⟨⟨n0,n1⟩,e⟩:=O.ng _ x0 x1
 have h1:=F.aa y (N x) x y0 y1 n0 n1 x0 x1
 rw [h,F.ac (N x) x n0 n1 x0 x1,e,F.a0 y y0 y1,F.ac 0 x (Int.le_refl 0) (by have:=F.q2;omega) x0 x1,F.a0 x x0 x1] at h1
 exact h1.symm
theorem FO.nv_one {n:Nat}{R:List (List Int)}{P:List Nat}(h:Red q n R P) {i a c:Nat}(hi:P[i]?=some a) (hc:c<n) (hn:c∉P) {r:List Int}(hr:Wd q n r) (h1:Bf r a=1) (h0:∀ b∈P,b≠a→Bf r b=0) (hd:Dp A M (Jf N n R P c) r=0):Bf r c=en R i c:=by
 have F:=O.fi
 have hq:=O.q2
 have hm:=List.mem_of_getElem? hi
 have han:a<n:=h.ech.lt a hm
 have hca:c≠a:=fun e=>hn (e▸hm)
 have hil:i<R.length:=Nat.lt_of_lt_of_le (List.getElem?_eq_some_iff.1 hi).1 h.ech.le
 obtain ⟨x0,x1⟩:=Bh (by omega) (h.mat.row hil) c
 obtain ⟨y0,y1⟩:=Bh (by omega) hr c
 obtain ⟨⟨n0,n1⟩,_⟩:=O.ng _ x0 x1
 rw [O.dot_two (O.null_wd h c) hr c a hca fun e he1 he2=>?_] at hd
 ·rw [G8 hc,if_pos rfl,G8 han,if_neg (fun e=>hca e.symm),if_pos hm,h.idx hi,h1,F.mc 1 _ (by omega) (by omega) y0 y1,F.m1 _ y0 y1] at hd
  rw [show M (N (en R i c)) 1=N (en R i c) from F.m1 _ n0 n1] at hd
  exact O.ng_eq x0 x1 y0 y1 hd
 ·obtain ⟨z0,z1⟩:=Bh (by omega) (O.null_wd h c) e
  obtain ⟨w0,w1⟩:=Bh (by omega) hr e
  by_cases hen:e<n
  ·by_cases hm':e∈P
   ·rw [h0 e hm' he2,F.m0 z0 z1]
   ·rw [G8 hen,if_neg he1,if_neg hm',F.mc 0 _ (Int.le_refl 0) F.z w0 w1,F.m0 w0 w1]
  ·rw [Uc hr (by omega),F.m0 z0 z1]
theorem FO.nv_zero {n:Nat}{R:List (List Int)}{P:List Nat}(h:Red q n R P) {c:Nat}(hc:c<n) (hn:c∉P) {r:List Int}(hr:Wd q n r) (h0:∀ b∈P,Bf r b=0) (hd:Dp A M (Jf N n R P c) r=0):Bf r c=0:=by
 have F:=O.fi
 have hq:=O.q2
 obtain ⟨y0,y1⟩:=Bh (by omega) hr c
 rw [O.dot_one (O.null_wd h c) hr c fun e he=>?_,G8 hc,if_pos rfl,F.mc 1 _ (by omega) (by omega) y0 y1,F.m1 _ y0 y1] at hd
 ·exact hd
 ·obtain ⟨z0,z1⟩:=Bh (by omega) (O.null_wd h c) e
  obtain ⟨w0,w1⟩:=Bh (by omega) hr e
  by_cases hen:e<n
  ·by_cases hm':e∈P
   ·rw [h0 e hm',F.m0 z0 z1]
   ·rw [G8 hen,if_neg he,if_neg hm',F.mc 0 _ (Int.le_refl 0) F.z w0 w1,F.m0 w0 w1]
  ·rw [Uc hr (by omega),F.m0 z0 z1]
omit O in
theorem Red.unit {n:Nat}{R:List (List Int)}{P:List Nat}(h:Red q n R P) {i a:Nat}(hi:P[i]?=some a):en R i a=1∧∀ b∈P,b≠a→en R i b=0:=by
 refine ⟨h.ech.one i a hi,fun b hb hne=>?_⟩
 obtain ⟨j,hj⟩:=List.getElem?_of_mem hb
 have hil:i<R.length:=Nat.lt_of_lt_of_le (List.getElem?_eq_some_iff.1 hi).1 h.ech.le
 refine h.ech.zer j b hj i hil fun e=>?_
 subst e
 exact hne (Option.some.inj (hj.symm.trans hi))
theorem FO.red_uniq {n:Nat}{R R':List (List Int)}{P P':List Nat}(h:Red q n R P) (hl:R.length=P.length) (h':Red q n R' P') (hl':R'.length=P'.length) (hs:∀ x,Wd q n x→(Oy A M R x↔Oy A M R' x)):R=R'∧P=P':=by
 have hp:P=P':=Yt h.srt h'.srt fun c=>⟨O.piv_sub h h' (fun x hx=>(hs x hx).2) c,O.piv_sub h' h (fun x hx=>(hs x hx).1) c⟩
 subst hp
 refine ⟨List.ext_getElem (by omega) fun i h1 h2=>?_,rfl⟩
 have e1:R[i]=Ar R i:=by rw [Ar,List.getD_eq_getElem?_getD,List.getElem?_eq_getElem h1];rfl
 have e2:R'[i]=Ar R' i:=by rw [Ar,List.getD_eq_getElem?_getD,List.getElem?_eq_getElem h2];rfl
 rw [e1,e2]
 have hw:=h.mat.row h1
 have hw':=h'.mat.row h2
 have hi:P[i]?=some P[i]:=List.getElem?_eq_getElem (by omega)
 generalize P[i]=a at hi
 obtain ⟨u1,u0⟩:=h.unit hi
 obtain ⟨v1,v0⟩:=h'.unit hi
 refine Gx hw hw' fun j hj=>?_
 by_cases hm:j∈P
 ·by_cases hja:j=a
  ·subst hja;exact u1.trans v1.symm
  ·exact (u0 j hm hja).trans (v0 j hm hja).symm
 ·exact (O.nv_one h hi hj hm hw' v1 v0 ((hs _ (O.null_wd h j)).1 (O.null_sol h hj hm) _ (J5 h2))).symm
theorem FO.cn_congr {n:Nat}{R R':List (List Int)}(h:Cw q n R) (h':Cw q n R') (hs:∀ x,Wd q n x→(Oy A M R x↔Oy A M R' x)):Qd A M N V n R=Qd A M N V n R':=by
 have h1:=O.cn h
 have h2:=O.cn h'
 have:=O.red_uniq h1.1 (O.cn_len h) h2.1 (O.cn_len h') fun x hx=>(h1.2 x hx).trans ((hs x hx).trans (h2.2 x hx).symm)
 exact Prod.ext this.1 this.2
theorem FO.nu_congr {n:Nat}{R R':List (List Int)}(h:Cw q n R) (h':Cw q n R') (hs:∀ x,Wd q n x→(Oy A M R x↔Oy A M R' x)):nuL A M N V n R=nuL A M N V n R':=by
 rw [nuL,nuL,O.cn_congr h h' hs]
theorem FO.cn_red {n:Nat}{R:List (List Int)}{P:List Nat}(h:Red q n R P) (hl:R.length=P.length):Qd A M N V n R=(R,P):=by
 have h1:=O.cn h.mat
 have:=O.red_uniq h1.1 (O.cn_len h.mat) h hl h1.2
 exact Prod.ext this.1 this.2
theorem FO.cn_cn {n:Nat}{R:List (List Int)}(h:Cw q n R):Qd A M N V n (Qd A M N V n R).1=Qd A M N V n R:=O.cn_red (O.cn h).1 (O.cn_len h)
theorem FO.cmb_sol {n:Nat}{R:List (List Int)}(hM:Cw q n R) {u x:List Int}(hx:Wd q n x) (hs:Oy A M R x) (hu:Cmb q A M n R u):Dp A M x u=0:=by
 induction hu with
 | zero =>
  refine O.dot_zero hx (O.wz n) fun e=>?_
  obtain ⟨y0,y1⟩:=Bh (by have:=O.q2;omega) hx e
  rw [L5,O.fi.m0 y0 y1]
 | @add a r u hr a0 a1 hu ih =>
  rw [O.fi.daxp a0 a1 hx (hM r hr) (O.cmb_mat hM hu),ih,hs r hr,O.fi.m0 a0 a1,O.fi.a0 0 (Int.le_refl 0) O.fi.z]
theorem FO.dd_red {n:Nat}{R:List (List Int)}{P:List Nat}(h:Red q n R P) (hl:R.length=P.length) {u:List Int}(hu:Wd q n u) (hd:∀ x,Wd q n x→Oy A M R x→Dp A M x u=0):Cmb q A M n R u:=by
 have hq:=O.q2
 have hrw:=O.rs_wd hu (P:=P) h.mat hu
 refine O.rs_zero h.mat (P:=P) hu fun y hy=>?_
 have hpv:=O.rs_piv h hl hu 0 u (Nat.zero_le _) hu (fun j a hj _=>by omega) (fun _ _ _ _=>rfl)
 simp only [Nat.sub_zero,Nat.sub_self,List.drop_zero] at hpv
 have hdr:∀ x,Wd q n x→Oy A M R x→∀ {P':List Nat}{R':List (List Int)}{out:List Int},(∀ r∈R',r∈R)→Wd q n out→Dp A M x out=0→Dp A M x (rsF A M N u P' R' out)=0:=fun x hx hs P'=>by
  induction P' with
  | nil=>intro R' out _ _ h0;exact h0
  | cons p ps ih =>
   intro R' out hR ho h0
   cases R' with
   | nil=>exact h0
   | cons r rs =>
    obtain ⟨v0,v1⟩:=Bh (by omega) hu p
    obtain ⟨⟨n0,n1⟩,_⟩:=O.ng _ v0 v1
    have hr:=h.mat r (hR r (.head _))
    rw [rsF]
    refine ih (fun s hs=>hR s (.tail _ hs)) (O.fi.axw n0 n1 hr ho) ?_
    rw [O.fi.daxp n0 n1 hx hr ho,h0,hs r (hR r (.head _)),O.fi.m0 n0 n1,O.fi.a0 0 (Int.le_refl 0) O.fi.z]
 obtain ⟨j,hj,rfl⟩:=List.getElem_of_mem hy
 have hjn:j<n:=by rw [← hrw.1];exact hj
 have e:(rsF A M N u P R u)[j]=Bf (rsF A M N u P R u) j:=by rw [Bf,List.getD_eq_getElem?_getD,List.getElem?_eq_getElem hj];rfl
 rw [e]
 have hpz:∀ b∈P,Bf (rsF A M N u P R u) b=0:=fun b hb=>by
  obtain ⟨k,hk⟩:=List.getElem?_of_mem hb
  exact hpv k b hk
 by_cases hm:j∈P
 ·exact hpz j hm
 ·exact O.nv_zero h hjn hm hrw hpz (hdr _ (O.null_wd h j) (O.null_sol h hjn hm) (fun r hr=>hr) hu (hd _ (O.null_wd h j) (O.null_sol h hjn hm)))
theorem FO.dd {n:Nat}{R:List (List Int)}(hM:Cw q n R) {u:List Int}(hu:Wd q n u):(∀ x,Wd q n x→Oy A M R x→Dp A M x u=0)↔Cmb q A M n R u:=by
 refine ⟨fun hd=>?_,fun hc x hx hs=>O.cmb_sol hM hx hs hc⟩
 have h1:=O.cn hM
 have:=O.dd_red h1.1 (O.cn_len hM) hu fun x hx hs=>hd x hx ((h1.2 x hx).1 hs)
 refine O.cmb_trans hM (fun r hr=>?_) this
 rw [Qd] at hr
 exact O.elim_cmb n 0 0 (Nat.zero_le _) hM r (List.mem_of_mem_take hr)
theorem FO.nu_sol {n:Nat}{R:List (List Int)}(hM:Cw q n R) {u:List Int}(hu:Wd q n u):Oy A M (nuL A M N V n R) u↔Cmb q A M n R u:=((O.nu hM).2 u hu).trans (O.dd hM hu)
theorem FO.cmb_congr {n:Nat}{R R':List (List Int)}(hM:Cw q n R) (hM':Cw q n R'):(∀ x,Wd q n x→(Oy A M R x↔Oy A M R' x))↔∀ u,Cmb q A M n R u↔Cmb q A M n R' u:=by
 constructor
 ·intro h u
  refine ⟨fun hc=>(O.dd hM' (O.cmb_mat hM hc)).1 fun x hx hs=>O.cmb_sol hM hx ((h x hx).2 hs) hc,fun hc=>(O.dd hM (O.cmb_mat hM' hc)).1 fun x hx hs=>O.cmb_sol hM' hx ((h x hx).1 hs) hc⟩
 ·intro h x hx
  exact ⟨fun hs r hr=>O.cmb_sol hM hx hs ((h r).2 (O.cmb_row hM' hr)),fun hs r hr=>O.cmb_sol hM' hx hs ((h r).1 (O.cmb_row hM hr))⟩
theorem FO.cn_cmb {n:Nat}{R R':List (List Int)}(hM:Cw q n R) (hM':Cw q n R') (h:∀ u,Cmb q A M n R u↔Cmb q A M n R' u):Qd A M N V n R=Qd A M N V n R':=O.cn_congr hM hM' ((O.cmb_congr hM hM').2 h)
theorem FO.cmb_cn {n:Nat}{R:List (List Int)}(hM:Cw q n R) {u:List Int}:Cmb q A M n (Qd A M N V n R).1 u↔Cmb q A M n R u:=((O.cmb_congr (O.cn hM).1.mat hM).1 (O.cn hM).2) u
end
set_option maxRecDepth 100000
set_option linter.unusedVariables false
set_option linter.unusedSimpArgs false
theorem ACd (Y:Vz→Vz) (w:Vz):∀ a b:Nat,Jd Y (a+b) w=Jd Y a (Jd Y b w)
 | 0,b=>by rw [Nat.zero_add];rfl
 | a+1,b=>by rw [show a+1+b=(a+b)+1 by omega];show Y (Jd Y (a+b) w)=Y (Jd Y a (Jd Y b w));rw [ACd Y w a b]
theorem AEW {Y:Vz→Vz}(h:Wx Y):∀ k,Wx (Jd Y k)
 | 0=>fun _ _ _ _=>rfl
 | k+1=>fun a b u v=>by
  show Y (Jd Y k fun j=>a*u j+b*v j)=fun j=>a*Y (Jd Y k u) j+b*Y (Jd Y k v) j
  rw [AEW h k a b u v,h]
theorem AER {Y:Vz→Vz}(h:Wx Y) (w:Vz) (v:Int):∀ (r:List Int) (k:Nat),k<r.length→Bi Y (r.set k v) w=fun j=>Bi Y r w j+(v-r.getD k 0)*Jd Y k w j
 | [],k,hk=>by simp at hk
 | a::r,0,_=>by
  funext j
  show v*w j+Y (Bi Y r w) j=a*w j+Y (Bi Y r w) j+(v-a)*w j
  grind
 | a::r,k+1,hk=>by
  have ih:=AER h w v r k (by simpa using hk)
  funext j
  show a*w j+Y (Bi Y (r.set k v) w) j=a*w j+Y (Bi Y r w) j+(v-r.getD k 0)*Y (Jd Y k w) j
  have e:(fun j=>Bi Y r w j+(v-r.getD k 0)*Jd Y k w j)=fun j=>1*Bi Y r w j+(v-r.getD k 0)*Jd Y k w j:=by funext j;rw [Int.one_mul]
  rw [ih,e,h]
  grind
theorem AHx {Y:Vz→Vz}(h:Wx Y) (w:Vz) (k:Nat):∀ g:List Int,Jd Y k (Bi Y g w)=fun j=>Bi Y g (Jd Y k w) j:=fun g=>by
 induction k with
 | zero=>rfl
 | succ k ih =>
  show Y (Jd Y k (Bi Y g w))=_
  rw [ih]
  show Y (Bi Y g (Jd Y k w))=fun j=>Bi Y g (Y (Jd Y k w)) j
  rw [AGJ h]
def Eg (p:Nat) (e:Int) (g:List Int) (k:Nat):Nat→List Int→List Int
 | 0,r=>r
 | n+1,r=>(Eg p e g k n r).set (k+n) (((Eg p e g k n r).getD (k+n) 0+e*g.getD n 0) % p)
theorem Hl (p:Nat) (e:Int) (g:List Int) (k:Nat) (r:List Int):∀ n,(Eg p e g k n r).length=r.length
 | 0=>rfl
 | n+1=>by rw [Eg,List.length_set,Hl p e g k r n]
theorem Xq (p:Nat) (e:Int) (g:List Int) (k:Nat) (r:List Int) {i:Nat}:∀ n,k+n≤i→(Eg p e g k n r).getD i 0=r.getD i 0
 | 0,_=>rfl
 | n+1,h=>by
  rw [Eg,List.getD_eq_getElem?_getD,List.getElem?_set,if_neg (by omega),← List.getD_eq_getElem?_getD,Xq p e g k r n (by omega)]
theorem Jr {p:Nat}(hp:0<p) (e:Int) (g:List Int) (k:Nat) {r:List Int}(hr:∀ x∈r,0≤x∧x<p):∀ n,∀ x∈Eg p e g k n r,0≤x∧x<p
 | 0=>hr
 | n+1=>fun x hx=>by
  rw [Eg] at hx
  rcases List.mem_or_eq_of_mem_set hx with h|rfl
  ·exact Jr hp e g k hr n x h
  ·exact ⟨Int.emod_nonneg _ (by omega),Int.emod_lt_of_pos _ (by omega)⟩
theorem Y7 {p:Nat}{Y:Vz→Vz}(h:Wx Y) (w:Vz) (e:Int) (g:List Int) (k:Nat) {r:List Int}:∀ n,n≤g.length→k+n≤r.length →
  cg p fun j=>Bi Y (Eg p e g k n r) w j-(Bi Y r w j+e*Bi Y (g.take n) (Jd Y k w) j)
 | 0,_,_=>fun j=>by
  show (p:Int)∣Bi Y r w j-(Bi Y r w j+e*0)
  exact ⟨0,by omega⟩
 | n+1,hn,hk=>fun j=>by
  have ih:(p:Int)∣Bi Y (Eg p e g k n r) w j-(Bi Y r w j+e*Bi Y (g.take n) (Jd Y k w) j):=Y7 (p:=p) h w e g k (r:=r) n (by omega) (by omega) j
  have hl:k+n<(Eg p e g k n r).length:=by rw [Hl];omega
  have e1:=congrFun (AER h w (((Eg p e g k n r).getD (k+n) 0+e*g.getD n 0) % p) (Eg p e g k n r) (k+n) hl) j
  have e2:Bi Y (g.take (n+1)) (Jd Y k w) j=Bi Y (g.take n) (Jd Y k w) j+g.getD n 0*Jd Y (k+n) w j:=by
   rw [List.take_succ_eq_append_getElem (by omega),H0 h]
   show _+_*Jd Y (g.take n).length (Jd Y k w) j=_
   rw [List.length_take,Nat.min_eq_left (by omega),← ACd,Nat.add_comm n k,List.getD_eq_getElem?_getD,List.getElem?_eq_getElem (by omega)];rfl
  show (p:Int)∣Bi Y ((Eg p e g k n r).set (k+n) _) w j-_
  rw [e1,e2]
  generalize (Eg p e g k n r).getD (k+n) 0=x at *
  generalize g.getD n 0=y at *
  generalize Jd Y (k+n) w j=z at *
  generalize Bi Y (Eg p e g k n r) w j=u at *
  generalize Bi Y (g.take n) (Jd Y k w) j=v at *
  have hm:=Int.emod_add_mul_ediv (x+e*y) p
  generalize (x+e*y) / (p:Int)=t at *
  have e3:u+((x+e*y) % p-x)*z-(Bi Y r w j+e*(v+y*z))=(u-(Bi Y r w j+e*v))+p*(-t*z):=by
   have:(x+e*y) % p=x+e*y-p*t:=by omega
   rw [this];grind
  rw [e3]
  exact Int.dvd_add ih ⟨_,rfl⟩
theorem AK5 {g:List Int}(h:1≤g.length) (k:Nat):Jd (Xg g) (k+g.length) Bx=fun j=>-Bi (Xg g) g (Jd (Xg g) k Bx) j:=by
 have hY:=Eu g
 rw [ACd,AHt h,← Nv (Nat.le_refl g.length)]
 have:(fun j=>-Bi (Xg g) g Bx j)=fun j=>(-1)*Bi (Xg g) g Bx j:=by funext j;omega
 rw [this,(AEW hY k).mul,AHx hY]
 funext j
 show -1*Bi (Xg g) g (Jd (Xg g) k Bx) j=-Bi (Xg g) g (Jd (Xg g) k Bx) j
 omega
theorem ABe {r:List Int}{i:Nat}(h:i<r.length):r.take (i+1)=r.take i++[r.getD i 0]:=by
 rw [List.take_succ_eq_append_getElem h,List.getD_eq_getElem?_getD,List.getElem?_eq_getElem h];rfl
theorem T9 (p:Nat) (e:Int) (g:List Int) (k:Nat) {r:List Int}{i:Nat}:∀ n,k+n≤i→(Eg p e g k n r).take i=Eg p e g k n (r.take i)
 | 0,_=>rfl
 | n+1,h=>by
  rw [Eg,Eg,List.take_set,T9 p e g k n (by omega)]
  congr 3
  rw [← T9 p e g k n (by omega),List.getD_eq_getElem?_getD,List.getD_eq_getElem?_getD,List.getElem?_take,if_pos (by omega)]
theorem ADF {p:Nat}{g r:List Int}{i:Nat}(hg:1≤g.length) (hi:g.length≤i) (hr:i<r.length) :
  cg p fun j=>Bi (Xg g) ((Eg p (p-r.getD i 0) g (i-g.length) g.length r).take i) Bx j-Bi (Xg g) (r.take (i+1)) Bx j:=by
 have hY:=Eu g
 rw [T9 _ _ _ _ _ (by omega)]
 have h1:=Y7 (p:=p) hY Bx (p-r.getD i 0) g (i-g.length) (r:=r.take i) g.length (Nat.le_refl _) (by rw [List.length_take];omega)
 have ht:=AK5 hg (i-g.length)
 rw [Nat.sub_add_cancel hi] at ht
 have h2:Bi (Xg g) (r.take (i+1)) Bx=fun j=>Bi (Xg g) (r.take i) Bx j-r.getD i 0*Bi (Xg g) g (Jd (Xg g) (i-g.length) Bx) j:=by
  rw [ABe hr,H0 hY,List.length_take,Nat.min_eq_left (by omega),ht]
  funext j;grind
 rw [h2]
 rw [List.take_length] at h1
 intro j
 have h3:(p:Int)∣_-(_+(p-r.getD i 0)*Bi (Xg g) g (Jd (Xg g) (i-g.length) Bx) j):=h1 j
 have h4:=Int.dvd_add h3 (⟨Bi (Xg g) g (Jd (Xg g) (i-g.length) Bx) j,rfl⟩:(p:Int)∣p*Bi (Xg g) g (Jd (Xg g) (i-g.length) Bx) j)
 refine E9 h4 ?_
 show _=_-(_-r.getD i 0*_)
 grind
def Th (p m:Nat) (a b:List Int):Nat→List Int
 | 0=>List.replicate (2*m-1) 0
 | i+1=>Eg p (a.getD i 0) b i m (Th p m a b i)
theorem U0 (p m:Nat) (a b:List Int):∀ i,(Th p m a b i).length=2*m-1
 | 0=>by simp [Th]
 | i+1=>by rw [Th,Hl,U0 p m a b i]
theorem Zc {p:Nat}(hp:0<p) (m:Nat) (a b:List Int):∀ i,∀ x∈Th p m a b i,0≤x∧x<p
 | 0=>fun x hx=>by rw [(List.mem_replicate.1 hx).2];omega
 | i+1=>Jr hp _ _ _ (Zc hp m a b i) m
theorem AA9 {Y:Vz→Vz}(h:Wx Y) (w:Vz):∀ n,Bi Y (List.replicate n 0) w=fun _=>0
 | 0=>rfl
 | n+1=>by
  funext j
  show 0*w j+Y (Bi Y (List.replicate n 0) w) j=0
  rw [AA9 h w n,h.zero];simp
theorem AFu {p m:Nat}{g a b:List Int}(hb:b.length=m) (ha:a.length=m):∀ i,i≤m→cg p fun j=>Bi (Xg g) (Th p m a b i) Bx j-Bi (Xg g) (a.take i) (Bi (Xg g) b Bx) j
 | 0,_=>fun j=>by
  rw [Th,AA9 (Eu g)]
  exact ⟨0,by simp [Bi]⟩
 | i+1,hi=>fun j=>by
  have hY:=Eu g
  have ih:(p:Int)∣Bi (Xg g) (Th p m a b i) Bx j-Bi (Xg g) (a.take i) (Bi (Xg g) b Bx) j:=AFu hb ha i (by omega) j
  have h1:(p:Int)∣Bi (Xg g) (Eg p (a.getD i 0) b i m (Th p m a b i)) Bx j-(Bi (Xg g) (Th p m a b i) Bx j+a.getD i 0*Bi (Xg g) (b.take m) (Jd (Xg g) i Bx) j):=Y7 (p:=p) hY Bx (a.getD i 0) b i (r:=Th p m a b i) m (by omega) (by rw [U0];omega) j
  have h2:=Int.dvd_add h1 ih
  rw [← hb,List.take_length,hb] at h2
  refine E9 h2 ?_
  show _=Bi (Xg g) (Eg p (a.getD i 0) b i m (Th p m a b i)) Bx j-Bi (Xg g) (a.take (i+1)) (Bi (Xg g) b Bx) j
  rw [ABe (by omega),H0 hY,List.length_take,Nat.min_eq_left (by omega)]
  have h3:=congrFun (AHx hY Bx i b) j
  show _=_-(_+a.getD i 0*Jd (Xg g) i (Bi (Xg g) b Bx) j)
  rw [h3]
  omega
def Qq (p:Nat) (g r:List Int):Nat→List Int
 | 0=>r
 | n+1=>Eg p (p-(Qq p g r n).getD (r.length-1-n) 0) g (r.length-1-n-g.length) g.length (Qq p g r n)
theorem V3 (p:Nat) (g r:List Int):∀ n,(Qq p g r n).length=r.length
 | 0=>rfl
 | n+1=>by rw [Qq,Hl,V3 p g r n]
theorem AAo {p:Nat}(hp:0<p) (g:List Int) {r:List Int}(hr:∀ x∈r,0≤x∧x<p):∀ n,∀ x∈Qq p g r n,0≤x∧x<p
 | 0=>hr
 | n+1=>Jr hp _ _ _ (AAo hp g hr n) _
theorem AFh {p:Nat}{g r:List Int}(hg:1≤g.length):∀ n,n+g.length≤r.length→cg p fun j=>Bi (Xg g) ((Qq p g r n).take (r.length-n)) Bx j-Bi (Xg g) r Bx j
 | 0,_=>fun j=>by
  rw [Qq,Nat.sub_zero,List.take_length]
  exact ⟨0,by show Bi (Xg g) r Bx j-Bi (Xg g) r Bx j=_;omega⟩
 | n+1,hn=>fun j=>by
  have ih:(p:Int)∣Bi (Xg g) ((Qq p g r n).take (r.length-n)) Bx j-Bi (Xg g) r Bx j:=AFh hg n (by omega) j
  have h1:(p:Int)∣Bi (Xg g) ((Eg p (p-(Qq p g r n).getD (r.length-1-n) 0) g (r.length-1-n-g.length) g.length (Qq p g r n)).take (r.length-1-n)) Bx j-Bi (Xg g) ((Qq p g r n).take (r.length-1-n+1)) Bx j:=ADF (p:=p) hg (r:=Qq p g r n) (i:=r.length-1-n) (by omega) (by rw [V3];omega) j
  rw [show r.length-1-n+1=r.length-n by omega] at h1
  refine E9 (Int.dvd_add h1 ih) ?_
  show _=Bi (Xg g) ((Qq p g r (n+1)).take (r.length-(n+1))) Bx j-_
  rw [show r.length-(n+1)=r.length-1-n by omega,Qq]
  omega
theorem Ch (l:List Nat):(Bb l).length=l.length:=List.length_map _
theorem AHM {p:Nat}(hp:0<p) {f:List Int}(hf:1≤f.length) (x y:Nat) :
  (Qq p f (Th p f.length (Bb (Db p f.length x)) (Bb (Db p f.length y)) f.length) (f.length-1)).take f.length=Bb ((List.range f.length).map fun j=>(Cq f (C9 p f.length x) (C9 p f.length y) j % p).toNat):=by
 generalize hm:f.length=m at *
 have la:(Bb (Db p m x)).length=m:=by rw [Ch,Dx]
 have lb:(Bb (Db p m y)).length=m:=by rw [Ch,Dx]
 have l1:=U0 p m (Bb (Db p m x)) (Bb (Db p m y)) m
 have r1:=Zc hp m (Bb (Db p m x)) (Bb (Db p m y)) m
 have c1:=AFu (p:=p) (g:=f) lb la m (Nat.le_refl m)
 rw [List.take_of_length_le (Nat.le_of_eq la)] at c1
 generalize Th p m (Bb (Db p m x)) (Bb (Db p m y)) m=r at *
 have c2:=AFh (p:=p) (g:=f) (r:=r) (by omega) (m-1) (by omega)
 have r2:=AAo hp f r1 (m-1)
 have l2:=V3 p f r (m-1)
 rw [l1,show 2*m-1-(m-1)=m by omega] at c2
 generalize Qq p f r (m-1)=s at *
 have lt:(s.take m).length=m:=by rw [List.length_take];omega
 have key:∀ j,j<m→(p:Int)∣(s.take m).getD j 0-Cq f (C9 p m x) (C9 p m y) j:=fun j hj=>by
  have h3:Bi (Xg f) (s.take m) Bx=Es (s.take m):=Nv (by omega)
  have h4:Bi (Xg f) (Bb (Db p m y)) Bx=Es (Bb (Db p m y)):=Nv (by omega)
  have h5:(List.range f.length).map (C9 p m x)=Bb (Db p m x):=by
   refine List.ext_getElem? fun i=>?_
   rw [List.getElem?_map,hm]
   by_cases hi:i<m
   ·rw [List.getElem?_range hi,List.getElem?_eq_getElem (by omega)]
    show some (Es (Bb (Db p m x)) i)=_
    rw [Es,List.getD_eq_getElem?_getD,List.getElem?_eq_getElem (by omega)];rfl
   ·rw [List.getElem?_eq_none (by simpa using hi),List.getElem?_eq_none (by omega)];rfl
  have a1:(p:Int)∣Bi (Xg f) r Bx j-Bi (Xg f) (Bb (Db p m x)) (Bi (Xg f) (Bb (Db p m y)) Bx) j:=c1 j
  have a2:(p:Int)∣Bi (Xg f) (s.take m) Bx j-Bi (Xg f) r Bx j:=c2 j
  have a3:=Int.dvd_add a2 a1
  rw [h3,h4] at a3
  refine E9 a3 ?_
  rw [Cq,h5]
  show _=Es (s.take m) j-Bi (Xg f) (Bb (Db p m x)) (Es (Bb (Db p m y))) j
  omega
 refine List.ext_getElem? fun j=>?_
 rw [Bb,List.getElem?_map,List.getElem?_map]
 by_cases hj:j<m
 ·rw [List.getElem?_range hj,List.getElem?_eq_getElem (by omega)]
  have h6:=key j hj
  rw [List.getD_eq_getElem?_getD,List.getElem?_eq_getElem (by omega)] at h6
  obtain ⟨b0,b1⟩:=r2 _ (List.mem_of_mem_take (List.getElem_mem (l:=s.take m) (n:=j) (by omega)))
  have h7:=(Int.emod_eq_emod_iff_emod_sub_eq_zero).2 (Int.emod_eq_zero_of_dvd h6)
  simp only [Option.getD_some] at h7
  rw [Int.emod_eq_of_lt b0 b1] at h7
  have h8:=Int.emod_nonneg (Cq f (C9 p m x) (C9 p m y) j) (show (p:Int)≠0 by omega)
  simp only [Option.map_some,Option.some.injEq]
  omega
 ·rw [List.getElem?_eq_none (by omega),List.getElem?_eq_none (by simpa using hj)];rfl
theorem AGX {p:Nat}{g h:List Int}(hl:g.length=h.length) (hgh:∀ j,(p:Int)∣g.getD j 0-h.getD j 0) {w:Vz}:∀ F:List Int,cg p fun j=>Bi (Xg g) F w j-Bi (Xg h) F w j
 | []=>fun j=>⟨0,by simp [Bi]⟩
 | a::F=>fun j=>by
  have ih:=AGX hl hgh (w:=w) F
  show (p:Int)∣(a*w j+Xg g (Bi (Xg g) F w) j)-(a*w j+Xg h (Bi (Xg h) F w) j)
  have e1:(fun j=>Bi (Xg g) F w j-Bi (Xg h) F w j)=fun j=>1*Bi (Xg g) F w j+(-1)*Bi (Xg h) F w j:=by funext j;omega
  have h1:=Z2 (Eu g) ih
  rw [e1,Eu g] at h1
  have h2:(p:Int)∣1*Xg g (Bi (Xg g) F w) j+(-1)*Xg g (Bi (Xg h) F w) j:=h1 j
  have h3:(p:Int)∣Xg g (Bi (Xg h) F w) j-Xg h (Bi (Xg h) F w) j:=by
   simp only [Xg,hl]
   by_cases hj:j<h.length
   ·rw [if_pos hj,if_pos hj]
    refine E9 (Int.dvd_mul_of_dvd_left (c:=-Bi (Xg h) F w (h.length-1)) (hgh j)) ?_
    grind
   ·rw [if_neg hj,if_neg hj];exact ⟨0,by omega⟩
  exact E9 (Int.dvd_add h2 h3) (by omega)
def ADM (p:Nat) (md:List Nat):Prop:=∀ d,1≤d→2*d≤md.length→∀ v,v<p ^ d→¬ cg p (Bi (Xg (Bb (Db p d v))) (Bb md++[1]) Bx)
theorem AEJ {p:Nat}(hp:0<p) {md:List Nat}(h:ADM p md):¬ ACo p (Bb md):=by
 rintro ⟨g,s,h1,h2,h3,h4,h5⟩
 rw [Ch] at h3
 have key:∀ g:List Int,1≤g.length→2*g.length≤md.length→¬ cg p (Bi (Xg g) (Bb md++[1]) Bx):=fun g h1 h2 hc=>by
  let l:List Nat:=g.map fun x=>(x % (p:Int)).toNat
  have hl:∀ d∈l,d<p:=fun d hd=>by
   obtain ⟨x,_,rfl⟩:=List.mem_map.1 hd
   have:=Int.emod_lt_of_pos x (show (0:Int)<p by omega)
   omega
  have ll:l.length=g.length:=List.length_map _
  have hv:=M5 hp hl
  have e:=Z9 hp hl
  rw [ll] at hv e
  refine h g.length h1 h2 (Gj p l) hv ?_
  rw [e]
  have h6:∀ j,(p:Int)∣(Bb l).getD j 0-g.getD j 0:=fun j=>by
   rw [Bb,List.getD_eq_getElem?_getD,List.getD_eq_getElem?_getD,List.getElem?_map,List.getElem?_map]
   cases hg:g[j]? with
   | none=>exact ⟨0,by simp⟩
   | some x =>
    simp only [Option.map_some,Option.getD_some]
    have h7:=Int.emod_nonneg x (show (p:Int)≠0 by omega)
    have h8:=Int.emod_add_mul_ediv x p
    exact ⟨-(x / p),by rw [Int.mul_neg];omega⟩
  have h9:=AGX (by rw [Ch];exact ll) h6 (w:=Bx) (Bb md++[1])
  intro j
  have h10:(p:Int)∣Bi (Xg (Bb l)) (Bb md++[1]) Bx j-Bi (Xg g) (Bb md++[1]) Bx j:=h9 j
  exact E9 (Int.dvd_add h10 (hc j)) (by omega)
 by_cases hle:2*g.length≤md.length
 ·exact key g h1 hle h4
 ·exact key s h2 (by omega) h5
open Go Go.Fw
set_option maxHeartbeats 0
def Ue (P M:Int):Prop:=2≤P∧1≤M∧M≤8∧P.toNat ^ M.toNat≤256
instance (P M:Int):Decidable (Ue P M):=by unfold Ue;infer_instance
def Hv (P M:Int):Int:=if Ue P M then ((P.toNat ^ M.toNat:Nat):Int) else 0
theorem Bn {P M:Int}{pm:Option Addr}{n c:Nat}{res:Int}(hres:Hv P M=res):Bt Tryz.prog 25 [.agg #[.int .i64 P,.int .i64 M,.slice pm n c]] [] [] (Rv (.int .i64 res) []):=by
 refine Ab (F:=Oe) rfl fun C=>?_
 have no:¬ Ue P M→res=0:=fun h=>by rw [← hres,Hv,if_neg h]
 by_cases h1:P<2
 ·rw [no (by unfold Ue;omega)]
  refine wk 15 cz ?_
  intro b1 h2
  exact ge
 by_cases h2:M<1
 ·rw [no (by unfold Ue;omega)]
  refine wk 21 cz ?_
  intro b1 h3 h4
  exact ge
 by_cases h3:8<M
 ·rw [no (by unfold Ue;omega)]
  refine wk 23 cz ?_
  intro b1 h4 h5 h6
  exact ge
 obtain ⟨p,rfl⟩:∃ p:Nat,P=p:=⟨P.toNat,by omega⟩
 obtain ⟨m,rfl⟩:∃ m:Nat,M=m:=⟨M.toNat,by omega⟩
 refine wk 25 cz ?_
 intro b1 h4 h5 h6
 refine Ah (X:=Nat) [1] [] (fun i=>[(4,.int .i64 (i:Int)),(3,.int .i64 ((p ^ i:Nat):Int))]) (fun _=>[(some b1,24,[.int .i64 (p:Int),.int .i64 (m:Int),.slice pm n c])]) (fun _=>[]) (fun i=>i≤m∧p ^ i≤256) (fun i=>m-i) 0 [] rfl rfl rfl ⟨Nat.zero_le _,by simp⟩ (by repeat (first|exact Fr.sub_nil _|refine Fr.sub_cons rfl ?_)) rfl rfl ?_
 rintro i ⟨hi,hq⟩ ih
 simp only [List.cons_append,List.nil_append] at hi hq ih ⊢
 by_cases hil:i<m
 ·have hp0:0<p:=by omega
  have hdiv:(256:Int) / (p:Int)=((256 / p:Nat):Int):=(Int.natCast_ediv 256 p).symm
  by_cases hb:p ^ (i+1)≤256
  ·have hle:p ^ i≤256 / p:=by rw [Nat.le_div_iff_mul_le hp0];rwa [Nat.pow_succ] at hb
   have e:((p ^ i:Nat):Int)*(p:Int)=((p ^ (i+1):Nat):Int):=by rw [Nat.pow_succ,Int.natCast_mul]
   refine wk 22 cz ?_
   intro h7 h8
   rw [e]
   exact tw (ih (i+1) (by omega) ⟨by omega,hb⟩)
  ·have hgt:256 / p<p ^ i:=by
    refine Nat.lt_of_not_le fun h=>hb ?_
    rw [Nat.le_div_iff_mul_le hp0] at h
    rw [Nat.pow_succ];exact h
   rw [no fun h=>hb (Nat.le_trans (Nat.pow_le_pow_right hp0 hil) (by have:=h.2.2.2;simpa using this))]
   refine wk 17 cz ?_
   intro h7 h8
   exact ge
 ·obtain rfl:m=i:=by omega
  have:res=((p ^ m:Nat):Int):=by
   rw [← hres,Hv,if_pos ⟨by omega,by omega,by omega,by simpa using hq⟩];simp
  rw [this]
  refine wk 10 cz ?_
  intro h7
  exact ge
theorem Dm {n:Nat}(hn:2≤n) (hn2:n≤1000000) {res:Bool}(hres:res=true↔Prm n):Bt Tryz.prog 94 [.int .i64 n] [] [] (Rv (.bool res) []):=by
 refine Ab (F:=Om) rfl fun C=>?_
 refine wk 5 cz ?_
 refine Ah (X:=Nat) [0] [] (fun d=>[(3,.int .i64 (d:Int))]) (fun _=>[]) (fun _=>[]) (fun d=>2≤d∧d≤n∧∀ e,2≤e→e<d→¬ e∣n) (fun d=>n-d) 2 [] rfl rfl rfl ⟨Nat.le_refl 2,hn,fun e h1 h2=>by omega⟩ (by repeat (first|exact Fr.sub_nil _|refine Fr.sub_cons rfl ?_)) rfl rfl ?_
 rintro d ⟨hd,hdn,hall⟩ ih
 simp only [List.cons_append,List.nil_append] at hd hdn hall ih ⊢
 by_cases Iy:d<n
 ·by_cases hm:n % d=0
  ·have hm':(n:Int) % (d:Int)=0:=by omega
   have:res=false:=by
    cases res with
    | false=>rfl
    | true=>exact absurd (Nat.dvd_of_mod_eq_zero hm) ((hres.1 rfl).2 d hd Iy)
   rw [this]
   refine wk 11 cz ?_
   intro h1 h2
   exact ge
  ·have hm':¬ (n:Int) % (d:Int)=0:=by omega
   refine wk 11 cz ?_
   intro h1 h2
   exact tw (ih (d+1) (by omega) ⟨by omega,by omega,fun e h1 h2=>by
    rcases Nat.lt_succ_iff_lt_or_eq.1 h2 with h3|rfl
    ·exact hall e h1 h3
    ·exact fun hdv=>hm (Nat.mod_eq_zero_of_dvd hdv)⟩)
 ·obtain rfl:n=d:=by omega
  have:res=true:=hres.2 ⟨hn,hall⟩
  rw [this]
  refine wk 7 cz ?_
  intro h1
  exact ge
theorem AAe {T:List Nat}{i n:Nat}(hT:T.length=n) (hi:i<n) {z:Nat}(hz:T[i]?=some z):(T.take i++List.replicate (n-i) 0).set i z=T.take (i+1)++List.replicate (n-(i+1)) 0:=by
 have hl:(T.take i).length=i:=by rw [List.length_take];omega
 rw [List.set_append,if_neg (by omega),hl,Nat.sub_self,show n-i=(n-(i+1))+1 by omega,List.replicate_succ,List.set_cons_zero,List.take_add_one,hz]
 simp
theorem ACe {p:Nat}:∀ {n i x:Nat},i<n→(Db p n x)[i]?=some (x / p ^ i % p)
 | n+1,0,x,_=>by rw [Db,List.getElem?_cons_zero,Nat.pow_zero,Nat.div_one]
 | n+1,i+1,x,h=>by
  rw [Db,List.getElem?_cons_succ,ACe (by omega),Nat.div_div_eq_div_mul,Nat.pow_succ,Nat.mul_comm p]
theorem Il {l:List Nat}{i x:Nat}(h:l[i]?=some x):(Bb l)[i]?=some (x:Int):=by rw [Bb,List.getElem?_map,h];rfl
theorem Ho (k:IntKind) (l:List Nat):Ao k l=Al k (Bb l):=by simp [Ao,Al,Bb]
theorem Vu {l:List Nat}(h:∀ x∈l,x≤9223372036854775807):∀ x∈Bb l,Bv .i64 x:=fun x hx=>by
 obtain ⟨n,hn,rfl⟩:=List.mem_map.1 hx
 have:=h n hn
 simp only [Bv];omega
abbrev SvI (n:Nat) (l:List Int):Value→List Fact→List A4→Prop:=fun v Φ β=>∃ pa ca,v = .slice pa n ca∧Φ=[Ap Ai pa n ca l]∧β=[]
theorem H6 {p n x:Nat}(hp:1≤p) (hp2:p≤1000000) (hn:n≤100) (hx:x≤1000000000):Bt Tryz.prog 137 [.int .i64 x,.int .i64 p,.int .i64 n] [] [] (SvI n (Bb (Db p n x))):=by
 refine Ab (F:=H1) rfl fun C=>?_
 have hl:=Dx p n x
 refine wk 9 cz ?_
 intro b1
 rw [show List.replicate n 0=(Db p n x).take 0++List.replicate (n-0) 0 by simp]
 refine Ah (X:=Nat) [1,2,6,7] [] (fun i=>[(8,.int .i64 (i:Int)),(0,.int .i64 ((x / p ^ i:Nat):Int))]) (fun i=>[(some b1,3,Ao .i64 ((Db p n x).take i++List.replicate (n-i) 0))]) (fun _=>[]) (fun i=>i≤n) (fun i=>n-i) 0 [] rfl rfl rfl (Nat.zero_le _) (by refine Fr.sub_cons rfl ?_;refine Fr.sub_consI rfl (by simp) ?_;repeat (first|exact Fr.sub_nil _|refine Fr.sub_cons rfl ?_)) rfl rfl ?_
 rintro i hi ih
 simp only [List.cons_append,List.nil_append] at hi ih ⊢
 have hxi:x / p ^ i≤x:=Nat.div_le_self _ _
 have hz:=fun h=>ACe (p:=p) (n:=n) (i:=i) (x:=x) h
 have hnx:x / p ^ (i+1)=x / p ^ i / p:=by rw [Nat.pow_succ,← Nat.div_div_eq_div_mul]
 by_cases hil:i<n
 ·have ih':=ih (i+1) (by omega) (by omega)
  rw [hnx,← AAe hl hil (hz hil)] at ih'
  generalize x / p ^ i=y at *
  have e1:(y:Int) % (p:Int)=((y % p:Nat):Int):=(Int.natCast_emod _ _).symm
  have e2:(y:Int) / (p:Int)=((y / p:Nat):Int):=(Int.natCast_ediv _ _).symm
  have hlen:((Db p n x).take i++List.replicate (n-i) 0).length=n:=by simp [hl];omega
  refine wk 13 cz ?_
  intro h1
  rw [e2]
  exact tw (ih')
 ·obtain rfl:i=n:=by omega
  clear hz hnx
  rw [List.take_of_length_le (by omega),Nat.sub_self,List.replicate_zero,List.append_nil,Ho]
  refine wk 7 cz ?_
  intro h1
  refine Hh 8 (Bb (Db p i x)) 0 rfl (by rw [Ch,hl]) (Vu fun d hd=>by have:=I3 (by omega) d hd;omega) (by omega) (by omega) ?_
  refine Ov [0] rfl rfl rfl ⟨_,_,rfl,rfl,rfl⟩
theorem ABx {p:Nat}{l:List Nat}{j:Nat}(hj:j<l.length):Gj p (l.drop j)=l.getD j 0+p*Gj p (l.drop (j+1)):=by
 rw [List.drop_eq_getElem_cons hj,Gj,List.getD_eq_getElem?_getD,List.getElem?_eq_getElem hj];rfl
theorem F7 {P M:Int}{pm pd:Option Addr}{nm cm nd cd p:Nat}{l:List Nat}(hP:P=p) (hp:1≤p) (hp2:p≤256) (hd:∀ x∈l,x<p) (hl:p ^ l.length≤1000000) :
  Bt Tryz.prog 93 [.agg #[.int .i64 P,.int .i64 M,.slice pm nm cm],.slice pd nd cd] [] [Ap Ai pd nd cd (Bb l)] (Rv (.int .i64 ((Gj p l:Nat):Int)) []):=by
 subst hP
 refine Ab (F:=O8) rfl fun C=>?_
 refine Ba 0 rfl fun hn hb _=>?_
 rw [Ch] at hn hb
 subst hn
 have hb:l.length*8≤140737488355328:=hb
 refine wk 10 cz ?_
 intro b1
 refine Ah (X:=Nat) [1,2,4] [0] (fun j=>[(6,.int .i64 ((j:Int)-1)),(5,.int .i64 ((Gj p (l.drop j):Nat):Int))]) (fun _=>[(some b1,24,[.int .i64 (p:Int),.int .i64 M,.slice pm nm cm])]) (fun _=>[]) (fun j=>j≤l.length) (fun j=>j) l.length [] rfl rfl rfl (Nat.le_refl _) (by refine Fr.sub_cons rfl ?_;refine Fr.sub_consI rfl (by simp [Gj]) ?_;repeat (first|exact Fr.sub_nil _|refine Fr.sub_cons rfl ?_)) rfl rfl ?_
 rintro j hj ih
 simp only [List.cons_append,List.nil_append] at hj ih ⊢
 have hlt:Gj p (l.drop j)<p ^ l.length:=Nat.lt_of_lt_of_le (M5 (by omega) fun x hx=>hd x (List.mem_of_mem_drop hx)) (Nat.pow_le_pow_right (by omega) (by rw [List.length_drop];omega))
 cases j with
 | zero =>
  rw [List.drop_zero]
  refine wk 7 cz ?_
  intro h1
  exact ge
 | succ j =>
  have hz:(Bb l)[j]?=some ((l.getD j 0:Nat):Int):=Il (by rw [List.getD_eq_getElem?_getD,List.getElem?_eq_getElem (by omega)];rfl)
  have hz2:l.getD j 0<p:=hd _ (List.mem_of_getElem? (i:=j) (by rw [List.getD_eq_getElem?_getD,List.getElem?_eq_getElem (by omega)];rfl))
  have ih':=ih j (by omega) (by omega)
  have hlt2:Gj p (l.drop j)<p ^ l.length:=Nat.lt_of_lt_of_le (M5 (by omega) fun x hx=>hd x (List.mem_of_mem_drop hx)) (Nat.pow_le_pow_right (by omega) (by rw [List.length_drop];omega))
  rw [ABx (show j<l.length by omega)] at ih' hlt2
  generalize Gj p (l.drop (j+1))=v at *
  generalize hw:l.getD j 0=w at *
  have hgd:(Bb l).getD (j+1-1) default=(w:Int):=by rw [Nat.add_sub_cancel,List.getD_eq_getElem?_getD,hz];rfl
  have hvp:(v:Int)*(p:Int)≤1000000:=by rw [← Int.natCast_mul,Nat.mul_comm];omega
  have hv0:0≤(v:Int)*(p:Int):=by rw [← Int.natCast_mul];omega
  have e:(v:Int)*(p:Int)+(w:Int)=((w+p*v:Nat):Int):=by rw [Int.natCast_add,Int.natCast_mul,Int.mul_comm];omega
  refine wk 10 cz ?_
  intro h1 b2 o1
  rw [hgd,e]
  exact tw (ih')
def L4 (p:Nat) (g r:List Int):Nat→List Int
 | 0=>r
 | n+1=>(Eg p (p-(L4 p g r n).getD (r.length-1-n) 0) g (r.length-1-n-g.length) g.length (L4 p g r n)).set (r.length-1-n) 0
theorem Sh (p:Nat) (g r:List Int):∀ n,(L4 p g r n).length=r.length
 | 0=>rfl
 | n+1=>by rw [L4,List.length_set,Hl,Sh p g r n]
theorem Zl {p:Nat}(hp:0<p) (g:List Int) {r:List Int}(hr:∀ x∈r,0≤x∧x<p):∀ n,∀ x∈L4 p g r n,0≤x∧x<p
 | 0=>hr
 | n+1=>fun x hx=>by
  rw [L4] at hx
  rcases List.mem_or_eq_of_mem_set hx with h|rfl
  ·exact Jr hp _ _ _ (Zl hp g hr n) _ x h
  ·omega
theorem Zf {p:Nat}{g r:List Int}:∀ n,n+g.length≤r.length→∀ k,r.length-n≤k→k<r.length→(L4 p g r n).getD k 0=0
 | 0,_,k,h1,h2=>by omega
 | n+1,hn,k,h1,h2=>by
  rw [L4,List.getD_eq_getElem?_getD,List.getElem?_set]
  by_cases e:r.length-1-n=k
  ·rw [if_pos e,if_pos (by rw [Hl,Sh];omega)];rfl
  ·rw [if_neg e,← List.getD_eq_getElem?_getD,Xq _ _ _ _ _ _ (by omega)]
   exact Zf n (by omega) k (by omega) h2
theorem AE2 {p:Nat}{g r:List Int}(hg:1≤g.length):∀ n,n+g.length≤r.length→cg p fun j=>Bi (Xg g) ((L4 p g r n).take (r.length-n)) Bx j-Bi (Xg g) r Bx j
 | 0,_=>fun j=>by
  rw [L4,Nat.sub_zero,List.take_length]
  exact ⟨0,by show Bi (Xg g) r Bx j-Bi (Xg g) r Bx j=_;omega⟩
 | n+1,hn=>fun j=>by
  have ih:(p:Int)∣Bi (Xg g) ((L4 p g r n).take (r.length-n)) Bx j-Bi (Xg g) r Bx j:=AE2 hg n (by omega) j
  have h1:(p:Int)∣Bi (Xg g) ((Eg p (p-(L4 p g r n).getD (r.length-1-n) 0) g (r.length-1-n-g.length) g.length (L4 p g r n)).take (r.length-1-n)) Bx j-Bi (Xg g) ((L4 p g r n).take (r.length-1-n+1)) Bx j:=ADF (p:=p) hg (r:=L4 p g r n) (i:=r.length-1-n) (by omega) (by rw [Sh];omega) j
  rw [show r.length-1-n+1=r.length-n by omega] at h1
  refine E9 (Int.dvd_add h1 ih) ?_
  show _=Bi (Xg g) ((L4 p g r (n+1)).take (r.length-(n+1))) Bx j-_
  rw [show r.length-(n+1)=r.length-1-n by omega,L4,List.take_set,List.set_eq_of_length_le (by rw [List.length_take];omega)]
  omega
theorem AFR {p:Nat}(hp:0<p) {g r:List Int}(hg:1≤g.length) (hr:∀ x∈r,0≤x∧x<p) (hl:g.length≤r.length) :
  (∀ k,k<r.length→(L4 p g r (r.length-g.length)).getD k 0=0)↔cg p (Bi (Xg g) r Bx):=by
 have h1:=AE2 (p:=p) hg (r:=r) (r.length-g.length) (by omega)
 rw [show r.length-(r.length-g.length)=g.length by omega] at h1
 have h2:=Zf (p:=p) (g:=g) (r:=r) (r.length-g.length) (by omega)
 have h3:=Zl hp g hr (r.length-g.length)
 have h4:=Sh p g r (r.length-g.length)
 generalize L4 p g r (r.length-g.length)=s at *
 rw [Nv (by rw [List.length_take];omega)] at h1
 constructor
 ·intro h j
  have h5:(p:Int)∣Es (s.take g.length) j-Bi (Xg g) r Bx j:=h1 j
  have h6:Es (s.take g.length) j=0:=by
   by_cases hj:j<g.length
   ·have:=h j (by omega)
    rw [Es,List.getD_eq_getElem?_getD,List.getElem?_take,if_pos hj,← List.getD_eq_getElem?_getD];exact this
   ·exact Lb (by rw [List.length_take];omega)
  rw [h6] at h5
  exact Int.dvd_neg.1 (E9 h5 (by omega))
 ·intro h k hk
  by_cases hkd:k<g.length
  ·have h5:(p:Int)∣Es (s.take g.length) k-Bi (Xg g) r Bx k:=h1 k
   have h6:=Int.dvd_add h5 (h k)
   have h7:Es (s.take g.length) k=s.getD k 0:=by
    rw [Es,List.getD_eq_getElem?_getD,List.getElem?_take,if_pos hkd,← List.getD_eq_getElem?_getD]
   rw [h7] at h6
   have h8:(p:Int)∣s.getD k 0:=E9 h6 (by omega)
   obtain ⟨b0,b1⟩:=h3 (s.getD k 0) (List.mem_of_getElem? (i:=k) (by rw [List.getD_eq_getElem?_getD,List.getElem?_eq_getElem (by omega)];rfl))
   obtain ⟨z,hz⟩:=h8
   have hp':(0:Int)<p:=by omega
   rcases Int.lt_trichotomy z 0 with h9|h9|h9
   ·have:=Int.mul_le_mul_of_nonneg_left (show z≤-1 by omega) (Int.le_of_lt hp')
    omega
   ·rw [hz,h9,Int.mul_zero]
   ·have:=Int.mul_le_mul_of_nonneg_left (show 1≤z by omega) (Int.le_of_lt hp')
    omega
  ·exact h2 k (by omega) hk
theorem Mm {pg pm:Option Addr}{ng nm cg' cm p:Nat}{g md:List Int}(hp:1≤p) (hp2:p≤256) (hg:1≤g.length) (hl:g.length≤md.length) (hm:md.length≤100) (rg:∀ x∈g,0≤x∧x<p) (rm:∀ x∈md,0≤x∧x<p) (h1p:1<p)
  {res:Bool}(hres:res=true↔cg p (Bi (Xg g) (md++[1]) Bx)) :
  Bt Tryz.prog 139 [.slice pg ng cg',.slice pm nm cm,.int .i64 p] [] [Ap Ai pg ng cg' g,Ap Ai pm nm cm md] (Rv (.bool res) []):=by
 refine Ab (F:=Mn) rfl fun C=>?_
 refine Ba 0 rfl fun hn1 _ _=>?_
 refine Ba 1 rfl fun hn2 _ _=>?_
 subst hn1;subst hn2
 refine wk 9 cz ?_
 intro b1
 (apply Ly (E:=Dy IntKind.i64 8) (n:=0) (cs:=[]) [] [] 0 (fun w A hG=>Bd);(· rfl);(· rfl);(· rfl);(· rfl);(· decide))
 refine Aa rfl (Uv 0 0 2 rfl rfl rfl rfl rfl Ce Ep rfl (by omega) _ Hu (by omega) fun r1=>?_)
 refine wk 4 cz ?_
 intro b2
 refine Aa rfl (Ga (z:=(1:Int)) 1 0 0 rfl rfl rfl rfl rfl Ce Ep rfl (fun w A hG=>(Dq (by first|(simp only [Bv];omega)|(simp [Bv];done)))) (by omega) _ Hu (by omega) fun r2=>?_)
 refine wk 6 cz ?_
 simp only [Nat.zero_add,List.nil_append]
 have r0:∀ x∈md++[1],0≤x∧x<(p:Int):=fun x hx=>by
  rcases List.mem_append.1 hx with h|h
  ·exact rm x h
  ·rw [List.mem_singleton.1 h];omega
 have l0:(md++[1]).length=md.length+1:=by simp
 have hz:=AFR (p:=p) (by omega) hg r0 (by omega)
 have hR:=Zl (p:=p) (by omega) g r0
 have hL:=Sh p g (md++[1])
 have hO:=Zf (p:=p) (g:=g) (r:=md++[1])
 rw [l0] at hz hL hO
 refine Dt 0 rfl (by omega) fun bR capR csR hRow=>?_
 subst hRow
 refine Ah (X:=Nat×List Value) [0,2,6,7,8] [2,3] (fun x=>[(9,.int .i64 ((md.length:Int)-(x.1:Int)))]) (fun x=>[(some bR,3,x.2),(some b2,3,[.int .i64 1])])
  (fun x=>[A7 Ai ⟨some bR,capR,x.2⟩ (md.length+1) (L4 p g (md++[1]) x.1)]) (fun x=>x.1≤md.length+1-g.length) (fun x=>md.length+1-g.length-x.1) (0,csR) [0] rfl rfl rfl (Nat.zero_le _) (by refine Fr.sub_consI rfl (by simp) ?_;repeat (first|exact Fr.sub_nil _|refine Fr.sub_cons rfl ?_)) rfl rfl ?_
 rintro ⟨n,csA⟩ hn ih
 simp only [List.cons_append,List.nil_append] at hn ih ⊢
 by_cases hil:n<md.length+1-g.length
 ·have hlt:md.length-n<md.length+1:=by omega
  have hLn:=hL n
  have hRn:=hR n
  have ihn:=fun r:List Value=>ih (n+1,r) (by dsimp only;omega) (by dsimp only;omega)
  simp only [L4,l0] at ihn
  rw [show md.length+1-1-n=md.length-n by omega] at ihn
  generalize L4 p g (md++[1]) n=L at *
  have hzc:L[md.length-n]?=some (L.getD (md.length-n) 0):=by rw [List.getD_eq_getElem?_getD,List.getElem?_eq_getElem (by omega)];rfl
  obtain ⟨c0,c1⟩:=hRn _ (List.mem_of_getElem? hzc)
  generalize L.getD (md.length-n) 0=c at *
  obtain ⟨cN,rfl⟩:∃ cN:Nat,c=cN:=⟨c.toNat,by omega⟩
  have hpc:(p:Int)-(cN:Int)=((p-cN:Nat):Int):=by omega
  rw [hpc] at ihn
  refine wk 12 cz ?_
  intro h1 hr1
  have hk:md.length-n-g.length+g.length≤md.length:=by omega
  generalize hkk:md.length-n-g.length=k at *
  refine Ah (X:=Nat×List Value) [0,2,6,7,8,9,10,24,25,26,29,30,31,32] [1,2] (fun x=>[(11,.int .i64 (x.1:Int))]) (fun x=>[(some bR,3,x.2),(some b2,3,[.int .i64 1])])
   (fun x=>[A7 Ai ⟨some bR,capR,x.2⟩ (md.length+1) (Eg p ((p-cN:Nat):Int) g k x.1 L)]) (fun x=>x.1≤g.length) (fun x=>g.length-x.1) (0,csA) [0] rfl rfl rfl (Nat.zero_le _) (by repeat (first|exact Fr.sub_nil _|refine Fr.sub_cons rfl ?_)) rfl rfl ?_
  rintro ⟨j,csB⟩ hj ihj
  simp only [List.cons_append,List.nil_append] at hj ihj ⊢
  by_cases hjl:j<g.length
  ·have hSl:=Hl p ((p-cN:Nat):Int) g k L j
   have hSr:=Jr (p:=p) (by omega) ((p-cN:Nat):Int) g k hRn j
   have ihj':=fun r:List Value=>ihj (j+1,r) (by dsimp only;omega) (by dsimp only;omega)
   simp only [Eg] at ihj'
   generalize Eg p ((p-cN:Nat):Int) g k j L=S at *
   have hzS:S[k+j]?=some (S.getD (k+j) 0):=by rw [List.getD_eq_getElem?_getD,List.getElem?_eq_getElem (by omega)];rfl
   have hgd:g.getD j 0=g.getD j default:=rfl
   rw [hgd] at ihj'
   have hzg:g[j]?=some (g.getD j default):=by rw [List.getD_eq_getElem?_getD,List.getElem?_eq_getElem (by omega)];rfl
   obtain ⟨s0,s1⟩:=hSr _ (List.mem_of_getElem? hzS)
   obtain ⟨g0,g1⟩:=rg _ (List.mem_of_getElem? hzg)
   generalize S.getD (k+j) 0=s at *
   have hm0:0≤((p-cN:Nat):Int)*g.getD j default:=Int.mul_nonneg (by omega) g0
   have hm1:((p-cN:Nat):Int)*g.getD j default≤65536:=Int.le_trans (Int.mul_le_mul (show ((p-cN:Nat):Int)≤256 by omega) (show g.getD j default≤256 by omega) g0 (by decide)) (by decide)
   have em:(s+((p-cN:Nat):Int)*g.getD j default) % (p:Int)<p:=Int.emod_lt_of_pos _ (by omega)
   have em0:0≤(s+((p-cN:Nat):Int)*g.getD j default) % (p:Int):=Int.emod_nonneg _ (by omega)
   rw [← hkk] at hzS ihj'
   refine wk 7 cz ?_
   intro h2 b3 o1
   refine Aa rfl (G7 (vs:=[Value.int IntKind.i64 ((s+↑(p-cN)*g.getD j default) % ↑p)]) (z:=((s+↑(p-cN)*g.getD j default) % ↑p:Int)) 0 1 (md.length-n-g.length+j) rfl rfl rfl rfl rfl Ci (Nat.mul_one _).symm (by omega) (fun w A hG=>(Dq (by first|(simp only [Bv];omega)|(simp [Bv];done)))) fun cs1=>?_)
   refine wk 3 cz ?_
   exact tw (ihj' cs1)
  ·obtain rfl:j=g.length:=by omega
   refine wk 7 cz ?_
   intro h2
   refine Aa rfl (G7 (vs:=[Value.int IntKind.i64 0]) (z:=(0:Int)) 0 0 (md.length-n) rfl rfl rfl rfl rfl Ci (Nat.mul_one _).symm (by omega) (fun w A hG=>(Dq (by first|(simp only [Bv];omega)|(simp [Bv];done)))) fun cs1=>?_)
   refine wk 3 cz ?_
   exact tw (ihn cs1)
 ·obtain rfl:n=md.length+1-g.length:=by omega
  clear ih
  have hLn:=hL (md.length+1-g.length)
  generalize L4 p g (md++[1]) (md.length+1-g.length)=L at *
  refine wk 7 cz ?_
  intro h1
  refine Ah (X:=Nat) [8] [1,2] (fun i=>[(12,.int .i64 (i:Int))]) (fun _=>[(some bR,3,csA),(some b2,3,[.int .i64 1])]) (fun _=>[A7 Ai ⟨some bR,capR,csA⟩ (md.length+1) L]) (fun i=>i≤md.length+1∧∀ k,k<i→L.getD k 0=0) (fun i=>md.length+1-i) 0 [0] rfl rfl rfl ⟨Nat.zero_le _,fun k hk=>by omega⟩ (by repeat (first|exact Fr.sub_nil _|refine Fr.sub_cons rfl ?_)) rfl rfl ?_
  rintro i ⟨hi,hall⟩ ih
  simp only [List.cons_append,List.nil_append] at hi hall ih ⊢
  by_cases hil:i<md.length+1
  ·have hzi:L[i]?=some (L.getD i 0):=by rw [List.getD_eq_getElem?_getD,List.getElem?_eq_getElem (by omega)];rfl
   by_cases h0:L.getD i 0=0
   ·generalize hv:L.getD i 0=v at *
    refine wk 16 cz ?_
    intro h2 hr1 h3
    exact tw (ih (i+1) (by omega) ⟨by omega,fun k hk=>by
     rcases Nat.lt_succ_iff_lt_or_eq.1 hk with h|rfl
     ·exact hall k h
     ·rw [hv];exact h0⟩)
   ·have hf:res=false:=by
     cases res with
     | false=>rfl
     | true=>exact absurd (hz.2 (hres.1 rfl) i hil) h0
    rw [hf]
    generalize L.getD i 0=v at *
    refine wk 16 cz ?_
    intro h2 hr1 h3
    exact ge
  ·obtain rfl:i=md.length+1:=by omega
   have ht:res=true:=hres.2 (hz.1 hall)
   rw [ht]
   refine wk 9 cz ?_
   intro h2
   exact ge
theorem ADg {l:List Nat}{p:Nat}(h:∀ x∈l,x<p):∀ x∈Bb l,0≤x∧x<(p:Int):=fun x hx=>by
 obtain ⟨n,hn,rfl⟩:=List.mem_map.1 hx
 have:=h n hn
 omega
open Classical in
theorem Ka {pm:Option Addr}{nm cm p:Nat}{md:List Nat}(hp:2≤p) (hp2:p≤256) (hq:p ^ md.length≤256) (hm:md.length≤8) (rm:∀ x∈md,x<p) {res:Bool}(hres:res=true↔ADM p md) :
  Bt Tryz.prog 95 [.slice pm nm cm,.int .i64 p] [] [Ap Ai pm nm cm (Bb md)] (Rv (.bool res) []):=by
 refine Ab (F:=Kf) rfl fun C=>?_
 refine Ba 0 rfl fun hn1 _ _=>?_
 rw [Ch] at hn1
 subst hn1
 have rI:=ADg rm
 have lI:=Ch md
 refine wk 7 cz ?_
 refine Ah (X:=Nat) [0,1] [0] (fun d=>[(6,.int .i64 ((d+1:Nat):Int)),(5,.int .i64 ((p ^ d:Nat):Int))]) (fun _=>[]) (fun _=>[]) (fun d=>2*d≤md.length∧∀ e,1≤e→e≤d→∀ v,v<p ^ e→¬ cg p (Bi (Xg (Bb (Db p e v))) (Bb md++[1]) Bx)) (fun d=>md.length-d) 0 [] rfl rfl rfl ⟨Nat.zero_le _,fun e h1 h2=>by omega⟩ (by refine Fr.sub_cons rfl ?_;refine Fr.sub_consI rfl (by simp) ?_;repeat (first|exact Fr.sub_nil _|refine Fr.sub_cons rfl ?_)) rfl rfl ?_
 rintro d ⟨hd,hall⟩ ih
 simp only [List.cons_append,List.nil_append] at hd hall ih ⊢
 have hpd:p ^ d≤256:=Nat.le_trans (Nat.pow_le_pow_right (by omega) (by omega)) hq
 by_cases Iy:2*(d+1)≤md.length
 ·have hpe:p ^ (d+1)≤256:=Nat.le_trans (Nat.pow_le_pow_right (by omega) (by omega)) hq
  have ee:((p ^ d:Nat):Int)*(p:Int)=((p ^ (d+1):Nat):Int):=by rw [Nat.pow_succ,Int.natCast_mul]
  have ih':=ih (d+1) (by omega)
  generalize hP:p ^ (d+1)=P at *
  generalize p ^ d=Q at *
  have hQP:0≤(Q:Int)*(p:Int)∧(Q:Int)*(p:Int)≤256:=by omega
  refine wk 11 cz ?_
  intro h1
  rw [ee]
  refine Ah (X:=Nat) [0,1,5,6,8,9,10,11,12,15,16,17] [0] (fun v=>[(7,.int .i64 (v:Int))]) (fun _=>[]) (fun _=>[]) (fun v=>v≤P∧∀ u,u<v→¬ cg p (Bi (Xg (Bb (Db p (d+1) u))) (Bb md++[1]) Bx)) (fun v=>P-v) 0 [] rfl rfl rfl ⟨Nat.zero_le _,fun u h=>by omega⟩ (by repeat (first|exact Fr.sub_nil _|refine Fr.sub_cons rfl ?_)) rfl rfl ?_
  rintro v ⟨hv,hvall⟩ ihv
  simp only [List.cons_append,List.nil_append] at hv hvall ihv ⊢
  by_cases hvl:v<P
  ·have gl:(Bb (Db p (d+1) v)).length=d+1:=by rw [Ch,Dx]
   have gr:=ADg fun x hx=>I3 (p:=p) (n:=d+1) (x:=v) (by omega) x hx
   have Hs:=fun {pg pm:Option Addr}{ng nm cg' cm:Nat}{res:Bool} hres=>Mm (pg:=pg) (pm:=pm) (ng:=ng) (nm:=nm) (cg':=cg') (cm:=cm) (p:=p) (g:=Bb (Db p (d+1) v)) (md:=Bb md) (by omega) hp2 (by omega) (by omega) (by omega) gr rI (by omega) (res:=res) hres
   by_cases hdv:cg p (Bi (Xg (Bb (Db p (d+1) v))) (Bb md++[1]) Bx)
   ·have hf:res=false:=by
     cases res with
     | false=>rfl
     | true=>exact absurd hdv ((hres.1 rfl) (d+1) (by omega) Iy v (by rw [hP];exact hvl))
    have hr:(true=true↔cg p (Bi (Xg (Bb (Db p (d+1) v))) (Bb md++[1]) Bx)):=⟨fun _=>hdv,fun _=>rfl⟩
    rw [hf]
    refine wk 14 (ct @H6 (ct @Hs cz)) ?_
    intro h2 pa1 ca1
    exact ge
   ·have hr:(false=true↔cg p (Bi (Xg (Bb (Db p (d+1) v))) (Bb md++[1]) Bx)):=⟨fun h=>(by cases h),fun h=>absurd h hdv⟩
    refine wk 14 (ct @H6 (ct @Hs cz)) ?_
    intro h2 pa1 ca1
    exact tw (ihv (v+1) (by omega) ⟨by omega,fun u hu=>by
     rcases Nat.lt_succ_iff_lt_or_eq.1 hu with h|rfl
     ·exact hvall u h
     ·exact hdv⟩)
  ·obtain rfl:v=P:=by omega
   refine wk 7 cz ?_
   intro h2
   exact tw (ih' ⟨by omega,fun e h1 h2 u hu=>by
    rcases Nat.lt_succ_iff_lt_or_eq.1 (Nat.lt_succ_of_le h2) with h|rfl
    ·exact hall e h1 (by omega) u hu
    ·exact hvall u (by rw [← hP];exact hu)⟩)
 ·have ht:res=true:=hres.2 fun e h1 h2 v hv=>hall e h1 (by omega) v hv
  rw [ht]
  refine wk 9 cz ?_
  intro h1
  exact ge
def Wg (P M:Int) (md:List Int):Prop:=Ue P M∧Prm P.toNat∧(M=1→md.length=0)∧(M≠1→(md.length:Int)=M∧(∀ x∈md,0≤x∧x<P)∧ADM P.toNat (md.map Int.toNat))
theorem Sx {l:List Int}(h:∀ x∈l,0≤x):Bb (l.map Int.toNat)=l:=by
 rw [Bb,List.map_map]
 conv=>rhs;rw [← List.map_id l]
 refine List.map_congr_left fun x hx=>?_
 have:=h x hx
 show ((x.toNat:Nat):Int)=x
 omega
open Classical in
theorem Ej {P M:Int}{pm:Option Addr}{nm cm:Nat}{md:List Int}{e:Int}(he:e=if Wg P M md then 0 else 1):Bt Tryz.prog 44 [.agg #[.int .i64 P,.int .i64 M,.slice pm nm cm]] [] [Ap Ai pm nm cm md] (Rv (.int .i64 e) []):=by
 refine Ab (F:=N4) rfl fun C=>?_
 refine Ba 0 rfl fun hn1 hb1 _=>?_
 subst hn1
 have no:¬ Wg P M md→e=1:=fun h=>by rw [he,if_neg h]
 by_cases ho:Ue P M
 case neg =>
  have hI:Hv P M=0:=by rw [Hv,if_neg ho]
  rw [no fun h=>ho h.1]
  refine wk 12 (ct @Bn cz) ?_
  intro b1
  exact ge
 obtain ⟨h1,h2,h3,h4⟩:=ho
 obtain ⟨p,rfl⟩:∃ p:Nat,P=p:=⟨P.toNat,by omega⟩
 obtain ⟨m,rfl⟩:∃ m:Nat,M=m:=⟨M.toNat,by omega⟩
 simp only [Int.toNat_natCast] at h4
 have hI:Hv (p:Int) (m:Int)=((p ^ m:Nat):Int):=by rw [Hv,if_pos ⟨h1,h2,h3,by simpa using h4⟩];simp
 have hpm:p≤p ^ m:=Nat.le_self_pow (by omega) p
 have hq0:¬ ((p ^ m:Nat):Int)=0:=by omega
 by_cases hp:Prm p
 case neg =>
  have hr:(false=true↔Prm p):=⟨fun h=>(by cases h),fun h=>absurd h hp⟩
  rw [no fun h=>hp (by simpa using h.2.1)]
  generalize p ^ m=Q at *
  refine wk 18 (ct @Bn (ct @Dm cz)) ?_
  intro b1 h5
  exact ge
 have hr:(true=true↔Prm p):=⟨fun _=>hp,fun _=>rfl⟩
 by_cases hm1:m=1
 ·subst hm1
  by_cases hl:md.length=0
  ·have:e=0:=by rw [he,if_pos ⟨⟨h1,h2,h3,by simpa using h4⟩,by simpa using hp,fun _=>hl,fun h=>absurd rfl h⟩]
   rw [this]
   generalize p ^ 1=Q at *
   refine wk 31 (ct @Bn (ct @Dm cz)) ?_
   intro b1 h5 h6 h7
   exact ge
  ·rw [no fun h=>hl (h.2.2.1 rfl)]
   generalize p ^ 1=Q at *
   refine wk 31 (ct @Bn (ct @Dm cz)) ?_
   intro b1 h5 h6 h7
   exact ge
 have hm1':¬ (m:Int)=1:=by omega
 by_cases hl:md.length=m
 case neg =>
  rw [no fun h=>hl (by have:=(h.2.2.2 hm1').1;omega)]
  generalize p ^ m=Q at *
  refine wk 33 (ct @Bn (ct @Dm cz)) ?_
  intro b1 h5 h6 h7
  exact ge
 subst hl
 have hm8:md.length≤8:=by omega
 generalize hQ:p ^ md.length=Q at *
 refine wk 33 (ct @Bn (ct @Dm cz)) ?_
 intro b1 h5 h6 h7
 refine Ah (X:=Nat) [1] [0] (fun i=>[(3,.int .i64 (i:Int))]) (fun _=>[(some b1,24,[.int .i64 (p:Int),.int .i64 (md.length:Int),.slice pm md.length cm])]) (fun _=>[]) (fun i=>i≤md.length∧∀ k,k<i→0≤md.getD k 0∧md.getD k 0<p) (fun i=>md.length-i) 0 [] rfl rfl rfl ⟨Nat.zero_le _,fun k hk=>by omega⟩ (by repeat (first|exact Fr.sub_nil _|refine Fr.sub_cons rfl ?_)) rfl rfl ?_
 rintro i ⟨hi,hall⟩ ih
 simp only [List.cons_append,List.nil_append] at hi hall ih ⊢
 by_cases hil:i<md.length
 ·have hz:md[i]?=some (md.getD i 0):=by rw [List.getD_eq_getElem?_getD,List.getElem?_eq_getElem hil];rfl
  have hdd:md.getD i 0=md.getD i default:=rfl
  rw [hdd] at hz
  by_cases ha:md.getD i default<0
  ·rw [no fun h=>by have:=(h.2.2.2 hm1').2.1 _ (List.mem_of_getElem? hz);omega]
   refine wk 14 cz ?_
   intro h8 b2 o1
   exact ge
  by_cases hb:(p:Int)≤md.getD i default
  ·rw [no fun h=>by have:=(h.2.2.2 hm1').2.1 _ (List.mem_of_getElem? hz);omega]
   refine wk 14 cz ?_
   intro h8 b2 o1 b3 o2
   exact ge
  ·refine wk 14 cz ?_
   intro h8 b2 o1 b3 o2
   exact tw (ih (i+1) (by omega) ⟨by omega,fun k hk=>by
    rcases Nat.lt_succ_iff_lt_or_eq.1 hk with h|rfl
    ·exact hall k h
    ·rw [hdd];omega⟩)
 ·obtain rfl:i=md.length:=by omega
  have hrng:∀ x∈md,0≤x∧x<(p:Int):=fun x hx=>by
   obtain ⟨k,hk⟩:=List.getElem?_of_mem hx
   have hkl:=(List.getElem?_eq_some_iff.1 hk).1
   have:=hall k hkl
   rw [List.getD_eq_getElem?_getD,hk] at this
   exact this
  have eI:=Sx fun x hx=>(hrng x hx).1
  have lN:(md.map Int.toNat).length=md.length:=List.length_map _
  have rN:∀ x∈md.map Int.toNat,x<p:=fun x hx=>by
   obtain ⟨y,hy,rfl⟩:=List.mem_map.1 hx
   have:=hrng y hy
   omega
  have Ed:=fun {pm:Option Addr}{nm cm:Nat}{res:Bool} hres=>Ka (pm:=pm) (nm:=nm) (cm:=cm) (p:=p) (md:=md.map Int.toNat) hp.1 (by omega) (by rw [lN,hQ];exact h4) (by omega) rN (res:=res) hres
  rw [eI] at Ed
  by_cases hirr:ADM p (md.map Int.toNat)
  ·have hri:(true=true↔ADM p (md.map Int.toNat)):=⟨fun _=>hirr,fun _=>rfl⟩
   have:e=0:=by rw [he,if_pos ⟨⟨h1,h2,h3,by simpa [hQ] using h4⟩,by simpa using hp,fun h=>absurd h hm1',fun _=>⟨rfl,hrng,by simpa using hirr⟩⟩]
   rw [this]
   refine wk 19 (ct @Ed cz) ?_
   intro h8
   exact ge
  ·have hri:(false=true↔ADM p (md.map Int.toNat)):=⟨fun h=>(by cases h),fun h=>absurd h hirr⟩
   rw [no fun h=>hirr (by have:=(h.2.2.2 hm1').2.2;simpa using this)]
   refine wk 19 (ct @Ed cz) ?_
   intro h8
   exact ge
structure Fok (p m:Nat) (md:List Int):Prop where
 pr:Prm p
 m1:1≤m
 m8:m≤8
 q:p ^ m≤256
 one:m=1→md=[]
 len:m≠1→md.length=m
 rng:∀ x∈md,0≤x∧x<(p:Int)
 irr:m≠1→ADM p (md.map Int.toNat)
theorem ACz {P M:Int}{md:List Int}(h:Wg P M md):∃ p m:Nat,P=p∧M=m∧Fok p m md:=by
 obtain ⟨⟨h1,h2,h3,h4⟩,hp,ho,hn⟩:=h
 refine ⟨P.toNat,M.toNat,by omega,by omega,hp,by omega,by omega,h4,fun e=>List.length_eq_zero_iff.1 (ho (by omega)),fun e=>?_,fun x hx=>?_,fun e=>(hn (by omega)).2.2⟩
 ·have:=(hn (by omega)).1;omega
 ·by_cases e:M=1
  ·have:=List.length_eq_zero_iff.1 (ho e)
   rw [this] at hx;cases hx
  ·have:=(hn e).2.1 x hx
   omega
def Ax (m:Nat) (md:List Int):List Int:=if m=1 then [0] else md
section
variable {p m:Nat}{md:List Int}(K:Fok p m md)
include K
theorem Fok.p2:2≤p:=K.pr.1
theorem Fok.p256:p≤256:=Nat.le_trans (Nat.le_self_pow (by have:=K.m1;omega) p) K.q
theorem Fok.flen:(Ax m md).length=m:=by
 unfold Ax
 by_cases h:m=1
 ·rw [if_pos h,h];rfl
 ·rw [if_neg h,K.len h]
theorem Fok.fi:FI (p ^ m) (Ad (fA p m)) (Ad (fM p (Ax m md))):=by
 have hl:=K.flen
 have h:=AKv K.pr (f:=Ax m md) (by rw [hl];exact K.m1) (by
  unfold Ax
  by_cases h:m=1
  ·rw [if_pos h]
   rintro ⟨g,s,h1,h2,h3,_⟩
   simp at h3;omega
  ·rw [if_neg h,← Sx fun x hx=>(K.rng x hx).1]
   exact AEJ (by have:=K.p2;omega) (K.irr h))
 rw [hl] at h
 exact ALU h
theorem Fok.ord:Hv p m=((p ^ m:Nat):Int):=by
 have:=K.p2;have:=K.m1;have:=K.m8
 rw [Hv,if_pos ⟨by omega,by omega,by omega,by simpa using K.q⟩];simp
end
theorem Fk {P M x:Int}{pm:Option Addr}{n c:Nat}{res:Bool}(hres:decide (0≤x∧x<Hv P M)=res):Bt Tryz.prog 147 [.agg #[.int .i64 P,.int .i64 M,.slice pm n c],.int .i64 x] [] [] (Rv (.bool res) []):=by
 subst hres
 refine Ab (F:=Re) rfl fun C=>?_
 by_cases h:0≤x
 ·rw [show decide (0≤x∧x<Hv P M)=decide (x<Hv P M) from decide_eq_decide.2 ⟨fun h=>h.2,fun h2=>⟨h,h2⟩⟩]
  refine wk 13 (ct @Bn cz) ?_
  intro b1 h1
  exact ge
 ·rw [decide_eq_false fun h2=>h h2.1]
  refine wk 10 cz ?_
  intro b1 h1
  exact ge
def inI (q x:Int):Int:=if 0≤x∧x<q then x else 0
theorem Sb {P M x:Int}{pm:Option Addr}{n c:Nat}{res:Int}(hres:inI (Hv P M) x=res):Bt Tryz.prog 138 [.agg #[.int .i64 P,.int .i64 M,.slice pm n c],.int .i64 x] [] [] (Rv (.int .i64 res) []):=by
 subst hres
 refine Ab (F:=Rt) rfl fun C=>?_
 by_cases h:0≤x∧x<Hv P M
 ·have hd:decide (0≤x∧x<Hv P M)=true:=decide_eq_true h
  rw [inI,if_pos h]
  refine wk 12 (ct @Fk cz) ?_
  intro b1
  exact ge
 ·have hd:decide (0≤x∧x<Hv P M)=false:=decide_eq_false h
  rw [inI,if_neg h]
  refine wk 12 (ct @Fk cz) ?_
  intro b1
  exact ge
abbrev OvI (e:TypeId) (n:Nat) (l:List Nat):Value→List Fact→List A4→Prop:=fun v Φ β=>∃ b,v = .slice (some ⟨b,0,none⟩) n n∧Φ=[]∧β=[(some b,e,Ao .i64 l)]
theorem Nr {p n x:Nat}(hp:1≤p) (hp2:p≤1000000) (hn:n≤100) (hx:x≤1000000000):Bt Tryz.prog 137 [.int .i64 x,.int .i64 p,.int .i64 n] [] [] (OvI 3 n (Db p n x)):=by
 refine Ab (F:=H1) rfl fun C=>?_
 have hl:=Dx p n x
 refine wk 9 cz ?_
 intro b1
 rw [show List.replicate n 0=(Db p n x).take 0++List.replicate (n-0) 0 by simp]
 refine Ah (X:=Nat) [1,2,6,7] [] (fun i=>[(8,.int .i64 (i:Int)),(0,.int .i64 ((x / p ^ i:Nat):Int))]) (fun i=>[(some b1,3,Ao .i64 ((Db p n x).take i++List.replicate (n-i) 0))]) (fun _=>[]) (fun i=>i≤n) (fun i=>n-i) 0 [] rfl rfl rfl (Nat.zero_le _) (by refine Fr.sub_cons rfl ?_;refine Fr.sub_consI rfl (by simp) ?_;repeat (first|exact Fr.sub_nil _|refine Fr.sub_cons rfl ?_)) rfl rfl ?_
 rintro i hi ih
 simp only [List.cons_append,List.nil_append] at hi ih ⊢
 have hxi:x / p ^ i≤x:=Nat.div_le_self _ _
 have hz:=fun h=>ACe (p:=p) (n:=n) (i:=i) (x:=x) h
 have hnx:x / p ^ (i+1)=x / p ^ i / p:=by rw [Nat.pow_succ,← Nat.div_div_eq_div_mul]
 by_cases hil:i<n
 ·have ih':=ih (i+1) (by omega) (by omega)
  rw [hnx,← AAe hl hil (hz hil)] at ih'
  generalize x / p ^ i=y at *
  have e1:(y:Int) % (p:Int)=((y % p:Nat):Int):=(Int.natCast_emod _ _).symm
  have e2:(y:Int) / (p:Int)=((y / p:Nat):Int):=(Int.natCast_ediv _ _).symm
  have hlen:((Db p n x).take i++List.replicate (n-i) 0).length=n:=by simp [hl];omega
  refine wk 13 cz ?_
  intro h1
  rw [e2]
  exact tw (ih')
 ·obtain rfl:i=n:=by omega
  clear hz hnx
  rw [List.take_of_length_le (by omega),Nat.sub_self,List.replicate_zero,List.append_nil]
  refine wk 7 cz ?_
  intro h1
  refine Va [] rfl rfl rfl ⟨_,rfl,rfl,rfl⟩
theorem Ec {p m nm cm:Nat}{md:List Int}{pm:Option Addr}(K:Fok p m md) {x:Int}(x0:0≤x) (x1:x<((p ^ m:Nat):Int)):Bt Tryz.prog 92 [.agg #[.int .i64 p,.int .i64 m,.slice pm nm cm],.int .i64 x] [] [] (OvI 3 m (Db p m x.toNat)):=by
 refine Ab (F:=Ns) rfl fun C=>?_
 have h1:=K.p2
 have h2:=K.p256
 have h3:=K.m8
 have h4:=K.q
 have hi:inI (Hv (p:Int) (m:Int)) x=((x.toNat:Nat):Int):=by rw [K.ord,inI,if_pos ⟨x0,x1⟩];omega
 have hx:x.toNat≤1000000000:=by omega
 have Nu:=@Nr
 refine wk 4 cz ?_
 intro b1
 (apply E5 it mx 7;(· rfl);(· rfl))
 (apply Ac;(· rfl);(· exact Cy 0 rfl rfl Hy rfl))
 (apply A3 1;(· rfl);(· simp))
 (apply Ac;(· rfl);(· exact Cg fun _=>Aw [] rfl (Sb (by omega)) rfl (by rintro _ _ _ ⟨rfl,rfl,rfl⟩;exact An)))
 (apply Ac;(· rfl);(· exact Cg fun _=>Aq rfl Pn An))
 (apply Ac;(· rfl);(· exact Ca 0 rfl rfl Ci rfl))
 (apply Ac;(· rfl);(· exact Cg fun _=>Aq rfl P9 An))
 (apply Ac;(· rfl);(· exact Ca 0 rfl rfl Ci rfl))
 refine Et rfl ?_
 simp only [List.map_cons,List.map_nil,List.cons_append,List.nil_append]
 refine wk 3 (ct @Nu cz) ?_
 intro b2
 refine D4 2 [0] [] rfl (.tmp rfl .nil) rfl rfl rfl ⟨_,rfl,rfl,rfl⟩
theorem AE1 {T D:List Nat}{i n:Nat}(hT:T.length=n) (hD:D.length=n) (hi:i<n) {z:Nat}(hz:T[i]?=some z):(T.take i++D.drop i).set i z=T.take (i+1)++D.drop (i+1):=by
 have hl:(T.take i).length=i:=by rw [List.length_take];omega
 rw [List.set_append,if_neg (by omega),hl,Nat.sub_self,List.drop_eq_getElem_cons (by omega),List.set_cons_zero,List.take_add_one,hz]
 simp
theorem AHg {T D:List Nat}{i n:Nat}(hT:T.length=n) (hD:D.length=n) (hi:i<n):(T.take i++D.drop i)[i]?=D[i]?:=by
 have hl:(T.take i).length=i:=by rw [List.length_take];omega
 rw [List.getElem?_append_right (by omega),hl,Nat.sub_self,List.getElem?_drop,Nat.add_zero]
theorem Jg {p m nm cm:Nat}{md:List Int}{pm:Option Addr}(K:Fok p m md) {x y:Int}(x0:0≤x) (x1:x<((p ^ m:Nat):Int)) (y0:0≤y) (y1:y<((p ^ m:Nat):Int)) :
  Bt Tryz.prog 41 [.agg #[.int .i64 p,.int .i64 m,.slice pm nm cm],.int .i64 x,.int .i64 y] [] [] (Rv (.int .i64 (Ad (fA p m) x y)) []):=by
 refine Ab (F:=Q1) rfl fun C=>?_
 have h1:=K.p2
 have h2:=K.p256
 have h3:=K.m8
 have h4:=K.q
 let T:List Nat:=(List.range m).map fun j=>((Db p m x.toNat).getD j 0+(Db p m y.toNat).getD j 0) % p
 have lT:T.length=m:=by simp [T]
 have lx:=Dx p m x.toNat
 have ly:=Dx p m y.toNat
 have eT:Gj p T=fA p m x.toNat y.toNat:=by
  rw [fA,un]
  congr 1
  refine List.map_congr_left fun j hj=>?_
  have hj:=List.mem_range.1 hj
  rw [P1 hj,P1 hj,← Int.natCast_add,← Int.natCast_emod]
  exact (Int.toNat_natCast _).symm
 have rT:∀ d∈T,d<p:=fun d hd=>by
  obtain ⟨j,_,rfl⟩:=List.mem_map.1 hd
  exact Nat.mod_lt _ (by omega)
 have tz:∀ i,i<m→T[i]?=some (((Db p m x.toNat).getD i 0+(Db p m y.toNat).getD i 0) % p):=fun i hi=>by
  rw [List.getElem?_map,List.getElem?_range hi];rfl
 have xr:=fun d hd=>I3 (p:=p) (n:=m) (x:=x.toNat) (by omega) d hd
 have yr:=fun d hd=>I3 (p:=p) (n:=m) (x:=y.toNat) (by omega) d hd
 have eR:Ad (fA p m) x y=((Gj p T:Nat):Int):=by rw [eT];rfl
 rw [eR]
 clear eR eT
 clear_value T
 have ep:p ^ T.length≤1000000:=by rw [lT];omega
 refine wk 16 (ct @Ec (ct @Ec cz)) ?_
 intro b1 b2 b3
 rw [show Ao .i64 (Db p m x.toNat)=Ao .i64 (T.take 0++(Db p m x.toNat).drop 0) by simp]
 refine Ah (X:=Nat) [3,6,7,8] [] (fun i=>[(9,.int .i64 (i:Int))]) (fun i=>[(some b3,3,Ao .i64 (Db p m y.toNat)),(some b2,3,Ao .i64 (T.take i++(Db p m x.toNat).drop i)),(some b1,24,[.int .i64 p,.int .i64 m,.slice pm nm cm])]) (fun _=>[]) (fun i=>i≤m) (fun i=>m-i) 0 [] rfl rfl rfl (Nat.zero_le _) (by repeat (first|exact Fr.sub_nil _|refine Fr.sub_cons rfl ?_)) rfl rfl ?_
 rintro i hi ih
 simp only [List.cons_append,List.nil_append] at hi ih ⊢
 by_cases hil:i<m
 ·have zx:(Db p m x.toNat)[i]?=some ((Db p m x.toNat).getD i 0):=by rw [List.getD_eq_getElem?_getD,List.getElem?_eq_getElem (by omega)];rfl
  have zy:(Db p m y.toNat)[i]?=some ((Db p m y.toNat).getD i 0):=by rw [List.getD_eq_getElem?_getD,List.getElem?_eq_getElem (by omega)];rfl
  have zt:=tz i hil
  have bx:=xr _ (List.mem_of_getElem? zx)
  have by':=yr _ (List.mem_of_getElem? zy)
  have ih':=ih (i+1) (by omega) (by omega)
  have zm:=(AHg (T:=T) (D:=Db p m x.toNat) lT lx hil).trans zx
  have lm:(T.take i++(Db p m x.toNat).drop i).length=m:=by rw [List.length_append,List.length_take,List.length_drop];omega
  rw [← AE1 lT lx hil zt] at ih'
  generalize (Db p m x.toNat).getD i 0=u at *
  generalize (Db p m y.toNat).getD i 0=v at *
  have em:((u:Int)+(v:Int)) % (p:Int)=(((u+v) % p:Nat):Int):=by rw [← Int.natCast_add,← Int.natCast_emod]
  refine wk 13 cz ?_
  intro h5
  exact tw (ih')
 ·obtain rfl:i=m:=by omega
  clear ih
  rw [List.take_of_length_le (by omega),List.drop_of_length_le (by omega),List.append_nil,Ho .i64 T]
  refine wk 9 cz ?_
  intro h5
  refine Hh 8 (Bb T) 1 rfl (by rw [Ch,lT]) (Vu fun d hd=>by have:=rT d hd;omega) (by omega) (by omega) ?_
  simp only [List.eraseIdx_cons_zero,List.eraseIdx_cons_succ]
  refine wk 3 (ct @F7 cz) ?_
  exact ge
end Go.Proofs.YtpienolhkccpnaaGreat
