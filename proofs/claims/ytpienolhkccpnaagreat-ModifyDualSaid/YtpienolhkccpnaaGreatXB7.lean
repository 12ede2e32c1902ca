/-
The rows of a space are taken off a word, in the program. A part split by a pivot: what holds meanwhile. A part split into what is no greater than an entry and what is. The parts of a list that is put in order by pivots. Two spaces: what is left of the rows of one, sums, intersections. Intersections; two codes, their sum and what they share. Sets of positions, and codes without them. Punctured and shortened codes. Codes that are the same; codes small enough. The word of ones. Expurgated and augmented codes, subcodes. Sums, products and digits in a field, behind a pointer. Extended codes. Binary digits; powers by squaring; binomial coefficients. Equations with their right hand sides, and their solution by places. The program's test whether a word is in a space, or in a code. The program's test whether a word is in a code. The branches of a node of a hitting tree, in the program and in the document. Hitting trees: what the program's walk through one answers, and what an accepted one shows. The program's walk through a hitting tree. The program's judgement on a hitting tree. The program's CheckProof. The law's function RepairSound: an accepted tree, and what the document says. Sets with one more position; branches, in the document. The hunt for a smallest set of helpers, in plain words. Short lists are put in order, in the library. Insertion, in the library. A round of a range over a function. The values of a slice, collected. Sorted lists of values, for short lists. Permuted codes. Powers of the characteristic, behind a pointer to a field. Solving a square system, in place. The system of the conjugates.
-/
import Derived.Test.YtpienolhkccpnaaGreatXB6
set_option linter.unusedVariables false
set_option linter.unusedSimpArgs false
namespace Go.Proofs.YtpienolhkccpnaaGreat
open Go Go.Fw
set_option maxRecDepth 100000
set_option linter.unusedVariables false
set_option linter.unusedSimpArgs false
set_option maxHeartbeats 0
abbrev ReQ (N:Nat) (l:List Int):Value→List Fact→List A2→Prop:=fun v Φ β=>∃ (r:Row) (pt:Option Addr) (kt ct:Nat),v = .tuple #[.slice (ad r.bo) N r.cap,.slice pt kt ct]∧Φ=[A6 Ai r N l]∧β=[(r.bo,3,r.cs)]
theorem Ra {p m b ng cg ce cl n c k cp nx cx N:Nat}{pg pe pl ps pp px:Option Addr}{md x:List Int}{rows:List (List Int)}{P:List Nat}(K:Fok p m md) (hR:Red (p ^ m) N rows P) (hlen:rows.length=P.length) (hN1:1≤N) (hN:N≤1000000) (hPl:P.length≤1000000) (hx:Wd (p ^ m) N x) :
  Bs Tryz.prog 176 [.agg #[.pointer (some ⟨b,0,none⟩),.int .i64 N,.slice ps n c,.slice pp k cp],.slice px nx cx] [] [I2 b p m (p ^ m) pg ng cg pe (p ^ m-1) ce pl (p ^ m) cl,Ap Ai pe (p ^ m-1) ce (Jg p m md),Ap Ai pl (p ^ m) cl (Jf p m md),Ap (Aj Ai) ps n c rows,Ap Ai pp k cp (Bc P),Ap Ai px nx cx x]
   (ReQ N (rpF (Ad (fA p m)) (Ad (fM p (Ax m md))) (C3 p m) P rows x)):=by
 refine Ab (F:=R8) rfl fun C=>?_
 have O:=AId K
 have FF:=O.fi
 have hq:=K.q
 have hq2:=O.q2
 refine Bb 3 rfl fun hn hb _=>?_
 subst hn
 refine Bb 4 rfl fun hn hb2 _=>?_
 rw [Ch] at hn
 subst hn
 refine Bb 5 rfl fun hn hb3 _=>?_
 have hnx:=hx.1
 rw [hnx] at hn
 subst hn
 have A8:=fun {b ng cg ce cl:Nat}{pg pe pl:Option Addr}{x y:Int}=>C1 (b:=b) (ng:=ng) (cg:=cg) (ce:=ce) (cl:=cl) (pg:=pg) (pe:=pe) (pl:=pl) (x:=x) (y:=y) K
 have Kp:=fun {b ng cg ne ce nl cl:Nat}{pg pe pl:Option Addr}{x y:Int}=>Qj (b:=b) (ng:=ng) (cg:=cg) (ne:=ne) (ce:=ce) (nl:=nl) (cl:=cl) (pg:=pg) (pe:=pe) (pl:=pl) (x:=x) (y:=y) K
 generalize Ad (fM p (Ax m md))=M at *
 generalize Ad (fA p m)=A0 at *
 generalize C3 p m=Ng at *
 refine wk 13 (ct @D7 cz) ?_
 intro b1 r1
 simp only [List.cons_append,List.nil_append]
 refine Dt 0 rfl hN1 fun b9 cap9 cs9 hr=>?_
 subst hr
 refine Fz Ai 3 ?_
 refine Ah (X:=Nat×List Value×Row×List Int) [2,4,14,15] [0,1,2,3,4,5,6,7] (fun x'=>[(16,.int .i64 (x'.1:Int)),(4,.slice (some ⟨b9,0,none⟩) nx cap9),(5,.slice (ad x'.2.2.1.bo) x'.1 x'.2.2.1.cap)]) (fun x'=>[(x'.2.2.1.bo,3,x'.2.2.1.cs),(some b9,3,x'.2.1),(some b1,108,[.pointer (some ⟨b,0,none⟩),.int .i64 nx,.slice ps rows.length c,.slice pp P.length cp])])
  (fun x'=>[A6 Ai x'.2.2.1 x'.1 x'.2.2.2,A6 Ai ⟨some b9,cap9,x'.2.1⟩ nx (rpF A0 M Ng (P.take x'.1) (rows.take x'.1) x)]) (fun x'=>x'.1≤P.length) (fun x'=>P.length-x'.1) (0,cs9,⟨none,0,[]⟩,[]) [0,1] rfl rfl rfl (Nat.zero_le _) (by repeat (first|exact Fr.sub_nil _|refine Fr.sub_cons rfl ?_)) rfl rfl ?_
 rintro ⟨i,cs,r,tl⟩ hi ih
 simp only [List.cons_append,List.nil_append] at hi ih ⊢
 by_cases hil:i<P.length
 ·obtain ⟨pi,hpi⟩:∃ pi,P[i]?=some pi:=⟨_,List.getElem?_eq_getElem hil⟩
  obtain ⟨ri,at_r⟩:∃ ri,rows[i]?=some ri:=⟨_,List.getElem?_eq_getElem (by omega)⟩
  have at_p:(Bc P)[i]?=some (pi:Int):=Ie hpi
  have hpn:=hR.ech.lt pi (List.mem_of_getElem? hpi)
  have hri:=hR.mat ri (List.mem_of_getElem? at_r)
  have hL:=O.rp_wd (P:=P.take i) (R:=rows.take i) (fun r hr=>hR.mat r (List.mem_of_mem_take hr)) hx
  have hst:rpF A0 M Ng (P.take (i+1)) (rows.take (i+1)) x=Ey A0 M (Ng (Ba (rpF A0 M Ng (P.take i) (rows.take i) x) pi)) ri (rpF A0 M Ng (P.take i) (rows.take i) x):=by
   rw [List.take_add_one,List.take_add_one,hpi,at_r]
   exact ADt (by rw [List.length_take,List.length_take,hlen])
  have ih':=fun cs r tl=>ih (i+1,cs,r,tl) (by dsimp only;omega) (by dsimp only;omega)
  dsimp only at ih'
  simp only [hst] at ih'
  generalize rpF A0 M Ng (P.take i) (rows.take i) x=L at *
  have at_y:L[pi]?=some (Ba L pi):=by rw [Ba,List.getD_eq_getElem?_getD,List.getElem?_eq_getElem (by rw [hL.1];exact hpn)];rfl
  obtain ⟨y0,y1⟩:=Bh (by omega) hL pi
  generalize Ba L pi=y at *
  obtain ⟨⟨n0,n1⟩,_⟩:=O.ng y y0 y1
  by_cases hy:y=0
  ·have e0:Ey A0 M (Ng y) ri L=L:=by rw [hy,O.n0];exact O.axp0 hri hL
   rw [e0] at ih'
   refine wk 6 cz ?_
   intro h1
   refine Aa rfl (Io 8 (i) rfl rfl rfl Cb rfl (by omega) fun z1 hz1 b2 o1=>?_)
   obtain rfl:_=z1:=Option.some.inj (at_p.symm.trans hz1)
   refine Aa rfl (Av 0 rfl rfl Ci fun ⟨r1,r2⟩=>?_)
   refine wk 4 cz ?_
   refine Aa rfl (Ss 1 2 (pi) rfl rfl rfl Ci rfl (by assumption) fun hr1=>?_)
   refine wk 4 cz ?_
   intro b3
   refine Aa rfl (F1 (z:=(y:Int)) 1 0 1 rfl rfl rfl rfl rfl Cb Er rfl (fun w A hG=>(Dh (by first|(simp only [Bv];omega)|(simp [Bv];done)))) (by omega) _ Hf (by omega) fun r3=>?_)
   refine wk 8 cz ?_
   intro h2
   refine Ky [true,false,true,true] [0,3,4,5,6,7,8,9,10,11] (by exact Ux rfl) rfl rfl (ih' cs r3 (tl++[y]))
  ·have hy':=hy
   obtain ⟨hax0,hax1⟩:Wd (p ^ m) nx (Ey A0 M (Ng y) ri L):=FF.axw n0 n1 hri hL
   have hLl:=hL.1
   have hrl:=hri.1
   refine wk 6 cz ?_
   intro h1
   refine Aa rfl (Io 8 (i) rfl rfl rfl Cb rfl (by omega) fun z1 hz1 b2 o1=>?_)
   obtain rfl:_=z1:=Option.some.inj (at_p.symm.trans hz1)
   refine Aa rfl (Av 0 rfl rfl Ci fun ⟨r1,r2⟩=>?_)
   refine wk 4 cz ?_
   refine Aa rfl (Ss 1 2 (pi) rfl rfl rfl Ci rfl (by assumption) fun hr1=>?_)
   refine wk 4 cz ?_
   intro b3
   refine Aa rfl (F1 (z:=(y:Int)) 1 0 1 rfl rfl rfl rfl rfl Cb Er rfl (fun w A hG=>(Dh (by first|(simp only [Bv];omega)|(simp [Bv];done)))) (by omega) _ Hf (by omega) fun r3=>?_)
   refine wk 8 cz ?_
   intro h2
   refine Aa rfl (Bm 3 rfl rfl H3 rfl ?_)
   refine wk 1 cz ?_
   refine Aa rfl (Io 9 (i) rfl rfl rfl D5 rfl (by omega) fun z1 hz2 b4 o2=>?_)
   obtain rfl:_=z1:=Option.some.inj (at_r.symm.trans hz2)
   refine Aa rfl (Y1 0 rfl rfl Fb fun pa1 ca1=>?_)
   refine wk 3 cz ?_
   refine Ah (X:=Nat×List Value) [2,4,5,6,7,8,14,15,16,17,18,19,20,21,22,23,24,25,26,27,28,29,30,31,32,33,34,35,36,37] [0,1,2,3,4,5,6,7,8,9,10,11,12,13] (fun z=>[(38,.int .i64 (z.1:Int))]) (fun z=>[(r3.bo,3,r3.cs),(some b3,3,[.int .i64 y]),(some b9,3,z.2),(some b1,108,[.pointer (some ⟨b,0,none⟩),.int .i64 nx,.slice ps rows.length c,.slice pp P.length cp])]) (fun z=>[A6 Ai ⟨some b9,cap9,z.2⟩ nx ((Ey A0 M (Ng y) ri L).take z.1++L.drop z.1)]) (fun z=>z.1≤nx) (fun z=>nx-z.1) (0,cs) [5] rfl rfl rfl (Nat.zero_le _) (by repeat (first|exact Fr.sub_nil _|refine Fr.sub_cons rfl ?_)) rfl rfl ?_
   rintro ⟨j,cs⟩ hj ihj
   simp only [List.cons_append,List.nil_append] at hj ihj ⊢
   by_cases hjl:j<nx
   ·obtain ⟨z,at_z⟩:∃ z,ri[j]?=some z:=⟨_,List.getElem?_eq_getElem (by omega)⟩
    obtain ⟨u,hu⟩:∃ u,L[j]?=some u:=⟨_,List.getElem?_eq_getElem (by omega)⟩
    obtain ⟨z0,z1⟩:=hri.2 z (List.mem_of_getElem? at_z)
    obtain ⟨u0,u1⟩:=hL.2 u (List.mem_of_getElem? hu)
    obtain ⟨m0,m1⟩:=FF.ml y z y0 y1 z0 z1
    have hT:(Ey A0 M (Ng y) ri L)[j]?=some (A0 u (Ng (M y z))):=by rw [Ey,List.getElem?_zipWith,hu,at_z,O.ng_mul y0 y1 z0 z1]
    have hLj:=(ABJ hax0 hL.1 hjl).trans hu
    have hset:=Zz hax0 hL.1 hjl hT
    have hLl:((Ey A0 M (Ng y) ri L).take j++L.drop j).length=nx:=by rw [List.length_append,List.length_take,List.length_drop];omega
    have ihj':=fun cs=>ihj (j+1,cs) (by dsimp only;omega) (by dsimp only;omega)
    dsimp only at ihj'
    rw [← hset] at ihj'
    generalize (Ey A0 M (Ng y) ri L).take j++L.drop j=L2 at *
    obtain ⟨⟨g0,g1⟩,_⟩:=O.ng _ m0 m1
    obtain ⟨a0,a1⟩:=FF.al u _ u0 u1 g0 g1
    refine wk 6 cz ?_
    intro h3
    refine Aa rfl (Io 1 (j) rfl rfl rfl Cb rfl (by omega) fun z2 hz3 b5 o3=>?_)
    obtain rfl:_=z2:=Option.some.inj (at_z.symm.trans hz3)
    refine Aa rfl (Av 0 rfl rfl Ci fun ⟨r4,r5⟩=>?_)
    refine wk 2 cz ?_
    (apply E7 it mx 14;(· rfl);(· rfl))
    (apply A3 2;(· rfl);(· simp))
    (apply Ac;(· rfl);(· exact Cf fun _=>Aq rfl AFA An))
    (apply Ac;(· rfl);(· exact Ca 3 rfl rfl Xo rfl))
    (apply A3 2;(· rfl);(· simp))
    (apply Ac;(· rfl);(· exact Cf fun _=>Be (j) (j) rfl rfl Cb rfl (by omega) (Nat.mul_one _) An))
    (apply Ac;(· rfl);(· exact Hn 2 1 (j) rfl rfl rfl Ci rfl (by assumption)))
    (apply Ac;(· rfl);(· exact Cf fun _=>Aq rfl AFA An))
    (apply Ac;(· rfl);(· exact Ca 3 rfl rfl Xo rfl))
    (apply A3 2;(· rfl);(· simp))
    (apply Ac;(· rfl);(· exact Cf fun _=>Aw [10,11,12] rfl (A8 (by omega) (by omega) (by omega) (by omega)) rfl (by rintro _ _ _ ⟨rfl,rfl,rfl⟩;exact An)))
    (apply Ac;(· rfl);(· exact Cf fun _=>Aw [10] rfl (Kp (by omega) (by omega) (by omega) (by omega)) rfl (by rintro _ _ _ ⟨rfl,rfl,rfl⟩;exact An)))
    refine Eu rfl ?_
    simp only [List.map_cons,List.map_nil,List.cons_append,List.nil_append]
    refine wk 1 cz ?_
    refine Aa rfl (G4 (vs:=[Value.int IntKind.i64 (A0 u (Ng (M y z)))]) (z:=(A0 u (Ng (M y z)):Int)) 2 1 (j) rfl rfl rfl rfl rfl Ci (Nat.mul_one _).symm (by omega) (fun w A hG=>(Dh (by first|(simp only [Bv];omega)|(simp [Bv];done)))) fun cs1=>?_)
    refine wk 3 cz ?_
    exact tw (ihj' cs1)
   ·obtain rfl:nx=j:=by omega
    rw [List.take_of_length_le (by omega),List.drop_of_length_le (by omega),List.append_nil]
    refine wk 7 cz ?_
    intro h3
    refine Ky [true,false,true,true] [3,0,7,8,9,10,11,12,13,14] (by exact Ux rfl) rfl rfl (ih' cs r3 (tl++[y]))
 ·obtain rfl:i=P.length:=by omega
  rw [List.take_length,← hlen,List.take_length] at *
  refine wk 7 cz ?_
  intro h1
  refine Dx 3 [1] [1] rfl (.tmp rfl (.tmp rfl .nil)) rfl rfl rfl ⟨⟨some b9,cap9,cs⟩,_,_,_,rfl,rfl,rfl⟩
structure PtI (l L:List Int) (a e:Nat) (p:Int) (i j:Nat):Prop where
 seg:Seg a e l L
 p0:Ba L a=p
 i1:a+1≤i
 ij:i≤j+1
 je:j<e
 lo:∀ k,a+1≤k→k<i→Ba L k<p
 hi:∀ k,j<k→k<e→p≤Ba L k
section
variable {l L:List Int}{a e i j:Nat}{p:Int}
theorem PtI.next (h:PtI l L a e p i j) (hij:i≤j) (hx:Ba L i<p):PtI l L a e p (i+1) j:=⟨h.seg,h.p0,by have:=h.i1;omega,by omega,h.je,fun k k1 k2=>by
 by_cases c:k=i
 ·rw [c];exact hx
 ·exact h.lo k k1 (by omega),h.hi⟩
theorem PtI.swap (h:PtI l L a e p i j) (he:e≤l.length) (hij:i≤j) (hx:¬ Ba L i<p) (hy:Ba L j<p):i<j∧PtI l (sw L i j) a e p (i+1) (j-1):=by
 have hL:=h.seg.len
 have h1:=h.i1
 have h2:=h.je
 have hne:i≠j:=fun c=>by rw [c] at hx;exact hx hy
 have hsw:∀ k,Ba (sw L i j) k=if k=j then Ba L i else if k=i then Ba L j else Ba L k:=fun k=>Xv (by omega) (by omega)
 refine ⟨by omega,h.seg.trans (AAm (by omega) (by omega) (by omega) (by omega) (by omega)),?_,by omega,by omega,by omega,fun k k1 k2=>?_,fun k k1 k2=>?_⟩
 ·rw [hsw,if_neg (by omega),if_neg (by omega)];exact h.p0
 ·rw [hsw,if_neg (by omega)]
  by_cases c:k=i
  ·rw [if_pos c];exact hy
  ·rw [if_neg c];exact h.lo k k1 (by omega)
 ·rw [hsw]
  by_cases c:k=j
  ·rw [if_pos c];omega
  ·rw [if_neg c,if_neg (by omega)];exact h.hi k (by omega) k2
structure PtE (l L:List Int) (a e m:Nat):Prop where
 seg:Seg a e l L
 am:a≤m
 me:m<e
 lo:∀ k,a≤k→k<m→Ba L k≤Ba L m
 hi:∀ k,m<k→k<e→Ba L m≤Ba L k
theorem PtI.fin (h:PtI l L a e p i j) (he:e≤l.length) (hij:¬ i≤j):PtE l (sw L j a) a e j:=by
 have hL:=h.seg.len
 have h1:=h.i1
 have h2:=h.je
 have h3:=h.ij
 have hsw:∀ k,Ba (sw L j a) k=if k=a then Ba L j else if k=j then Ba L a else Ba L k:=fun k=>Xv (by omega) (by omega)
 have hm:Ba (sw L j a) j=p:=by
  rw [hsw]
  by_cases c:j=a
  ·rw [if_pos c,c];exact h.p0
  ·rw [if_neg c,if_pos rfl];exact h.p0
 refine ⟨h.seg.trans (AAm (by omega) (by omega) (by omega) (by omega) (by omega)),by omega,h2,fun k k1 k2=>?_,fun k k1 k2=>?_⟩
 ·rw [hm,hsw]
  by_cases c:k=a
  ·rw [if_pos c];exact Int.le_of_lt (h.lo j (by omega) (by omega))
  ·rw [if_neg c,if_neg (by omega)];exact Int.le_of_lt (h.lo k (by omega) (by omega))
 ·rw [hm,hsw,if_neg (by omega),if_neg (by omega)]
  exact h.hi k k1 k2
end
open Go Go.Fw
set_option maxRecDepth 100000
set_option linter.unusedVariables false
set_option linter.unusedSimpArgs false
set_option maxHeartbeats 0
structure PeI (l L:List Int) (a e:Nat) (p:Int) (i j:Nat):Prop where
 seg:Seg a e l L
 p0:Ba L a=p
 i1:a+1≤i
 ij:i≤j+1
 je:j<e
 lo:∀ k,a+1≤k→k<i→Ba L k≤p
 hi:∀ k,j<k→k<e→p<Ba L k
section
variable {l L:List Int}{a e i j:Nat}{p:Int}
theorem PeI.next (h:PeI l L a e p i j) (hij:i≤j) (hx:¬ p<Ba L i):PeI l L a e p (i+1) j:=⟨h.seg,h.p0,by have:=h.i1;omega,by omega,h.je,fun k k1 k2=>by
 by_cases c:k=i
 ·rw [c];omega
 ·exact h.lo k k1 (by omega),h.hi⟩
theorem PeI.swap (h:PeI l L a e p i j) (he:e≤l.length) (hij:i≤j) (hx:p<Ba L i) (hy:¬ p<Ba L j):i<j∧PeI l (sw L i j) a e p (i+1) (j-1):=by
 have hL:=h.seg.len
 have h1:=h.i1
 have h2:=h.je
 have hne:i≠j:=fun c=>by rw [c] at hx;exact hy hx
 have hsw:∀ k,Ba (sw L i j) k=if k=j then Ba L i else if k=i then Ba L j else Ba L k:=fun k=>Xv (by omega) (by omega)
 refine ⟨by omega,h.seg.trans (AAm (by omega) (by omega) (by omega) (by omega) (by omega)),?_,by omega,by omega,by omega,fun k k1 k2=>?_,fun k k1 k2=>?_⟩
 ·rw [hsw,if_neg (by omega),if_neg (by omega)];exact h.p0
 ·rw [hsw,if_neg (by omega)]
  by_cases c:k=i
  ·rw [if_pos c];omega
  ·rw [if_neg c];exact h.lo k k1 (by omega)
 ·rw [hsw]
  by_cases c:k=j
  ·rw [if_pos c];exact hx
  ·rw [if_neg c,if_neg (by omega)];exact h.hi k (by omega) k2
structure PeE (l L:List Int) (a e m:Nat) (p:Int):Prop where
 seg:Seg a e l L
 am:a<m
 me:m≤e
 lo:∀ k,a≤k→k<m→Ba L k≤p
 hi:∀ k,m≤k→k<e→p<Ba L k
theorem PeI.fin (h:PeI l L a e p i j) (hij:¬ i≤j):PeE l L a e i p:=by
 have h1:=h.i1
 have h2:=h.je
 have h3:=h.ij
 refine ⟨h.seg,by omega,by omega,fun k k1 k2=>?_,fun k k1 k2=>h.hi k (by omega) k2⟩
 by_cases c:k=a
 ·rw [c,h.p0];exact Int.le_refl _
 ·exact h.lo k (by omega) k2
end
open Go Go.Fw
set_option maxRecDepth 100000
set_option linter.unusedVariables false
set_option linter.unusedSimpArgs false
set_option maxHeartbeats 0
structure PdI (l L:List Int) (a0 e0 a e:Nat):Prop where
 seg:Seg a0 e0 l L
 aa:a0≤a
 ae:a≤e
 ee:e≤e0
 low:AEp L a e
 fin:∀ L',Seg a e L L'→Kk L' a e→Kk L' a0 e0
section
variable {l L L2 L3:List Int}{a0 e0 a e m:Nat}{p:Int}
theorem PdI.seg2 (h:PdI l L a0 e0 a e) (s:Seg a e L L2):PdI l L2 a0 e0 a e :=
 ⟨h.seg.trans (s.wide h.aa h.ee),h.aa,h.ae,h.ee,h.low.seg s,fun L' t u=>h.fin L' (s.trans t) u⟩
theorem PdI.done (h:PdI l L a0 e0 a e) (s:Seg a e L L2) (u:Kk L2 a e):Seg a0 e0 l L2∧Kk L2 a0 e0 :=
 ⟨h.seg.trans (s.wide h.aa h.ee),h.fin _ s u⟩
theorem PdI.eq (h:PdI l L a0 e0 a e) (h0:0<a) (hp:p≤Ba L (a-1)) (q:PeE L L2 a e m p):PdI l L2 a0 e0 m e:=by
 have hlow:∀ i,a≤i→i<e→p≤Ba L i:=fun i h1 h2=>by
  rcases h.low with h3|h3
  ·omega
  ·have:=h3 i h1 h2;omega
 have hall:=q.seg.all (P:=fun x=>p≤x) hlow
 have am:=q.am
 have me:=q.me
 have heq:∀ i,a≤i→i<m→Ba L2 i=p:=fun i h1 h2=>Int.le_antisymm (q.lo i h1 h2) (hall i h1 (by omega))
 have h2:=h.seg2 q.seg
 refine ⟨h2.seg,by have:=h.aa;omega,me,h.ee,.inr fun i h1 h3=>?_,fun L' s u=>?_⟩
 ·rw [heq (m-1) (by omega) (by omega)];exact Int.le_of_lt (q.hi i h1 h3)
 ·refine h2.fin L' (s.wide (by omega) (Nat.le_refl _)) (ALp (m:=m) (x:=p) (fun i h1 h3=>?_) (fun i h1 h3=>?_) u)
  ·rw [s.out i (.inl h3)];exact heq i h1 h3
  ·exact s.all (P:=fun x=>p≤x) (fun j j1 j2=>Int.le_of_lt (q.hi j j1 j2)) i h1 h3
end
open Go Go.Fw
set_option maxRecDepth 100000
set_option linter.unusedVariables false
set_option linter.unusedSimpArgs false
set_option maxHeartbeats 0
noncomputable abbrev rsR (p m:Nat) (md:List Int) (P:List Nat) (rows B:List (List Int)):List (List Int):=B.map (rpF (Ad (fA p m)) (Ad (fM p (Ax m md))) (C3 p m) P rows)
theorem Ti {p m b ng cg ce cl n c k cp nx cx N:Nat}{pg pe pl ps pp px:Option Addr}{md:List Int}{rows B:List (List Int)}{P:List Nat}(K:Fok p m md) (hR:Red (p ^ m) N rows P) (hlen:rows.length=P.length) (hN1:1≤N) (hN:N≤1000000) (hPl:P.length≤1000000) (hB:Cz (p ^ m) N B) :
  Bs Tryz.prog 160 [.agg #[.pointer (some ⟨b,0,none⟩),.int .i64 N,.slice ps n c,.slice pp k cp],.agg #[.int .i64 N,.slice px nx cx]] [] [I2 b p m (p ^ m) pg ng cg pe (p ^ m-1) ce pl (p ^ m) cl,Ap Ai pe (p ^ m-1) ce (Jg p m md),Ap Ai pl (p ^ m) cl (Jf p m md),Ap (Aj Ai) ps n c rows,Ap Ai pp k cp (Bc P),Ap (Aj Ai) px nx cx B]
   (fun v Φ β=>∃ (pr:Option Addr) (cr:Nat),v = .agg #[.int .i64 N,.slice pr nx cr]∧Φ=[Ap (Aj Ai) pr nx cr (rsR p m md P rows B)]∧β=[]):=by
 refine Ab (F:=S9) rfl fun C=>?_
 refine Bb 5 rfl fun hn hb _=>?_
 subst hn
 have hb':B.length*24≤140737488355328:=hb
 have hq:=K.q
 have O:=Dc K
 have R1:=fun {b ng cg ce cl n c k cp nx cx:Nat}{pg pe pl ps pp px:Option Addr}{x:List Int}(h:Wd (p ^ m) N x)=>Ra (b:=b) (ng:=ng) (cg:=cg) (ce:=ce) (cl:=cl) (n:=n) (c:=c) (k:=k) (cp:=cp) (nx:=nx) (cx:=cx) (pg:=pg) (pe:=pe) (pl:=pl) (ps:=ps) (pp:=pp) (px:=px) K hR hlen hN1 hN hPl h
 refine Am [_,_] rfl ?_
 refine Aa rfl (Cm rfl fun b1=>?_)
 refine Aa rfl (Cm rfl fun b2=>?_)
 refine Aa rfl (Bk Ha fun b3=>?_)
 refine Am [_,_] rfl ?_
 refine Aa rfl (Aq rfl I3 ?_)
 refine Aa rfl (Bm 1 rfl rfl Ci rfl ?_)
 refine Aa rfl (Dq (cs:=[Value.int IntKind.i64 ↑N,Value.slice none 0 0]) U4 Ha rfl rfl ?_)
 refine Aa rfl (Bk Ha fun b4=>?_)
 refine Aa rfl (A7 0 rfl rfl rfl Gd rfl rfl (by simp [Value.oneCell']) ?_)
 refine Am [_,_,_] rfl ?_
 refine Aa rfl (Aq rfl Hv ?_)
 refine Aa rfl (Bm 2 rfl rfl H3 rfl ?_)
 refine Aa rfl (G6 D5 rfl ?_)
 refine Ae it 1 rfl (by simp) ?_
 refine Am [_,_,_] rfl ?_
 refine Fz (Aj Ai) 22 ?_
 simp only [Ce,Df,setB,List.take_succ_cons,List.cons_append,List.nil_append,List.take_zero,List.drop_succ_cons,List.drop_zero,List.length_singleton,Nat.zero_add]
 refine Ah (X:=Nat×Row) [2,4,5,14,15] [0,1,2,3,4,5,6] (fun z=>[(16,.int .i64 (z.1:Int))]) (fun z=>(z.2.bo,22,z.2.cs)::(some b4,62,[.int .i64 N,.slice (ad z.2.bo) z.1 z.2.cap])::_) (fun z=>[A6 (Aj Ai) z.2 z.1 (rsR p m md P rows (B.take z.1))]) (fun z=>z.1≤B.length) (fun z=>B.length-z.1) (0,⟨none,0,[]⟩) [0] rfl rfl rfl (Nat.zero_le _) (by repeat (first|exact Fr.sub_nil _|refine Fr.sub_cons rfl ?_)) rfl rfl ?_
 rintro ⟨i,r⟩ hi ih
 simp only [List.cons_append,List.nil_append] at hi ih ⊢
 by_cases hil:i<B.length
 ·obtain ⟨u,at_u⟩:∃ u,B[i]?=some u:=⟨_,List.getElem?_eq_getElem hil⟩
  have hu:=hB u (List.mem_of_getElem? at_u)
  have ih1:=fun r=>ih (i+1,r) (by dsimp only;omega) (by dsimp only;omega)
  dsimp only at ih1
  rw [rsR,List.take_add_one (l:=B),at_u,Option.toList_some,List.map_append,List.map_cons,List.map_nil] at ih1
  have hw:=O.rp_wd (P:=P) hR.mat hu
  have hwl:=hw.1
  clear ih
  refine wk 18 (ct @R1 cz) ?_
  intro h1 b5 o1 hz1 pa1 ca1 r1 pt1 kt1 ct1 b6
  refine D4 1 0 rfl rfl (by show (N)*8≤140737488355328;omega) ?_
  refine Aa rfl (F1 (z:=rpF (Ad (fA p m)) (Ad (fM p (Ax m md))) (C3 p m) P rows u) 1 0 4 rfl rfl rfl rfl rfl D5 I5 rfl (fun w A hG=>(A1 (hG _ (Af (n:=0) rfl)))) (by omega) _ Nd (by omega) fun r2=>?_)
  refine wk 5 cz ?_
  refine Ky [true,false,true,true,true,true] [0,6,7,8,9,10,11,12] (by exact Ux rfl) rfl rfl (ih1 r2)
 ·obtain rfl:i=B.length:=by omega
  clear ih
  rw [List.take_length]
  refine D4 0 0 rfl rfl (by show B.length*24≤140737488355328;omega) ?_
  simp only [List.eraseIdx_cons_zero,List.eraseIdx_cons_succ]
  refine wk 8 cz ?_
  intro h1
  refine Bj [0] rfl (.agg 1 rfl rfl Gd rfl .nil) rfl ⟨_,_,rfl,rfl,rfl⟩
section
variable {p m n c nm cm n2 c2 N:Nat}{pm ps p2:Option Addr}{md:List Int}{rows B:List (List Int)}
theorem Qk (CC:Cok p m md N rows) (CB:Cok p m md N B) :
  Bs Tryz.prog 159 [.agg #[.int .i64 p,.int .i64 m,.slice pm nm cm],.agg #[.int .i64 N,.slice ps n c],.agg #[.int .i64 N,.slice p2 n2 c2]] [] [Ap Ai pm nm cm md,Ap (Aj Ai) ps n c rows,Ap (Aj Ai) p2 n2 c2 B]
   (fun v Φ β=>∃ (b b':Nat) (pg:Option Addr) (cg:Nat) (pe:Option Addr) (ce:Nat) (pl:Option Addr) (cl:Nat) (pp pp':Option Addr) (cp cp':Nat),
    v = .tuple #[.agg #[.pointer (some ⟨b,0,none⟩),.int .i64 N,.slice ps rows.length c,.slice pp (Dm p m md N rows).2.length cp],.agg #[.pointer (some ⟨b',0,none⟩),.int .i64 N,.slice p2 B.length c2,.slice pp' (Dm p m md N B).2.length cp'],.int .i64 0]
    ∧ Φ=Ap Ai pp (Dm p m md N rows).2.length cp (Bc (Dm p m md N rows).2)::gfL p m md b pg cg pe ce pl cl∧β=[]):=by
 refine Ab (F:=ACf) rfl fun C=>?_
 have h64:=CC.n64
 have hl1:=CC.len
 have hl2:=CB.len
 have Eb:=fun {pm ps:Option Addr}{nm cm n c:Nat}{rows:List (List Int)}(h:Cok p m md N rows)=>Ko (pm:=pm) (nm:=nm) (cm:=cm) (ps:=ps) (n:=n) (c:=c) (rows:=rows) h.K (show N≤256 by omega) (by have:=h.len;omega) h.mat h.can
 refine wk 38 (ct @Eb (ct @Eb cz)) ?_
 intro b1 b2 b3 b4 b5 b6 pg1 cg1 pe1 ce1 pl1 cl1 pp1 cp1 h1 b7 pg2 cg2 pe2 ce2 pl2 cl2 pp2 cp2 h2 h3
 refine Bj [5,6,7,8,9] rfl (.agg 1 rfl rfl Zr rfl (.agg 0 rfl rfl Zr rfl (.tmp rfl .nil))) rfl ⟨_,_,_,_,_,_,_,_,_,_,_,_,rfl,rfl,rfl⟩
theorem Sb (CC:Cok p m md N rows) (CB:Cok p m md N B) :
  Bs Tryz.prog 125 [.agg #[.int .i64 p,.int .i64 m,.slice pm nm cm],.agg #[.int .i64 N,.slice ps n c],.agg #[.int .i64 N,.slice p2 n2 c2]] [] [Ap Ai pm nm cm md,Ap (Aj Ai) ps n c rows,Ap (Aj Ai) p2 n2 c2 B]
   (fun v Φ β=>∃ (pb:Option Addr) (nb cb:Nat),v = .tuple #[.agg #[.int .i64 N,.slice pb nb cb],.int .i64 0]∧Φ=[Ap (Aj Ai) pb nb cb (Dm p m md N (rows++B)).1]∧β=[]):=by
 refine Ab (F:=ACX) rfl fun C=>?_
 refine Bb 1 rfl fun hn _ _=>?_
 subst hn
 refine Bb 2 rfl fun hn _ _=>?_
 subst hn
 have K:=CC.K
 have O:=Dc K
 have h64:=CC.n64
 have h1:=CC.n1
 have hl1:=CC.len
 have hl2:=CB.len
 obtain ⟨hR,hRl⟩:=CC.red
 have hPl:=hR.piv_le
 have hRM:Cz (p ^ m) N (rsR p m md (Dm p m md N rows).2 rows B):=O.rests_mat CC.mat CB.mat
 have hRL:(rsR p m md (Dm p m md N rows).2 rows B).length=B.length:=List.length_map _
 have hC1:Cz (p ^ m) N (Dm p m md N (rsR p m md (Dm p m md N rows).2 rows B)).1:=(O.cn hRM).1.mat
 obtain ⟨hC2,hC3⟩:=V1 K hRM
 have hS:Dm p m md N ((Dm p m md N (rsR p m md (Dm p m md N rows).2 rows B)).1++rows)=Dm p m md N (rows++B):=O.sum_rests CC.mat CB.mat
 have hSM:=K9 hC1 CC.mat
 rw [← hS]
 have Pu:=fun {pm ps p2:Option Addr}{nm cm n c n2 c2:Nat}=>Qk (pm:=pm) (nm:=nm) (cm:=cm) (ps:=ps) (n:=n) (c:=c) (p2:=p2) (n2:=n2) (c2:=c2) CC CB
 have Tf:=fun {b ng cg ce cl n c k cp nx cx:Nat}{pg pe pl ps pp px:Option Addr}=>Ti (b:=b) (ng:=ng) (cg:=cg) (ce:=ce) (cl:=cl) (n:=n) (c:=c) (k:=k) (cp:=cp) (nx:=nx) (cx:=cx) (pg:=pg) (pe:=pe) (pl:=pl) (ps:=ps) (pp:=pp) (px:=px) K hR hRl h1 (show N≤1000000 by omega) (by omega) CB.mat
 have Bp:=fun {pm ps:Option Addr}{nm cm n c:Nat}{rows:List (List Int)}(hl:rows.length≤256) (hM:Cz (p ^ m) N rows)=>Te (pm:=pm) (ps:=ps) (nm:=nm) (cm:=cm) (n:=n) (c:=c) (rows:=rows) K (show N≤256 by omega) hl hM
 generalize hP:(Dm p m md N rows).2=P at *
 generalize hr:rsR p m md P rows B=rs at *
 refine wk 22 (ct @Pu cz) ?_
 intro b1 b2 b3 b4 b5 b'1 pg1 cg1 pe1 ce1 pl1 cl1 pp1 pp'1 cp1 cp'1 b6 b7 h2
 (apply AIa (x0:=none) it mx 0 10 [7,8,11] 2;(· rfl);(· rfl);(· rfl);(· decide))
 (apply Ac;(· rfl);(· exact Cy 5 rfl rfl Hx rfl))
 (apply Ac;(· rfl);(· exact Cy 1 rfl rfl Zr rfl))
 (apply Ac;(· rfl);(· exact Cy 3 rfl rfl Gd rfl))
 (apply I7 (val:=(fun g=>Value.agg #[Value.int IntKind.i64 ↑N,Value.slice (g 0).fst B.length (g 1).snd.fst])) (f:=(fun g=>[Ap (Aj Ai) (g 0).fst B.length (g 1).snd.fst rs]));(· rfl);(· exact Cf fun _=>Aw [1,3,4,6,0,7] rfl (Tf) rfl (by rintro _ _ _ ⟨prg0,crg1,rfl,rfl,rfl⟩;exact fun _ _ _ hG=>⟨(fun|0=>(prg0,0,0,[])|1=>(none,crg1,0,[])|_=>default),rfl,fun g hg=>E3 (hG _ (List.mem_append_left _ hg))⟩));intro g1;dsimp only [List.map_cons,List.map_nil])
 (apply I7 (val:=(fun g=>Value.tuple #[Value.agg #[Value.int IntKind.i64 ↑N,Value.slice (g 0).fst (Dm p m md N rs).snd.length (Dm p m md N rs).snd.length],Value.slice (g 1).fst (Dm p m md N rs).snd.length (g 2).snd.fst,Value.int IntKind.i64 0])) (f:=(fun g=>[Ap (Aj Ai) (g 0).fst (Dm p m md N rs).snd.length (Dm p m md N rs).snd.length (Dm p m md N rs).fst,Ap Ai (g 1).fst (Dm p m md N rs).snd.length (g 2).snd.fst (Bc (Dm p m md N rs).snd)]));(· rfl);(· exact Cf fun _=>Aw [6,0] rfl (Bp (by omega) (by omega)) rfl (by rintro _ _ _ ⟨pbg0,ppg1,cpg2,rfl,rfl,rfl⟩;exact fun _ _ _ hG=>⟨(fun|0=>(pbg0,0,0,[])|1=>(ppg1,0,0,[])|2=>(none,cpg2,0,[])|_=>default),rfl,fun g hg=>E3 (hG _ (List.mem_append_left _ hg))⟩));intro g2;dsimp only [List.map_cons,List.map_nil])
 (apply Gz [32] (fun vs=>vs.getD 0 undef) (v:=Value.tuple #[Value.agg #[Value.int IntKind.i64 ↑N,Value.slice (g2 0).fst (Dm p m md N rs).snd.length (Dm p m md N rs).snd.length],Value.slice (g2 1).fst (Dm p m md N rs).snd.length (g2 2).snd.fst,Value.int IntKind.i64 0]);(· rfl);(· rfl);(· rfl);(· rfl);(· exact Cf fun _=>Jz it rfl (by trivial) An))
 (apply Gz [27] (fun vs=>match vs.getD 0 undef with | .tuple a=>a.getD 0 undef|_=>undef) (v:=Value.agg #[Value.int IntKind.i64 ↑N,Value.slice (g2 0).fst (Dm p m md N rs).snd.length (Dm p m md N rs).snd.length]);(· rfl);(· rfl);(· rfl);(· rfl);(· exact Cf fun _=>Jz it rfl (by trivial) An))
 (apply Gz [27] (fun vs=>match vs.getD 0 undef with | .tuple a=>a.getD 1 undef|_=>undef) (v:=Value.slice (g2 1).fst (Dm p m md N rs).snd.length (g2 2).snd.fst);(· rfl);(· rfl);(· rfl);(· rfl);(· exact Cf fun _=>Jz it rfl (by trivial) An))
 (apply Ac;(· rfl);(· exact Cf fun _=>Jz it rfl (by trivial) An))
 (apply Hk;(· rfl);(· exact Ha);intro b8)
 refine Fl rfl ?_
 (rotate_left;rfl;rotate_right)
 simp only [List.map_cons,List.map_nil,List.cons_append,List.nil_append]
 refine Gq it rfl rfl ⟨⟨_,_,_,_,rfl,rfl,rfl,rfl,rfl,rfl,(by first|trivial|(repeat' first|exact trivial|apply And.intro|omega))⟩,⟨⟨_,_,_,_,rfl,rfl,rfl,rfl,rfl,rfl,(by first|trivial|(repeat' first|exact trivial|apply And.intro|omega))⟩,trivial⟩⟩ (A7 0 rfl rfl rfl Gd rfl rfl (by simp [Value.oneCell']) ?_)
 refine AEb it rfl rfl rfl rfl rfl (by trivial) ?_ ⟨⟨_,_,_,_,rfl,rfl,rfl,rfl,rfl,rfl,(by first|trivial|(repeat' first|exact trivial|apply And.intro|omega))⟩,⟨⟨_,_,_,_,rfl,rfl,rfl,rfl,rfl,rfl,(by first|trivial|(repeat' first|exact trivial|apply And.intro|omega))⟩,trivial⟩⟩
 refine H8 it ⟨⟨_,_,_,_,rfl,rfl,rfl,rfl,rfl,rfl,(by first|trivial|(repeat' first|exact trivial|apply And.intro|omega))⟩,⟨⟨_,_,_,_,rfl,rfl,rfl,rfl,rfl,rfl,(by first|trivial|(repeat' first|exact trivial|apply And.intro|omega))⟩,⟨⟨_,_,_,_,rfl,rfl,rfl,rfl,rfl,rfl,(by first|trivial|(repeat' first|exact trivial|apply And.intro|omega))⟩,trivial⟩⟩⟩ ?_
 refine wk 10 cz ?_
 intro h3
 refine Aa rfl (AK1 0 9 rfl rfl rfl rfl D5 I5 rfl (by omega) _ Nd (by omega) (by first|omega|(show _*24≤_;omega)|(show _*8≤_;omega)) fun pr1 cr1=>?_)
 refine wk 5 cz ?_
 refine Aa rfl (Aw [9,0] rfl (Bp (by simp;omega) (by omega)) rfl ?_)
 rintro _ _ _ ⟨pb1,pp2,cp2,rfl,rfl,rfl⟩
 simp only [List.cons_append,List.nil_append]
 simp only [decide_true]
 refine wk 10 cz ?_
 intro b9
 refine Bj [0] rfl (.agg 4 rfl rfl Gd rfl (.tmp rfl .nil)) rfl ⟨_,_,_,rfl,rfl,rfl⟩
end
open Go Go.Fw
set_option maxRecDepth 100000
set_option linter.unusedVariables false
set_option linter.unusedSimpArgs false
set_option maxHeartbeats 0
theorem Cok.nu {p m N:Nat}{md:List Int}{rows:List (List Int)}(CC:Cok p m md N rows):Cok p m md N (Kt p m md N rows):=by
 have O:=Dc CC.K
 refine ⟨CC.K,CC.n1,CC.n64,(O.nu CC.mat).1,?_⟩
 have h:Dm p m md N (Kt p m md N rows)=_:=O.cn_nu CC.mat
 rw [h];rfl
theorem Cok.cn {p m N:Nat}{md:List Int}{rows:List (List Int)}(K:Fok p m md) (h1:1≤N) (h2:N≤64) (hM:Cz (p ^ m) N rows):Cok p m md N (Dm p m md N rows).1:=by
 have O:=Dc K
 refine ⟨K,h1,h2,(O.cn hM).1.mat,?_⟩
 have h:Dm p m md N (Dm p m md N rows).1=_:=O.cn_cn hM
 rw [h]
section
variable {p m n c nm cm n2 c2 nm2 cm2 N:Nat}{pm ps p2 pm2:Option Addr}{md:List Int}{rows B:List (List Int)}
theorem Yk (CC:Cok p m md N rows) (CB:Cok p m md N B) :
  Bs Tryz.prog 124 [.agg #[.int .i64 p,.int .i64 m,.slice pm nm cm],.agg #[.int .i64 N,.slice ps n c],.agg #[.int .i64 N,.slice p2 n2 c2]] [] [Ap Ai pm nm cm md,Ap (Aj Ai) ps n c rows,Ap (Aj Ai) p2 n2 c2 B]
   (fun v Φ β=>∃ (pb:Option Addr) (nb cb:Nat),v = .tuple #[.agg #[.int .i64 N,.slice pb nb cb],.int .i64 0]∧Φ=[Ap (Aj Ai) pb nb cb (Kt p m md N (Kt p m md N rows++Kt p m md N B))]∧β=[]):=by
 refine Ab (F:=ACD) rfl fun C=>?_
 refine Bb 1 rfl fun hn _ _=>?_
 subst hn
 refine Bb 2 rfl fun hn _ _=>?_
 subst hn
 have K:=CC.K
 have O:=Dc K
 have h64:=CC.n64
 have h1:=CC.n1
 have hNN:=K9 (CC.nu).mat (CB.nu).mat
 have hS:Kt p m md N (Dm p m md N (Kt p m md N rows++Kt p m md N B)).1=Kt p m md N (Kt p m md N rows++Kt p m md N B):=O.nu_cn hNN
 have CS:=Cok.cn K h1 h64 hNN
 have CN1:=CC.nu
 have CN2:=CB.nu
 rw [← hS]
 have Pu:=fun {pm ps p2:Option Addr}{nm cm n c n2 c2:Nat}=>Qk (pm:=pm) (nm:=nm) (cm:=cm) (ps:=ps) (n:=n) (c:=c) (p2:=p2) (n2:=n2) (c2:=c2) CC CB
 have Ep:=fun {pm ps:Option Addr}{nm cm n c:Nat}{rows:List (List Int)}(h:Cok p m md N rows)=>Ij (pm:=pm) (ps:=ps) (nm:=nm) (cm:=cm) (n:=n) (c:=c) (rows:=rows) K (show N≤256 by omega) (by have:=h.len;omega) h.mat
 have Rh:=fun {pm ps p2:Option Addr}{nm cm n c n2 c2:Nat}{rows B:List (List Int)}(h:Cok p m md N rows) (h2:Cok p m md N B)=>Sb (pm:=pm) (nm:=nm) (cm:=cm) (ps:=ps) (n:=n) (c:=c) (p2:=p2) (n2:=n2) (c2:=c2) (rows:=rows) (B:=B) h h2
 refine wk 58 (ct @Pu (ct @Ep (ct @Ep (ct @Rh (ct @Ep cz))))) ?_
 intro b1 b2 b3 b4 b5 b'1 pg1 cg1 pe1 ce1 pl1 cl1 pp1 pp'1 cp1 cp'1 b6 b7 h2 pb1 cb1 b8 pb2 cb2 b9 pb3 nb1 cb3 b10 h3 pb4 cb4
 refine Bj [0] rfl (.agg 5 rfl rfl Gd rfl (.tmp rfl .nil)) rfl ⟨_,_,_,rfl,rfl,rfl⟩
theorem Tx (CC:Cok p m md N rows) (CB:Cok p m md N B):Bs Tryz.prog 123 [.agg #[.int .i64 p,.int .i64 m,.slice pm nm cm,.int .i64 N,.slice ps n c],.agg #[.int .i64 p,.int .i64 m,.slice pm2 nm2 cm2,.int .i64 N,.slice p2 n2 c2]] [] [Ap Ai pm nm cm md,Ap (Aj Ai) ps n c rows,Ap Ai pm2 nm2 cm2 md,Ap (Aj Ai) p2 n2 c2 B] (Rv (.int .i64 0) []):=by
 refine Ab (F:=AEn) rfl fun C=>?_
 have h64:=CC.n64
 have Au:=fun {pm ps:Option Addr}{nm cm n c:Nat}{rows:List (List Int)}(h:Cok p m md N rows)=>D0 (P:=p) (M:=m) (pm:=pm) (ps:=ps) (nm:=nm) (cm:=cm) (n:=n) (c:=c) (md:=md) (rows:=rows) (N:=N) (by simp only [Bv];omega) h.ck
 have ACy:=fun {pm p2:Option Addr}{nm cm n2 c2:Nat}=>ABH (P:=p) (M:=m) (P2:=p) (M2:=m) (md:=md) (md2:=md) (pm:=pm) (p2:=p2) (nm:=nm) (cm:=cm) (n2:=n2) (c2:=c2) (res:=true) (decide_eq_true ⟨rfl,rfl,rfl⟩)
 refine wk 35 (ct @Au (ct @Au (ct @ACy cz))) ?_
 intro b1 b2 h1 h2 h3
 exact ge
theorem Tt (CC:Cok p m md N rows) (CB:Cok p m md N B):Bs Tryz.prog 83 [.agg #[.int .i64 p,.int .i64 m,.slice pm nm cm,.int .i64 N,.slice ps n c],.agg #[.int .i64 p,.int .i64 m,.slice pm2 nm2 cm2,.int .i64 N,.slice p2 n2 c2]] [] [Ap Ai pm nm cm md,Ap (Aj Ai) ps n c rows,Ap Ai pm2 nm2 cm2 md,Ap (Aj Ai) p2 n2 c2 B] (Y0 p m N md (Dm p m md N (rows++B)).1 0):=by
 refine Ab (F:=AD7) rfl fun C=>?_
 have h8:=CC.K.md8
 have Uf:=fun {pm ps p2 pm2:Option Addr}{nm cm n c n2 c2 nm2 cm2:Nat}=>Tx (pm:=pm) (nm:=nm) (cm:=cm) (ps:=ps) (n:=n) (c:=c) (p2:=p2) (n2:=n2) (c2:=c2) (pm2:=pm2) (nm2:=nm2) (cm2:=cm2) CC CB
 have Ic:=fun {P M N:Int}{pm ps:Option Addr}{nm cm n c:Nat}=>P5 (P:=P) (M:=M) (N:=N) (pm:=pm) (ps:=ps) (nm:=nm) (cm:=cm) (n:=n) (c:=c)
 have Rh:=fun {pm ps p2:Option Addr}{nm cm n c n2 c2:Nat}=>Sb (pm:=pm) (nm:=nm) (cm:=cm) (ps:=ps) (n:=n) (c:=c) (p2:=p2) (n2:=n2) (c2:=c2) (rows:=rows) (B:=B) CC CB
 have Jp:=fun {pm ps:Option Addr}{nm cm n c:Nat}{rows:List (List Int)}=>K8 (P:=p) (M:=m) (N:=N) (pm:=pm) (ps:=ps) (nm:=nm) (cm:=cm) (n:=n) (c:=c) (md:=md) (rows:=rows) (by omega)
 generalize (Dm p m md N (rows++B)).1=R at *
 refine wk 15 (ct @Uf cz) ?_
 intro b1 b2 b3 h1
 (apply Ga (x0:=none) it mx 0 11 [9] 1;(· rfl);(· rfl);(· rfl);(· decide))
 simp only [List.drop_zero]
 (apply Ac;(· rfl);(· exact Cf fun _=>Aq rfl Ud An))
 (apply Ac;(· rfl);(· exact Ji 2 rfl rfl Hx rfl rfl))
 (apply Ac;(· rfl);(· exact Cy 2 rfl rfl Cs rfl))
 (apply Ac;(· rfl);(· exact Cf fun _=>Aw [] rfl (Ic) rfl (by rintro _ _ _ ⟨rfl,rfl,rfl⟩;exact An)))
 (apply Ac;(· rfl);(· exact Cy 1 rfl rfl Cs rfl))
 (apply Ac;(· rfl);(· exact Cf fun _=>Aw [] rfl (Ic) rfl (by rintro _ _ _ ⟨rfl,rfl,rfl⟩;exact An)))
 (apply I7 (val:=(fun g=>Value.tuple #[Value.agg #[Value.int IntKind.i64 ↑N,Value.slice (g 0).fst (g 1).snd.fst (g 2).snd.fst],Value.int IntKind.i64 0])) (f:=(fun g=>[Ap (Aj Ai) (g 0).fst (g 1).snd.fst (g 2).snd.fst R]));(· rfl);(· exact Cf fun _=>Aw [0,1,3] rfl (Rh) rfl (by rintro _ _ _ ⟨pbg0,nbg1,cbg2,rfl,rfl,rfl⟩;exact fun _ _ _ hG=>⟨(fun|0=>(pbg0,0,0,[])|1=>(none,nbg1,0,[])|2=>(none,cbg2,0,[])|_=>default),rfl,fun g hg=>E3 (hG _ (List.mem_append_left _ hg))⟩));intro g1;dsimp only [List.map_cons,List.map_nil])
 (apply Gz [23] (fun vs=>vs.getD 0 undef) (v:=Value.tuple #[Value.agg #[Value.int IntKind.i64 ↑N,Value.slice (g1 0).fst (g1 1).snd.fst (g1 2).snd.fst],Value.int IntKind.i64 0]);(· rfl);(· rfl);(· rfl);(· rfl);(· exact Cf fun _=>Jz it rfl (by trivial) An))
 (apply Gz [16] (fun vs=>match vs.getD 0 undef with | .tuple a=>a.getD 0 undef|_=>undef) (v:=Value.agg #[Value.int IntKind.i64 ↑N,Value.slice (g1 0).fst (g1 1).snd.fst (g1 2).snd.fst]);(· rfl);(· rfl);(· rfl);(· rfl);(· exact Cf fun _=>Jz it rfl (by trivial) An))
 (apply Ac;(· rfl);(· exact Cf fun _=>Jz it rfl (by trivial) An))
 (apply Hk;(· rfl);(· exact Ha);intro b4)
 refine Fl rfl ?_
 (rotate_left;rfl;rotate_right)
 simp only [List.map_cons,List.map_nil,List.cons_append,List.nil_append]
 refine Gq it rfl rfl ⟨⟨_,_,_,_,rfl,rfl,rfl,rfl,rfl,rfl,(by first|trivial|(repeat' first|exact trivial|apply And.intro|omega))⟩,trivial⟩ (A7 0 rfl rfl rfl Gd rfl rfl (by simp [Value.oneCell']) ?_)
 refine H8 it ⟨⟨_,_,_,_,rfl,rfl,rfl,rfl,rfl,rfl,(by first|trivial|(repeat' first|exact trivial|apply And.intro|omega))⟩,trivial⟩ ?_
 refine wk 11 (ct @Jp cz) ?_
 intro pb1 pc1 nb1 cb1 nc1 cc1
 refine Bj [0,1] rfl (.agg 1 rfl rfl Cs rfl (.tmp rfl .nil)) rfl ⟨_,_,_,_,_,_,rfl,rfl,rfl⟩
theorem Z0 (CC:Cok p m md N rows) (CB:Cok p m md N B):Bs Tryz.prog 79 [.agg #[.int .i64 p,.int .i64 m,.slice pm nm cm,.int .i64 N,.slice ps n c],.agg #[.int .i64 p,.int .i64 m,.slice pm2 nm2 cm2,.int .i64 N,.slice p2 n2 c2]] [] [Ap Ai pm nm cm md,Ap (Aj Ai) ps n c rows,Ap Ai pm2 nm2 cm2 md,Ap (Aj Ai) p2 n2 c2 B] (Y0 p m N md (Kt p m md N (Kt p m md N rows++Kt p m md N B)) 0):=by
 refine Ab (F:=ADx) rfl fun C=>?_
 have h8:=CC.K.md8
 have Uf:=fun {pm ps p2 pm2:Option Addr}{nm cm n c n2 c2 nm2 cm2:Nat}=>Tx (pm:=pm) (nm:=nm) (cm:=cm) (ps:=ps) (n:=n) (c:=c) (p2:=p2) (n2:=n2) (c2:=c2) (pm2:=pm2) (nm2:=nm2) (cm2:=cm2) CC CB
 have Ic:=fun {P M N:Int}{pm ps:Option Addr}{nm cm n c:Nat}=>P5 (P:=P) (M:=M) (N:=N) (pm:=pm) (ps:=ps) (nm:=nm) (cm:=cm) (n:=n) (c:=c)
 have AB2:=fun {pm ps p2:Option Addr}{nm cm n c n2 c2:Nat}=>Yk (pm:=pm) (nm:=nm) (cm:=cm) (ps:=ps) (n:=n) (c:=c) (p2:=p2) (n2:=n2) (c2:=c2) (rows:=rows) (B:=B) CC CB
 have Jp:=fun {pm ps:Option Addr}{nm cm n c:Nat}{rows:List (List Int)}=>K8 (P:=p) (M:=m) (N:=N) (pm:=pm) (ps:=ps) (nm:=nm) (cm:=cm) (n:=n) (c:=c) (md:=md) (rows:=rows) (by omega)
 generalize Kt p m md N (Kt p m md N rows++Kt p m md N B)=R at *
 refine wk 15 (ct @Uf cz) ?_
 intro b1 b2 b3 h1
 (apply Ga (x0:=none) it mx 0 11 [9] 1;(· rfl);(· rfl);(· rfl);(· decide))
 simp only [List.drop_zero]
 (apply Ac;(· rfl);(· exact Cf fun _=>Aq rfl Ud An))
 (apply Ac;(· rfl);(· exact Ji 2 rfl rfl Hx rfl rfl))
 (apply Ac;(· rfl);(· exact Cy 2 rfl rfl Cs rfl))
 (apply Ac;(· rfl);(· exact Cf fun _=>Aw [] rfl (Ic) rfl (by rintro _ _ _ ⟨rfl,rfl,rfl⟩;exact An)))
 (apply Ac;(· rfl);(· exact Cy 1 rfl rfl Cs rfl))
 (apply Ac;(· rfl);(· exact Cf fun _=>Aw [] rfl (Ic) rfl (by rintro _ _ _ ⟨rfl,rfl,rfl⟩;exact An)))
 (apply I7 (val:=(fun g=>Value.tuple #[Value.agg #[Value.int IntKind.i64 ↑N,Value.slice (g 0).fst (g 1).snd.fst (g 2).snd.fst],Value.int IntKind.i64 0])) (f:=(fun g=>[Ap (Aj Ai) (g 0).fst (g 1).snd.fst (g 2).snd.fst R]));(· rfl);(· exact Cf fun _=>Aw [0,1,3] rfl (AB2) rfl (by rintro _ _ _ ⟨pbg0,nbg1,cbg2,rfl,rfl,rfl⟩;exact fun _ _ _ hG=>⟨(fun|0=>(pbg0,0,0,[])|1=>(none,nbg1,0,[])|2=>(none,cbg2,0,[])|_=>default),rfl,fun g hg=>E3 (hG _ (List.mem_append_left _ hg))⟩));intro g1;dsimp only [List.map_cons,List.map_nil])
 (apply Gz [23] (fun vs=>vs.getD 0 undef) (v:=Value.tuple #[Value.agg #[Value.int IntKind.i64 ↑N,Value.slice (g1 0).fst (g1 1).snd.fst (g1 2).snd.fst],Value.int IntKind.i64 0]);(· rfl);(· rfl);(· rfl);(· rfl);(· exact Cf fun _=>Jz it rfl (by trivial) An))
 (apply Gz [16] (fun vs=>match vs.getD 0 undef with | .tuple a=>a.getD 0 undef|_=>undef) (v:=Value.agg #[Value.int IntKind.i64 ↑N,Value.slice (g1 0).fst (g1 1).snd.fst (g1 2).snd.fst]);(· rfl);(· rfl);(· rfl);(· rfl);(· exact Cf fun _=>Jz it rfl (by trivial) An))
 (apply Ac;(· rfl);(· exact Cf fun _=>Jz it rfl (by trivial) An))
 (apply Hk;(· rfl);(· exact Ha);intro b4)
 refine Fl rfl ?_
 (rotate_left;rfl;rotate_right)
 simp only [List.map_cons,List.map_nil,List.cons_append,List.nil_append]
 refine Gq it rfl rfl ⟨⟨_,_,_,_,rfl,rfl,rfl,rfl,rfl,rfl,(by first|trivial|(repeat' first|exact trivial|apply And.intro|omega))⟩,trivial⟩ (A7 0 rfl rfl rfl Gd rfl rfl (by simp [Value.oneCell']) ?_)
 refine H8 it ⟨⟨_,_,_,_,rfl,rfl,rfl,rfl,rfl,rfl,(by first|trivial|(repeat' first|exact trivial|apply And.intro|omega))⟩,trivial⟩ ?_
 refine wk 11 (ct @Jp cz) ?_
 intro pb1 pc1 nb1 cb1 nc1 cc1
 refine Bj [0,1] rfl (.agg 1 rfl rfl Cs rfl (.tmp rfl .nil)) rfl ⟨_,_,_,_,_,_,rfl,rfl,rfl⟩
end
open Go Go.Fw
set_option maxRecDepth 100000
set_option linter.unusedVariables false
set_option linter.unusedSimpArgs false
set_option maxHeartbeats 0
theorem Yy {n:Nat}{set:List Int}(h:Uc n set):(Cj n [set]).length+set.length=n:=by
 have e:set.map Int.toNat=(List.range n).filter fun i:Nat=>decide ((i:Int)∈set):=by
  refine Y2 ?_ ?_ fun x=>?_
  ·rw [List.pairwise_map]
   refine List.Pairwise.imp_of_mem (fun {a b} ha hb hab=>?_) h.2
   have:=h.1 a ha;have:=h.1 b hb;omega
  ·exact List.Pairwise.sublist List.filter_sublist List.pairwise_lt_range
  ·rw [List.mem_map,List.mem_filter,List.mem_range,decide_eq_true_eq]
   constructor
   ·rintro ⟨y,hy,rfl⟩
    have:=h.1 y hy
    rw [Int.toNat_of_nonneg this.1]
    exact ⟨by omega,hy⟩
   ·rintro ⟨_,h2⟩;exact ⟨_,h2,Int.toNat_natCast x⟩
 have e2:set.length=((List.range n).filter fun i:Nat=>decide ((i:Int)∈set)).length:=by rw [← e,List.length_map]
 have e3:=List.length_eq_countP_add_countP (fun i:Nat=>decide ((i:Int)∈set)) (l:=List.range n)
 rw [List.length_range,List.countP_eq_length_filter,List.countP_eq_length_filter] at e3
 have e4:((List.range n).filter (Th [set])).length=((List.range n).filter fun a:Nat=>decide (¬ decide ((a:Int)∈set)=true)).length:=by
  congr 1
  refine List.filter_congr fun i _=>?_
  simp [Th]
 rw [Cj,List.length_map,e4]
 omega
noncomputable def psE (P M:Int) (md:List Int) (N:Int) (rows:List (List Int)) (set:List Int):Int :=
 if Pe P M md N rows≠0 then Pe P M md N rows else if ¬ Uc N set then 6 else if (set.length:Int)=N then 4 else 0
theorem AKa {P M N:Int}{md set:List Int}{rows:List (List Int)}(h:psE P M md N rows set=0):∃ p m n:Nat,P=p∧M=m∧N=n∧Cok p m md n rows∧Uc n set∧set.length≠n:=by
 rw [psE] at h
 by_cases h0:Pe P M md N rows=0
 ·obtain ⟨p,m,n,rfl,rfl,rfl,CC⟩:=AAa h0
  rw [if_neg (fun e=>e h0)] at h
  by_cases h1:Uc n set
  ·rw [if_neg (fun e=>e h1)] at h
   by_cases h2:set.length=n
   ·rw [if_pos (by omega)] at h;omega
   ·exact ⟨p,m,n,rfl,rfl,rfl,CC,h1,h2⟩
  ·rw [if_pos h1] at h;omega
 ·rw [if_pos h0] at h;exact absurd h h0
theorem AFs (P M:Int) (md:List Int) (N:Int) (rows:List (List Int)) (set:List Int):0≤psE P M md N rows set∧psE P M md N rows set≤6:=by
 have:=Pt P M md N rows
 rw [psE];(repeat' split) <;> omega
theorem Gk {ps:Option Addr}{nn c:Nat}{n:Int}{l:List Int}{res:Bool}(hr:decide (Uc n l)=res):Bs Tryz.prog 65 [.slice ps nn c,.int .i64 n] [] [Ap Ai ps nn c l] (Rv (.bool res) []):=by
 refine Ab (F:=ACC) rfl fun C=>?_
 subst hr
 refine Bb 0 rfl fun hn hb _=>?_
 subst hn
 have hb':l.length*8≤140737488355328:=hb
 refine wk 7 cz ?_
 refine Ah (X:=Nat) [0,1,7,8] [0] (fun i=>[(9,.int .i64 (i:Int))]) (fun _=>[]) (fun _=>[]) (fun i=>i≤l.length∧∀ j,j<i→stA n l j) (fun i=>l.length-i) 0 [] rfl rfl rfl ⟨Nat.zero_le _,fun j h=>by omega⟩ (by repeat (first|exact Fr.sub_nil _|refine Fr.sub_cons rfl ?_)) rfl rfl ?_
 rintro i ⟨hi,hno⟩ ih
 simp only [List.cons_append,List.nil_append] at hi ih ⊢
 by_cases h9:i<l.length
 ·obtain ⟨x,at_x⟩:∃ x,l[i]?=some x:=⟨_,List.getElem?_eq_getElem h9⟩
  have bad:∀ P:Prop,¬ stA n l i→decide (Uc n l)=false:=fun _ h=>decide_eq_false (AKf h9 h)
  have good:stA n l i→∀ j,j<i+1→stA n l j:=fun h j hj=>by
   rcases Nat.lt_succ_iff_lt_or_eq.1 hj with h1|rfl
   ·exact hno j h1
   ·exact h
  by_cases a0:x<0
  ·rw [bad True fun h=>by have:=(h x at_x).1;omega]
   refine Am [_,_,_,_,_] rfl ?_
   refine Ae it 1 rfl (by simp) ?_
   refine Am [_,_,_,_,_] rfl ?_
   refine Kj rfl rfl (fun h1=>?_) (fun h1=>by exfalso;omega)
   refine Am [_,_,_,_,_,_,_] rfl ?_
   refine Ae it 1 rfl (by simp) ?_
   refine Aa rfl (Io 0 (i) rfl rfl rfl Cb rfl (by omega) fun z1 hz1 b1 o1=>?_)
   obtain rfl:_=z1:=Option.some.inj (at_x.symm.trans hz1)
   refine Aa rfl (Av 0 rfl rfl Ci fun ⟨r1,r2⟩=>?_)
   refine Ae it 2 rfl (by simp) ?_
   refine Am [_,_,_,_,_,_,_] rfl ?_
   refine Ae it 3 rfl (by simp) ?_
   refine Bw (t:=16) rfl (fun h2=>?_) (fun h2=>by exfalso;omega)
   refine Ae it 8 rfl (by simp) ?_
   refine D8 rfl rfl ?_
   refine D8 rfl rfl ?_
   refine D8 rfl rfl ?_
   refine D8 rfl rfl ?_
   refine D8 rfl rfl ?_
   refine D8 rfl rfl ?_
   refine D8 rfl rfl ?_
   refine Ae it 2 rfl (by simp) ?_
   refine Am [_,_,_,_,_,_] rfl ?_
   refine Rd rfl rfl ?_
   refine Am [_,_,_,_,_,_,_] rfl ?_
   refine Ae it 1 rfl (by simp) ?_
   refine Am [_,_,_,_,_,_] rfl ?_
   exact ge
  ·by_cases a1:n≤x
   ·rw [bad True fun h=>by have:=(h x at_x).1;omega]
    refine Am [_,_,_,_,_] rfl ?_
    refine Ae it 1 rfl (by simp) ?_
    refine Am [_,_,_,_,_] rfl ?_
    refine Kj rfl rfl (fun h1=>?_) (fun h1=>by exfalso;omega)
    refine Am [_,_,_,_,_,_,_] rfl ?_
    refine Ae it 1 rfl (by simp) ?_
    refine Aa rfl (Io 0 (i) rfl rfl rfl Cb rfl (by omega) fun z1 hz1 b1 o1=>?_)
    obtain rfl:_=z1:=Option.some.inj (at_x.symm.trans hz1)
    refine Aa rfl (Av 0 rfl rfl Ci fun ⟨r1,r2⟩=>?_)
    refine Ae it 2 rfl (by simp) ?_
    refine Am [_,_,_,_,_,_,_] rfl ?_
    refine Ae it 3 rfl (by simp) ?_
    refine Bw (t:=16) rfl (fun h2=>by exfalso;omega) (fun h2=>?_)
    refine Ae it 5 rfl (by simp) ?_
    refine Bw (t:=21) rfl (fun h3=>?_) (fun h3=>by exfalso;omega)
    refine Ae it 3 rfl (by simp) ?_
    refine D8 rfl rfl ?_
    refine D8 rfl rfl ?_
    refine D8 rfl rfl ?_
    refine D8 rfl rfl ?_
    refine D8 rfl rfl ?_
    refine D8 rfl rfl ?_
    refine D8 rfl rfl ?_
    refine Ae it 2 rfl (by simp) ?_
    refine Am [_,_,_,_,_,_] rfl ?_
    refine Rd rfl rfl ?_
    refine Am [_,_,_,_,_,_,_] rfl ?_
    refine Ae it 1 rfl (by simp) ?_
    refine Am [_,_,_,_,_,_] rfl ?_
    exact ge
   ·rcases Nat.eq_zero_or_pos i with hi0|hi0
    ·subst hi0
     refine wk 20 cz ?_
     intro h1 b1 o1 hz1 _ r1 r2 h2
     refine Bw (t:=21) rfl (fun h3=>by exfalso;omega) (fun h3=>?_)
     refine wk 6 cz ?_
     exact tw (ih 1 (by omega) ⟨by omega,good fun z hz=>by
      rw [at_x] at hz;obtain rfl:=Option.some.inj hz
      exact ⟨by omega,fun y h=>by omega⟩⟩)
    ·obtain ⟨k,rfl⟩:∃ k,i=k+1:=⟨i-1,by omega⟩
     obtain ⟨y,at_y⟩:∃ y,l[k]?=some y:=⟨_,List.getElem?_eq_getElem (by omega)⟩
     by_cases a2:x≤y
     ·rw [bad True fun h=>by have:=(h x at_x).2 y (by omega) at_y;omega]
      refine Am [_,_,_,_,_] rfl ?_
      refine Ae it 1 rfl (by simp) ?_
      refine Am [_,_,_,_,_] rfl ?_
      refine Kj rfl rfl (fun h1=>?_) (fun h1=>by exfalso;omega)
      refine Am [_,_,_,_,_,_,_] rfl ?_
      refine Ae it 1 rfl (by simp) ?_
      refine Aa rfl (Io 0 (k+1) rfl rfl rfl Cb rfl (by omega) fun z1 hz1 b1 o1=>?_)
      obtain rfl:_=z1:=Option.some.inj (at_x.symm.trans hz1)
      refine Aa rfl (Av 0 rfl rfl Ci fun ⟨r1,r2⟩=>?_)
      refine Ae it 2 rfl (by simp) ?_
      refine Am [_,_,_,_,_,_,_] rfl ?_
      refine Ae it 3 rfl (by simp) ?_
      refine Bw (t:=16) rfl (fun h2=>by exfalso;omega) (fun h2=>?_)
      refine Ae it 5 rfl (by simp) ?_
      refine Bw (t:=21) rfl (fun h3=>by exfalso;omega) (fun h3=>?_)
      refine Ae it 3 rfl (by simp) ?_
      refine Bw (t:=24) rfl (fun h4=>?_) (fun h4=>by exfalso;omega)
      refine Ae it 4 rfl ⟨⟨by omega,by omega⟩,trivial,trivial,trivial,trivial⟩ ?_
      refine Bt rfl rfl (Io 1 ((k+1)-1) rfl rfl rfl Cb (by omega) (by omega) fun z1 hz2 b2 o2=>?_)
      obtain rfl:_=z1:=Option.some.inj (at_y.symm.trans hz2)
      refine Bt rfl rfl (Av 0 rfl rfl Ci fun ⟨r3,r4⟩=>?_)
      refine Ae it 3 rfl (by simp) ?_
      refine Am [_,_,_,_,_,_] rfl ?_
      refine Kj rfl rfl (fun h5=>?_) (fun h5=>by exfalso;omega)
      refine Am [_,_,_,_,_,_,_] rfl ?_
      refine Ae it 1 rfl (by simp) ?_
      refine Am [_,_,_,_,_,_] rfl ?_
      exact ge
     ·refine Am [_,_,_,_,_] rfl ?_
      refine Ae it 1 rfl (by simp) ?_
      refine Am [_,_,_,_,_] rfl ?_
      refine Kj rfl rfl (fun h1=>?_) (fun h1=>by exfalso;omega)
      refine Am [_,_,_,_,_,_,_] rfl ?_
      refine Ae it 1 rfl (by simp) ?_
      refine Aa rfl (Io 0 (k+1) rfl rfl rfl Cb rfl (by omega) fun z1 hz1 b1 o1=>?_)
      obtain rfl:_=z1:=Option.some.inj (at_x.symm.trans hz1)
      refine Aa rfl (Av 0 rfl rfl Ci fun ⟨r1,r2⟩=>?_)
      refine Ae it 2 rfl (by simp) ?_
      refine Am [_,_,_,_,_,_,_] rfl ?_
      refine Ae it 3 rfl (by simp) ?_
      refine Bw (t:=16) rfl (fun h2=>by exfalso;omega) (fun h2=>?_)
      refine Ae it 5 rfl (by simp) ?_
      refine Bw (t:=21) rfl (fun h3=>by exfalso;omega) (fun h3=>?_)
      refine Ae it 3 rfl (by simp) ?_
      refine Bw (t:=24) rfl (fun h4=>?_) (fun h4=>by exfalso;omega)
      refine Ae it 4 rfl ⟨⟨by omega,by omega⟩,trivial,trivial,trivial,trivial⟩ ?_
      refine Bt rfl rfl (Io 1 ((k+1)-1) rfl rfl rfl Cb (by omega) (by omega) fun z1 hz2 b2 o2=>?_)
      obtain rfl:_=z1:=Option.some.inj (at_y.symm.trans hz2)
      refine Bt rfl rfl (Av 0 rfl rfl Ci fun ⟨r3,r4⟩=>?_)
      refine Ae it 3 rfl (by simp) ?_
      refine Am [_,_,_,_,_,_] rfl ?_
      refine Kj rfl rfl (fun h5=>by exfalso;omega) (fun h5=>?_)
      refine Am [_,_,_,_] rfl ?_
      refine Ae it 2 rfl ⟨trivial,⟨by omega,by omega⟩,trivial⟩ ?_
      refine Xt 1 [.lp [1,0,1,0,0],.blk 0,.c [1,1]] rfl ?_
      exact tw (ih (k+2) (by omega) ⟨by omega,good fun z hz=>by
       rw [at_x] at hz;obtain rfl:=Option.some.inj hz
       exact ⟨by omega,fun z h hz=>by
        rw [show k+1-1=k by omega,at_y] at hz;obtain rfl:=Option.some.inj hz;omega⟩⟩)
 ·rw [decide_eq_true (ABz.2 fun j hj=>hno j (by omega))]
  refine wk 7 cz ?_
  intro h1
  exact ge
theorem Tm {ps:Option Addr}{nn c n:Nat}{l:List Int}(hn:n≤1000000):Bs Tryz.prog 62 [.slice ps nn c,.int .i64 n] [] [Ap Ai ps nn c l] (RwI (Cj n [l]).length (Cj n [l])):=by
 refine Ab (F:=AAH) rfl fun C=>?_
 have hle:=fun k=>ACR k [l]
 have B2:=fun {x:Int}{res:Bool}(h:decide (x∈l)=res)=>Cl (pl:=ps) (nl:=nn) (cl:=c) (l:=l) (x:=x) (res:=res) h
 refine wk 7 cz ?_
 refine Fz Ai 3 ?_
 refine Ah (X:=Nat×Row) [0,4,7] [0,1] (fun x=>[(8,.int .i64 (x.1:Int)),(5,.slice (ad x.2.bo) (Cj x.1 [l]).length x.2.cap)]) (fun x=>[(x.2.bo,3,x.2.cs)]) (fun x=>[A6 Ai x.2 (Cj x.1 [l]).length (Cj x.1 [l])]) (fun x=>x.1≤n) (fun x=>n-x.1) (0,⟨none,0,[]⟩) [0] rfl rfl rfl (Nat.zero_le _) (by repeat (first|exact Fr.sub_nil _|refine Fr.sub_cons rfl ?_)) rfl rfl ?_
 rintro ⟨k,r⟩ hk ih
 simp only [List.cons_append,List.nil_append] at hk ih ⊢
 by_cases h9:k<n
 ·have hk1:=hle k
  have ih':=fun r=>ih (k+1,r) (by dsimp only;omega) (by dsimp only;omega)
  simp only [ABx] at ih'
  clear ih
  by_cases hm:(k:Int)∈l
  ·have B2:=B2 (x:=(k:Int)) (decide_eq_true hm)
   rw [show Th [l] k=false by simp [Th,hm],if_neg (by simp),List.append_nil] at ih'
   refine wk 15 (ct @B2 cz) ?_
   intro h1
   exact tw (ih' r)
  ·have B2:=B2 (x:=(k:Int)) (decide_eq_false hm)
   rw [show Th [l] k=true by simp [Th,hm],if_pos rfl] at ih'
   simp only [List.length_append,List.length_singleton] at ih'
   refine wk 15 (ct @B2 cz) ?_
   intro h1 b1
   refine Aa rfl (F1 (z:=(↑k:Int)) 1 0 0 rfl rfl rfl rfl rfl Cb Er rfl (fun w A hG=>(Dh (by first|(simp only [Bv];omega)|(simp [Bv];done)))) (by omega) _ Hf (by omega) fun r1=>?_)
   refine wk 4 cz ?_
   refine Ky [true,false] [0,2,3] (by exact Ux rfl) rfl rfl (ih' r1)
 ·obtain rfl:k=n:=by omega
  clear ih
  refine wk 7 cz ?_
  intro h1
  refine Dx 1 [0] [0] rfl (.tmp rfl .nil) rfl rfl rfl ⟨r,rfl,rfl,rfl⟩
theorem V6 {P M N:Int}{pm ps:Option Addr}{nm cm n c:Nat}:Bs Tryz.prog 56 [.agg #[.int .i64 P,.int .i64 M,.slice pm nm cm,.int .i64 N,.slice ps n c]] [] [] (Rv (.agg #[.int .i64 N,.slice ps n c]) []):=by
 refine Ab (F:=ABE) rfl fun C=>?_
 refine Am [_,_] rfl ?_
 refine Aa rfl (Cm rfl fun b1=>?_)
 refine Aa rfl (Bk Ha fun b2=>?_)
 refine Am [_,_] rfl ?_
 refine Aa rfl (Aq rfl Jj ?_)
 refine Aa rfl (Bm 1 rfl rfl Ci rfl ?_)
 refine Aa rfl (Aq rfl Rt ?_)
 refine Aa rfl (Bm 1 rfl rfl H3 rfl ?_)
 refine Aa rfl (Dq (cs:=[Value.int IntKind.i64 N,Value.slice ps n c]) U4 Ha rfl rfl ?_)
 refine Aa rfl (A7 0 rfl rfl rfl Gd rfl rfl (by simp [Value.oneCell']) ?_)
 refine Am [_] rfl ?_
 refine Bj [] rfl (.agg 0 rfl rfl Gd rfl .nil) rfl ⟨rfl,rfl,rfl⟩
section
variable {P M:Int}{p m n c nm cm ns cs':Nat}{pm ps pt:Option Addr}{md set:List Int}{rows:List (List Int)}
theorem Lu {N e:Int}(hN:Bv .i64 N) (h:psE P M md N rows set=e):Bs Tryz.prog 54 [.agg #[.int .i64 P,.int .i64 M,.slice pm nm cm,.int .i64 N,.slice ps n c],.slice pt ns cs'] [] [Ap Ai pm nm cm md,Ap (Aj Ai) ps n c rows,Ap Ai pt ns cs' set] (Rv (.int .i64 e) []):=by
 refine Ab (F:=Ur) rfl fun C=>?_
 refine Bb 2 rfl fun hn hb _=>?_
 subst hn
 have hb':set.length*8≤140737488355328:=hb
 rw [psE] at h
 have Au:=fun {pm ps:Option Addr}{nm cm n c:Nat}=>D0 (P:=P) (M:=M) (pm:=pm) (ps:=ps) (nm:=nm) (cm:=cm) (n:=n) (c:=c) (md:=md) (rows:=rows) (N:=N) hN rfl
 by_cases h0:Pe P M md N rows=0
 ·rw [if_neg (fun e=>e h0)] at h
  rw [h0] at Au
  by_cases h1:Uc N set
  ·rw [if_neg (fun e=>e h1)] at h
   have C4:=fun {ps:Option Addr}{nn c:Nat}=>Gk (ps:=ps) (nn:=nn) (c:=c) (n:=N) (l:=set) (decide_eq_true h1)
   by_cases h2:(set.length:Int)=N
   ·rw [if_pos h2] at h
    subst h
    refine wk 30 (ct @Au (ct @C4 cz)) ?_
    intro b1 h3 h4
    exact ge
   ·rw [if_neg h2] at h
    subst h
    refine wk 30 (ct @Au (ct @C4 cz)) ?_
    intro b1 h3 h4
    exact ge
  ·rw [if_pos h1] at h
   subst h
   have C4:=fun {ps:Option Addr}{nn c:Nat}=>Gk (ps:=ps) (nn:=nn) (c:=c) (n:=N) (l:=set) (decide_eq_false h1)
   refine wk 22 (ct @Au (ct @C4 cz)) ?_
   intro b1 h2
   exact ge
 ·rw [if_pos h0] at h
  subst h
  refine wk 14 (ct @Au cz) ?_
  intro b1 h1
  exact ge
theorem Ts {N:Nat}(K:Fok p m md) (hN:N≤64) (hl:rows.length≤256) (hM:Cz (p ^ m) N rows) (hst:Uc N set) (hne:set.length≠N) :
  Bs Tryz.prog 55 [.agg #[.int .i64 p,.int .i64 m,.slice pm nm cm],.agg #[.int .i64 N,.slice ps n c],.slice pt ns cs'] [] [Ap Ai pm nm cm md,Ap (Aj Ai) ps n c rows,Ap Ai pt ns cs' set]
   (Y0 p m ((Cj N [set]).length:Nat) md (Dm p m md (Cj N [set]).length (rows.map fun r=>Pd r (Cj N [set]))).1 0):=by
 refine Ab (F:=AAZ) rfl fun C=>?_
 have O:=Dc K
 have hol:=Yy hst
 have ho64:(Cj N [set]).length≤64:=by omega
 have ho1:1≤(Cj N [set]).length:=by omega
 have hor:∀ x∈Cj N [set],0≤x∧x<(N:Int):=(Yz N [set]).1
 have hPM:Cz (p ^ m) (Cj N [set]).length (rows.map fun r=>Pd r (Cj N [set])):=O.pk_mat hM _
 have hRl:(rows.map fun r=>Pd r (Cj N [set])).length≤256:=by rw [List.length_map];exact hl
 have Nv:=fun {ps:Option Addr}{nn c:Nat}=>(Tm (ps:=ps) (nn:=nn) (c:=c) (n:=N) (l:=set) (by omega)).pubR (by show _*8≤140737488355328;omega)
 have Jk:=fun {pm ps pt:Option Addr}{nm cm n c ns cs':Nat}=>Kx (pm:=pm) (ps:=ps) (pt:=pt) (nm:=nm) (cm:=cm) (n:=n) (c:=c) (ns:=ns) (cs':=cs') K (show N≤256 by omega) hl hM (show (Cj N [set]).length≤256 by omega) hor
 have Dj:=fun {pm ps:Option Addr}{nm cm n c:Nat}=>Ik (pm:=pm) (ps:=ps) (nm:=nm) (cm:=cm) (n:=n) (c:=c) (N:=(Cj N [set]).length) (rows:=rows.map fun r=>Pd r (Cj N [set])) K ho1 ho64 hRl hPM
 generalize (rows.map fun r=>Pd r (Cj N [set]))=R at *
 generalize Cj N [set]=T at *
 refine wk 6 cz ?_
 intro b1 b2 b3
 (apply Ga (x0:=none) it mx 0 10 [9] 1;(· rfl);(· rfl);(· rfl);(· decide))
 simp only [List.drop_zero]
 (apply Ac;(· rfl);(· exact Cy 2 rfl rfl Hx rfl))
 (apply Ac;(· rfl);(· exact Cy 1 rfl rfl Gd rfl))
 (apply A3 1;(· rfl);(· simp))
 (apply Ac;(· rfl);(· exact Cf fun _=>Aq rfl I3 An))
 (apply Ac;(· rfl);(· exact Ca 1 rfl rfl Ci rfl))
 (apply Ii;(· rfl);(· exact Cf fun _=>Aw [2] rfl (Nv) rfl (by rintro _ _ _ ⟨pa1,ca1,rfl,rfl,rfl⟩;exact (Mg 0 rfl)));intro pa1 ca1)
 (apply I7 (val:=(fun g=>Value.tuple #[Value.agg #[Value.int IntKind.i64 ↑T.length,Value.slice (g 0).fst rows.length (g 1).snd.fst],Value.int IntKind.i64 0])) (f:=(fun g=>[Ap (Aj Ai) (g 0).fst rows.length (g 1).snd.fst R]));(· rfl);(· exact Cf fun _=>Aw [1,2,0] rfl (Jk) rfl (by rintro _ _ _ ⟨pbg0,cbg1,rfl,rfl,rfl⟩;exact fun _ _ _ hG=>⟨(fun|0=>(pbg0,0,0,[])|1=>(none,cbg1,0,[])|_=>default),rfl,fun g hg=>E3 (hG _ (List.mem_append_left _ hg))⟩));intro g1;dsimp only [List.map_cons,List.map_nil])
 (apply Gz [16] (fun vs=>vs.getD 0 undef) (v:=Value.tuple #[Value.agg #[Value.int IntKind.i64 ↑T.length,Value.slice (g1 0).fst rows.length (g1 1).snd.fst],Value.int IntKind.i64 0]);(· rfl);(· rfl);(· rfl);(· rfl);(· exact Cf fun _=>Jz it rfl (by trivial) An))
 (apply Gz [9] (fun vs=>match vs.getD 0 undef with | .tuple a=>a.getD 0 undef|_=>undef) (v:=Value.agg #[Value.int IntKind.i64 ↑T.length,Value.slice (g1 0).fst rows.length (g1 1).snd.fst]);(· rfl);(· rfl);(· rfl);(· rfl);(· exact Cf fun _=>Jz it rfl (by trivial) An))
 (apply Ac;(· rfl);(· exact Cf fun _=>Jz it rfl (by trivial) An))
 refine Fl rfl ?_
 (rotate_left;rfl;rotate_right)
 simp only [List.map_cons,List.map_nil,List.cons_append,List.nil_append]
 refine Gq it rfl rfl ⟨⟨_,_,_,_,rfl,rfl,rfl,rfl,rfl,rfl,(by first|trivial|(repeat' first|exact trivial|apply And.intro|omega))⟩,trivial⟩ (A7 1 rfl rfl rfl Gd rfl rfl (by simp [Value.oneCell']) ?_)
 refine H8 it ⟨⟨_,_,_,_,rfl,rfl,rfl,rfl,rfl,rfl,(by first|trivial|(repeat' first|exact trivial|apply And.intro|omega))⟩,trivial⟩ ?_
 refine wk 13 (ct @Dj cz) ?_
 intro h1 pb1 pc1 nb1 cb1 nc1 cc1
 refine Bj [0,1] rfl (.agg 0 rfl rfl Cs rfl (.tmp rfl .nil)) rfl ⟨_,_,_,_,_,_,rfl,rfl,rfl⟩
end
open Go Go.Fw
set_option maxRecDepth 100000
set_option linter.unusedVariables false
set_option linter.unusedSimpArgs false
set_option maxHeartbeats 0
structure CR where
 P:Int
 M:Int
 N:Int
 md:List Int
 rows:List (List Int)
 e:Int
abbrev CdX (x:CR):Value→List Fact→List A2→Prop:=Y0 x.P x.M x.N x.md x.rows x.e
abbrev zeR (e:Int):CR:=⟨0,0,0,[],[],e⟩
theorem AHh {n:Nat}{set:List Int}(h:Uc n set):Cj n [Cj n [set]]=set:=by
 have e:(Cj n [Cj n [set]]).map Int.toNat=set.map Int.toNat:=by
  refine Y2 ?_ ?_ fun x=>?_
  ·rw [List.pairwise_map]
   have h2:=Yz n [Cj n [set]]
   refine List.Pairwise.imp_of_mem (fun {a b} ha hb hab=>?_) h2.2
   have:=h2.1 a ha;have:=h2.1 b hb;omega
  ·rw [List.pairwise_map]
   refine List.Pairwise.imp_of_mem (fun {a b} ha hb hab=>?_) h.2
   have:=h.1 a ha;have:=h.1 b hb;omega
  ·rw [List.mem_map,List.mem_map]
   constructor
   ·rintro ⟨y,hy,rfl⟩
    obtain ⟨⟨h0,h1⟩,h2⟩:=Lv.1 hy
    have h3:=h2 _ (.head _)
    refine ⟨y,Classical.byContradiction fun hn=>h3 (Lv.2 ⟨⟨h0,h1⟩,fun l hl=>?_⟩),rfl⟩
    rw [List.mem_singleton.1 hl];exact hn
   ·rintro ⟨y,hy,rfl⟩
    refine ⟨y,Lv.2 ⟨h.1 y hy,fun l hl hm=>?_⟩,rfl⟩
    rw [List.mem_singleton.1 hl] at hm
    exact (Lv.1 hm).2 _ (.head _) hy
 have hb:=fun (l:List Int) (hl:∀ x∈l,0≤x)=>show (l.map Int.toNat).map (fun i:Nat=>(i:Int))=l by
  rw [List.map_map]
  conv=>rhs;rw [← List.map_id l]
  exact List.map_congr_left fun x hx=>Int.toNat_of_nonneg (hl x hx)
 rw [← hb (Cj n [Cj n [set]]) fun x hx=>((Yz _ _).1 x hx).1,e,hb set fun x hx=>(h.1 x hx).1]
noncomputable def puX (P M:Int) (md:List Int) (N:Int) (rows:List (List Int)) (set:List Int):CR :=
 if psE P M md N rows set=0 then ⟨P,M,((Cj N.toNat [set]).length:Nat),md,(Dm P.toNat M.toNat md (Cj N.toNat [set]).length (rows.map fun r=>Pd r (Cj N.toNat [set]))).1,0⟩ else zeR (psE P M md N rows set)
noncomputable def shX (P M:Int) (md:List Int) (N:Int) (rows:List (List Int)) (set:List Int):CR :=
 if psE P M md N rows set=0 then ⟨P,M,((Cj N.toNat [set]).length:Nat),md,(Dm P.toNat M.toNat md (Cj N.toNat [set]).length ((wiP P.toNat M.toNat md N.toNat rows set).map fun r=>Pd r (Cj N.toNat [set]))).1,0⟩ else zeR (psE P M md N rows set)
theorem AEo {p m n:Nat}{md set:List Int}{rows:List (List Int)}(h:psE p m md n rows set=0):puX p m md n rows set=⟨p,m,((Cj n [set]).length:Nat),md,(Dm p m md (Cj n [set]).length (rows.map fun r=>Pd r (Cj n [set]))).1,0⟩:=by
 rw [puX,if_pos h];simp only [Int.toNat_natCast]
theorem AEl {p m n:Nat}{md set:List Int}{rows:List (List Int)}(h:psE p m md n rows set=0):shX p m md n rows set=⟨p,m,((Cj n [set]).length:Nat),md,(Dm p m md (Cj n [set]).length ((wiP p m md n rows set).map fun r=>Pd r (Cj n [set]))).1,0⟩:=by
 rw [shX,if_pos h];simp only [Int.toNat_natCast]
theorem AHW {p m n:Nat}{md set:List Int}{rows:List (List Int)}(CC:Cok p m md n rows):Cz (p ^ m) n (wiP p m md n rows set)∧(wiP p m md n rows set).length≤n:=by
 have O:=Dc CC.K
 have hc:Cz (p ^ m) rows.length (set.map fun j=>Fu rows j.toNat):=fun r hr=>by
  obtain ⟨j,_,rfl⟩:=List.mem_map.1 hr
  exact Jl (by have:=O.q2;omega) CC.mat _
 obtain ⟨h1,h2⟩:=V1 CC.K (O.wo_mat CC.mat hc)
 exact ⟨(O.wi CC.mat hc).1,Nat.le_trans (Nat.le_of_eq h1) h2⟩
section
variable {P M:Int}{n c nm cm ns cs':Nat}{pm ps pt:Option Addr}{md set:List Int}{rows:List (List Int)}
theorem Nc {N:Int}(hN:Bv .i64 N):Bs Tryz.prog 15 [.agg #[.int .i64 P,.int .i64 M,.slice pm nm cm,.int .i64 N,.slice ps n c],.slice pt ns cs'] [] [Ap Ai pm nm cm md,Ap (Aj Ai) ps n c rows,Ap Ai pt ns cs' set] (CdX (puX P M md N rows set)):=by
 refine Ab (F:=Wl) rfl fun C=>?_
 have hr:=AFs P M md N rows set
 have Di:=fun {pm ps pt:Option Addr}{nm cm n c ns cs':Nat}=>Lu (P:=P) (M:=M) (pm:=pm) (ps:=ps) (pt:=pt) (nm:=nm) (cm:=cm) (n:=n) (c:=c) (ns:=ns) (cs':=cs') (md:=md) (set:=set) (rows:=rows) hN rfl
 by_cases h0:psE P M md N rows set=0
 ·obtain ⟨p,m,n',rfl,rfl,rfl,CC,hst,hne⟩:=AKa h0
  rw [h0] at Di
  rw [AEo h0]
  have h64:=CC.n64
  have Py:=fun {P M N:Int}{pm ps:Option Addr}{nm cm n c:Nat}=>V6 (P:=P) (M:=M) (N:=N) (pm:=pm) (ps:=ps) (nm:=nm) (cm:=cm) (n:=n) (c:=c)
  have Nq:=fun {pm ps pt:Option Addr}{nm cm n c ns cs':Nat}=>Ts (pm:=pm) (ps:=ps) (pt:=pt) (nm:=nm) (cm:=cm) (n:=n) (c:=c) (ns:=ns) (cs':=cs') CC.K h64 (by have:=CC.len;omega) CC.mat hst hne
  refine wk 14 (ct @Di cz) ?_
  intro b1 b2 h1
  (apply E7 it mx 8;(· rfl);(· rfl))
  (apply Ac;(· rfl);(· exact Cf fun _=>Aq rfl Ud An))
  (apply Ac;(· rfl);(· exact Ji 1 rfl rfl Hx rfl rfl))
  (apply Ac;(· rfl);(· exact Cy 1 rfl rfl Cs rfl))
  (apply Ac;(· rfl);(· exact Cf fun _=>Aw [] rfl (Py) rfl (by rintro _ _ _ ⟨rfl,rfl,rfl⟩;exact An)))
  (apply A3 1;(· rfl);(· simp))
  (apply I7 (val:=(fun g=>Value.tuple #[Value.agg #[Value.int IntKind.i64 ↑p,Value.int IntKind.i64 ↑m,Value.slice (g 0).fst (g 2).snd.fst (g 3).snd.fst,Value.int IntKind.i64 ↑(Cj n' [set]).length,Value.slice (g 1).fst (g 4).snd.fst (g 5).snd.fst],Value.int IntKind.i64 0])) (f:=(fun g=>[Ap Ai (g 0).fst (g 2).snd.fst (g 3).snd.fst md,Ap (Aj Ai) (g 1).fst (g 4).snd.fst (g 5).snd.fst (Dm p m md (Cj n' [set]).length (List.map (fun r=>Pd r (Cj n' [set])) rows)).fst]));(· rfl);(· exact Cf fun _=>Aw [0,1,2] rfl (Nq) rfl (by rintro _ _ _ ⟨pbg0,pcg1,nbg2,cbg3,ncg4,ccg5,rfl,rfl,rfl⟩;exact fun _ _ _ hG=>⟨(fun|0=>(pbg0,0,0,[])|1=>(pcg1,0,0,[])|2=>(none,nbg2,0,[])|3=>(none,cbg3,0,[])|4=>(none,ncg4,0,[])|5=>(none,ccg5,0,[])|_=>default),rfl,fun g hg=>E3 (hG _ (List.mem_append_left _ hg))⟩));intro g1;dsimp only [List.map_cons,List.map_nil])
  (apply Gz [19] (fun vs=>match vs.getD 0 undef with | .tuple a=>a.getD 0 undef|_=>undef) (v:=Value.agg #[Value.int IntKind.i64 ↑p,Value.int IntKind.i64 ↑m,Value.slice (g1 0).fst (g1 2).snd.fst (g1 3).snd.fst,Value.int IntKind.i64 ↑(Cj n' [set]).length,Value.slice (g1 1).fst (g1 4).snd.fst (g1 5).snd.fst]);(· rfl);(· rfl);(· rfl);(· rfl);(· exact Cf fun _=>Jz it rfl (by trivial) An))
  (apply Ac;(· rfl);(· exact Cf fun _=>Jz it rfl (by trivial) An))
  refine Eu rfl ?_
  simp only [List.map_cons,List.map_nil,List.cons_append,List.nil_append]
  refine wk 3 cz ?_
  refine Bj [0,1] rfl (.agg 0 rfl rfl Cs rfl (.tmp rfl .nil)) rfl ⟨_,_,_,_,_,_,rfl,rfl,rfl⟩
 ·rw [puX,if_neg h0]
  generalize psE P M md N rows set=e at *
  refine Eh (Ap Ai none 0 0 []) (fun w A _=>Dp _ w A none 0) ?_
  refine Eh (Ap (Aj Ai) none 0 0 []) (fun w A _=>Dp _ w A none 0) ?_
  refine wk 19 (ct @Di cz) ?_
  intro b1 b2 h1
  refine Bj [1,0] rfl (.agg 0 rfl rfl Cs rfl (.tmp rfl .nil)) rfl ⟨_,_,_,_,_,_,rfl,rfl,rfl⟩
theorem Oz {N:Int}(hN:Bv .i64 N):Bs Tryz.prog 18 [.agg #[.int .i64 P,.int .i64 M,.slice pm nm cm,.int .i64 N,.slice ps n c],.slice pt ns cs'] [] [Ap Ai pm nm cm md,Ap (Aj Ai) ps n c rows,Ap Ai pt ns cs' set] (CdX (shX P M md N rows set)):=by
 refine Ab (F:=Xk) rfl fun C=>?_
 have hr:=AFs P M md N rows set
 have Di:=fun {pm ps pt:Option Addr}{nm cm n c ns cs':Nat}=>Lu (P:=P) (M:=M) (pm:=pm) (ps:=ps) (pt:=pt) (nm:=nm) (cm:=cm) (n:=n) (c:=c) (ns:=ns) (cs':=cs') (md:=md) (set:=set) (rows:=rows) hN rfl
 by_cases h0:psE P M md N rows set=0
 ·obtain ⟨p,m,n',rfl,rfl,rfl,CC,hst,hne⟩:=AKa h0
  rw [h0] at Di
  rw [AEl h0]
  have h64:=CC.n64
  have hol:=Yy hst
  obtain ⟨hWM,hWl⟩:=AHW (set:=set) CC
  have Py:=fun {P M N:Int}{pm ps:Option Addr}{nm cm n c:Nat}=>V6 (P:=P) (M:=M) (N:=N) (pm:=pm) (ps:=ps) (nm:=nm) (cm:=cm) (n:=n) (c:=c)
  have Nv:=fun {ps:Option Addr}{nn c:Nat}=>(Tm (ps:=ps) (nn:=nn) (c:=c) (n:=n') (l:=set) (by omega)).pubR (by show _*8≤140737488355328;omega)
  have M9:=fun {pm ps pt:Option Addr}{nm cm n c ns cs':Nat}=>Si (pm:=pm) (ps:=ps) (pt:=pt) (nm:=nm) (cm:=cm) (n:=n) (c:=c) (ns:=ns) (cs':=cs') CC (Yz n' [set])
  rw [AHh hst] at M9
  have Nq:=fun {pm ps pt:Option Addr}{nm cm n c ns cs':Nat}=>Ts (pm:=pm) (ps:=ps) (pt:=pt) (nm:=nm) (cm:=cm) (n:=n) (c:=c) (ns:=ns) (cs':=cs') CC.K h64 (by omega) hWM hst hne
  generalize wiP p m md n' rows set=W at *
  refine wk 14 (ct @Di cz) ?_
  intro b1 b2 h1
  (apply Ga (x0:=none) it mx 0 13 [11] 1;(· rfl);(· rfl);(· rfl);(· decide))
  simp only [List.drop_zero]
  (apply Ac;(· rfl);(· exact Cf fun _=>Aq rfl Ud An))
  (apply Ac;(· rfl);(· exact Ji 1 rfl rfl Hx rfl rfl))
  (apply Ac;(· rfl);(· exact Cy 1 rfl rfl Cs rfl))
  (apply Ac;(· rfl);(· exact Cf fun _=>Aw [] rfl (Py) rfl (by rintro _ _ _ ⟨rfl,rfl,rfl⟩;exact An)))
  (apply A3 1;(· rfl);(· simp))
  (apply Ac;(· rfl);(· exact Cf fun _=>Aq rfl Jj An))
  (apply Ac;(· rfl);(· exact Ca 1 rfl rfl Ci rfl))
  (apply Ii;(· rfl);(· exact Cf fun _=>Aw [2] rfl (Nv) rfl (by rintro _ _ _ ⟨pa1,ca1,rfl,rfl,rfl⟩;exact (Mg 0 rfl)));intro pa1 ca1)
  (apply I7 (val:=(fun g=>Value.tuple #[Value.agg #[Value.int IntKind.i64 ↑n',Value.slice (g 0).fst W.length (g 1).snd.fst],Value.int IntKind.i64 0])) (f:=(fun g=>[Ap (Aj Ai) (g 0).fst W.length (g 1).snd.fst W]));(· rfl);(· exact Cf fun _=>Aw [1,2,0] rfl (M9) rfl (by rintro _ _ _ ⟨pbg0,cbg1,rfl,rfl,rfl⟩;exact fun _ _ _ hG=>⟨(fun|0=>(pbg0,0,0,[])|1=>(none,cbg1,0,[])|_=>default),rfl,fun g hg=>E3 (hG _ (List.mem_append_left _ hg))⟩));intro g1;dsimp only [List.map_cons,List.map_nil])
  (apply Gz [25] (fun vs=>vs.getD 0 undef) (v:=Value.tuple #[Value.agg #[Value.int IntKind.i64 ↑n',Value.slice (g1 0).fst W.length (g1 1).snd.fst],Value.int IntKind.i64 0]);(· rfl);(· rfl);(· rfl);(· rfl);(· exact Cf fun _=>Jz it rfl (by trivial) An))
  (apply Gz [16] (fun vs=>match vs.getD 0 undef with | .tuple a=>a.getD 0 undef|_=>undef) (v:=Value.agg #[Value.int IntKind.i64 ↑n',Value.slice (g1 0).fst W.length (g1 1).snd.fst]);(· rfl);(· rfl);(· rfl);(· rfl);(· exact Cf fun _=>Jz it rfl (by trivial) An))
  (apply Ac;(· rfl);(· exact Cf fun _=>Jz it rfl (by trivial) An))
  (apply Hk;(· rfl);(· exact Ha);intro b3)
  refine Fl rfl ?_
  (rotate_left;rfl;rotate_right)
  simp only [List.map_cons,List.map_nil,List.cons_append,List.nil_append]
  refine Gq it rfl rfl ⟨⟨_,_,_,_,rfl,rfl,rfl,rfl,rfl,rfl,(by first|trivial|(repeat' first|exact trivial|apply And.intro|omega))⟩,trivial⟩ (A7 0 rfl rfl rfl Gd rfl rfl (by simp [Value.oneCell']) ?_)
  refine H8 it ⟨⟨_,_,_,_,rfl,rfl,rfl,rfl,rfl,rfl,(by first|trivial|(repeat' first|exact trivial|apply And.intro|omega))⟩,trivial⟩ ?_
  refine wk 15 (ct @Nq cz) ?_
  intro h2 pb1 pc1 nb1 cb1 nc1 cc1
  refine Bj [0,1] rfl (.agg 1 rfl rfl Cs rfl (.tmp rfl .nil)) rfl ⟨_,_,_,_,_,_,rfl,rfl,rfl⟩
 ·rw [shX,if_neg h0]
  generalize psE P M md N rows set=e at *
  refine Eh (Ap Ai none 0 0 []) (fun w A _=>Dp _ w A none 0) ?_
  refine Eh (Ap (Aj Ai) none 0 0 []) (fun w A _=>Dp _ w A none 0) ?_
  refine wk 19 (ct @Di cz) ?_
  intro b1 b2 h1
  refine Bj [1,0] rfl (.agg 0 rfl rfl Cs rfl (.tmp rfl .nil)) rfl ⟨_,_,_,_,_,_,rfl,rfl,rfl⟩
end
open Go Go.Fw
set_option maxRecDepth 100000
set_option linter.unusedVariables false
set_option linter.unusedSimpArgs false
set_option maxHeartbeats 0
theorem Ph {P M P2 M2:Int}{pm p2:Option Addr}{nm cm n2 c2:Nat}{md md2:List Int}{res:Bool}(hr:decide (P=P2∧M=M2∧md=md2)=res):Bs Tryz.prog 60 [.agg #[.int .i64 P,.int .i64 M,.slice pm nm cm],.agg #[.int .i64 P2,.int .i64 M2,.slice p2 n2 c2]] [] [Ap Ai pm nm cm md,Ap Ai p2 n2 c2 md2] (Rv (.bool res) []):=by
 refine Ab (F:=P9) rfl fun C=>?_
 refine Bb 0 rfl fun hn hb _=>?_
 subst hn
 refine Bb 1 rfl fun hn hb2 _=>?_
 subst hn
 have hb':md.length*8≤140737488355328:=hb
 have hb2':md2.length*8≤140737488355328:=hb2
 by_cases h1:P=P2∧M=M2∧md.length=md2.length
 ·obtain ⟨rfl,rfl,hl⟩:=h1
  simp only [true_and] at hr
  refine wk 32 cz ?_
  intro b1 b2 h1 h2 h3
  refine Ah (X:=Nat) [2,3] [0,1] (fun i=>[(5,.int .i64 (i:Int))]) (fun _=>_) (fun _=>[]) (fun i=>i≤md.length∧∀ j,j<i→md[j]?=md2[j]?) (fun i=>md.length-i) 0 [] rfl rfl rfl ⟨Nat.zero_le _,fun j hj=>by omega⟩ (by repeat (first|exact Fr.sub_nil _|refine Fr.sub_cons rfl ?_)) rfl rfl ?_
  rintro i ⟨hi,hj⟩ ih
  simp only [List.cons_append,List.nil_append] at ih ⊢
  by_cases h9:i<md.length
  ·obtain ⟨x,at_x⟩:∃ x,md[i]?=some x:=⟨_,List.getElem?_eq_getElem h9⟩
   obtain ⟨y,at_y⟩:∃ y,md2[i]?=some y:=⟨_,List.getElem?_eq_getElem (by omega)⟩
   have ex:md.getD i default=x:=by rw [List.getD_eq_getElem?_getD,at_x];rfl
   have ey:md2.getD i default=y:=by rw [List.getD_eq_getElem?_getD,at_y];rfl
   by_cases hxy:md.getD i default=md2.getD i default
   ·have hxy2:x=y:=by rw [← ex,← ey];exact hxy
    have ih':=ih (i+1) (by omega) ⟨by omega,fun j h=>by
     by_cases e:j=i
     ·rw [e,at_x,at_y,hxy2]
     ·exact hj j (by omega)⟩
    clear ih
    refine wk 15 cz ?_
    intro h4 b3 o1 b4 o2 h5
    exact tw (ih')
   ·have e:res=false:=by
     rw [← hr]
     refine decide_eq_false fun e=>hxy ?_
     rw [e]
    subst e
    clear ih
    refine wk 15 cz ?_
    intro h4 b3 o1 b4 o2 h5
    exact ge
  ·have e:res=true:=by
    rw [← hr]
    refine decide_eq_true (List.ext_getElem? fun j=>?_)
    by_cases h:j<md.length
    ·exact hj j (by omega)
    ·rw [List.getElem?_eq_none (by omega),List.getElem?_eq_none (by omega)]
   subst e
   clear ih
   refine wk 11 cz ?_
   intro h4
   exact ge
 ·have e:res=false:=by
   rw [← hr]
   exact decide_eq_false fun ⟨a,b,d⟩=>h1 ⟨a,b,by rw [d]⟩
  subst e
  by_cases hP:P=P2
  ·by_cases hM:M=M2
   ·have hl:md.length≠md2.length:=fun e=>h1 ⟨hP,hM,e⟩
    refine wk 32 cz ?_
    intro b1 b2 h2 h3 h4
    exact ge
   ·refine wk 26 cz ?_
    intro b1 b2 h2 h3
    exact ge
  ·refine wk 18 cz ?_
   intro b1 b2 h2
   exact ge
section
variable {P M N P2 M2 N2:Int}{n c nm cm n2 c2 nm2 cm2:Nat}{pm ps pm2 p2:Option Addr}{md md2:List Int}{rows rows2:List (List Int)}
theorem Pf {res:Bool}(hr:decide ((P=P2∧M=M2∧md=md2)∧N=N2∧rows=rows2)=res):Bs Tryz.prog 17 [.agg #[.int .i64 P,.int .i64 M,.slice pm nm cm,.int .i64 N,.slice ps n c],.agg #[.int .i64 P2,.int .i64 M2,.slice pm2 nm2 cm2,.int .i64 N2,.slice p2 n2 c2]] [] [Ap Ai pm nm cm md,Ap (Aj Ai) ps n c rows,Ap Ai pm2 nm2 cm2 md2,Ap (Aj Ai) p2 n2 c2 rows2] (Rv (.bool res) []):=by
 refine Ab (F:=Pp) rfl fun C=>?_
 have B4:=fun {pm p2:Option Addr}{nm cm n2 c2:Nat}{res:Bool}(h:decide (P=P2∧M=M2∧md=md2)=res)=>Ph (pm:=pm) (p2:=p2) (nm:=nm) (cm:=cm) (n2:=n2) (c2:=c2) h
 have As:=fun {pl pk:Option Addr}{nl cl nk ck:Nat}{res:Bool}(h:decide (rows=rows2)=res)=>Du (pl:=pl) (pk:=pk) (nl:=nl) (cl:=cl) (nk:=nk) (ck:=ck) h
 by_cases h1:P=P2∧M=M2∧md=md2
 ·have B4:=fun {pm p2:Option Addr}{nm cm n2 c2:Nat}=>B4 (pm:=pm) (p2:=p2) (nm:=nm) (cm:=cm) (n2:=n2) (c2:=c2) (decide_eq_true h1)
  by_cases h2:N=N2
  ·by_cases h3:rows=rows2
   ·have As:=fun {pl pk:Option Addr}{nl cl nk ck:Nat}=>As (pl:=pl) (pk:=pk) (nl:=nl) (cl:=cl) (nk:=nk) (ck:=ck) (decide_eq_true h3)
    rw [decide_eq_true ⟨h1,h2,h3⟩] at hr
    subst hr
    refine wk 26 (ct @B4 (ct @As cz)) ?_
    intro b1 b2 h4
    exact ge
   ·have As:=fun {pl pk:Option Addr}{nl cl nk ck:Nat}=>As (pl:=pl) (pk:=pk) (nl:=nl) (cl:=cl) (nk:=nk) (ck:=ck) (decide_eq_false h3)
    rw [decide_eq_false fun h=>h3 h.2.2] at hr
    subst hr
    refine wk 26 (ct @B4 (ct @As cz)) ?_
    intro b1 b2 h4
    exact ge
  ·rw [decide_eq_false fun h=>h2 h.2.1] at hr
   subst hr
   refine wk 21 (ct @B4 cz) ?_
   intro b1 b2 h3
   exact ge
 ·have B4:=fun {pm p2:Option Addr}{nm cm n2 c2:Nat}=>B4 (pm:=pm) (p2:=p2) (nm:=nm) (cm:=cm) (n2:=n2) (c2:=c2) (decide_eq_false h1)
  rw [decide_eq_false fun h=>h1 h.1] at hr
  subst hr
  refine wk 12 (ct @B4 cz) ?_
  intro b1 b2
  exact ge
def fwB (n:Int):List (List Int)→Int→Bool
 | [],_=>true
 | r::rs,left=>if left<(r.length:Int) then false else fwB n rs (left-r.length)
abbrev AEf (rows:List (List Int)) (n:Int):Bool:=if n<(rows.length:Int) then false else fwB n rows (n-rows.length)
theorem Ql {k:Int}(hk:k≤1000) (hk0:0≤k) {res:Bool}(hr:AEf rows k=res):Bs Tryz.prog 71 [.agg #[.int .i64 0,.slice ps n c],.int .i64 k] [] [Ap (Aj Ai) ps n c rows] (Rv (.bool res) []):=by
 refine Ab (F:=Qn) rfl fun C=>?_
 refine Bb 0 rfl fun hn hb _=>?_
 subst hn
 by_cases h1:k<(rows.length:Int)
 ·rw [AEf,if_pos h1] at hr
  subst hr
  refine wk 17 cz ?_
  intro b1 h2 h3
  exact ge
 ·rw [AEf,if_neg h1] at hr
  refine wk 23 cz ?_
  intro b1 h2 h3
  refine Ah (X:=Nat×Int) [2] [0] (fun z=>[(6,.int .i64 (z.1:Int)),(5,.int .i64 z.2)]) (fun _=>_) (fun _=>[]) (fun z=>z.1≤rows.length∧0≤z.2∧z.2≤1000∧fwB k (rows.drop z.1) z.2=res) (fun z=>rows.length-z.1) (0,k-rows.length) [] rfl rfl rfl ⟨Nat.zero_le _,by dsimp only;omega,by dsimp only;omega,hr⟩ (by repeat (first|exact Fr.sub_nil _|refine Fr.sub_cons rfl ?_)) rfl rfl ?_
  rintro ⟨i,left⟩ ⟨hi,hl0,hl1,hf⟩ ih
  simp only [List.cons_append,List.nil_append] at hi hl0 hl1 hf ih ⊢
  by_cases h9:i<rows.length
  ·obtain ⟨u,at_u⟩:∃ u,rows[i]?=some u:=⟨_,List.getElem?_eq_getElem h9⟩
   rw [List.drop_eq_getElem_cons h9,(List.getElem?_eq_some_iff.1 at_u).2,fwB] at hf
   by_cases h2:left<(u.length:Int)
   ·rw [if_pos h2] at hf
    subst hf
    clear ih
    refine wk 21 cz ?_
    intro h4 b2 o1 hz1 pa1 ca1 h5
    exact ge
   ·rw [if_neg h2] at hf
    have ih':=ih (i+1,left-u.length) (by dsimp only;omega) ⟨by dsimp only;omega,by dsimp only;omega,by dsimp only;omega,hf⟩
    dsimp only at ih'
    clear ih
    refine wk 30 cz ?_
    intro h4 b2 o1 hz1 pa1 ca1 h5 b3 o2 hz2 pa2 ca2
    exact tw (ih')
  ·rw [List.drop_of_length_le (by omega),fwB] at hf
   subst hf
   clear ih
   refine wk 11 cz ?_
   intro h4
   exact ge
theorem Q6 {k:Int}(hk:k≤1000) (hk0:0≤k) {res:Bool}(hr:AEf rows k=res):Bs Tryz.prog 24 [.agg #[.int .i64 P,.int .i64 M,.slice pm nm cm,.int .i64 N,.slice ps n c],.int .i64 k] [] [Ap (Aj Ai) ps n c rows] (Rv (.bool res) []):=by
 refine Ab (F:=Qv) rfl fun C=>?_
 have Q8:=fun {ps:Option Addr}{n c:Nat}=>Ql (rows:=rows) (ps:=ps) (n:=n) (c:=c) hk hk0 hr
 refine wk 11 (ct @Q8 cz) ?_
 intro b1
 exact ge
end
open Go Go.Fw
set_option maxRecDepth 100000
set_option linter.unusedVariables false
set_option linter.unusedSimpArgs false
set_option maxHeartbeats 0
abbrev onW (n:Nat):List Int:=List.replicate n 1
theorem AL4 {p m:Nat}{md:List Int}(K:Fok p m md) (n:Nat):Wd (p ^ m) n (onW n):=⟨List.length_replicate,fun x hx=>by rw [List.eq_of_mem_replicate hx];have:=K.fi.q2;omega⟩
theorem ACr {p m:Nat}{md:List Int}(K:Fok p m md) (n:Nat):Cz (p ^ m) n [onW n]:=fun r hr=>by rw [List.mem_singleton.1 hr];exact AL4 K n
noncomputable abbrev onP (p m:Nat) (md:List Int) (n:Nat):List (List Int):=(Dm p m md n [onW n]).1
section
variable {p m n c nm cm N:Nat}{P M:Int}{pm ps:Option Addr}{md:List Int}{rows:List (List Int)}
theorem T0 (K:Fok p m md) (h1:1≤N) (hN:N≤64):Bs Tryz.prog 78 [.agg #[.int .i64 p,.int .i64 m,.slice pm nm cm,.int .i64 N,.slice ps n c]] [] [Ap Ai pm nm cm md] (Y0 p m N md (onP p m md N) 0):=by
 refine Ab (F:=AA6) rfl fun C=>?_
 have Dj:=fun {pm ps:Option Addr}{nm cm n c:Nat}=>Ik (pm:=pm) (ps:=ps) (nm:=nm) (cm:=cm) (n:=n) (c:=c) (N:=N) (rows:=[onW N]) K h1 hN (show 1≤256 by omega) (ACr K N)
 refine wk 14 cz ?_
 intro b1 b2 b3
 rw [show Ao .i64 (List.replicate N 0)=Al .i64 (List.replicate 0 1++List.replicate (N-0) 0) by simp [Ao,Al]]
 refine Ah (X:=Nat) [1,2,3,4,10] [0] (fun i=>[(11,.int .i64 (i:Int))]) (fun i=>(some b3,3,Al .i64 (List.replicate i 1++List.replicate (N-i) 0))::_) (fun _=>[]) (fun i=>i≤N) (fun i=>N-i) 0 [] rfl rfl rfl (Nat.zero_le _) (by repeat (first|exact Fr.sub_nil _|refine Fr.sub_cons rfl ?_)) rfl rfl ?_
 rintro i hi ih
 simp only [List.cons_append,List.nil_append] at hi ih ⊢
 by_cases h9:i<N
 ·have ih':=ih (i+1) (by omega) (by omega)
  have hset:(List.replicate i (1:Int)++List.replicate (N-i) 0).set i 1=List.replicate (i+1) 1++List.replicate (N-(i+1)) 0:=by
   obtain ⟨k,hk⟩:∃ k,N-i=k+1:=⟨N-i-1,by omega⟩
   rw [hk,List.replicate_succ (n:=k),List.set_append_right _ _ (by simp),List.length_replicate,Nat.sub_self,List.set_cons_zero,show N-(i+1)=k by omega,List.replicate_succ' (n:=i),List.append_assoc]
   rfl
  rw [← hset] at ih'
  have hln:(List.replicate i (1:Int)++List.replicate (N-i) 0).length=N:=by simp;omega
  generalize List.replicate i (1:Int)++List.replicate (N-i) 0=L at *
  clear ih
  refine wk 13 cz ?_
  intro h2
  exact tw (ih')
 ·obtain rfl:i=N:=by omega
  rw [Nat.sub_self,List.replicate_zero,List.append_nil]
  clear ih
  refine Bl 0 rfl (show i=(onW i).length from List.length_replicate.symm) (fun x hx=>by rw [List.eq_of_mem_replicate hx];simp only [Bv];omega) (by omega) ?_
  refine C5 0 0 rfl rfl (by show i*8≤140737488355328;omega) ?_
  simp only [List.eraseIdx_cons_zero]
  refine wk 12 cz ?_
  intro h2 b4
  refine Cg (E:=(Aj (Ai))) (n:=1) [[Value.slice (some { block:=b3,off:=0 }) i i]] [List.replicate i 1] 0 (fun w A hG=>(Az (A1 (hG _ (Af (n:=0) rfl))) Bf)) rfl rfl rfl rfl (by first|decide|exact Nat.le_of_ble_eq_true rfl) (by first|decide|exact Nat.le_of_ble_eq_true rfl) ?_
  refine wk 5 (ct @Dj cz) ?_
  intro pb1 pc1 nb1 cb1 nc1 cc1
  refine Bj [0,1] rfl (.agg 0 rfl rfl Cs rfl (.tmp rfl .nil)) rfl ⟨_,_,_,_,_,_,rfl,rfl,rfl⟩
end
open Go Go.Fw
set_option maxRecDepth 100000
set_option linter.unusedVariables false
set_option linter.unusedSimpArgs false
set_option maxHeartbeats 0
noncomputable abbrev exP (p m:Nat) (md:List Int) (n:Nat) (rows:List (List Int)):List (List Int):=Kt p m md n (Kt p m md n rows++[onW n])
noncomputable abbrev auP (p m:Nat) (md:List Int) (n:Nat) (rows:List (List Int)):List (List Int):=(Dm p m md n (rows++[onW n])).1
theorem ACb {p m N:Nat}{md:List Int}(K:Fok p m md) (h1:1≤N) (h2:N≤64):Cok p m md N (onP p m md N):=Cok.cn K h1 h2 (ACr K N)
theorem ALQ {p m N:Nat}{md:List Int}{rows:List (List Int)}(CC:Cok p m md N rows):Kt p m md N (Kt p m md N rows++Kt p m md N (Kt p m md N (onP p m md N)))=exP p m md N rows:=by
 have O:=Dc CC.K
 have CO:=ACb CC.K CC.n1 CC.n64
 have hM:=ACr CC.K N
 refine O.nu_congr (K9 CC.nu.mat CO.nu.nu.mat) (K9 CC.nu.mat hM) fun x hx=>?_
 rw [Sn,Sn]
 refine and_congr_right fun _=>?_
 rw [show Kt p m md N (Kt p m md N (onP p m md N))=(Dm p m md N (onP p m md N)).1 from O.nu_nu CO.mat,CO.can]
 exact (O.cn hM).2 x hx
theorem AMs {p m N:Nat}{md:List Int}{rows:List (List Int)}(CC:Cok p m md N rows):(Dm p m md N (rows++onP p m md N)).1=auP p m md N rows:=by
 have O:=Dc CC.K
 have CO:=ACb CC.K CC.n1 CC.n64
 have hM:=ACr CC.K N
 have:=O.cn_congr (K9 CC.mat CO.mat) (K9 CC.mat hM) fun x hx=>by
  rw [Sn,Sn]
  exact and_congr_right fun _=>(O.cn hM).2 x hx
 exact congrArg Prod.fst this
noncomputable def exX (P M:Int) (md:List Int) (N:Int) (rows:List (List Int)):CR:=if Pe P M md N rows=0 then ⟨P,M,N,md,exP P.toNat M.toNat md N.toNat rows,0⟩ else zeR (Pe P M md N rows)
noncomputable def auX (P M:Int) (md:List Int) (N:Int) (rows:List (List Int)):CR:=if Pe P M md N rows=0 then ⟨P,M,N,md,auP P.toNat M.toNat md N.toNat rows,0⟩ else zeR (Pe P M md N rows)
noncomputable def sbE (P M:Int) (md:List Int) (N:Int) (rows:List (List Int)) (set:List Int):Int:=if Pe P M md N rows≠0 then Pe P M md N rows else if Uc (rows.length:Nat) set then 0 else 6
noncomputable abbrev sbL (rows:List (List Int)) (set:List Int):List (List Int):=set.map fun i=>Ar rows i.toNat
noncomputable def sbX (P M:Int) (md:List Int) (N:Int) (rows:List (List Int)) (set:List Int):CR:=if sbE P M md N rows set=0 then ⟨P,M,N,md,(Dm P.toNat M.toNat md N.toNat (sbL rows set)).1,0⟩ else zeR (sbE P M md N rows set)
theorem AGP {p m n:Nat}{md:List Int}{rows:List (List Int)}(CC:Cok p m md n rows):exX p m md n rows=⟨p,m,n,md,exP p m md n rows,0⟩:=by
 rw [exX,if_pos CC.ck];simp only [Int.toNat_natCast]
theorem AHv {p m n:Nat}{md:List Int}{rows:List (List Int)}(CC:Cok p m md n rows):auX p m md n rows=⟨p,m,n,md,auP p m md n rows,0⟩:=by
 rw [auX,if_pos CC.ck];simp only [Int.toNat_natCast]
theorem AHV {p m n:Nat}{md set:List Int}{rows:List (List Int)}(CC:Cok p m md n rows) (hst:Uc (rows.length:Nat) set):sbX p m md n rows set=⟨p,m,n,md,(Dm p m md n (sbL rows set)).1,0⟩:=by
 rw [sbX,if_pos (by rw [sbE,if_neg (fun e=>e CC.ck),if_pos hst])];simp only [Int.toNat_natCast]
theorem AKD {p m n:Nat}{md set:List Int}{rows:List (List Int)}(CC:Cok p m md n rows) (hst:Uc (rows.length:Nat) set):Cz (p ^ m) n (sbL rows set):=fun r hr=>by
 obtain ⟨i,hi,rfl⟩:=List.mem_map.1 hr
 have:=hst.1 i hi
 exact CC.mat.row (by omega)
section
variable {P M:Int}{n c nm cm ns cs':Nat}{pm ps pt:Option Addr}{md set:List Int}{rows:List (List Int)}
theorem Ub {N:Int}(hN:Bv .i64 N):Bs Tryz.prog 28 [.agg #[.int .i64 P,.int .i64 M,.slice pm nm cm,.int .i64 N,.slice ps n c]] [] [Ap Ai pm nm cm md,Ap (Aj Ai) ps n c rows] (CdX (exX P M md N rows)):=by
 refine Ab (F:=Um) rfl fun C=>?_
 have hr:=Pt P M md N rows
 have Au:=fun {pm ps:Option Addr}{nm cm n c:Nat}=>D0 (P:=P) (M:=M) (pm:=pm) (ps:=ps) (nm:=nm) (cm:=cm) (n:=n) (c:=c) (md:=md) (rows:=rows) (N:=N) hN rfl
 by_cases h0:Pe P M md N rows=0
 ·obtain ⟨p,m,n',rfl,rfl,rfl,CC⟩:=AAa h0
  rw [h0] at Au
  rw [AGP CC,← ALQ CC]
  have CO:=ACb CC.K CC.n1 CC.n64
  have CD:=CO.nu
  have No:=fun {pm ps:Option Addr}{nm cm n c:Nat}=>T0 (pm:=pm) (ps:=ps) (nm:=nm) (cm:=cm) (n:=n) (c:=c) CC.K CC.n1 CC.n64
  have Fs:=fun {pm ps:Option Addr}{nm cm n c:Nat}=>Iw (pm:=pm) (ps:=ps) (nm:=nm) (cm:=cm) (n:=n) (c:=c) CO
  have ADA:=fun {pm ps p2 pm2:Option Addr}{nm cm n c n2 c2 nm2 cm2:Nat}=>Z0 (pm:=pm) (nm:=nm) (cm:=cm) (ps:=ps) (n:=n) (c:=c) (p2:=p2) (n2:=n2) (c2:=c2) (pm2:=pm2) (nm2:=nm2) (cm2:=cm2) CC CD
  refine wk 41 (ct @Au (ct @No (ct @Fs (ct @ADA cz)))) ?_
  intro b1 b2 h1 pb1 pc1 nb1 cb1 nc1 cc1 b3 h2 pb2 pc2 nb2 cb2 nc2 cc2 h3 pb3 pc3 nb3 cb3 nc3 cc3
  refine Bj [0,1] rfl (.agg 1 rfl rfl Cs rfl (.tmp rfl .nil)) rfl ⟨_,_,_,_,_,_,rfl,rfl,rfl⟩
 ·rw [exX,if_neg h0]
  generalize Pe P M md N rows=e at *
  refine Eh (Ap Ai none 0 0 []) (fun w A _=>Dp _ w A none 0) ?_
  refine Eh (Ap (Aj Ai) none 0 0 []) (fun w A _=>Dp _ w A none 0) ?_
  refine wk 18 (ct @Au cz) ?_
  intro b1 b2 h1
  refine Bj [1,0] rfl (.agg 0 rfl rfl Cs rfl (.tmp rfl .nil)) rfl ⟨_,_,_,_,_,_,rfl,rfl,rfl⟩
theorem W5 {N:Int}(hN:Bv .i64 N):Bs Tryz.prog 30 [.agg #[.int .i64 P,.int .i64 M,.slice pm nm cm,.int .i64 N,.slice ps n c]] [] [Ap Ai pm nm cm md,Ap (Aj Ai) ps n c rows] (CdX (auX P M md N rows)):=by
 refine Ab (F:=W1) rfl fun C=>?_
 have hr:=Pt P M md N rows
 have Au:=fun {pm ps:Option Addr}{nm cm n c:Nat}=>D0 (P:=P) (M:=M) (pm:=pm) (ps:=ps) (nm:=nm) (cm:=cm) (n:=n) (c:=c) (md:=md) (rows:=rows) (N:=N) hN rfl
 by_cases h0:Pe P M md N rows=0
 ·obtain ⟨p,m,n',rfl,rfl,rfl,CC⟩:=AAa h0
  rw [h0] at Au
  rw [AHv CC,← AMs CC]
  have CO:=ACb CC.K CC.n1 CC.n64
  have No:=fun {pm ps:Option Addr}{nm cm n c:Nat}=>T0 (pm:=pm) (ps:=ps) (nm:=nm) (cm:=cm) (n:=n) (c:=c) CC.K CC.n1 CC.n64
  have Ut:=fun {pm ps p2 pm2:Option Addr}{nm cm n c n2 c2 nm2 cm2:Nat}=>Tt (pm:=pm) (nm:=nm) (cm:=cm) (ps:=ps) (n:=n) (c:=c) (p2:=p2) (n2:=n2) (c2:=c2) (pm2:=pm2) (nm2:=nm2) (cm2:=cm2) CC CO
  refine wk 31 (ct @Au (ct @No (ct @Ut cz))) ?_
  intro b1 b2 h1 pb1 pc1 nb1 cb1 nc1 cc1 b3 h2 pb2 pc2 nb2 cb2 nc2 cc2
  refine Bj [0,1] rfl (.agg 1 rfl rfl Cs rfl (.tmp rfl .nil)) rfl ⟨_,_,_,_,_,_,rfl,rfl,rfl⟩
 ·rw [auX,if_neg h0]
  generalize Pe P M md N rows=e at *
  refine Eh (Ap Ai none 0 0 []) (fun w A _=>Dp _ w A none 0) ?_
  refine Eh (Ap (Aj Ai) none 0 0 []) (fun w A _=>Dp _ w A none 0) ?_
  refine wk 18 (ct @Au cz) ?_
  intro b1 b2 h1
  refine Bj [1,0] rfl (.agg 0 rfl rfl Cs rfl (.tmp rfl .nil)) rfl ⟨_,_,_,_,_,_,rfl,rfl,rfl⟩
theorem W6 {N:Int}(hN:Bv .i64 N):Bs Tryz.prog 20 [.agg #[.int .i64 P,.int .i64 M,.slice pm nm cm,.int .i64 N,.slice ps n c],.slice pt ns cs'] [] [Ap Ai pm nm cm md,Ap (Aj Ai) ps n c rows,Ap Ai pt ns cs' set] (CdX (sbX P M md N rows set)):=by
 refine Ab (F:=W0) rfl fun C=>?_
 refine Bb 1 rfl fun hn hb1 _=>?_
 subst hn
 refine Bb 2 rfl fun hn hb _=>?_
 subst hn
 have hb':set.length*8≤140737488355328:=hb
 have hr:=Pt P M md N rows
 have Au:=fun {pm ps:Option Addr}{nm cm n c:Nat}=>D0 (P:=P) (M:=M) (pm:=pm) (ps:=ps) (nm:=nm) (cm:=cm) (n:=n) (c:=c) (md:=md) (rows:=rows) (N:=N) hN rfl
 by_cases h0:Pe P M md N rows=0
 ·obtain ⟨p,m,n',rfl,rfl,rfl,CC⟩:=AAa h0
  rw [h0] at Au
  by_cases hst:Uc (rows.length:Nat) set
  ·rw [AHV CC hst]
   have hSM:=AKD CC hst
   have hl:=CC.len
   have hSl:set.length≤64:=by have:=Yy hst;omega
   have hLl:(sbL rows set).length=set.length:=List.length_map _
   have C4:=fun {ps:Option Addr}{nn c:Nat}=>Gk (ps:=ps) (nn:=nn) (c:=c) (n:=(rows.length:Nat)) (l:=set) (decide_eq_true hst)
   have Dj:=fun {pm ps:Option Addr}{nm cm n c:Nat}=>Ik (pm:=pm) (ps:=ps) (nm:=nm) (cm:=cm) (n:=n) (c:=c) (N:=n') (rows:=sbL rows set) CC.K CC.n1 CC.n64 (by omega) hSM
   generalize hG:Dm p m md n' (sbL rows set)=G at *
   clear hG
   refine Am [_,_] rfl ?_
   refine Aa rfl (Cm rfl fun b1=>?_)
   refine Aa rfl (Bk Ni fun b2=>?_)
   refine Ae it 1 rfl (by simp) ?_
   refine Am [_,_,_] rfl ?_
   refine Aa rfl (A5 1 rfl rfl Cs rfl ?_)
   refine Aa rfl (Aw [0,1] rfl (Au) rfl ?_)
   rintro _ _ _ ⟨rfl,rfl,rfl⟩
   simp only [List.cons_append,List.nil_append]
   refine Ae it 1 rfl (by simp) ?_
   refine Am [_,_,_] rfl ?_
   refine Ae it 2 rfl (by simp) ?_
   refine Am [_,_] rfl ?_
   refine Kw rfl rfl (fun h1=>by exfalso;omega) (fun h1=>?_)
   refine Am [_,_,_] rfl ?_
   refine Ae it 1 rfl (by simp) ?_
   refine Aa rfl (Aq rfl Rt ?_)
   refine Aa rfl (Bm 1 rfl rfl H3 rfl ?_)
   refine Aa rfl (G6 D5 rfl ?_)
   refine Aa rfl (Aw [2] rfl (C4) rfl ?_)
   rintro _ _ _ ⟨rfl,rfl,rfl⟩
   simp only [List.cons_append,List.nil_append]
   simp only [decide_true]
   refine Ae it 1 rfl (by simp) ?_
   refine Am [_,_] rfl ?_
   refine My rfl rfl ?_
   refine Am [_,_] rfl ?_
   refine Aa rfl (Aq rfl Jj ?_)
   refine Aa rfl (Bm 1 rfl rfl Ci rfl ?_)
   refine Aa rfl (Dq (cs:=[Value.int IntKind.i64 ↑n',Value.slice none 0 0]) U4 Ha rfl rfl ?_)
   refine Aa rfl (Bk Ha fun b3=>?_)
   refine Aa rfl (A7 0 rfl rfl rfl Gd rfl rfl (by simp [Value.oneCell']) ?_)
   refine Am [_,_,_] rfl ?_
   refine Ae it 1 rfl (by simp) ?_
   refine Aa rfl (G6 Cb rfl ?_)
   refine Ae it 1 rfl (by simp) ?_
   refine Am [_,_,_] rfl ?_
   refine Fz (Aj Ai) 22 ?_
   simp only [Ce,Df,setB,List.take_succ_cons,List.cons_append,List.nil_append,List.take_zero,List.drop_succ_cons,List.drop_zero,List.length_singleton,Nat.zero_add]
   refine Ah (X:=Nat×Row) [2,4,5,7,26,27] [0,1,2,3] (fun z=>[(28,.int .i64 (z.1:Int))]) (fun z=>(z.2.bo,22,z.2.cs)::(some b3,62,[.int .i64 (n':Nat),.slice (ad z.2.bo) z.1 z.2.cap])::_) (fun z=>[A6 (Aj Ai) z.2 z.1 (sbL rows (set.take z.1))]) (fun z=>z.1≤set.length) (fun z=>set.length-z.1) (0,⟨none,0,[]⟩) [0] rfl rfl rfl (Nat.zero_le _) (by repeat (first|exact Fr.sub_nil _|refine Fr.sub_cons rfl ?_)) rfl rfl ?_
   rintro ⟨i,r⟩ hi ih
   simp only [List.cons_append,List.nil_append] at hi ih ⊢
   by_cases hil:i<set.length
   ·obtain ⟨x,at_x⟩:∃ x,set[i]?=some x:=⟨_,List.getElem?_eq_getElem hil⟩
    obtain ⟨x0,x1⟩:=hst.1 x (List.mem_of_getElem? at_x)
    obtain ⟨u,at_u⟩:∃ u,rows[x.toNat]?=some u:=⟨_,List.getElem?_eq_getElem (by omega)⟩
    have ih1:=fun r=>ih (i+1,r) (by dsimp only;omega) (by dsimp only;omega)
    dsimp only at ih1
    have eu:Ar rows x.toNat=rows.getD x.toNat default:=rfl
    rw [sbL,List.take_add_one (l:=set),at_x,Option.toList_some,List.map_append,List.map_cons,List.map_nil,eu] at ih1
    clear ih
    refine wk 6 cz ?_
    intro h2 b4 o1 hz1
    refine Aa rfl (Av 0 rfl rfl Ci fun ⟨r1,r2⟩=>?_)
    refine wk 2 cz ?_
    (apply E7 it mx 8;(· rfl);(· rfl))
    (apply Ac;(· rfl);(· exact Cf fun _=>Aq rfl Hv An))
    (apply Ac;(· rfl);(· exact Ca 1 rfl rfl H3 rfl))
    (apply Ac;(· rfl);(· exact Cf fun _=>Aq rfl Rt An))
    (apply Ac;(· rfl);(· exact Ca 3 rfl rfl H3 rfl))
    (apply A3 1;(· rfl);(· simp))
    (apply ACH;(· rfl);(· exact Cf fun _=>Io 4 ((x:Int).toNat) rfl rfl rfl D5 (by omega) (by omega) fun z1 hz2 b5 o2=>(ACz default hz2 0 rfl));intro b5 o2)
    (apply Ii;(· rfl);(· exact Cf fun _=>Y1 0 rfl rfl Fb fun pa1 ca1=>(Mg 0 rfl));intro pa1 ca1)
    (apply Ii;(· rfl);(· exact Cf fun _=>Ix D5 I5 rfl rfl rfl rfl (by decide) (by decide) rfl fun b6=>ABP (E:=(Aj (Ai))) [[Value.slice pa1 (rows.getD x.toNat default).length ca1]] [rows.getD x.toNat default] (fun w A hG=>(Az (A1 (hG _ (Af (n:=0) rfl))) Bf)) rfl rfl rfl (by first|decide|exact Nat.le_of_ble_eq_true rfl));intro pa2 ca2)
    refine Eu rfl ?_
    simp only [List.map_cons,List.map_nil,List.cons_append,List.nil_append]
    refine Aa rfl (Uk 0 4 0 rfl rfl rfl rfl rfl D5 I5 rfl (by omega) _ Nd (by omega) fun r3=>?_)
    refine wk 5 cz ?_
    exact tw (ih1 r3)
   ·obtain rfl:i=set.length:=by omega
    clear ih
    rw [List.take_length]
    refine D4 0 0 rfl rfl (by show set.length*24≤140737488355328;omega) ?_
    simp only [List.eraseIdx_cons_zero,List.eraseIdx_cons_succ]
    refine wk 13 (ct @Dj cz) ?_
    intro h2 pb1 pc1 nb1 cb1 nc1 cc1
    refine Bj [0,1] rfl (.agg 1 rfl rfl Cs rfl (.tmp rfl .nil)) rfl ⟨_,_,_,_,_,_,rfl,rfl,rfl⟩
  ·rw [sbX,if_neg (by rw [sbE,if_neg (fun e=>e h0),if_neg hst];omega),sbE,if_neg (fun e=>e h0),if_neg hst]
   have C4:=fun {ps:Option Addr}{nn c:Nat}=>Gk (ps:=ps) (nn:=nn) (c:=c) (n:=(rows.length:Nat)) (l:=set) (decide_eq_false hst)
   refine Eh (Ap Ai none 0 0 []) (fun w A _=>Dp _ w A none 0) ?_
   refine Eh (Ap (Aj Ai) none 0 0 []) (fun w A _=>Dp _ w A none 0) ?_
   refine wk 26 (ct @Au (ct @C4 cz)) ?_
   intro b1 b2 h1
   refine Bj [1,0] rfl (.agg 0 rfl rfl Cs rfl (.tmp rfl .nil)) rfl ⟨_,_,_,_,_,_,rfl,rfl,rfl⟩
 ·rw [sbX,if_neg (by rw [sbE,if_pos h0];exact h0),sbE,if_pos h0]
  generalize Pe P M md N rows=e at *
  refine Eh (Ap Ai none 0 0 []) (fun w A _=>Dp _ w A none 0) ?_
  refine Eh (Ap (Aj Ai) none 0 0 []) (fun w A _=>Dp _ w A none 0) ?_
  refine wk 18 (ct @Au cz) ?_
  intro b1 b2 h1
  refine Bj [1,0] rfl (.agg 0 rfl rfl Cs rfl (.tmp rfl .nil)) rfl ⟨_,_,_,_,_,_,rfl,rfl,rfl⟩
end
open Go Go.Fw
set_option maxRecDepth 100000
set_option linter.unusedVariables false
set_option linter.unusedSimpArgs false
set_option maxHeartbeats 0
def Uw (A:Int→Int→Int) (l:List Int):Int:=l.foldl A 0
section
variable {p m q b ng cg ne ce nl cl:Nat}{pg pe pl:Option Addr}
theorem Wk (hq:q≤256):Bs Tryz.prog 165 [.pointer (some ⟨b,0,none⟩)] [] [I2 b p m q pg ng cg pe ne ce pl nl cl] (Rv (.int .i64 (q:Int)) []):=by
 refine Ab (F:=Wj) rfl fun C=>?_
 refine wk 8 cz ?_
 exact ge
theorem Uo {q:Nat}{A M:Int→Int→Int}(F:FI q A M):∀ (l:List Int) (a:Int),0≤a→a<q→(∀ x∈l,0≤x∧x<(q:Int))→0≤l.foldl A a∧l.foldl A a<q
 | [],a,a0,a1,_=>⟨a0,a1⟩
 | x::l,a,a0,a1,h=>by
  obtain ⟨x0,x1⟩:=h x (.head _)
  obtain ⟨y0,y1⟩:=F.al a x a0 a1 x0 x1
  exact Uo F l _ y0 y1 fun z hz=>h z (.tail _ hz)
theorem AC7 {A:Int→Int→Int}{l:List Int}{i:Nat}{x:Int}(h:l[i]?=some x):Uw A (l.take (i+1))=A (Uw A (l.take i)) x:=by
 rw [Uw,Uw,List.take_add_one,h,List.foldl_append];rfl
theorem Qe {pu:Option Addr}{nu cu:Nat}{u md:List Int}(K:Fok p m md) (hu:∀ x∈u,0≤x∧x<((p ^ m:Nat):Int)) :
  Bs Tryz.prog 75 [.pointer (some ⟨b,0,none⟩),.slice pu nu cu] [] [I2 b p m (p ^ m) pg ng cg pe ne ce pl nl cl,Ap Ai pu nu cu u] (Rv (.int .i64 (Uw (Ad (fA p m)) u)) []):=by
 refine Ab (F:=X4) rfl fun C=>?_
 refine Bb 1 rfl fun hn hb _=>?_
 subst hn
 have hb':u.length*8≤140737488355328:=hb
 have hq:=K.q
 have Bq:=fun {b ng cg ne ce nl cl:Nat}{pg pe pl:Option Addr}{x y:Int}=>De (p:=p) (m:=m) (b:=b) (ng:=ng) (cg:=cg) (ne:=ne) (ce:=ce) (nl:=nl) (cl:=cl) (pg:=pg) (pe:=pe) (pl:=pl) (x:=x) (y:=y) K.p2 K.m1 hq
 have hF:=K.fi
 have hr:=fun i=>Uo hF (u.take i) 0 (Int.le_refl 0) hF.z fun x hx=>hu x (List.mem_of_mem_take hx)
 generalize Ad (fM p (Ax m md))=M at *
 generalize Ad (fA p m)=A at *
 generalize p ^ m=q at *
 refine wk 9 cz ?_
 refine Ah (X:=Nat) [0,4,8,9] [0,1] (fun i=>[(10,.int .i64 (i:Int)),(5,.int .i64 (Uw A (u.take i)))]) (fun _=>_) (fun _=>[]) (fun i=>i≤u.length) (fun i=>u.length-i) 0 [] rfl rfl rfl (Nat.zero_le _) (by repeat (first|exact Fr.sub_nil _|refine Fr.sub_cons rfl ?_)) rfl rfl ?_
 rintro i hi ih
 simp only [List.cons_append,List.nil_append] at hi ih ⊢
 by_cases h9:i<u.length
 ·obtain ⟨x,at_x⟩:∃ x,u[i]?=some x:=⟨_,List.getElem?_eq_getElem h9⟩
  obtain ⟨hx0,hx1⟩:=hu x (List.mem_of_getElem? at_x)
  have ih':=ih (i+1) (by omega) (by omega)
  rw [AC7 at_x] at ih'
  obtain ⟨s0,s1⟩:=hr i
  rw [← Uw] at s0 s1
  generalize Uw A (u.take i)=s at *
  refine wk 6 cz ?_
  intro h1 b1 o1 hz1
  refine Aa rfl (Av 0 rfl rfl Ci fun ⟨r1,r2⟩=>?_)
  refine wk 8 (ct @Bq cz) ?_
  exact tw (ih')
 ·obtain rfl:i=u.length:=by omega
  rw [List.take_length]
  clear ih
  refine wk 7 cz ?_
  intro h1
  exact ge
theorem Xz {pu pv:Option Addr}{nu cu nv cv:Nat}{u v md:List Int}(K:Fok p m md) (hu:∀ x∈u,0≤x∧x<((p ^ m:Nat):Int)) (hv:∀ x∈v,0≤x∧x<((p ^ m:Nat):Int)) :
  Bs Tryz.prog 166 [.pointer (some ⟨b,0,none⟩),.slice pu nu cu,.slice pv nv cv] [] [I2 b p m (p ^ m) pg ng cg pe (p ^ m-1) ce pl (p ^ m) cl,Ap Ai pe (p ^ m-1) ce (Jg p m md),Ap Ai pl (p ^ m) cl (Jf p m md),Ap Ai pu nu cu u,Ap Ai pv nv cv v] (Rv (.int .i64 (Uw (Ad (fA p m)) (List.zipWith (Ad (fM p (Ax m md))) u v))) []):=by
 refine Ab (F:=Yd) rfl fun C=>?_
 refine Bb 3 rfl fun hn hb _=>?_
 subst hn
 refine Bb 4 rfl fun hn hb2 _=>?_
 subst hn
 have hb':u.length*8≤140737488355328:=hb
 have hb2':v.length*8≤140737488355328:=hb2
 have hq:=K.q
 have Bq:=fun {b ng cg ne ce nl cl:Nat}{pg pe pl:Option Addr}{x y:Int}=>De (p:=p) (m:=m) (b:=b) (ng:=ng) (cg:=cg) (ne:=ne) (ce:=ce) (nl:=nl) (cl:=cl) (pg:=pg) (pe:=pe) (pl:=pl) (x:=x) (y:=y) K.p2 K.m1 hq
 have A8:=fun {b ng cg ce cl:Nat}{pg pe pl:Option Addr}{x y:Int}=>C1 (b:=b) (ng:=ng) (cg:=cg) (ce:=ce) (cl:=cl) (pg:=pg) (pe:=pe) (pl:=pl) (x:=x) (y:=y) K
 have hF:=K.fi
 have hz:∀ x∈List.zipWith (Ad (fM p (Ax m md))) u v,0≤x∧x<((p ^ m:Nat):Int):=fun x hx=>by
  obtain ⟨i,hi,rfl⟩:=List.getElem_of_mem hx
  rw [List.getElem_zipWith]
  rw [List.length_zipWith] at hi
  obtain ⟨a0,a1⟩:=hu u[i] (List.getElem_mem _)
  obtain ⟨b0,b1⟩:=hv v[i] (List.getElem_mem _)
  exact hF.ml _ _ a0 a1 b0 b1
 have hr:=fun i=>Uo hF ((List.zipWith (Ad (fM p (Ax m md))) u v).take i) 0 (Int.le_refl 0) hF.z fun x hx=>hz x (List.mem_of_mem_take hx)
 have hml:=hF.ml
 generalize Ad (fM p (Ax m md))=M at *
 generalize Ad (fA p m)=A at *
 generalize Jg p m md=ex at *
 generalize Jf p m md=lg at *
 generalize p ^ m=q at *
 refine wk 9 cz ?_
 refine Aa rfl (AL7 rfl rfl ?_)
 refine wk 2 cz ?_
 refine Ah (X:=Nat) [0,1,2,6,13] [0,1,2,3,4] (fun i=>[(14,.int .i64 (i:Int)),(7,.int .i64 (Uw A ((List.zipWith M u v).take i)))]) (fun _=>_) (fun _=>[]) (fun i=>i≤min u.length v.length) (fun i=>min u.length v.length-i) 0 [] rfl rfl rfl (Nat.zero_le _) (by repeat (first|exact Fr.sub_nil _|refine Fr.sub_cons rfl ?_)) rfl rfl ?_
 rintro i hi ih
 simp only [List.cons_append,List.nil_append] at hi ih ⊢
 by_cases h9:i<min u.length v.length
 ·have hiu:i<u.length:=by omega
  have hiv:i<v.length:=by omega
  obtain ⟨x,at_x⟩:∃ x,u[i]?=some x:=⟨_,List.getElem?_eq_getElem hiu⟩
  obtain ⟨y,at_y⟩:∃ y,v[i]?=some y:=⟨_,List.getElem?_eq_getElem hiv⟩
  have ex':u.getD i default=x:=by rw [List.getD_eq_getElem?_getD,at_x];rfl
  have ey':v.getD i default=y:=by rw [List.getD_eq_getElem?_getD,at_y];rfl
  obtain ⟨hx0,hx1⟩:=hu x (List.mem_of_getElem? at_x)
  obtain ⟨hy0,hy1⟩:=hv y (List.mem_of_getElem? at_y)
  rw [← ex'] at hx0 hx1
  rw [← ey'] at hy0 hy1
  obtain ⟨hm0,hm1⟩:=hml _ _ hx0 hx1 hy0 hy1
  have ih':=ih (i+1) (by omega) (by omega)
  rw [AC7 (l:=List.zipWith M u v) (i:=i) (x:=M (u.getD i default) (v.getD i default)) (by rw [List.getElem?_zipWith,at_x,at_y,ex',ey']),] at ih'
  obtain ⟨s0,s1⟩:=hr i
  rw [← Uw] at s0 s1
  generalize Uw A ((List.zipWith M u v).take i)=s at *
  refine wk 12 (ct @A8 (ct @Bq cz)) ?_
  intro h1 b1 o1 b2 o2
  exact tw (ih')
 ·have hall:(List.zipWith M u v).take i=List.zipWith M u v:=List.take_of_length_le (by rw [List.length_zipWith];omega)
  rw [hall]
  clear ih
  refine wk 7 cz ?_
  intro h1
  exact ge
theorem U7 {md:List Int}{cg:Nat}(hm8:md.length≤8) (hp:p≤256) (hm:m≤8) :
  Bs Tryz.prog 196 [.pointer (some ⟨b,0,none⟩)] [] [I2 b p m q pg md.length cg pe ne ce pl nl cl,Ap Ai pg md.length cg md] (fun v Φ β=>∃ (pb:Option Addr) (nb cb:Nat),v = .agg #[.int .i64 p,.int .i64 m,.slice pb nb cb]∧Φ=[Ap Ai pb nb cb md]∧β=[]):=by
 refine Ab (F:=Vp) rfl fun C=>?_
 refine wk 3 cz ?_
 intro b1
 (apply Uy it mx 0 18;(· rfl);(· rfl);(· rfl))
 (apply A3 2;(· rfl);(· simp))
 (apply Ac;(· rfl);(· exact Cf fun _=>Aq rfl S0 An))
 (apply Ac;(· rfl);(· exact Cf fun _=>Aq rfl P3 An))
 (apply Ac;(· rfl);(· exact Zx 0 rfl rfl Ci rfl))
 (apply A3 2;(· rfl);(· simp))
 (apply Ac;(· rfl);(· exact Cf fun _=>Aq rfl S0 An))
 (apply Ac;(· rfl);(· exact Cf fun _=>Aq rfl P1 An))
 (apply Ac;(· rfl);(· exact Zx 0 rfl rfl Ci rfl))
 (apply ADv (Dv IntKind.i64 8);(· rfl);(· exact Cb);intro pa1)
 (apply A3 2;(· rfl);(· simp))
 (apply Ac;(· rfl);(· exact Cf fun _=>Aq rfl S0 An))
 (apply Ac;(· rfl);(· exact Cf fun _=>Aq rfl ADW An))
 (apply Ac;(· rfl);(· exact Zx 0 rfl rfl Fb rfl))
 (apply ABo 0 2;(· rfl);(· rfl);(· rfl);(· rfl);(· rfl);(· exact Cb);(· exact Er);(· rfl);(· (first|omega|(simp only [List.length_cons,List.length_nil];omega)));(· exact Hf);(· (first|omega|(simp only [List.length_cons,List.length_nil];omega)));intro pa2 cap1 b2 cs1)
 (apply Gz [7,12,19] (fun vs=>Value.agg ((V5 ([(0,1),(1,1),(2,1)]) ([Value.int IntKind.i64 0,Value.int IntKind.i64 0,Value.slice none 0 0]) [(0,Ce (vs.getD 0 undef)),(1,Ce (vs.getD 1 undef)),(2,Ce (vs.getD 2 undef))]).getD []).toArray) (v:=Value.agg #[Value.int IntKind.i64 ↑p,Value.int IntKind.i64 ↑m,Value.slice pa2 (0+md.length) cap1]);(· rfl);(· rfl);(· rfl);(· rfl);(· exact Cf fun _=>Dq (cs:=[Value.int IntKind.i64 ↑p,Value.int IntKind.i64 ↑m,Value.slice pa2 (0+md.length) cap1]) AI0 AGj rfl rfl An))
 refine AAe rfl ?_
 (rotate_left;rfl;rotate_right)
 simp only [List.append_nil,List.append_assoc,List.map_cons,List.map_nil,List.cons_append,List.nil_append,List.drop_zero]
 (refine AEr 0 0 (by first|rfl|exact (List.append_nil _).symm) rfl (by show (0+md.length)*8≤140737488355328;omega) ?_;simp only [List.take_succ_cons,List.take_zero,List.cons_append,List.nil_append,List.append_nil])
 refine wk 2 cz ?_ --ok
 refine Bj [0] rfl (.agg 0 rfl rfl Hx rfl .nil) rfl ⟨_,_,_,rfl,rfl,rfl⟩
theorem T5 {md:List Int}{x:Int}(K:Fok p m md) (x0:0≤x) (x1:x<((p ^ m:Nat):Int)) :
  Bs Tryz.prog 167 [.pointer (some ⟨b,0,none⟩),.int .i64 x] [] [I2 b p m (p ^ m) pg ng cg pe ne ce pl nl cl] (SvI m (Bc (Dd p m x.toNat))):=by
 refine Ab (F:=Ui) rfl fun C=>?_
 have hq:=K.q
 obtain ⟨a,rfl⟩:=Int.eq_ofNat_of_zero_le x0
 rw [Int.toNat_natCast]
 have hx2:a<p ^ m:=Int.ofNat_lt.1 x1
 have hp2:=K.p2
 have hp256:=K.p256
 have hm8:=K.m8
 have Xf:=Jn (p:=p) (n:=m) (x:=a) (by omega) (by omega) (by omega) (by omega)
 have Jb:=fun {b ng cg ne ce nl cl:Nat}{pg pe pl:Option Addr}{x:Int}=>B5 (p:=p) (m:=m) (b:=b) (ng:=ng) (cg:=cg) (ne:=ne) (ce:=ce) (nl:=nl) (cl:=cl) (pg:=pg) (pe:=pe) (pl:=pl) (x:=x) hq
 refine wk 6 (ct @Jb (ct @Xf cz)) ?_
 intro pa1 ca1 --ok
 refine Of [0] rfl rfl rfl ⟨_,_,rfl,rfl,rfl⟩
theorem AJ8 {q:Nat}{A M:Nat→Nat→Nat}(R:Rng q A M) {g:Nat}(hg:g<q) (h:Md q M g) (hq:2≤q) (i:Nat):∀ n,B0 M (B0 M g i) n=B0 M g ((i*n) % (q-1))
 | 0=>by rw [Nat.mul_zero,Nat.zero_mod];rfl
 | n+1=>by
  show M (B0 M (B0 M g i) n) (B0 M g i)=_
  rw [AJ8 R hg h hq i n,← R.exp_mul hg h,Nat.mod_add_mod,Nat.mul_succ]
theorem ANh {q:Nat}{A M:Nat→Nat→Nat}(R:Rng q A M) {n:Nat}(hn:1≤n) (hq:0<q):B0 M 0 n=0:=by
 obtain ⟨k,rfl⟩:∃ k,n=k+1:=⟨n-1,by omega⟩
 exact R.m0 (R.pw_lt hq k)
theorem X5 {a k:Nat}{md:List Int}(K:Fok p m md) (x1:a<p ^ m) (k1:1≤k) (k2:k≤256) :
  Bs Tryz.prog 201 [.pointer (some ⟨b,0,none⟩),.int .i64 (a:Int),.int .i64 (k:Int)] [] [I2 b p m (p ^ m) pg ng cg pe (p ^ m-1) ce pl (p ^ m) cl,Ap Ai pe (p ^ m-1) ce (Jg p m md),Ap Ai pl (p ^ m) cl (Jf p m md)] (Rv (.tuple #[.int .i64 ((B0 (fM p (Ax m md)) a k:Nat):Int),.int .i64 0]) []):=by
 refine Ab (F:=X7) rfl fun C=>?_
 have R:=K.rng'
 have hq:=K.q
 have q2:=K.fi.q2
 obtain ⟨g2,g3,hgen,-⟩:=Up ((M7 K.shp K.pr).2 K)
 have Jb:=fun {b ng cg ne ce nl cl:Nat}{pg pe pl:Option Addr}{x:Int}=>B5 (p:=p) (m:=m) (b:=b) (ng:=ng) (cg:=cg) (ne:=ne) (ce:=ce) (nl:=nl) (cl:=cl) (pg:=pg) (pe:=pe) (pl:=pl) (x:=x) hq
 unfold Jg Jf
 generalize gnX (p ^ m) (fM p (Ax m md))=g at *
 generalize fM p (Ax m md)=M at *
 generalize p ^ m=q at *
 rcases Nat.eq_zero_or_pos a with h0|h0
 ·subst h0
  rw [ANh R k1 (by omega)]
  refine wk 21 (ct @Jb cz) ?_
  intro h1 h2 h3
  exact ge
 ·obtain ⟨i,hi,rfl⟩:=R.gen_all g3 hgen x1 (by omega)
  rw [AJ8 R g3 hgen q2]
  have ei:(Rx q M g)[B0 M g i]?=some (i:Int):=Ie (by rw [List.getElem?_map,List.getElem?_range x1];show some (lgN q M g _)=_;rw [ABU hgen hi])
  have ei':(Rx q M g).getD (B0 M g i) default=(i:Int):=by rw [List.getD_eq_getElem?_getD,ei];rfl
  have hk:(i*k) % (q-1)<q-1:=Nat.mod_lt _ (by omega)
  have ek:(Vc q M g)[(i*k) % (q-1)]?=some ((B0 M g ((i*k) % (q-1)):Nat):Int):=Ie (by rw [List.getElem?_map,List.getElem?_range hk];rfl)
  have hi0:(0:Int)≤(i:Int)∧(i:Int)<(q:Int)-1:=by omega
  have hr0:0≤(k:Int) % ((q:Int)-1):=Int.emod_nonneg _ (by omega)
  have hr1:(k:Int) % ((q:Int)-1)<(q:Int)-1:=Int.emod_lt_of_pos _ (by omega)
  have hs0:0≤((k:Int) % ((q:Int)-1)+((q:Int)-1)) % ((q:Int)-1):=Int.emod_nonneg _ (by omega)
  have hs1:((k:Int) % ((q:Int)-1)+((q:Int)-1)) % ((q:Int)-1)<(q:Int)-1:=Int.emod_lt_of_pos _ (by omega)
  have hse:((k:Int) % ((q:Int)-1)+((q:Int)-1)) % ((q:Int)-1)=(k:Int) % ((q:Int)-1):=by rw [Int.add_emod_right,Int.emod_emod]
  have hp0:0≤(Rx q M g).getD (B0 M g i) default*(((k:Int) % ((q:Int)-1)+((q:Int)-1)) % ((q:Int)-1)):=by rw [ei'];exact Int.mul_nonneg hi0.1 hs0
  have hp1:(Rx q M g).getD (B0 M g i) default*(((k:Int) % ((q:Int)-1)+((q:Int)-1)) % ((q:Int)-1))≤256*256:=by rw [ei'];exact Int.mul_le_mul (by omega) (by omega) hs0 (by omega)
  have hz0:0≤(Rx q M g).getD (B0 M g i) default*(((k:Int) % ((q:Int)-1)+((q:Int)-1)) % ((q:Int)-1)) % ((q:Int)-1):=Int.emod_nonneg _ (by omega)
  have hz1:(Rx q M g).getD (B0 M g i) default*(((k:Int) % ((q:Int)-1)+((q:Int)-1)) % ((q:Int)-1)) % ((q:Int)-1)<(q:Int)-1:=Int.emod_lt_of_pos _ (by omega)
  have hze:(Rx q M g).getD (B0 M g i) default*(((k:Int) % ((q:Int)-1)+((q:Int)-1)) % ((q:Int)-1)) % ((q:Int)-1)=((i*k % (q-1):Nat):Int):=by
   rw [hse,ei',Int.natCast_emod,Int.natCast_sub (by omega),Int.natCast_mul,Int.mul_emod,Int.emod_emod,← Int.mul_emod];rfl
  have hN:(((Rx q M g).getD (B0 M g i) default:Int).toNat*((k % (q-1)+(q-1)) % (q-1))) % (q-1)=i*k % (q-1):=by
   rw [ei',Int.toNat_natCast,Nat.add_mod_right,Nat.mod_mod,Nat.mul_mod_mod]
  have hN1:(((Rx q M g).getD (B0 M g i) default:Int).toNat*((k % (q-1)+(q-1)) % (q-1))) % (q-1)<q-1:=by rw [hN];exact hk
  have hNe:(Rx q M g).getD (B0 M g i) default*(((k:Int) % ((q:Int)-1)+((q:Int)-1)) % ((q:Int)-1)) % ((q:Int)-1)=(((((Rx q M g).getD (B0 M g i) default:Int).toNat*((k % (q-1)+(q-1)) % (q-1))) % (q-1):Nat):Int):=by rw [hN,hze]
  have ef:(Vc q M g).getD ((((Rx q M g).getD (B0 M g i) default:Int).toNat*((k % (q-1)+(q-1)) % (q-1))) % (q-1)) default=((B0 M g ((i*k) % (q-1)):Nat):Int):=by rw [hN,List.getD_eq_getElem?_getD,ek];rfl
  refine wk 33 (ct @Jb cz) ?_
  intro h1 h2 h3 b1 o1 b2 o2
  simp only [hze,Int.toNat_natCast]
  rw [hN] at ef
  rw [ef]
  exact ge
end
open Go Go.Fw
set_option maxRecDepth 100000
set_option linter.unusedVariables false
set_option linter.unusedSimpArgs false
set_option maxHeartbeats 0
noncomputable abbrev etW (p m:Nat) (r:List Int):List Int:=r++[C3 p m (Uw (Ad (fA p m)) r)]
noncomputable abbrev etL (p m:Nat) (rows:List (List Int)):List (List Int):=rows.map (etW p m)
noncomputable def etE (P M:Int) (md:List Int) (N:Int) (rows:List (List Int)):Int:=if Pe P M md N rows≠0 then Pe P M md N rows else if N=64 then 4 else 0
noncomputable def etX (P M:Int) (md:List Int) (N:Int) (rows:List (List Int)):CR:=if etE P M md N rows=0 then ⟨P,M,N+1,md,(Dm P.toNat M.toNat md (N.toNat+1) (etL P.toNat M.toNat rows)).1,0⟩ else zeR (etE P M md N rows)
theorem AKN {p m n:Nat}{md:List Int}{rows:List (List Int)}(CC:Cok p m md n rows):Cz (p ^ m) (n+1) (etL p m rows):=fun r hr=>by
 obtain ⟨s,hs,rfl⟩:=List.mem_map.1 hr
 have hw:=CC.mat s hs
 obtain ⟨s0,s1⟩:=Uo CC.K.fi s 0 (Int.le_refl 0) CC.K.fi.z hw.2
 have O:=Dc CC.K
 obtain ⟨⟨n0,n1⟩,_⟩:=O.ng _ s0 s1
 refine ⟨by rw [List.length_append,hw.1];rfl,fun x hx=>?_⟩
 rcases List.mem_append.1 hx with h|h
 ·exact hw.2 x h
 ·rw [List.mem_singleton.1 h];exact ⟨n0,n1⟩
theorem AIi {p m n:Nat}{md:List Int}{rows:List (List Int)}(CC:Cok p m md n rows) (hn:n≠64):etX p m md n rows=⟨p,m,(n+1:Nat),md,(Dm p m md (n+1) (etL p m rows)).1,0⟩:=by
 rw [etX,if_pos (by rw [etE,if_neg (fun e=>e CC.ck),if_neg (by omega)])];simp only [Int.toNat_natCast];rfl
section
variable {P M:Int}{n c nm cm:Nat}{pm ps:Option Addr}{md:List Int}{rows:List (List Int)}
theorem Yo {N:Int}(hN:Bv .i64 N):Bs Tryz.prog 26 [.agg #[.int .i64 P,.int .i64 M,.slice pm nm cm,.int .i64 N,.slice ps n c]] [] [Ap Ai pm nm cm md,Ap (Aj Ai) ps n c rows] (CdX (etX P M md N rows)):=by
 refine Ab (F:=Yf) rfl fun C=>?_
 refine Bb 1 rfl fun hn hb1 _=>?_
 subst hn
 have hr:=Pt P M md N rows
 have Au:=fun {pm ps:Option Addr}{nm cm n c:Nat}=>D0 (P:=P) (M:=M) (pm:=pm) (ps:=ps) (nm:=nm) (cm:=cm) (n:=n) (c:=c) (md:=md) (rows:=rows) (N:=N) hN rfl
 by_cases h0:Pe P M md N rows=0
 ·obtain ⟨p,m,n',rfl,rfl,rfl,CC⟩:=AAa h0
  rw [h0] at Au
  by_cases h64:n'=64
  ·rw [etX,if_neg (by rw [etE,if_neg (fun e=>e h0),if_pos (by omega)];omega),etE,if_neg (fun e=>e h0),if_pos (by omega)]
   refine Eh (Ap Ai none 0 0 []) (fun w A _=>Dp _ w A none 0) ?_
   refine Eh (Ap (Aj Ai) none 0 0 []) (fun w A _=>Dp _ w A none 0) ?_
   refine wk 23 (ct @Au cz) ?_
   intro b1 b2 h1 h2
   refine Bj [1,0] rfl (.agg 0 rfl rfl Cs rfl (.tmp rfl .nil)) rfl ⟨_,_,_,_,_,_,rfl,rfl,rfl⟩
  ·rw [AIi CC h64]
   have K:=CC.K
   have hq:=K.q
   have hSM:=AKN CC
   have hl:=CC.len
   have hn64:=CC.n64
   have hLl:(etL p m rows).length=rows.length:=List.length_map _
   have D3:=fun {pm:Option Addr}{nm cm:Nat}=>F5 (pm:=pm) (nm:=nm) (cm:=cm) K
   have Dj:=fun {pm ps:Option Addr}{nm cm n c:Nat}=>Ik (pm:=pm) (ps:=ps) (nm:=nm) (cm:=cm) (n:=n) (c:=c) (N:=n'+1) (rows:=etL p m rows) K (by omega) (by omega) (by omega) hSM
   generalize hG:Dm p m md (n'+1) (etL p m rows)=G at *
   clear hG
   refine Am [_,_] rfl ?_
   refine Aa rfl (Cm rfl fun b1=>?_)
   refine Aa rfl (Bk Ni fun b2=>?_)
   refine Ae it 1 rfl (by simp) ?_
   refine Am [_,_,_] rfl ?_
   refine Aa rfl (A5 1 rfl rfl Cs rfl ?_)
   refine Aa rfl (Aw [0,1] rfl (Au) rfl ?_)
   rintro _ _ _ ⟨rfl,rfl,rfl⟩
   simp only [List.cons_append,List.nil_append]
   refine Ae it 1 rfl (by simp) ?_
   refine Am [_,_,_] rfl ?_
   refine Ae it 2 rfl (by simp) ?_
   refine Am [_,_] rfl ?_
   refine Kw rfl rfl (fun h1=>by exfalso;omega) (fun h1=>?_)
   refine Am [_,_,_] rfl ?_
   refine Aa rfl (Aq rfl Jj ?_)
   refine Aa rfl (Bm 1 rfl rfl Ci rfl ?_)
   refine Ae it 1 rfl (by simp) ?_
   refine Am [_,_] rfl ?_
   refine Kj rfl rfl (fun h2=>by exfalso;omega) (fun h2=>?_)
   refine Am [_,_] rfl ?_
   refine Aa rfl (Aq rfl Ud ?_)
   refine Aa rfl (S4 1 rfl rfl Hx rfl rfl ?_)
   refine Aa rfl (Aw [0] rfl (D3) rfl ?_)
   rintro _ _ _ ⟨b3,pg1,cg1,pe1,ce1,pl1,cl1,rfl,rfl,rfl⟩
   simp only [List.cons_append,List.nil_append]
   simp only [decide_true]
   refine Ae it 5 rfl (by simp) ?_
   refine Am [_,_,_] rfl ?_
   refine Ae it 2 rfl (by simp) ?_
   refine Am [_,_] rfl ?_
   refine Kw rfl rfl (fun h3=>by exfalso;omega) (fun h3=>?_)
   refine Am [_,_] rfl ?_
   refine Aa rfl (Aq rfl Jj ?_)
   refine Aa rfl (Bm 1 rfl rfl Ci rfl ?_)
   refine Ae it 1 rfl ⟨⟨by omega,by omega⟩,trivial⟩ ?_
   refine Aa rfl (Dq (cs:=[Value.int IntKind.i64 (↑n'+1),Value.slice none 0 0]) U4 Ha rfl rfl ?_)
   refine Aa rfl (Bk Ha fun b4=>?_)
   refine Aa rfl (A7 0 rfl rfl rfl Gd rfl rfl (by simp [Value.oneCell']) ?_)
   refine Am [_,_,_] rfl ?_
   refine Aa rfl (Aq rfl Rt ?_)
   refine Aa rfl (Bm 2 rfl rfl H3 rfl ?_)
   refine Aa rfl (G6 D5 rfl ?_)
   refine Ae it 1 rfl (by simp) ?_
   refine Am [_,_,_] rfl ?_
   refine Fz (Aj Ai) 22 ?_
   simp only [Ce,Df,setB,List.take_succ_cons,List.cons_append,List.nil_append,List.take_zero,List.drop_succ_cons,List.drop_zero,List.length_singleton,Nat.zero_add]
   have hcl:=K.md8
   refine Ah (X:=Nat×Row) [1,2,3,5,7,35,36] [0,1,2,3,4,5,6] (fun z=>[(37,.int .i64 (z.1:Int))]) (fun z=>(z.2.bo,22,z.2.cs)::(some b4,62,[.int .i64 ((n':Int)+1),.slice (ad z.2.bo) z.1 z.2.cap])::_) (fun z=>[A6 (Aj Ai) z.2 z.1 (etL p m (rows.take z.1))]) (fun z=>z.1≤rows.length) (fun z=>rows.length-z.1) (0,⟨none,0,[]⟩) [0] rfl rfl rfl (Nat.zero_le _) (by repeat (first|exact Fr.sub_nil _|refine Fr.sub_cons rfl ?_)) rfl rfl ?_
   rintro ⟨i,r⟩ hi ih
   simp only [List.cons_append,List.nil_append] at hi ih ⊢
   by_cases hil:i<rows.length
   ·obtain ⟨u,at_u⟩:∃ u,rows[i]?=some u:=⟨_,List.getElem?_eq_getElem hil⟩
    have hu:=CC.mat u (List.mem_of_getElem? at_u)
    have hul:=hu.1
    obtain ⟨s0,s1⟩:=Uo K.fi u 0 (Int.le_refl 0) K.fi.z hu.2
    rw [← Uw] at s0 s1
    obtain ⟨⟨g0,g1⟩,_⟩:=(Dc K).ng _ s0 s1
    have Fe:=fun {ps:Option Addr}{n cs:Nat}=>D7 (ps:=ps) (n:=n) (cs:=cs) (l:=u)
    have Kq:=fun {b ng cg ne ce nl cl nu cu:Nat}{pg pe pl pu:Option Addr}=>Qe (b:=b) (ng:=ng) (cg:=cg) (ne:=ne) (ce:=ce) (nl:=nl) (cl:=cl) (pg:=pg) (pe:=pe) (pl:=pl) (pu:=pu) (nu:=nu) (cu:=cu) K hu.2
    have ih1:=fun r=>ih (i+1,r) (by dsimp only;omega) (by dsimp only;omega)
    dsimp only at ih1
    rw [etL,List.take_add_one (l:=rows),at_u,Option.toList_some,List.map_append,List.map_cons,List.map_nil,etW] at ih1
    clear ih
    have D2:=fun {b ng cg ne ce nl cl:Nat}{pg pe pl:Option Addr}=>Gr (b:=b) (ng:=ng) (cg:=cg) (ne:=ne) (ce:=ce) (nl:=nl) (cl:=cl) (pg:=pg) (pe:=pe) (pl:=pl) K.p2 K.m1 hq s0 s1
    have g2:0≤C3 p m (Uw (Ad (fA p m)) u)∧C3 p m (Uw (Ad (fA p m)) u)<((p ^ m:Nat):Int):=⟨g0,g1⟩
    clear g0 g1
    generalize Uw (Ad (fA p m)) u=s at *
    generalize hy:C3 p m s=y at *
    have hy2:((nP p m s.toNat:Nat):Int)=y:=hy
    simp only [hy2] at D2
    refine wk 9 cz ?_
    intro h4 b5 o1 hz1 pa1 ca1
    (apply Uy it mx 0 12;(· rfl);(· rfl);(· rfl))
    (apply Ac;(· rfl);(· exact Cf fun _=>Aq rfl Hv An))
    (apply Ac;(· rfl);(· exact Ca 1 rfl rfl H3 rfl))
    (apply A3 1;(· rfl);(· simp))
    (apply AFV [0];(· rfl);(· rfl);(· exact Fe);(· rfl);(· first|omega|(show _*8≤_;omega));intro pa2 cap1 b6 cs1)
    (apply A3 3;(· rfl);(· simp))
    (apply Ac;(· rfl);(· exact Cf fun _=>Aw [5,1] rfl (Kq) rfl (by rintro _ _ _ ⟨rfl,rfl,rfl⟩;exact An)))
    (apply Ac;(· rfl);(· exact Cf fun _=>Aw [5] rfl (D2) rfl (by rintro _ _ _ ⟨rfl,rfl,rfl⟩;exact An)))
    (apply Ii;(· rfl);(· exact Cf fun _=>Ix Cb Er rfl rfl rfl rfl (by decide) (by decide) rfl fun b7=>ABP (E:=Ai) [[Value.int IntKind.i64 y]] [y] (fun w A hG=>(Az ⟨rfl,by first|assumption|(simp only [Bv];omega)⟩ Bf)) rfl rfl rfl (by first|decide|exact Nat.le_of_ble_eq_true rfl));intro pa3 ca2)
    (apply AHL 1 0;(· rfl);(· rfl);(· rfl);(· rfl);(· rfl);(· exact Cb);(· exact Er);(· rfl);(· (first|omega|(simp only [List.length_cons,List.length_nil];omega)));(· exact Hf);(· (first|omega|(simp only [List.length_cons,List.length_nil];omega)));intro pa4 cap2 b7 cs2)
    (apply AHu 0;(· rfl);(· rfl);(· exact D5);(· exact I5);(· rfl);(· rfl);(· rfl);(· decide);(· decide);intro pa5 cap3 b8 cs3 b9)
    refine AAe rfl ?_
    (rotate_left;rfl;rotate_right)
    (rotate_left;rfl;rotate_right)
    (rotate_left;rfl;rotate_right)
    simp only [List.append_nil,List.append_assoc,List.map_cons,List.map_nil,List.cons_append,List.nil_append,List.drop_zero]
    (refine AEr 1 0 (by first|rfl|exact (List.append_nil _).symm) rfl (by show (u.length+1)*8≤140737488355328;omega) ?_;simp only [List.take_succ_cons,List.take_zero,List.cons_append,List.nil_append,List.append_nil])
    refine Aa rfl (F1 (z:=u++[y]) 1 0 7 rfl rfl rfl rfl rfl D5 I5 rfl (fun w A hG=>(A1 (hG _ (Af (n:=0) rfl)))) (by omega) _ Nd (by omega) fun r1=>?_)
    refine wk 5 cz ?_
    refine Ky [true,false,true,true,true] [0,9,10,11,12,13,14,15] (by exact Ux rfl) rfl rfl (ih1 r1)
   ·obtain rfl:i=rows.length:=by omega
    clear ih
    rw [List.take_length]
    refine D4 0 0 rfl rfl (by show rows.length*24≤140737488355328;omega) ?_
    simp only [List.eraseIdx_cons_zero,List.eraseIdx_cons_succ]
    refine wk 13 (ct @Dj cz) ?_
    intro h4 pb1 pc1 nb1 cb1 nc1 cc1
    refine Bj [0,1] rfl (.agg 1 rfl rfl Cs rfl (.tmp rfl .nil)) rfl ⟨_,_,_,_,_,_,rfl,rfl,rfl⟩
 ·rw [etX,if_neg (by rw [etE,if_pos h0];exact h0),etE,if_pos h0]
  generalize Pe P M md N rows=e at *
  refine Eh (Ap Ai none 0 0 []) (fun w A _=>Dp _ w A none 0) ?_
  refine Eh (Ap (Aj Ai) none 0 0 []) (fun w A _=>Dp _ w A none 0) ?_
  refine wk 18 (ct @Au cz) ?_
  intro b1 b2 h1
  refine Bj [1,0] rfl (.agg 0 rfl rfl Cs rfl (.tmp rfl .nil)) rfl ⟨_,_,_,_,_,_,rfl,rfl,rfl⟩
end
set_option maxRecDepth 100000
set_option linter.unusedVariables false
set_option linter.unusedSimpArgs false
def Tg (n:Nat):Nat:=if _h:n=0 then 0 else Tg (n / 2)+1
termination_by n
decreasing_by omega
theorem Sw:Tg 0=0:=by rw [Tg];rfl
theorem ADa {n:Nat}(h:n≠0):Tg n=Tg (n / 2)+1:=by rw [Tg,dif_neg h]
def AFw:Nat→Nat→Nat
 | 0,_=>0
 | f+1,n=>if n=0 then 0 else AFw f (n / 2)+1
theorem AH7 (f:Nat):∀ n,n<2 ^ f→AFw f n=Tg n:=by
 induction f with
 | zero => intro n h; have : n = 0 := by simpa using h
           subst this; rw [Sw]; rfl
 | succ f ih =>
  intro n h
  rw [AFw]
  by_cases h0:n=0
  ·subst h0;rw [if_pos rfl,Sw]
  ·rw [if_neg h0,ADa h0,ih _ (by rw [Nat.pow_succ] at h;omega)]
theorem ABI {n k:Nat}(h:n<2 ^ k):Tg n≤k:=by
 induction k generalizing n with
 | zero => have : n = 0 := by simpa using h
           subst this; rw [Sw]; omega
 | succ k ih =>
  by_cases h0:n=0
  ·subst h0;rw [Sw];omega
  ·rw [ADa h0];have:=ih (n:=n / 2) (by rw [Nat.pow_succ] at h;omega);omega
def AJ1 (s:ByteArray):Bool:=(List.range 256).all fun n=>match s[n]? with
 | some b=>b.toNat == AFw 8 n
 | none=>false
theorem AJI {s:ByteArray}(h:AJ1 s=true) {n:Nat}(hn:n<256):s[n]?=some (UInt8.ofNat (Tg n)):=by
 unfold AJ1 at h
 have:=List.all_eq_true.1 h n (List.mem_range.2 hn)
 cases hs:s[n]? with
 | none=>rw [hs] at this;simp at this
 | some b =>
  rw [hs] at this
  simp only [beq_iff_eq] at this
  rw [AH7 8 n (by simpa using hn)] at this
  rw [← this];simp
open Go Go.Fw
set_option maxHeartbeats 0
section
variable {p m N b ng cg ce cl n c k cp nx cx:Nat}{pg pe pl ps pp px:Option Addr}{md x:List Int}{rows:List (List Int)}
end
open Go Go.Fw
set_option maxRecDepth 100000
set_option linter.unusedVariables false
set_option linter.unusedSimpArgs false
set_option maxHeartbeats 0
section
variable {p m N n c nm cm nx cx:Nat}{pm ps px:Option Addr}{md x:List Int}{rows:List (List Int)}
end
open Go Go.Fw
set_option maxRecDepth 100000
set_option linter.unusedVariables false
set_option linter.unusedSimpArgs false
set_option maxHeartbeats 0
section
variable {pw pl pa pz:Option Addr}{nw cw nl cl na ca nz cz':Nat}{w lost away z:List Int}
end
open Go Go.Fw
set_option maxRecDepth 100000
set_option linter.unusedVariables false
set_option linter.unusedSimpArgs false
set_option maxHeartbeats 0
section
variable {p m N:Nat}{md lost away:List Int}{rows:List (List Int)}
end
open Go Go.Fw
set_option maxRecDepth 100000
set_option linter.unusedVariables false
set_option linter.unusedSimpArgs false
set_option maxHeartbeats 0
section
variable {p m N:Nat}{md lost away:List Int}{rows:List (List Int)}
end
open Go Go.Fw
set_option maxRecDepth 100000
set_option linter.unusedVariables false
set_option linter.unusedSimpArgs false
set_option maxHeartbeats 0
section
variable {p m N nm cm n c nl cl na ca nt ct:Nat}{md lost away:List Int}{rows t:List (List Int)}{pm ps pl pa pt:Option Addr}{w:Int}
end
open Go Go.Fw
set_option maxRecDepth 100000
set_option linter.unusedVariables false
set_option linter.unusedSimpArgs false
set_option maxHeartbeats 0
section
variable {P M N w e:Int}{nm cm n c nl cl na ca nt ct:Nat}{md lost away:List Int}{rows t:List (List Int)}{pm ps pl pa pt:Option Addr}
end
open Go Go.Fw
set_option maxRecDepth 100000
set_option linter.unusedVariables false
set_option linter.unusedSimpArgs false
set_option maxHeartbeats 0
section
variable {P M N w:Int}{n c nm cm nl cl na ca nh ch nt ct:Nat}{pm ps pl pa ph pt:Option Addr}{md lost away hs:List Int}{rows t:List (List Int)}
end
open Go Go.Fw
set_option maxRecDepth 100000
set_option linter.unusedVariables false
set_option linter.unusedSimpArgs false
set_option maxHeartbeats 0
section
variable {ps:Option Addr}{n c:Nat}{s:List Int}{y:Int}
end
section
variable {pw pl pa pz:Option Addr}{nw cw nl cl na ca nz cz':Nat}{w lost away z:List Int}
end
open Go Go.Fw
set_option maxRecDepth 100000
set_option linter.unusedVariables false
set_option linter.unusedSimpArgs false
set_option maxHeartbeats 0
section
variable {n:Int}{wt:List Int→Option (List Int)}{br:List Int→List Int→List Int}
end
open Go Go.Fw
set_option maxRecDepth 100000
set_option linter.unusedVariables false
set_option linter.unusedSimpArgs false
set_option maxHeartbeats 0
theorem Xq {x:Int}:Bs Tryz.prog 214 [.int .i64 x] [] [] (Rv (.bool false) []):=by
 refine Ab (F:=Xi) rfl fun C=>?_
 have hd:(!decide (x=x))=false:=by simp
 refine wk 5 cz ?_
 rw [hd]
 exact ge
theorem Qa {x y:Int}:Bs Tryz.prog 189 [.int .i64 x,.int .i64 y] [] [] (Rv (.bool (decide (x<y))) []):=by
 refine Ab (F:=Ym) rfl fun C=>?_
 refine wk 7 (ct @Xq cz) ?_
 exact ge
theorem ABD {x:Nat}(hx:x<256):Bs Tryz.prog 193 [.int .u64 x] [] [] (Rv (.int .i64 (Tg x)) []):=by
 refine Ab (F:=ABF) rfl fun C=>?_
 refine Am [_,_] rfl ?_
 refine Ae it 1 rfl (by simp) ?_
 refine Am [_,_,_] rfl ?_
 refine Ae it 2 rfl (by simp) ?_
 refine Am [_,_] rfl ?_
 refine Kj rfl rfl (fun h1=>by exfalso;omega) (fun h1=>?_)
 refine Am [_,_,_] rfl ?_
 refine Ae it 2 rfl (by simp) ?_
 refine Am [_,_] rfl ?_
 refine Kj rfl rfl (fun h2=>by exfalso;omega) (fun h2=>?_)
 refine Am [_,_,_] rfl ?_
 refine Ae it 2 rfl (by simp) ?_
 refine Am [_,_] rfl ?_
 refine Kj rfl rfl (fun h3=>by exfalso;omega) (fun h3=>?_)
 refine Am [_,_] rfl ?_
 refine Ae it 3 rfl ⟨⟨by omega,by omega⟩,trivial,trivial,trivial⟩ ?_ --ok
 refine Aa rfl (AKX x rfl rfl rfl rfl (AJI (by decide +kernel) hx) ?_)
 have h8:=ABI (n:=x) (k:=8) (by simpa using hx)
 have e:(UInt8.ofNat (Tg x)).toNat=Tg x:=by
  simp only [UInt8.toNat_ofNat'];omega
 rw [e]
 refine wk 2 cz ?_
 rw [show (0:Int)+((Tg x:Nat):Int)=((Tg x:Nat):Int) by omega]
 exact ge
theorem Zi {x:Nat}(hx:x<256):Bs Tryz.prog 154 [.int .u64 x] [] [] (Rv (.int .i64 (Tg x)) []):=by
 refine Ab (F:=AEH) rfl fun C=>?_
 refine wk 9 (ct @ABD cz) ?_
 exact ge
section
variable {b cap n:Nat}{cs:List Value}{l K:List Int}
end
open Go Go.Fw
set_option maxRecDepth 100000
set_option linter.unusedVariables false
set_option linter.unusedSimpArgs false
set_option maxHeartbeats 0
abbrev AJM (b cap n:Nat) (P:List Int→Prop):Value→List Fact→List A2→Prop:=fun v Φ β=>∃ cs' L,P L∧v = .tuple #[]∧Φ=[A6 Ai ⟨some b,cap,cs'⟩ n L]∧β=[(some b,3,cs')]
section
variable {b cap n a e:Nat}{cs:List Value}{l:List Int}
theorem Om (hn:n≤1000000) (hr:∀ x∈l,Bv .i64 x) (hl:l.length=n) (hae:a≤e) (he:e≤n) :
  Bs Tryz.prog 183 [.slice (some ⟨b,0,none⟩) n cap,.int .i64 a,.int .i64 e] [(some b,3,cs)] [A6 Ai ⟨some b,cap,cs⟩ n l] (AJM b cap n fun L=>Seg a e l L∧Kk L a e):=by
 refine Ab (F:=E4) rfl fun C=>?_
 refine wk 3 cz ?_
 refine Ah (X:=Nat×List Value×List Int) [0,1,2] [0] (fun x=>[(6,.int .i64 (x.1:Int))]) (fun x=>[(some b,3,x.2.1)]) (fun x=>[A6 Ai ⟨some b,cap,x.2.1⟩ n x.2.2]) (fun x=>a+1≤x.1∧(x.1≤e∨x.1=a+1)∧Seg a e l x.2.2∧Kk x.2.2 a x.1) (fun x=>e-x.1) (a+1,cs,l) [0] rfl rfl rfl ⟨Nat.le_refl _,.inr rfl,.refl,.short (Nat.le_refl _)⟩ (by repeat (first|exact Fr.sub_nil _|refine Fr.sub_cons rfl ?_)) rfl rfl ?_
 rintro ⟨i,cs,L⟩ ⟨hi1,hi,hS,ho⟩ ih
 simp only [List.cons_append,List.nil_append] at hi1 hi hS ho ih ⊢
 by_cases hin:i<e
 ·refine wk 7 cz ?_
  intro h1
  refine Ah (X:=Nat×List Value×List Int) [0,1,2,6,10,11,12,15] [0,1] (fun x=>[(7,.int .i64 (x.1:Int))]) (fun x=>[(some b,3,x.2.1)]) (fun x=>[A6 Ai ⟨some b,cap,x.2.1⟩ n x.2.2]) (fun x=>x.1≤i∧a≤x.1∧Seg a e l x.2.2∧AHN x.2.2 a i x.1) (fun x=>x.1) (i,cs,L) [0] rfl rfl rfl ⟨Nat.le_refl _,by omega,hS,AFS ho⟩ (by repeat (first|exact Fr.sub_nil _|refine Fr.sub_cons rfl ?_)) rfl rfl ?_
  rintro ⟨j,cs,L⟩ ⟨hji,haj,hS,ho⟩ ihj
  simp only [List.cons_append,List.nil_append] at hji haj hS ho ihj ⊢
  have hLl:L.length=n:=hS.len.trans hl
  by_cases hj0:a<j
  ·have at_u:=gt0 (L:=L) (i:=j) (by omega)
   have at_v:=gt0 (L:=L) (i:=j-1) (by omega)
   have hu:=AGL (hS.inR hr) (i:=j) (by omega)
   have hv:=AGL (hS.inR hr) (i:=j-1) (by omega)
   simp only [Bv] at hu hv
   by_cases hx:Ba L j<Ba L (j-1)
   ·have ihj':=fun cs=>ihj (j-1,cs,sw L j (j-1)) (by dsimp only;omega) ⟨by dsimp only;omega,by dsimp only;omega,hS.trans (AAm (by omega) (by omega) (by omega) (by omega) (by omega)),AHn ho hj0 (by omega) hji hx⟩
    dsimp only at ihj'
    rw [sw] at ihj'
    generalize Ba L j=u at *
    generalize Ba L (j-1)=v at *
    refine wk 5 (ct @Qa cz) ?_
    intro h2
    (apply Ga (x0:=none) it mx 0 15 [2,3,4] 1;(· rfl);(· rfl);(· rfl);(· decide))
    simp only [List.drop_zero]
    (apply A3 5;(· rfl);(· exact ⟨⟨by omega,by omega⟩,trivial,trivial,trivial,trivial,trivial⟩))
    (apply A3 2;(· rfl);(· simp))
    (apply Ac (v:=Value.int IntKind.i64 ((((j)-1:Nat)):Int));(· rfl);(· exact Cf fun _=>ADg it _ rfl ⟨by omega,by omega⟩ (by omega) An))
    simp only [Nat.add_sub_cancel]
    (apply Ac;(· rfl);(· exact Cf fun _=>Be (j-1) (j-1) rfl rfl Cb rfl (by omega) (Nat.mul_one _) An))
    (apply Ac;(· rfl);(· exact Hn 0 0 (j-1) rfl rfl rfl Ci rfl (by assumption)))
    (apply A3 2;(· rfl);(· simp))
    (apply Ac;(· rfl);(· exact Cf fun _=>Be (j) (j) rfl rfl Cb rfl (by omega) (Nat.mul_one _) An))
    (apply Ac;(· rfl);(· exact Hn 0 0 (j) rfl rfl rfl Ci rfl (by assumption)))
    (apply Ac;(· rfl);(· exact Cf fun _=>Be (j) (j) rfl rfl Cb rfl (by omega) (Nat.mul_one _) An)) --ok
    refine Fl rfl ?_
    rotate_left
    rfl
    simp only [List.map_nil,List.nil_append]
    refine Gq it rfl rfl ⟨⟨_,_,_,_,rfl,rfl,rfl,rfl,rfl,rfl,(by first|trivial|(repeat' first|exact trivial|apply And.intro|omega))⟩,⟨⟨_,_,_,_,rfl,rfl,rfl,rfl,rfl,rfl,(by first|trivial|(repeat' first|exact trivial|apply And.intro|omega))⟩,⟨⟨_,_,_,_,rfl,rfl,rfl,rfl,rfl,rfl,(by first|trivial|(repeat' first|exact trivial|apply And.intro|omega))⟩,trivial⟩⟩⟩ (G4 (vs:=[Value.int IntKind.i64 v]) (z:=(v:Int)) 0 0 (j) rfl rfl rfl rfl rfl Ci (Nat.mul_one _).symm (by omega) (fun w A hG=>(Dh (by first|(simp only [Bv];omega)|(simp [Bv];done)))) fun cs1=>?_)
    refine H8 it ⟨⟨_,_,_,_,rfl,rfl,rfl,rfl,rfl,rfl,(by first|trivial|(repeat' first|exact trivial|apply And.intro|omega))⟩,⟨⟨_,_,_,_,rfl,rfl,rfl,rfl,rfl,rfl,(by first|trivial|(repeat' first|exact trivial|apply And.intro|omega))⟩,⟨⟨_,_,_,_,rfl,rfl,rfl,rfl,rfl,rfl,(by first|trivial|(repeat' first|exact trivial|apply And.intro|omega))⟩,trivial⟩⟩⟩ ?_
    refine wk 1 cz ?_
    refine Aa rfl (G4 (vs:=[Value.int IntKind.i64 u]) (z:=(u:Int)) 0 0 (j-1) rfl rfl rfl rfl rfl Ci (Nat.mul_one _).symm (by omega) (fun w A hG=>(Dh (by first|(simp only [Bv];omega)|(simp [Bv];done)))) fun cs2=>?_)
    refine wk 3 cz ?_
    exact tw (ihj' cs2)
   ·have stop':=ACO ho haj (.inr hx)
    generalize Ba L j=u at *
    generalize Ba L (j-1)=v at *
    refine wk 7 (ct @Qa cz) ?_
    intro h2
    exact tw (ih (i+1,cs,L) (by dsimp only;omega) ⟨by dsimp only;omega,.inl (by dsimp only;omega),hS,stop'⟩)
  ·refine wk 7 cz ?_
   exact tw (ih (i+1,cs,L) (by dsimp only;omega) ⟨by dsimp only;omega,.inl (by dsimp only;omega),hS,ACO ho haj (.inl (by omega))⟩)
 ·clear ih
  refine wk 5 cz ?_
  intro h1
  refine Co [0] rfl rfl ⟨cs,L,⟨hS,fun u v h1 h2 h3=>ho u v h1 h2 (by omega)⟩,rfl,rfl,rfl⟩
end
open Go Go.Fw
set_option maxRecDepth 100000
set_option linter.unusedVariables false
set_option linter.unusedSimpArgs false
set_option maxHeartbeats 0
abbrev AJR {X:Type}(st:X→List A2) (gf:X→Fact) (I:Nat→X→Prop) (i:Nat) (Qs:List Nat→List Fact→List A2→Prop):Value→List Fact→List A2→Prop:=fun v Φ β =>
 (v=jv none∧∃ x,I (i+1) x∧Φ=[gf x]∧β=st x)∨∃ q,v=jv (some q)∧Qs q Φ β
theorem AHp {X:Type}{st:X→List A2}{gf:X→Fact}{I:Nat→X→Prop}{i:Nat}{Qs:List Nat→List Fact→List A2→Prop}{Φ:List Fact}{β:List A2}(h:AJR st gf I i Qs (jv none) Φ β):∃ x,I (i+1) x∧Φ=[gf x]∧β=st x:=by
 rcases h with ⟨_,h⟩|⟨q,e,_⟩
 ·exact h
 ·exact absurd (AEN e) (by simp)
theorem ADp {X:Type}{st:X→List A2}{gf:X→Fact}{I:Nat→X→Prop}{i:Nat}{Qs:List Nat→List Fact→List A2→Prop}{q:List Nat}{Φ:List Fact}{β:List A2}(h:AJR st gf I i Qs (jv (some q)) Φ β):Qs q Φ β:=by
 rcases h with ⟨e,_⟩|⟨q',e,h⟩
 ·exact absurd (AEN e) (by simp)
 ·obtain rfl:=Option.some.inj (AEN e)
  exact h
section
variable {ps:Option Addr}{n cs:Nat}{data:List Int}
theorem Me:Bs Tryz.prog 69 [.slice ps n cs] [] []
  (fun v Φ β=>∃ b2,v = .func (.func 117) #[] #[.pointer (some ⟨b2,0,none⟩)]∧Φ=[I9 b2 [.slice ps n cs]]∧β=[]):=by
 refine Ab (F:=Lr) rfl fun C=>?_
 refine wk 7 cz ?_
 intro b1 --ok
 refine Uh 0 rfl ?_
 simp only [List.eraseIdx_cons_zero]
 exact U8 [0] rfl rfl rfl ⟨_,rfl,rfl,rfl⟩
theorem AD4 {b2 l:Nat}{r:Loop}{B:Code}{X:Type}{st:X→List A2}{gf:X→Fact}{I:Nat→X→Prop}{Qs:List Nat→List Fact→List A2→Prop}(x0:X) (h0:I 0 x0) (hr:Rdy r)
  (hY:∀ i x v,I i x→data[i]?=some v→Bv .i64 v→AF2 Tryz.prog l r B [.int .i64 v] (st x) [gf x] (AJR st gf I i Qs)) :
  AIO Tryz.prog 117 [.func (.yield l) #[] #[],.pointer (some ⟨b2,0,none⟩)] l r B (st x0) [I9 b2 [.slice ps n cs],Ap Ai ps n cs data,gf x0]
   (fun Φ β=>∃ x,I data.length x∧Φ=[gf x]∧β=st x) Qs:=by
 refine ABt (F:=Kg) rfl fun C hoff=>?_
 refine Bb 1 rfl fun hn hb _=>?_
 subst hn
 have hb':data.length*8≤140737488355328:=hb
 refine wk 5 cz ?_ --ok
 refine Ah (X:=Nat×X) [0,5,6] [0,1,2] (fun z=>[(7,.int .i64 (z.1:Int))]) (fun z=>st z.2) (fun z=>[gf z.2]) (fun z=>I z.1 z.2∧z.1≤data.length) (fun z=>data.length-z.1) (0,x0) [2] rfl rfl rfl ⟨h0,Nat.zero_le _⟩ (by repeat (first|exact Fr.sub_nil _|refine Fr.sub_cons rfl ?_)) rfl rfl ?_
 rintro ⟨i,x⟩ ⟨hi,hi2⟩ ih
 simp only [List.cons_append,List.nil_append] at hi hi2 ih ⊢
 by_cases hl:i<data.length
 ·obtain ⟨v,at_v⟩:∃ v,data[i]?=some v:=⟨_,List.getElem?_eq_getElem hl⟩
  refine Am [_,_,_,_] rfl ?_
  refine Ae it 1 rfl (by simp) ?_
  refine Am [_,_,_,_] rfl ?_
  refine Kj rfl rfl (fun h1=>?_) (fun h1=>by exfalso;omega)
  refine Am [_,_,_,_,_,_] rfl ?_
  refine Aa rfl (Io 2 (i) rfl rfl rfl Cb rfl (by omega) fun z1 hz1 b1 o1=>?_)
  obtain rfl:_=z1:=Option.some.inj (at_v.symm.trans hz1)
  refine Aa rfl (Av 0 rfl rfl Ci fun ⟨r1,r2⟩=>?_)
  refine Ae it 1 rfl (by simp) ?_
  refine Am [_,_,_,_,_,_] rfl ?_
  refine Ae it 2 rfl (by simp) ?_ --ok
  refine AFr (n:=(st x).length) [1] hoff hr rfl rfl rfl (by rw [List.take_length];exact hY i x v hi at_v (by simp only [Bv];omega)) rfl ?_ ?_
  ·intro Φ β' hq
   obtain ⟨x',hx',rfl,rfl⟩:=AHp hq
   rw [List.drop_length,List.append_nil]
   have ih':=ih (i+1,x') (by dsimp only;omega) ⟨hx',by dsimp only;omega⟩
   dsimp only at ih'
   clear ih
   refine wk 6 cz ?_
   exact tw (ih')
  ·intro q Φ β' C' hq
   have hq:=ADp hq
   rw [List.drop_length,List.append_nil]
   refine Ae it 1 rfl (by simp) ?_
   refine Am [_,_,_,_,_] rfl ?_
   refine Rd rfl rfl ?_ --ok
   exact ACW rfl rfl hq fun g hg=>List.mem_append_left _ hg
 ·obtain rfl:i=data.length:=by omega
  clear ih
  refine wk 5 cz ?_
  intro h1 --ok
  refine AKc hoff hr ?_
  exact Co [0] rfl rfl ⟨x,hi,rfl,rfl⟩
theorem Ue {b2:Nat}(hl:data.length≤1000000):Bs Tryz.prog 152 [.slice none 0 0,.func (.func 117) #[] #[.pointer (some ⟨b2,0,none⟩)]] [] [I9 b2 [.slice ps n cs],Ap Ai ps n cs data] (RwI data.length data):=by
 refine Ab (F:=J1) rfl fun C=>?_
 refine Am [_,_] rfl ?_
 refine Aa rfl (O5 rfl rfl fun b1=>?_)
 refine Ae it 1 rfl (by simp) ?_
 refine Am [_,_,_] rfl ?_
 refine Ae it 1 rfl (by simp) ?_
 refine Am [_,_,_] rfl ?_ --ok
 refine Fz Ai 3 ?_
 refine Z1 (n:=2) (Γ1:=[I9 b2 [.slice ps n cs],Ap Ai ps n cs data,A6 Ai ⟨none,0,[]⟩ 0 []]) (Qs:=fun _ _ _=>False) [1,2,0] rfl rfl rfl rfl
  (fun l r hr hY=>AD4 (X:=Nat×Row) (data:=data) (st:=fun x=>[(x.2.bo,3,x.2.cs),(some b1,22,[.slice (ad x.2.bo) x.1 x.2.cap])]) (gf:=fun x=>A6 Ai x.2 x.1 (data.take x.1)) (I:=fun i x=>x.1=i) (0,⟨none,0,[]⟩) rfl hr fun i x v hi at_v hv=>hY _ _ _ _ rfl fun C hoff=>?_) ?_ (fun _ _ _ _ _ h=>h.elim)
 ·obtain ⟨i',r1⟩:=x
  obtain rfl:i'=i:=hi
  have hil:i'<data.length:=(List.getElem?_eq_some_iff.1 at_v).1
  simp only [Bv] at hv
  obtain ⟨v0,v1⟩:=hv
  refine Tr (σ':=[(7,.int .i64 v),(2,.pointer (some ⟨b1,0,none⟩))]) (Ux rfl) ?_
  refine Am [_,_,_] rfl ?_
  refine Ae it 1 rfl (by simp) ?_
  refine Am [_,_] rfl ?_ --ok
  refine AKt hoff hr.1 fun C'=>?_
  simp only [List.cons_append,List.nil_append]
  refine wk 4 cz ?_
  intro b3
  refine Aa rfl (F1 (z:=(v:Int)) 1 0 0 rfl rfl rfl rfl rfl Cb Er rfl (fun w A hG=>(Dh (by first|(simp only [Bv];omega)|(simp [Bv];done)))) (by omega) _ Hf (by omega) fun r2=>?_)
  refine wk 2 cz ?_ --ok
  refine Nj [0,2] rfl rfl ?_
  refine ACp [0] rfl (.inl ⟨rfl,(i'+1,r2),rfl,?_,rfl⟩)
  dsimp only
  rw [List.take_add_one,at_v];rfl
 ·rintro Φ β' D C' ⟨⟨i',r1⟩,hi,rfl,rfl⟩
  obtain rfl:i'=data.length:=hi
  simp only [List.cons_append,List.nil_append]
  rw [List.take_length]
  refine wk 4 cz ?_ --ok
  simp only [List.drop_succ_cons,List.drop_zero,List.drop_nil]
  refine Dx 2 [0] [0] rfl (.tmp rfl .nil) rfl rfl rfl ⟨r1,rfl,rfl,rfl⟩
theorem Q3 {b2:Nat}(hl:data.length≤1000000):Bs Tryz.prog 115 [.func (.func 117) #[] #[.pointer (some ⟨b2,0,none⟩)]] [] [I9 b2 [.slice ps n cs],Ap Ai ps n cs data] (RwI data.length data):=by
 refine Ab (F:=Qw) rfl fun C=>?_
 have Jy:=fun {b2:Nat}=>Ue (ps:=ps) (n:=n) (cs:=cs) (data:=data) (b2:=b2) hl
 refine wk 7 (ct @Jy cz) ?_
 intro r1
 refine Dx 1 [0] [0] rfl (.tmp rfl .nil) rfl rfl rfl ⟨r1,rfl,rfl,rfl⟩
end
open Go Go.Fw
set_option maxRecDepth 100000
set_option linter.unusedVariables false
set_option linter.unusedSimpArgs false
set_option maxHeartbeats 0
theorem AAR:Bs Tryz.prog 183 [.slice none 0 0,.int .i64 0,.int .i64 0] [] [] (Rv (.tuple #[]) []):=by
 refine Ab (F:=E4) rfl fun C=>?_
 refine wk 3 cz ?_
 refine Ah (X:=Unit) [0,1,2] [] (fun _=>[(6,.int .i64 1)]) (fun _=>[]) (fun _=>[]) (fun _=>True) (fun _=>0) () [] rfl rfl rfl trivial (by repeat (first|exact Fr.sub_nil _|refine Fr.sub_cons rfl ?_)) rfl rfl ?_
 rintro ⟨⟩-ih
 simp only [List.cons_append,List.nil_append] at ih ⊢
 clear ih
 refine wk 5 cz ?_
 intro h1 --ok
 exact Co [] rfl rfl ⟨rfl,rfl,rfl⟩
theorem AGv {k:Nat}(hk:k≤1000):Bs Tryz.prog 153 [.slice none 0 0,.int .i64 0,.int .i64 0,.int .i64 k] [] [] (Rv (.tuple #[]) []):=by
 refine Ab (F:=Gu) rfl fun C=>?_
 have Dg:=AAR
 refine wk 5 cz ?_
 refine Ah (X:=Unit) [0] [] (fun _=>[(1,.int .i64 0),(2,.int .i64 0)]) (fun _=>[]) (fun _=>[]) (fun _=>True) (fun _=>0) () [] rfl rfl rfl trivial (by repeat (first|exact Fr.sub_nil _|refine Fr.sub_cons rfl ?_)) rfl rfl ?_
 rintro ⟨⟩-ih
 simp only [List.cons_append,List.nil_append] at ih ⊢
 clear ih
 refine wk 10 (ct @Dg cz) ?_
 intro h1 --ok
 exact U8 [] rfl rfl rfl ⟨rfl,rfl,rfl⟩
theorem ADU:Bs Tryz.prog 116 [.slice none 0 0] [] [] (Rv (.tuple #[]) []):=by
 refine Ab (F:=Hz) rfl fun C=>?_
 have h8:=ABI (n:=0) (k:=8) (by simp)
 have Eo:=AGv (k:=Tg 0) (by omega)
 refine wk 9 (ct @Zi (ct @Eo cz)) ?_ --ok
 exact Co [] rfl rfl ⟨rfl,rfl,rfl⟩
section
variable {b cap n:Nat}{cs:List Value}{l:List Int}{k:Int}
theorem ACY (hn:n≤12) (hr:∀ x∈l,Bv .i64 x) (hl:l.length=n) :
  Bs Tryz.prog 153 [.slice (some ⟨b,0,none⟩) n cap,.int .i64 0,.int .i64 n,.int .i64 k] [(some b,3,cs)] [A6 Ai ⟨some b,cap,cs⟩ n l] (AJM b cap n fun L=>Seg 0 n l L∧Kk L 0 n):=by
 refine Ab (F:=Gu) rfl fun C=>?_
 have Dg:=fun {cs:List Value}=>Om (b:=b) (cap:=cap) (n:=n) (cs:=cs) (l:=l) (a:=0) (e:=n) (by omega) hr hl (Nat.zero_le _) (Nat.le_refl _)
 refine wk 5 cz ?_
 refine Ah (X:=Nat) [0] [0] (fun _=>[(1,.int .i64 0),(2,.int .i64 n)]) (fun _=>_) (fun _=>[]) (fun _=>True) (fun i=>i) 0 [] rfl rfl rfl trivial (by repeat (first|exact Fr.sub_nil _|refine Fr.sub_cons rfl ?_)) rfl rfl ?_
 rintro i hi ih
 simp only [List.cons_append,List.nil_append] at hi ih ⊢
 refine wk 8 cz ?_
 intro h1
 refine Aa rfl (Y4 0 [0] rfl rfl (Dg) rfl ?_)
 rintro _ _ _ ⟨cs'1,L1,h2,h3,rfl,rfl,rfl⟩
 simp only [List.cons_append,List.nil_append]
 refine wk 1 cz ?_
 refine U8 [0] rfl rfl rfl ⟨_,_,‹Seg 0 n l _∧Kk _ 0 n›,rfl,rfl,rfl⟩
theorem ABB (hn:n≤12) (hr:∀ x∈l,Bv .i64 x) (hl:l.length=n) :
  Bs Tryz.prog 116 [.slice (some ⟨b,0,none⟩) n cap] [(some b,3,cs)] [A6 Ai ⟨some b,cap,cs⟩ n l] (AJM b cap n fun L=>Seg 0 n l L∧Kk L 0 n):=by
 refine Ab (F:=Hz) rfl fun C=>?_
 have h8:=ABI (n:=n) (k:=8) (by simpa using (show n<256 by omega))
 have Eo:=fun {k:Int}=>ACY (b:=b) (cap:=cap) (n:=n) (cs:=cs) (l:=l) (k:=k) hn hr hl
 refine wk 7 (ct @Zi cz) ?_
 refine Aa rfl (Y4 0 [0] rfl rfl (Eo) rfl ?_)
 rintro _ _ _ ⟨cs'1,L1,h1,h2,rfl,rfl,rfl⟩
 simp only [List.cons_append,List.nil_append]
 refine wk 1 cz ?_ --ok
 refine Co [0] rfl rfl ⟨_,_,‹Seg 0 n l _∧Kk _ 0 n›,rfl,rfl,rfl⟩
end
section
variable {ps:Option Addr}{n cs:Nat}{data:List Int}
theorem AGd {b2:Nat}(hl:data.length≤255) (hS:∀ {b cap:Nat}{cs:List Value},Bs Tryz.prog 116 [.slice (some ⟨b,0,none⟩) data.length cap] [(some b,3,cs)] [A6 Ai ⟨some b,cap,cs⟩ data.length data] (AJM b cap data.length fun L=>Seg 0 data.length data L∧Kk L 0 data.length)):Bs Tryz.prog 68 [.func (.func 117) #[] #[.pointer (some ⟨b2,0,none⟩)]] [] [I9 b2 [.slice ps n cs],Ap Ai ps n cs data]
  (fun v Φ β=>∃ (r:Row) (L:List Int),v = .slice (ad r.bo) data.length r.cap∧Φ=[A6 Ai r data.length L]∧β=[(r.bo,3,r.cs)]∧Seg 0 data.length data L∧Kk L 0 data.length):=by
 refine Ab (F:=Ru) rfl fun C=>?_
 have Qt:=fun {b2:Nat}=>Q3 (ps:=ps) (n:=n) (cs:=cs) (data:=data) (b2:=b2) (by omega)
 refine wk 5 (ct @Qt cz) ?_
 intro r1
 simp only [List.cons_append,List.nil_append,List.append_nil]
 obtain ⟨bo,cap,cs1⟩:=r1
 cases bo with
 | none =>
  refine Zd (q:=data.length=0∧cap=0) (fun w A hG=>by
   obtain ⟨_,h2,_⟩:=hG _ (Af (n:=0) rfl)
   rcases h2 with ⟨_,h3,h4,_⟩|⟨b,h3,_⟩
   ·exact ⟨h3,h4⟩
   ·cases h3) fun ⟨h1,h2⟩=>?_
  obtain rfl:data=[]:=List.eq_nil_of_length_eq_zero h1
  subst h2
  have Fy:=ADU
  simp only [ad,List.length_nil]
  refine wk 7 (ct @Fy cz) ?_ --ok
  refine Dx 1 [0] [0] rfl (.tmp rfl .nil) rfl rfl rfl ⟨⟨none,0,cs1⟩,[],rfl,rfl,rfl,Seg.refl,.short (by simp)⟩
 | some b =>
  have Fy:=fun {cs:List Value}=>hS (b:=b) (cap:=cap) (cs:=cs)
  simp only [ad]
  refine wk 3 cz ?_
  refine Aa rfl (Y4 0 [0] rfl rfl (Fy) rfl ?_)
  rintro _ _ _ ⟨cs'1,L1,h1,h2,rfl,rfl,rfl⟩
  simp only [List.cons_append,List.nil_append]
  refine wk 3 cz ?_ --ok
  refine Dx 1 [0] [0] rfl (.tmp rfl .nil) rfl rfl rfl ⟨⟨some b,cap,cs'1⟩,L1,rfl,rfl,rfl,h1.1,h1.2⟩
theorem Z9 {b2:Nat}(hl:data.length≤12) (hr:∀ x∈data,Bv .i64 x):Bs Tryz.prog 68 [.func (.func 117) #[] #[.pointer (some ⟨b2,0,none⟩)]] [] [I9 b2 [.slice ps n cs],Ap Ai ps n cs data]
  (fun v Φ β=>∃ (r:Row) (L:List Int),v = .slice (ad r.bo) data.length r.cap∧Φ=[A6 Ai r data.length L]∧β=[(r.bo,3,r.cs)]∧Seg 0 data.length data L∧Kk L 0 data.length):=AGd (by omega) fun {b cap cs}=>ABB (b:=b) (cap:=cap) (cs:=cs) hl hr rfl
end
open Go Go.Fw
set_option maxRecDepth 100000
set_option linter.unusedVariables false
set_option linter.unusedSimpArgs false
set_option maxHeartbeats 0
def mvK (n:Nat) (v l:List Int) (i:Nat):List Int:=(List.range n).map fun j:Nat=>if l.idxOf (j:Int)<i then Ba v (l.idxOf (j:Int)) else 0
theorem AH5 (n:Nat) (v l:List Int):mvK n v l 0=List.replicate n 0:=by
 rw [mvK]
 refine List.ext_getElem (by simp) fun i h1 h2=>?_
 simp
theorem AJf {n:Nat}{v l:List Int}(h:PmOk n l):mvK n v l n=mvI n v l:=by
 rw [mvK,mvI,Pd,AH0,List.map_map]
 refine List.map_congr_left fun j hj=>?_
 have h1:=List.idxOf_lt_length_iff.2 (h.mem (List.mem_range.1 hj))
 rw [h.len] at h1
 simp [h1]
theorem AJK {n i:Nat}{v l:List Int}:(mvK n v l i).length=n:=by simp [mvK]
theorem AJQ {n i:Nat}{v l:List Int}{p:Int}(h:PmOk n l) (hp:l[i]?=some p):(mvK n v l i).set p.toNat (Ba v i)=mvK n v l (i+1):=by
 have hi:i<l.length:=(List.getElem?_eq_some_iff.1 hp).1
 have hpe:l[i]=p:=(List.getElem?_eq_some_iff.1 hp).2
 obtain ⟨p0,p1⟩:=h.rng p (List.mem_of_getElem? hp)
 have hix:l.idxOf p=i:=by rw [← hpe];exact AFk h.nd hi
 refine List.ext_getElem (by simp [mvK]) fun j h1 h2=>?_
 rw [List.getElem_set]
 have hjn:j<n:=by simpa [mvK] using h2
 simp only [mvK,List.getElem_map,List.getElem_range]
 by_cases e:p.toNat=j
 ·rw [if_pos e]
  have ej:(j:Int)=p:=by omega
  rw [ej,hix,if_pos (by omega)]
 ·rw [if_neg e]
  have hne:l.idxOf (j:Int)≠i:=fun h3=>by
   have h4:=List.idxOf_lt_length_iff.2 (h.mem hjn)
   have h5:=List.getElem_idxOf h4
   simp only [h3] at h5
   omega
  by_cases h3:l.idxOf (j:Int)<i
  ·rw [if_pos h3,if_pos (by omega)]
  ·rw [if_neg h3,if_neg (by omega)]
theorem AIJ {n k:Nat}{l L:List Int}(hs:Seg 0 k l L) (ho:Kk L 0 k) (hl:l.length=k):(k=n∧Uc n L)↔PmOk n l:=by
 have hp:=hs.perm
 have hLl:L.length=k:=by rw [hp.length_eq,hl]
 constructor
 ·rintro ⟨rfl,h1,h2⟩
  exact ⟨hl,hp.nodup_iff.1 (h2.imp fun h=>by omega),fun x hx=>h1 x (hp.mem_iff.2 hx)⟩
 ·intro h
  have hkn:k=n:=by rw [← hl];exact h.len
  refine ⟨hkn,fun x hx=>h.rng x (hp.mem_iff.1 hx),?_⟩
  have hnd:L.Nodup:=hp.nodup_iff.2 h.nd
  refine List.pairwise_iff_getElem.2 fun i j hi hj hij=>?_
  have h1:=ho i j (Nat.zero_le _) hij (by omega)
  rw [AFJ hi,AFJ hj] at h1
  have h2:L[i]≠L[j]:=fun e=>by
   have:=(List.getElem_inj hnd).1 e
   omega
  omega
noncomputable def pmE (P M:Int) (md:List Int) (N:Int) (rows:List (List Int)) (l:List Int):Int:=open Classical in if Pe P M md N rows≠0 then Pe P M md N rows else if PmOk N.toNat l then 0 else 6
noncomputable def pmX (P M:Int) (md:List Int) (N:Int) (rows:List (List Int)) (l:List Int):CR:=if pmE P M md N rows l=0 then ⟨P,M,N,md,(Dm P.toNat M.toNat md N.toNat (rows.map fun r=>mvI N.toNat r l)).1,0⟩ else zeR (pmE P M md N rows l)
theorem AHf {p m n:Nat}{md l:List Int}{rows:List (List Int)}(CC:Cok p m md n rows) (h:PmOk n l):pmX p m md n rows l=⟨p,m,n,md,(Dm p m md n (rows.map fun r=>mvI n r l)).1,0⟩:=by
 rw [pmX,if_pos (by rw [pmE,if_neg (fun e=>e CC.ck),Int.toNat_natCast,if_pos h])];simp only [Int.toNat_natCast]
theorem AKd {p m n:Nat}{md l:List Int}{rows:List (List Int)}(CC:Cok p m md n rows) (h:¬ PmOk n l):pmX p m md n rows l=zeR 6:=by
 have:pmE p m md n rows l=6:=by rw [pmE,if_neg (fun e=>e CC.ck),Int.toNat_natCast,if_neg h]
 rw [pmX,if_neg (by omega),this]
theorem AKU {P M N:Int}{md l:List Int}{rows:List (List Int)}(h:Pe P M md N rows≠0):pmX P M md N rows l=zeR (Pe P M md N rows):=by
 have:pmE P M md N rows l=Pe P M md N rows:=by rw [pmE,if_pos h]
 rw [pmX,this,if_neg h]
theorem AJT {q n:Nat}(hq:0<q) {v l:List Int}(hv:Wd q n v):Wd q n (mvI n v l):=by
 have:=AEd hq hv (AH0 n l)
 rwa [show (AH0 n l).length=n by simp [AH0]] at this
theorem AKv {q n:Nat}(hq:0<q) {rows:List (List Int)}{l:List Int}(hM:Cz q n rows):Cz q n (rows.map fun r=>mvI n r l):=fun r hr=>by
 obtain ⟨s,hs,rfl⟩:=List.mem_map.1 hr
 exact AJT hq (hM s hs)
section
variable {P M:Int}{n c nm cm ns cs':Nat}{pm ps pt:Option Addr}{md l:List Int}{rows:List (List Int)}
theorem Vg {N:Int}(hN:Bv .i64 N) (hll:l.length≤255) (hS:(∀ x∈l,Bv .i64 x)→∀ {b2 n cs:Nat}{ps:Option Addr},Bs Tryz.prog 68 [.func (.func 117) #[] #[.pointer (some ⟨b2,0,none⟩)]] [] [I9 b2 [.slice ps n cs],Ap Ai ps n cs l] (fun v Φ β=>∃ (r:Row) (L:List Int),v = .slice (ad r.bo) l.length r.cap∧Φ=[A6 Ai r l.length L]∧β=[(r.bo,3,r.cs)]∧Seg 0 l.length l L∧Kk L 0 l.length)):Bs Tryz.prog 22 [.agg #[.int .i64 P,.int .i64 M,.slice pm nm cm,.int .i64 N,.slice ps n c],.slice pt ns cs'] [] [Ap Ai pm nm cm md,Ap (Aj Ai) ps n c rows,Ap Ai pt ns cs' l] (CdX (pmX P M md N rows l)):=by
 refine Ab (F:=Xp) rfl fun C=>?_
 refine Bb 1 rfl fun hn hb1 _=>?_
 subst hn
 refine Bb 2 rfl fun hn hb _=>?_
 subst hn
 refine ALI 2 rfl fun hrl=>?_
 have hb':l.length*8≤140737488355328:=hb
 have hr:=Pt P M md N rows
 have Au:=fun {pm ps:Option Addr}{nm cm n c:Nat}=>D0 (P:=P) (M:=M) (pm:=pm) (ps:=ps) (nm:=nm) (cm:=cm) (n:=n) (c:=c) (md:=md) (rows:=rows) (N:=N) hN rfl
 by_cases h0:Pe P M md N rows=0
 ·obtain ⟨p,m,n',rfl,rfl,rfl,CC⟩:=AAa h0
  rw [h0] at Au
  have Lq:=fun {ps:Option Addr}{n cs:Nat}=>Me (ps:=ps) (n:=n) (cs:=cs)
  have R9:=fun {ps:Option Addr}{n cs b2:Nat}=>hS hrl (ps:=ps) (n:=n) (cs:=cs) (b2:=b2)
  have C4:=fun {L:List Int}{ps:Option Addr}{nn c:Nat}{res:Bool}(h:decide (Uc (n':Int) L)=res)=>Gk (ps:=ps) (nn:=nn) (c:=c) (n:=(n':Int)) (l:=L) h
  refine wk 15 (ct @Au (ct @Lq cz)) ?_
  intro b1 b2 h1 b21
  refine Aa rfl (Aw [0,3] rfl (R9) rfl ?_)
  rintro _ _ _ ⟨r1,L1,rfl,rfl,rfl,h2,h3⟩
  simp only [List.cons_append,List.nil_append]
  refine wk 4 cz ?_
  have hsg:=‹Seg 0 l.length l L1›
  have hso:=‹Kk L1 0 l.length›
  refine D4 0 0 rfl rfl (by show l.length*8≤140737488355328;omega) ?_
  simp only [List.eraseIdx_cons_zero]
  have hiff:=AIJ (n:=n') hsg hso rfl
  refine Eh (Ap Ai none 0 0 []) (fun w A _=>Dp _ w A none 0) ?_
  refine Eh (Ap (Aj Ai) none 0 0 []) (fun w A _=>Dp _ w A none 0) ?_
  by_cases hp:PmOk n' l
  ·obtain ⟨hln,hst⟩:=hiff.2 hp
   rw [AHf CC hp]
   have K:=CC.K
   have hq:=K.q
   have q2:=(Dc K).q2
   have hl:=CC.len
   have h64:=CC.n64
   have hSM:Cz (p ^ m) n' (rows.map fun r=>mvI n' r l):=AKv (by omega) CC.mat
   have hRl:(rows.map fun r=>mvI n' r l).length=rows.length:=List.length_map _
   have C4:=fun {ps:Option Addr}{nn c:Nat}=>Gk (ps:=ps) (nn:=nn) (c:=c) (n:=(n':Int)) (l:=L1) (decide_eq_true hst)
   have Dj:=fun {pm ps:Option Addr}{nm cm n c:Nat}=>Ik (pm:=pm) (ps:=ps) (nm:=nm) (cm:=cm) (n:=n) (c:=c) (N:=n') (rows:=rows.map fun r=>mvI n' r l) K CC.n1 CC.n64 (by omega) hSM
   generalize hG:Dm p m md n' (rows.map fun r=>mvI n' r l)=G at *
   clear hG
   refine Aa rfl (Aq rfl Jj ?_)
   refine Aa rfl (Bm 1 rfl rfl Ci rfl ?_)
   refine Ae it 2 rfl (by simp) ?_
   refine Pg (t:=28) rfl (fun h4=>by exfalso;omega) (fun h4=>?_)
   refine Ae it 1 rfl (by simp) ?_
   refine Bt rfl rfl (Aq rfl Jj ?_)
   refine Bt rfl rfl (Bm 1 rfl rfl Ci rfl ?_)
   refine Bt rfl rfl (Aw [2] rfl (C4) rfl ?_)
   rintro _ _ _ ⟨rfl,rfl,rfl⟩
   simp only [List.cons_append,List.nil_append]
   simp only [decide_true]
   refine Ae it 2 rfl (by simp) ?_
   refine Am [_,_] rfl ?_
   refine My rfl rfl ?_
   refine Am [_,_] rfl ?_
   refine Aa rfl (Aq rfl Jj ?_)
   refine Aa rfl (Bm 1 rfl rfl Ci rfl ?_)
   refine Aa rfl (Dq (cs:=[Value.int IntKind.i64 ↑n',Value.slice none 0 0]) U4 Ha rfl rfl ?_)
   refine Aa rfl (Bk Ha fun b3=>?_)
   refine Aa rfl (A7 0 rfl rfl rfl Gd rfl rfl (by simp [Value.oneCell']) ?_)
   refine Am [_,_,_] rfl ?_
   refine Aa rfl (Aq rfl Rt ?_)
   refine Aa rfl (Bm 2 rfl rfl H3 rfl ?_)
   refine Aa rfl (G6 D5 rfl ?_)
   refine Ae it 1 rfl (by simp) ?_
   refine Am [_,_,_] rfl ?_
   refine Fz (Aj Ai) 22 ?_
   simp only [Ce,Df,setB,List.take_succ_cons,List.cons_append,List.nil_append,List.take_zero,List.drop_succ_cons,List.drop_zero,List.length_singleton,Nat.zero_add]
   refine Ah (X:=Nat×Row) [1,2,4,5,8,40,41] [0,1,2,3,4,5,6,7,8] (fun z=>[(42,.int .i64 (z.1:Int))]) (fun z=>(z.2.bo,22,z.2.cs)::(some b3,62,[.int .i64 (n':Nat),.slice (ad z.2.bo) z.1 z.2.cap])::_) (fun z=>[A6 (Aj Ai) z.2 z.1 ((rows.take z.1).map fun r=>mvI n' r l)]) (fun z=>z.1≤rows.length) (fun z=>rows.length-z.1) (0,⟨none,0,[]⟩) [0] rfl rfl rfl (Nat.zero_le _) (by repeat (first|exact Fr.sub_nil _|refine Fr.sub_cons rfl ?_)) rfl rfl ?_
   rintro ⟨i,r⟩ hi ih
   simp only [List.cons_append,List.nil_append] at hi ih ⊢
   by_cases hil:i<rows.length
   ·obtain ⟨u,at_u⟩:∃ u,rows[i]?=some u:=⟨_,List.getElem?_eq_getElem hil⟩
    have hu:=CC.mat u (List.mem_of_getElem? at_u)
    have hul:=hu.1
    have ih1:=fun r=>ih (i+1,r) (by dsimp only;omega) (by dsimp only;omega)
    dsimp only at ih1
    rw [List.take_add_one (l:=rows),at_u,Option.toList_some,List.map_append,List.map_cons,List.map_nil] at ih1
    clear ih
    refine wk 18 cz ?_
    intro h5 b4 o1 hz1 pa1 ca1 b5
    rw [show Ao .i64 (List.replicate n' 0)=Al .i64 (mvK n' u l 0) by rw [AH5];simp [Ao,Al]]
    simp only [List.cons_append,List.nil_append]
    refine Ah (X:=Nat) [1,2,4,5,8,10,11,40,41,42,43,44,45,46,47,48,49,50] [0,1,2,3,4,5,6,7,8,9,10,11] (fun t=>[(51,.int .i64 (t:Int))]) (fun t=>(some b5,3,Al .i64 (mvK n' u l t))::_) (fun _=>[]) (fun t=>t≤l.length) (fun t=>l.length-t) 0 [] rfl rfl rfl (Nat.zero_le _) (by repeat (first|exact Fr.sub_nil _|refine Fr.sub_cons rfl ?_)) rfl rfl ?_
    rintro t ht ih
    simp only [List.cons_append,List.nil_append] at ht ih ⊢
    by_cases htl:t<l.length
    ·obtain ⟨x,at_x⟩:∃ x,l[t]?=some x:=⟨_,List.getElem?_eq_getElem htl⟩
     obtain ⟨x0,x1⟩:=hp.rng x (List.mem_of_getElem? at_x)
     have at_y:u[t]?=some (Ba u t):=by rw [Ba,List.getD_eq_getElem?_getD,List.getElem?_eq_getElem (by omega)];rfl
     have hyr:=Bh (show 0<p ^ m by omega) hu t
     have ih':=ih (t+1) (by omega) (by omega)
     rw [← AJQ hp at_x] at ih'
     have hKl:=AJK (n:=n') (i:=t) (v:=u) (l:=l)
     generalize mvK n' u l t=T at *
     clear ih
     refine wk 7 cz ?_
     intro h6 b6 o2 hz2
     refine Aa rfl (Av 0 rfl rfl Ci fun ⟨r2,r3⟩=>?_)
     refine wk 4 cz ?_
     intro b7 o3 hz3
     refine Aa rfl (Av 0 rfl rfl Ci fun ⟨r4,r5⟩=>?_)
     refine wk 5 cz ?_
     exact tw (ih')
    ·obtain rfl:t=l.length:=by omega
     clear ih
     have hmv:=AJT (l:=l) (show 0<p ^ m by omega) hu
     rw [show mvK n' u l l.length=mvI n' u l by rw [hln];exact AJf hp]
     have hmr:∀ z∈mvI n' u l,Bv .i64 z:=fun z hz=>by have:=hmv.2 z hz;simp only [Bv];omega
     have hml:=hmv.1
     generalize mvI n' u l=T at *
     refine Bl 0 rfl hml.symm hmr (by omega) ?_
     refine wk 9 cz ?_
     intro h6 b6
     refine C5 1 0 rfl rfl (by show (n')*8≤140737488355328;omega) ?_
     refine Aa rfl (F1 (z:=T) 1 0 4 rfl rfl rfl rfl rfl D5 I5 rfl (fun w A hG=>(A1 (hG _ (Af (n:=0) rfl)))) (by omega) _ Nd (by omega) fun r2=>?_)
     refine wk 5 cz ?_
     refine Ky [true,false,true,true,true] [0,6,7,8,9,10,11,12,13,14] (by exact Ux rfl) rfl rfl (ih1 r2)
   ·obtain rfl:i=rows.length:=by omega
    clear ih
    rw [List.take_length]
    refine D4 0 0 rfl rfl (by show rows.length*24≤140737488355328;omega) ?_
    simp only [List.eraseIdx_cons_zero,List.eraseIdx_cons_succ]
    refine wk 13 (ct @Dj cz) ?_
    intro h5 pb1 pc1 nb1 cb1 nc1 cc1
    refine Bj [0,1] rfl (.agg 1 rfl rfl Cs rfl (.tmp rfl .nil)) rfl ⟨_,_,_,_,_,_,rfl,rfl,rfl⟩
  ·rw [AKd CC hp]
   by_cases hln:l.length=n'
   ·have C4:=fun {ps:Option Addr}{nn c:Nat}=>Gk (ps:=ps) (nn:=nn) (c:=c) (n:=(n':Int)) (l:=L1) (decide_eq_false fun h=>hp (hiff.1 ⟨hln,h⟩))
    refine wk 17 (ct @C4 cz) ?_
    intro h4
    refine Bj [1,0] rfl (.agg 0 rfl rfl Cs rfl (.tmp rfl .nil)) rfl ⟨_,_,_,_,_,_,rfl,rfl,rfl⟩
   ·refine wk 13 cz ?_
    intro h4
    refine Bj [1,0] rfl (.agg 0 rfl rfl Cs rfl (.tmp rfl .nil)) rfl ⟨_,_,_,_,_,_,rfl,rfl,rfl⟩
 ·rw [AKU h0]
  generalize Pe P M md N rows=e at *
  refine Eh (Ap Ai none 0 0 []) (fun w A _=>Dp _ w A none 0) ?_
  refine Eh (Ap (Aj Ai) none 0 0 []) (fun w A _=>Dp _ w A none 0) ?_
  refine wk 18 (ct @Au cz) ?_
  intro b1 b2 h1
  refine Bj [1,0] rfl (.agg 0 rfl rfl Cs rfl (.tmp rfl .nil)) rfl ⟨_,_,_,_,_,_,rfl,rfl,rfl⟩
end
open Go Go.Fw
set_option maxRecDepth 100000
set_option linter.unusedVariables false
set_option linter.unusedSimpArgs false
set_option maxHeartbeats 0
def Mu (M:Nat→Nat→Nat) (p:Nat):Nat→Nat→Nat
 | 0,x=>x
 | k+1,x=>B0 M (Mu M p k x) p
def Mx (f:Nat→Nat):Nat→Nat→Nat
 | 0,x=>x
 | k+1,x=>f (Mx f k x)
def Rp (M:Nat→Nat→Nat) (p m d x:Nat):List Nat:=(List.range (m / d)).map fun i=>Mx (Mu M p (d % m)) i x
def dgB (m d:Nat):Bool:=decide (d≤m∧m % d=0)
theorem AKF {p m:Nat}{md:List Int}(K:Fok p m md) {x:Nat}(hx:x<p ^ m) (k:Nat):B0 (fM p (Ax m md)) x k<p ^ m:=K.rng'.pw_lt hx k
theorem Nr {p m:Nat}{md:List Int}(K:Fok p m md) {x:Nat}(hx:x<p ^ m):∀ k,Mu (fM p (Ax m md)) p k x<p ^ m
 | 0=>hx
 | k+1=>AKF K (Nr K hx k) p
theorem Pz {q:Nat}{f:Nat→Nat}(hf:∀ x,x<q→f x<q) {x:Nat}(hx:x<q):∀ k,Mx f k x<q
 | 0=>hx
 | k+1=>hf _ (Pz hf hx k)
theorem AHg {p m:Nat}{md:List Int}(K:Fok p m md) {x:Nat}(hx:x<p ^ m):Ad (fA p m) (x:Int) 0=(x:Int):=K.fi.a0 _ (by omega) (by exact_mod_cast hx)
section
variable {p m b ng cg ce cl:Nat}{pg pe pl:Option Addr}{md:List Int}
theorem Jr {ne nl cg:Nat}(K:Fok p m md):Bs Tryz.prog 161 [.pointer (some ⟨b,0,none⟩)] [] [I2 b p m (p ^ m) pg md.length cg pe ne ce pl nl cl,Ap Ai pg md.length cg md] (Rv (.tuple #[.int .i64 p,.int .i64 m]) []):=by
 refine Ab (F:=AA3) rfl fun C=>?_
 have h8:md.length≤8:=by
  by_cases h:m=1
  ·rw [K.one h];exact Nat.zero_le _
  ·rw [K.len h];exact K.m8
 have hp:=K.p256
 have hm:=K.m8
 have Vx:=fun {b q ne ce nl cl:Nat}{pg pe pl:Option Addr}{cg:Nat}=>U7 (p:=p) (m:=m) (q:=q) (b:=b) (ne:=ne) (ce:=ce) (nl:=nl) (cl:=cl) (pg:=pg) (pe:=pe) (pl:=pl) (md:=md) (cg:=cg) h8 hp hm
 refine wk 11 (ct @Vx cz) ?_
 intro pb1 nb1 cb1 b1
 exact ge
theorem Gc {ne nl cg d:Nat}(K:Fok p m md) (d1:1≤d) (d8:d≤8):Bs Tryz.prog 162 [.pointer (some ⟨b,0,none⟩),.int .i64 (d:Int)] [] [I2 b p m (p ^ m) pg md.length cg pe ne ce pl nl cl,Ap Ai pg md.length cg md] (Rv (.bool (dgB m d)) []):=by
 refine Ab (F:=Xr) rfl fun C=>?_
 have hm:=K.m8
 have Ea:=fun {b ne ce nl cl cg:Nat}{pg pe pl:Option Addr}=>Jr (b:=b) (ne:=ne) (ce:=ce) (nl:=nl) (cl:=cl) (cg:=cg) (pg:=pg) (pe:=pe) (pl:=pl) K
 have hr0:0≤(m:Int) % (d:Int):=Int.emod_nonneg _ (by omega)
 have hr1:(m:Int) % (d:Int)<(d:Int):=Int.emod_lt_of_pos _ (by omega)
 by_cases h1:d≤m
 ·have e:dgB m d=decide ((m:Int) % (d:Int)=0):=by
   rw [dgB,decide_eq_decide]
   constructor
   ·intro h;have:=h.2;omega
   ·intro h;exact ⟨h1,by omega⟩
  rw [e]
  refine wk 19 (ct @Ea cz) ?_
  intro h2 h3
  exact ge
 ·have e:dgB m d=false:=decide_eq_false fun h=>h1 h.1
  rw [e]
  refine wk 19 (ct @Ea cz) ?_
  intro h2 h3
  exact ge
theorem M1 {cg x k:Nat}(K:Fok p m md) (hx:x<p ^ m) (hk:k≤64):Bs Tryz.prog 171 [.pointer (some ⟨b,0,none⟩),.int .i64 (x:Int),.int .i64 (k:Int)] [] [I2 b p m (p ^ m) pg md.length cg pe (p ^ m-1) ce pl (p ^ m) cl,Ap Ai pg md.length cg md,Ap Ai pe (p ^ m-1) ce (Jg p m md),Ap Ai pl (p ^ m) cl (Jf p m md)] (Rv (.int .i64 ((Mu (fM p (Ax m md)) p (k % m) x:Nat):Int)) []):=by
 refine Ab (F:=V8) rfl fun C=>?_
 have hm:=K.m8
 have hm1:=K.m1
 have hp:=K.p256
 have hp2:=K.p2
 have hq:=K.q
 have Ea:=fun {b ne ce nl cl cg:Nat}{pg pe pl:Option Addr}=>Jr (b:=b) (ne:=ne) (ce:=ce) (nl:=nl) (cl:=cl) (cg:=cg) (pg:=pg) (pe:=pe) (pl:=pl) K
 have Yn:=fun {b ng cg ce cl:Nat}{pg pe pl:Option Addr}{a:Nat}(h:a<p ^ m)=>X5 (b:=b) (ng:=ng) (cg:=cg) (ce:=ce) (cl:=cl) (pg:=pg) (pe:=pe) (pl:=pl) (a:=a) (k:=p) K h (by omega) hp
 have Bq:=fun {b ng cg ne ce nl cl:Nat}{pg pe pl:Option Addr}{x y:Int}=>De (p:=p) (m:=m) (b:=b) (ng:=ng) (cg:=cg) (ne:=ne) (ce:=ce) (nl:=nl) (cl:=cl) (pg:=pg) (pe:=pe) (pl:=pl) (x:=x) (y:=y) K.p2 K.m1 hq
 have hlt:=Nr K hx
 have haz:=fun y (h:y<p ^ m)=>AHg K h
 generalize Jg p m md=ex at *
 generalize Jf p m md=lg at *
 generalize fM p (Ax m md)=M at *
 generalize Ad (fA p m)=A at *
 generalize p ^ m=q at *
 have hr0:0≤(k:Int) % (m:Int):=Int.emod_nonneg _ (by omega)
 have hr1:(k:Int) % (m:Int)<(m:Int):=Int.emod_lt_of_pos _ (by omega)
 have hs:((k:Int) % (m:Int)+(m:Int)) % (m:Int)=((k % m:Nat):Int):=by rw [Int.add_emod_right,Int.emod_emod,Int.natCast_emod]
 have hs1:k % m<m:=Nat.mod_lt _ (by omega)
 have hs0:((k:Int) % (m:Int)+(m:Int)) % (m:Int)≤8∧0≤((k:Int) % (m:Int)+(m:Int)) % (m:Int):=by omega
 refine wk 9 (ct @Ea cz) ?_
 simp only [hs]
 refine Ah (X:=Nat) [0,6,7,20] [0,1,2,3] (fun i=>[(21,.int .i64 (i:Int)),(1,.int .i64 ((Mu M p i x:Nat):Int))]) (fun _=>_) (fun _=>[]) (fun i=>i≤k % m) (fun i=>k % m-i) 0 [] rfl rfl rfl (Nat.zero_le _) (by repeat (first|exact Fr.sub_nil _|refine Fr.sub_cons rfl ?_)) rfl rfl ?_
 rintro i hi ih
 simp only [List.cons_append,List.nil_append] at hi ih ⊢
 have hli:=hlt i
 by_cases h9:i<k % m
 ·have ih':=ih (i+1) (by omega) (by omega)
  rw [Mu] at ih'
  have hl2:=hlt (i+1)
  rw [Mu] at hl2
  generalize Mu M p i x=y at *
  refine wk 11 (ct @Yn cz) ?_
  intro h1
  exact tw (ih')
 ·obtain rfl:i=k % m:=by omega
  clear ih
  have e:=haz _ hli
  generalize Mu M p (k % m) x=y at *
  refine wk 9 (ct @Bq cz) ?_
  intro h1
  rw [e]
  exact ge
theorem ACB {M:Nat→Nat→Nat}{d x:Nat}:(Rp M p m d x).length=m / d:=by simp [Rp]
theorem AK9 {M:Nat→Nat→Nat}{d x i:Nat}(hi:i<m / d):(Rp M p m d x)[i]?=some (Mx (Mu M p (d % m)) i x):=by
 rw [Rp,List.getElem?_map,List.getElem?_range hi];rfl
theorem K1 {cg x d:Nat}(K:Fok p m md) (hx:x<p ^ m) (d1:1≤d) (d8:d≤8):Bs Tryz.prog 170 [.pointer (some ⟨b,0,none⟩),.int .i64 (x:Int),.int .i64 (d:Int)] [] [I2 b p m (p ^ m) pg md.length cg pe (p ^ m-1) ce pl (p ^ m) cl,Ap Ai pg md.length cg md,Ap Ai pe (p ^ m-1) ce (Jg p m md),Ap Ai pl (p ^ m) cl (Jf p m md)] (RwI (m / d) (Bc (Rp (fM p (Ax m md)) p m d x))):=by
 refine Ab (F:=ACF) rfl fun C=>?_
 have hm:=K.m8
 have hq:=K.q
 have Ea:=fun {b ne ce nl cl cg:Nat}{pg pe pl:Option Addr}=>Jr (b:=b) (ne:=ne) (ce:=ce) (nl:=nl) (cl:=cl) (cg:=cg) (pg:=pg) (pe:=pe) (pl:=pl) K
 have Bq:=fun {b ng cg ne ce nl cl:Nat}{pg pe pl:Option Addr}{x y:Int}=>De (p:=p) (m:=m) (b:=b) (ng:=ng) (cg:=cg) (ne:=ne) (ce:=ce) (nl:=nl) (cl:=cl) (pg:=pg) (pe:=pe) (pl:=pl) (x:=x) (y:=y) K.p2 K.m1 hq
 have G7:=fun {b cg ce cl x k:Nat}{pg pe pl:Option Addr}=>M1 (b:=b) (cg:=cg) (ce:=ce) (cl:=cl) (pg:=pg) (pe:=pe) (pl:=pl) (x:=x) (k:=k) K
 have hlt:=fun i=>Pz (f:=Mu (fM p (Ax m md)) p (d % m)) (fun y hy=>Nr K hy (d % m)) hx i
 have haz:=AHg K hx
 have hdv:m / d≤8:=Nat.le_trans (Nat.div_le_self m d) hm
 have hdi:(m:Int) / (d:Int)=((m / d:Nat):Int):=(Int.natCast_ediv m d).symm
 have hLl:=ACB (p:=p) (m:=m) (M:=fM p (Ax m md)) (d:=d) (x:=x)
 have hLa:=fun i (h:i<m / d)=>AK9 (p:=p) (m:=m) (M:=fM p (Ax m md)) (d:=d) (x:=x) h
 generalize hL:Rp (fM p (Ax m md)) p m d x=L at *
 generalize Jg p m md=ex at *
 generalize Jf p m md=lg at *
 generalize fM p (Ax m md)=M at *
 generalize Ad (fA p m)=A at *
 generalize p ^ m=q at *
 clear hL
 have h0:0≤(m:Int) / (d:Int)∧(m:Int) / (d:Int)≤8:=by omega
 refine wk 19 (ct @Ea (ct @Bq cz)) ?_
 intro b1
 simp only [hdi,Int.toNat_natCast]
 rw [haz,show Ao .i64 (List.replicate (m / d) 0)=Al .i64 ((Bc L).take 0++List.replicate (m / d-0) 0) by simp [Ao,Al]]
 refine Ah (X:=Nat) [0,2,6,9,25] [0,1,2,3] (fun i=>[(26,.int .i64 (i:Int)),(10,.int .i64 ((Mx (Mu M p (d % m)) i x:Nat):Int))]) (fun i=>[(some b1,3,Al .i64 ((Bc L).take i++List.replicate (m / d-i) 0))]) (fun _=>[]) (fun i=>i≤m / d) (fun i=>m / d-i) 0 [] rfl rfl rfl (Nat.zero_le _) (by repeat (first|exact Fr.sub_nil _|refine Fr.sub_cons rfl ?_)) rfl rfl ?_
 rintro i hi ih
 simp only [List.cons_append,List.nil_append] at hi ih ⊢
 have hli:=hlt i
 by_cases h9:i<m / d
 ·have ih':=ih (i+1) (by omega) (by omega)
  have eT:(Bc L)[i]?=some ((Mx (Mu M p (d % m)) i x:Nat):Int):=by rw [Bc,List.getElem?_map,hLa i h9];rfl
  have hl2:=hlt (i+1)
  rw [Mx] at ih' hl2
  rw [← take_set eT h9] at ih'
  have hln:((Bc L).take i++List.replicate (m / d-i) 0).length=m / d:=by simp [Bc];omega
  generalize (Bc L).take i++List.replicate (m / d-i) 0=T at *
  generalize Mx (Mu M p (d % m)) i x=y at *
  clear ih
  refine wk 17 (ct @G7 cz) ?_
  intro h1
  exact tw (ih')
 ·obtain rfl:i=m / d:=by omega
  have hTl:(Bc L).length=m / d:=by rw [Bc,List.length_map];exact hLl
  rw [Nat.sub_self,List.replicate_zero,List.append_nil,List.take_of_length_le (by omega)]
  clear ih
  refine wk 7 cz ?_
  intro h1
  have hall:∀ z∈Bc L,Bv .i64 z:=fun z hz=>by
   obtain ⟨j,hj⟩:=List.getElem?_of_mem hz
   have hj':j<m / d:=by have:=(List.getElem?_eq_some_iff.1 hj).1;omega
   rw [Bc,List.getElem?_map,hLa j hj'] at hj
   have:=hlt j
   have e:((Mx (Mu M p (d % m)) j x:Nat):Int)=z:=Option.some.inj hj
   simp only [Bv];omega
  generalize Bc L=T at *
  refine Bl 0 rfl hTl.symm hall (by omega) ?_
  refine Dx 1 [0] [0] rfl (.tmp rfl .nil) rfl rfl rfl ⟨⟨some b1,m / d,Al .i64 T⟩,rfl,rfl,rfl⟩
theorem AGH {d x:Nat}(K:Fok p m md) (hx:x<p ^ m):∀ z∈Bc (Rp (fM p (Ax m md)) p m d x),0≤z∧z<((p ^ m:Nat):Int):=fun z hz=>by
 obtain ⟨y,hy,rfl⟩:=List.mem_map.1 hz
 obtain ⟨i,_,rfl⟩:=List.mem_map.1 hy
 have:=Pz (f:=Mu (fM p (Ax m md)) p (d % m)) (fun y hy=>Nr K hy (d % m)) hx i
 omega
theorem AAP {cg x d:Nat}(K:Fok p m md) (hx:x<p ^ m) (d1:1≤d) (d8:d≤8) (hd:dgB m d=true):Bs Tryz.prog 130 [.pointer (some ⟨b,0,none⟩),.int .i64 (x:Int),.int .i64 (d:Int)] [] [I2 b p m (p ^ m) pg md.length cg pe (p ^ m-1) ce pl (p ^ m) cl,Ap Ai pg md.length cg md,Ap Ai pe (p ^ m-1) ce (Jg p m md),Ap Ai pl (p ^ m) cl (Jf p m md)] (Rv (.tuple #[.int .i64 (Uw (Ad (fA p m)) (Bc (Rp (fM p (Ax m md)) p m d x))),.int .i64 0]) []):=by
 refine Ab (F:=AAV) rfl fun C=>?_
 have hm:=K.m8
 have hdv:m / d≤8:=Nat.le_trans (Nat.div_le_self m d) hm
 have Bg:=fun {b ne ce nl cl cg:Nat}{pg pe pl:Option Addr}=>Gc (b:=b) (ne:=ne) (ce:=ce) (nl:=nl) (cl:=cl) (cg:=cg) (pg:=pg) (pe:=pe) (pl:=pl) K d1 d8
 have Cq:=fun {b cg ce cl:Nat}{pg pe pl:Option Addr}=>(K1 (b:=b) (cg:=cg) (ce:=ce) (cl:=cl) (pg:=pg) (pe:=pe) (pl:=pl) K hx d1 d8).pubR (by show m / d*8≤140737488355328;omega)
 have Kq:=fun {b ng cg ne ce nl cl nu cu:Nat}{pg pe pl pu:Option Addr}=>Qe (b:=b) (ng:=ng) (cg:=cg) (ne:=ne) (ce:=ce) (nl:=nl) (cl:=cl) (pg:=pg) (pe:=pe) (pl:=pl) (pu:=pu) (nu:=nu) (cu:=cu) K (AGH (d:=d) K hx)
 rw [hd] at Bg
 generalize Bc (Rp (fM p (Ax m md)) p m d x)=T at *
 refine wk 14 (ct @Bg (ct @Cq (ct @Kq cz))) ?_
 intro pa1 ca1
 exact ge
theorem T4 {cg x d:Nat}(K:Fok p m md) (hx:x<p ^ m) (d1:1≤d) (d8:d≤8) (hd:dgB m d=true) (hc:Mx (Mu (fM p (Ax m md)) p (d % m)) (m / d) x=x):Bs Tryz.prog 128 [.pointer (some ⟨b,0,none⟩),.int .i64 (x:Int),.int .i64 (d:Int)] [] [I2 b p m (p ^ m) pg md.length cg pe (p ^ m-1) ce pl (p ^ m) cl,Ap Ai pg md.length cg md,Ap Ai pe (p ^ m-1) ce (Jg p m md),Ap Ai pl (p ^ m) cl (Jf p m md)]
  (fun v Φ β=>∃ (r:Row) (k:Nat),v = .tuple #[.slice (ad r.bo) k r.cap,.int .i64 0]∧Φ=[A6 Ai r k (Bc ((List.range k).map fun i=>Mx (Mu (fM p (Ax m md)) p (d % m)) i x))]∧β=[(r.bo,3,r.cs)]∧1≤k∧k≤m / d∧Mx (Mu (fM p (Ax m md)) p (d % m)) k x=x∧∀ i,1≤i→i<k→Mx (Mu (fM p (Ax m md)) p (d % m)) i x≠x):=by
 refine Ab (F:=T8) rfl fun C=>?_
 have hm:=K.m8
 have hq:=K.q
 have hdv:m / d≤8:=Nat.le_trans (Nat.div_le_self m d) hm
 have hdv1:1≤m / d:=Nat.div_pos (of_decide_eq_true hd).1 d1
 have Bg:=fun {b ne ce nl cl cg:Nat}{pg pe pl:Option Addr}=>Gc (b:=b) (ne:=ne) (ce:=ce) (nl:=nl) (cl:=cl) (cg:=cg) (pg:=pg) (pe:=pe) (pl:=pl) K d1 d8
 rw [hd] at Bg
 have Bq:=fun {b ng cg ne ce nl cl:Nat}{pg pe pl:Option Addr}{x y:Int}=>De (p:=p) (m:=m) (b:=b) (ng:=ng) (cg:=cg) (ne:=ne) (ce:=ce) (nl:=nl) (cl:=cl) (pg:=pg) (pe:=pe) (pl:=pl) (x:=x) (y:=y) K.p2 K.m1 hq
 have G7:=fun {b cg ce cl x k:Nat}{pg pe pl:Option Addr}=>M1 (b:=b) (cg:=cg) (ce:=ce) (cl:=cl) (pg:=pg) (pe:=pe) (pl:=pl) (x:=x) (k:=k) K
 have hlt:=fun i=>Pz (f:=Mu (fM p (Ax m md)) p (d % m)) (fun y hy=>Nr K hy (d % m)) hx i
 have haz:=AHg K hx
 generalize Jg p m md=ex at *
 generalize Jf p m md=lg at *
 generalize fM p (Ax m md)=M at *
 generalize Ad (fA p m)=A at *
 generalize p ^ m=q at *
 have hh1:=hlt 1
 refine wk 17 (ct @Bg (ct @Bq cz)) ?_
 intro b1
 simp only [haz,List.nil_append,List.append_nil]
 (apply L4 (E:=Ai) (n:=1) [[.int .i64 (x:Int)]] [(x:Int)] 0 (fun w A hG=>⟨rfl,fun i vs y hv hy=>by
  cases i with
  | zero=>cases hv;cases hy;exact ⟨rfl,by simp only [Bv];omega⟩
  | succ i=>simp at hv⟩);(· rfl);(· rfl);(· rfl);(· rfl);(· decide))
 refine wk 4 (ct @G7 cz) ?_
 generalize hf:Mu M p (d % m)=f at *
 have hfs:∀ y,Mu M p (d % m) y=f y:=fun y=>by rw [hf]
 simp only [List.cons_append,List.nil_append]
 refine Ah (X:=Nat×Row) [0,1,2,6,7] [0,1,2,3,4] (fun z=>[(9,.int .i64 ((Mx f z.1 x:Nat):Int)),(8,.slice (ad z.2.bo) z.1 z.2.cap)]) (fun z=>[(z.2.bo,3,z.2.cs)]) (fun z=>[A6 Ai z.2 z.1 (Bc ((List.range z.1).map fun i=>Mx f i x))]) (fun z=>1≤z.1∧z.1≤m / d∧∀ i,1≤i→i<z.1→Mx f i x≠x) (fun z=>m / d-z.1) (1,⟨some b1,1,[.int .i64 (x:Int)]⟩) [0] rfl rfl rfl ⟨Nat.le_refl 1,hdv1,fun i h1 h2=>by dsimp only at h2;omega⟩ (by repeat (first|exact Fr.sub_nil _|refine Fr.sub_cons rfl ?_)) rfl rfl ?_
 rintro ⟨j,r⟩ hj ih
 simp only [List.cons_append,List.nil_append] at hj ih ⊢
 obtain ⟨hj1,hj2,hj3⟩:=hj
 have hlj:=hlt j
 have hls:=hlt (j+1)
 rw [Mx] at hls
 by_cases hx0:Mx f j x=x
 ·clear ih
  generalize hT:Bc ((List.range j).map fun i=>Mx f i x)=T at *
  have hd0:((Mx f j x:Nat):Int)=(x:Int):=by omega
  refine wk 7 cz ?_
  intro h1
  refine Dx 1 [0] [0] rfl (.tmp rfl (.tmp rfl .nil)) rfl rfl rfl ⟨r,j,rfl,by rw [← hT],rfl,hj1,hj2,hx0,hj3⟩
 ·have hd0:((Mx f j x:Nat):Int)≠(x:Int):=by omega
  have hjm:j≠m / d:=fun e=>hx0 (by rw [e];exact hc)
  have ih':=fun r=>ih (j+1,r) (by dsimp only;omega) ⟨by dsimp only;omega,by dsimp only;omega,fun i h1 h2=>by
   dsimp only at h2
   by_cases e:i=j
   ·rw [e];exact hx0
   ·exact hj3 i h1 (by omega)⟩
  dsimp only at ih'
  have hTs:Bc ((List.range (j+1)).map fun i=>Mx f i x)=Bc ((List.range j).map fun i=>Mx f i x)++[((Mx f j x:Nat):Int)]:=by simp [Bc,List.range_succ]
  rw [hTs,Mx] at ih'
  generalize Bc ((List.range j).map fun i=>Mx f i x)=T at *
  generalize Mx f j x=y at *
  clear ih
  refine wk 7 cz ?_
  intro h1 b2
  refine Aa rfl (F1 (z:=(↑y:Int)) 1 0 0 rfl rfl rfl rfl rfl Cb Er rfl (fun w A hG=>(Dh (by first|(simp only [Bv];omega)|(simp [Bv];done)))) (by omega) _ Hf (by omega) fun r1=>?_)
  refine wk 6 (ct @G7 cz) ?_
  rw [hf]
  refine Ky [true,false] [0,2,3,4,5,6] (by exact Ux rfl) rfl rfl (ih' r1)
end
open Go Go.Fw
set_option maxRecDepth 100000
set_option linter.unusedVariables false
set_option linter.unusedSimpArgs false
set_option maxHeartbeats 0
theorem Za {A M:Int→Int→Int}{N V:Int→Int}:∀ (n c t:Nat) (rows:List (List Int)),(Ds A M N V n c t rows).2.length≤n
 | 0,_,_,_=>Nat.le_refl _
 | n+1,c,t,rows=>by
  rw [Ds]
  cases Hp rows t c with
  | none=>exact Nat.le_succ_of_le (Za n (c+1) t rows)
  | some k=>exact Nat.succ_le_succ (Za n (c+1) (t+1) _)
theorem FO.nml {q:Nat}{A M:Int→Int→Int}{N V:Int→Int}(O:FO q A M N V) {z y:Int}(z0:0≤z) (z1:z<q) (y0:0≤y) (y1:y<q):N (M z y)=M (N z) y:=by
 have F:=O.fi
 obtain ⟨⟨n0,n1⟩,nz⟩:=O.ng z z0 z1
 have h1:=F.ml z y z0 z1 y0 y1
 obtain ⟨⟨k0,k1⟩,nk⟩:=O.ng _ h1.1 h1.2
 have h2:=F.ml (N z) y n0 n1 y0 y1
 refine F.cancel (x:=M z y) h1.1 h1.2 k0 k1 h2.1 h2.2 ?_
 rw [nk,F.mc z y z0 z1 y0 y1,F.mc (N z) y n0 n1 y0 y1,← F.md y z (N z) y0 y1 z0 z1 n0 n1,nz,F.m0 y0 y1]
def axK (A M:Int→Int→Int) (a:Int) (r u:List Int) (j:Nat):List Int:=(Ey A M a r u).take j++u.drop j
theorem AJn {A M:Int→Int→Int}{a:Int}{r u:List Int}{n j:Nat}(hr:r.length=n) (hu:u.length=n):(axK A M a r u j).length=n:=by
 simp only [axK,Ey,List.length_append,List.length_take,List.length_zipWith,List.length_drop,hr,hu];omega
theorem AGJ {A M:Int→Int→Int}{a:Int}{r u:List Int}:axK A M a r u 0=u:=by simp [axK]
theorem AJy {A M:Int→Int→Int}{a:Int}{r u:List Int}{n:Nat}(hr:r.length=n) (hu:u.length=n):axK A M a r u n=Ey A M a r u:=by
 rw [axK,List.take_of_length_le (by simp only [Ey,List.length_zipWith,hr,hu];omega),List.drop_of_length_le (by omega),List.append_nil]
theorem AKu {A M:Int→Int→Int}{a:Int}{r u:List Int}{n j:Nat}(hr:r.length=n) (hu:u.length=n) (hj:j<n):(axK A M a r u j)[j]?=some (Ba u j):=by
 have h1:((Ey A M a r u).take j).length=j:=by simp only [Ey,List.length_take,List.length_zipWith,hr,hu];omega
 rw [axK,List.getElem?_append_right (by omega),h1,Nat.sub_self,List.getElem?_drop,Nat.add_zero,Ba,List.getD_eq_getElem?_getD,List.getElem?_eq_getElem (by omega)];rfl
theorem AJi {A M:Int→Int→Int}{a:Int}{r u:List Int}{n j:Nat}(hr:r.length=n) (hu:u.length=n) (hj:j<n):(axK A M a r u j).set j (A (Ba u j) (M a (Ba r j)))=axK A M a r u (j+1):=by
 have hl:(Ey A M a r u).length=n:=by simp only [Ey,List.length_zipWith,hr,hu];omega
 have h1:((Ey A M a r u).take j).length=j:=by rw [List.length_take];omega
 rw [axK,axK,List.take_succ_eq_append_getElem (by omega),List.drop_eq_getElem_cons (by omega),List.set_append_right _ _ (by omega),h1,Nat.sub_self,List.set_cons_zero,List.append_assoc,List.singleton_append]
 congr 2
 simp only [Ey,List.getElem_zipWith,Ba,List.getD_eq_getElem?_getD]
 rw [List.getElem?_eq_getElem (by omega),List.getElem?_eq_getElem (by omega)];rfl
section
variable {b p m n W ng cg ce cl:Nat}{pg pe pl:Option Addr}{rh:Row}{hd:Nat→Hd}{cs:Nat→List Value}{rows:List (List Int)}{md:List Int}
abbrev AMl (ok:Bool):Value→List Fact→List A2→Prop:=fun v Φ β=>∃ (pa:Option Addr) (k c:Nat),v = .tuple #[.slice pa k c,.bool ok]∧Φ=[]∧β=[]
theorem AAJ (K:Fok p m md) (hn0:0<n) (hn:n≤64) (hl:rows.length=n) (hM:Cz (p ^ m) (n+1) rows) :
  Bs Tryz.prog 216 [.pointer (some ⟨b,0,none⟩),.slice (ad rh.bo) n rh.cap] ((rh.bo,22,rh.cs)::Da 3 hd cs n [])
   [I2 b p m (p ^ m) pg ng cg pe (p ^ m-1) ce pl (p ^ m) cl,Ap Ai pe (p ^ m-1) ce (Jg p m md),Ap Ai pl (p ^ m) cl (Jf p m md),A6 Sd rh n (Iv hd n),Ej Ai hd cs (Ar rows) n []]
   (AMl (decide ((J9 p m md n 0 0 rows).2.length=n))):=by
 refine Ab (F:=Tn) rfl fun C=>?_
 have O:=Dc K
 have q2:=O.q2
 have hq:=K.q
 have FF:=K.fi
 generalize hEE:(J9 p m md n 0 0 rows).2.length=EE
 refine Dt 3 rfl hn0 fun bh caph csh hr=>?_
 subst hr
 dsimp only
 refine wk 9 cz ?_
 refine Ah (X:=Nat×List Value×(Nat→Hd)×(Nat→List Value)×List (List Int)) [0,1,6,19] [0,1,2] (fun x=>[(20,.int .i64 (x.1:Int))])
  (fun x=>(some bh,22,x.2.1)::Da 3 x.2.2.1 x.2.2.2.1 n [])
  (fun x=>[A6 Sd ⟨some bh,caph,x.2.1⟩ n (Iv x.2.2.1 n),Ej Ai x.2.2.1 x.2.2.2.1 (Ar x.2.2.2.2) n []])
  (fun x=>x.1≤n∧x.2.2.2.2.length=n∧Cz (p ^ m) (n+1) x.2.2.2.2∧(J9 p m md (n-x.1) x.1 x.1 x.2.2.2.2).2.length+x.1=EE) (fun x=>n-x.1)
  (0,csh,hd,cs,rows) [3,4] rfl rfl rfl ⟨Nat.zero_le _,hl,hM,by dsimp only;rw [Nat.sub_zero];exact hEE⟩ (by repeat (first|exact Fr.sub_nil _|refine Fr.sub_cons rfl ?_)) rfl rfl ?_
 clear hl hM hEE rows
 rintro ⟨c,ch,hd,cs,rws⟩ ⟨hcN,hl,hM,hE⟩ ih
 simp only [List.cons_append,List.nil_append] at hcN hl hM hE ih ⊢
 by_cases hcl:c<n
 ·have hrl:∀ k,k<n→(Ar rws k).length=n+1:=fun k hk=>(hM.row (by omega)).1
  have hre:∀ k,k<n→(Ar rws k)[c]?=some (en rws k c):=fun k hk=>by
   rw [en,Ba,List.getD_eq_getElem?_getD,List.getElem?_eq_getElem (by rw [hrl k hk];omega)];rfl
  have hen:∀ k,k<n→0≤en rws k c∧en rws k c<((p ^ m:Nat):Int):=fun k hk=>Bh (by omega) (hM.row (by omega)) c
  refine wk 9 cz ?_
  intro h1
  refine Ah (X:=Nat×(Nat→List Value)) [0,1,6,7,19,20,21,22,23] [0,2,3,4] (fun k=>[(8,.int .i64 (k.1:Int))]) (fun k=>(some bh,22,ch)::Da 3 hd k.2 n []) (fun k=>[Ej Ai hd k.2 (Ar rws) n []]) (fun k=>c≤k.1∧k.1≤n∧∀ j,c≤j→j<k.1→en rws j c=0) (fun k=>n-k.1) (c,cs) [1] rfl rfl rfl ⟨Nat.le_refl _,hcN,fun j h1 h2=>by dsimp only at h2;omega⟩ (by repeat (first|exact Fr.sub_nil _|refine Fr.sub_cons rfl ?_)) rfl rfl ?_
  rintro ⟨k,cs⟩ ⟨hk1,hk2,hk3⟩ ihk
  simp only [List.cons_append,List.nil_append] at hk1 hk2 hk3 ihk ⊢
  by_cases hkn:k<n
  ·refine G5 0 rfl fun hlen=>?_
   have hhd:∀ k,k<n→(hd k).2.1=n+1:=fun k hk=>by rw [hlen k hk rfl];exact hrl k hk
   have hhk:=hhd k hkn
   have hz:=hre k hkn
   have hrk:=hrl k hkn
   refine Do 1 (k) 0 (n+1) rfl rfl (by first|assumption|omega) (by first|rfl|assumption|(simp [Ag,Bd];done)|(simp [Ag,Bd];omega)) (by first|assumption|omega) fun r1 hr1=>?_
   simp only [List.take_succ_cons,List.take_zero,List.cons_append,List.nil_append]
   by_cases hz0:en rws k c=0
   ·refine wk 10 cz ?_
    intro h2
    refine Dt 0 rfl (by omega) fun b1 cap1 cs1 hr2=>?_
    subst hr2
    dsimp only
    refine wk 8 cz ?_
    intro hr2 h3
    refine Bu 1 (k) 0 0 1 rfl rfl rfl rfl (by first|assumption|omega) (by first|rfl|assumption|(simp [Ag,Bd];done)|(simp [Ag,Bd];omega)) ?_
    simp only [List.eraseIdx_cons_zero,List.eraseIdx_cons_succ,List.take_succ_cons,List.take_zero,List.cons_append,List.nil_append]
    rw [D6 (Fx hr1 hkn),show Ek (Ar rws) k (Ar rws k)=Ar rws from D6 rfl]
    exact tw (ihk (k+1,Ek cs k cs1) (by dsimp only;omega) ⟨by dsimp only;omega,by dsimp only;omega,fun j h1 h2=>by
     dsimp only at h2
     rcases Nat.lt_succ_iff_lt_or_eq.1 h2 with h|rfl
     ·exact hk3 j h1 h
     ·exact hz0⟩)
   ·clear ihk
    have hkne:¬ k=n:=by omega
    refine wk 10 cz ?_
    intro h2
    refine Dt 0 rfl (by omega) fun b1 cap1 cs1 hr2=>?_
    subst hr2
    dsimp only
    refine wk 6 cz ?_
    intro hr2 h3
    refine Bu 1 (k) 0 0 1 rfl rfl rfl rfl (by first|assumption|omega) (by first|rfl|assumption|(simp [Ag,Bd];done)|(simp [Ag,Bd];omega)) ?_
    simp only [List.eraseIdx_cons_zero,List.eraseIdx_cons_succ,List.take_succ_cons,List.take_zero,List.cons_append,List.nil_append]
    rw [D6 (Fx hr1 hkn),show Ek (Ar rws) k (Ar rws k)=Ar rws from D6 rfl]
    have z1:(Iv hd n)[k]?=some ((hd k).1,(hd k).2.1,(hd k).2.2):=K5 hkn
    have z2:(Iv hd n)[c]?=some ((hd c).1,(hd c).2.1,(hd c).2.2):=K5 hcl
    have key:∀ (ch':List Value) (hd':Nat→Hd) (cs':Nat→List Value),J Tn C [It.c (pL 59807),It.blk 1,It.c (pL 935),It.lp (pL 116),It.blk 0,It.c [1,1,1]]
      [(0,.pointer (some ⟨b,0,none⟩)),(1,.slice (ad (some bh)) n caph),(6,.int .i64 n),(7,.int .i64 c),(19,.int .i64 n),(20,.int .i64 c)]
      ((some bh,22,ch')::Da 3 hd' cs' n [])
      [Ej Ai hd' cs' (Ar (Cc rws c k)) n [],A6 Sd ⟨some bh,caph,ch'⟩ n (Iv hd' n),I2 b p m (p ^ m) pg ng cg pe (p ^ m-1) ce pl (p ^ m) cl,Ap Ai pe (p ^ m-1) ce (Jg p m md),Ap Ai pl (p ^ m) cl (Jf p m md)] (Fm C (AMl (decide (EE=n)))):=by
     clear hz hrk hlen hhd hhk hr1 z1 z2
     intro ch' hd' cs'
     have hsl:(Cc rws c k).length=n:=by rw [Cc,List.length_set,List.length_set,hl]
     have hsW:∀ i,i<n→Wd (p ^ m) (n+1) (Ar (Cc rws c k) i):=fun i hi=>Mc hM (by omega) (by omega) (by omega)
     have hsrl:∀ i,i<n→(Ar (Cc rws c k) i).length=n+1:=fun i hi=>(hsW i hi).1
     have hsre:∀ i,i<n→(Ar (Cc rws c k) i)[c]?=some (en (Cc rws c k) i c):=fun i hi=>by
      rw [en,Ba,List.getD_eq_getElem?_getD,List.getElem?_eq_getElem (by rw [hsrl i hi];omega)];rfl
     have hsen:∀ i,i<n→0≤en (Cc rws c k) i c∧en (Cc rws c k) i c<((p ^ m:Nat):Int):=fun i hi=>Bh (by omega) (hsW i hi) c
     have het:en (Cc rws c k) c c=en rws k c:=by
      rw [en,Fa (by omega) (by omega)]
      split
      ·rename_i e;rw [← e]
      ·rw [if_pos rfl]
     obtain ⟨a0,a1⟩:=hen k hkn
     refine G5 0 rfl fun hlen=>?_
     have hht:(hd' c).2.1=n+1:=by rw [hlen _ hcl rfl];exact hsrl _ hcl
     have hzt:=hsre _ hcl
     rw [het] at hzt
     have hrt:=hsrl _ hcl
     have Fi:=fun {b ng cg ce cl:Nat}{pg pe pl:Option Addr}{x:Int}=>Qf (b:=b) (ng:=ng) (cg:=cg) (ce:=ce) (cl:=cl) (pg:=pg) (pe:=pe) (pl:=pl) (x:=x) K
     have hap:0<en rws k c:=by omega
     obtain ⟨⟨v0,v1⟩,hiv⟩:=O.iv _ a0 a1 hz0
     have wt:=hsW c hcl
     refine Do 1 (c) 0 (n+1) rfl rfl (by first|assumption|omega) (by first|rfl|assumption|(simp [Ag,Bd];done)|(simp [Ag,Bd];omega)) (by first|assumption|omega) fun r1 hr1=>?_
     simp only [List.take_succ_cons,List.take_zero,List.cons_append,List.nil_append]
     have En:=fun {b ng cg ce cl b9 cap9:Nat}{cs9:List Value}{pg pe pl:Option Addr}=>Ma (b:=b) (ng:=ng) (cg:=cg) (ce:=ce) (cl:=cl) (pg:=pg) (pe:=pe) (pl:=pl) (r:=⟨some b9,cap9,cs9⟩) K v0 v1 wt (by omega)
     refine wk 5 cz ?_
     refine Dt 0 rfl (by omega) fun b2 cap2 cs2 hr3=>?_
     subst hr3
     dsimp only
     refine wk 10 (ct @Fi (ct @En cz)) ?_
     intro hr3 r'1
     refine Aa rfl (G4 (vs:=[Value.slice (ad r'1.bo) (n+1) r'1.cap]) (z:=(r'1.bo,n+1,r'1.cap)) 1 4 (c) rfl rfl rfl rfl rfl Fb (Nat.mul_one _).symm (by omega) (fun w A hG=>(Tv _ _ _)) fun cs3=>?_)
     refine wk 5 cz ?_
     simp only [setB,List.set_cons_succ,List.set_cons_zero]
     rw [K7]
     refine Bu 1 (c) 0 1 3 rfl rfl rfl rfl (by first|assumption|omega) (by first|rfl|assumption|(simp [Ag,Bd];done)|(simp [Ag,Bd];omega)) ?_
     simp only [List.eraseIdx_cons_zero,List.eraseIdx_cons_succ,List.take_succ_cons,List.take_zero,List.cons_append,List.nil_append]
     have hprW:=O.scl_wd v0 v1 (hsW _ hcl)
     generalize hpr:Ct (Ad (fM p (Ax m md))) ((iF (p ^ m) (fM p (Ax m md)) (en rws k c).toNat:Nat):Int) (Ar (Cc rws c k) c)=pr at *
     let clr:Nat→Nat→List Int:=fun i j=>if j=c then pr else if j<i then Ey (Ad (fA p m)) (Ad (fM p (Ax m md))) (C3 p m (en (Cc rws c k) j c)) pr (Ar (Cc rws c k) j) else Ar (Cc rws c k) j
     have hclW:∀ i j,j<n→Wd (p ^ m) (n+1) (clr i j):=fun i j hj=>by
      show Wd _ _ (if _ then _ else if _ then _ else _)
      split
      ·exact hprW
      ·split
       ·obtain ⟨x0,x1⟩:=hsen j hj
        have:=ADd (show 0<p by have:=K.p2;omega) m (en (Cc rws c k) j c).toNat
        exact FF.axw (Int.natCast_nonneg _) (Int.ofNat_lt.2 this) hprW (hsW j hj)
       ·exact hsW j hj
     refine Br (clr 0) 0 rfl (fun g hg=>by
      show _=if _ then _ else if _ then _ else _
      by_cases e:g=c
      ·subst e;rw [Bn,if_pos rfl]
      ·rw [C0 e,if_neg e,if_neg (Nat.not_lt_zero g)]) ?_
     simp only [setB,List.set_cons_succ,List.set_cons_zero,List.eraseIdx_cons_zero,List.take_succ_cons,List.take_zero,List.cons_append,List.nil_append]
     clear hlen hht hzt hrt wt Fi En hr3 hr1
     generalize Ek hd' c (r'1.bo,n+1,r'1.cap)=hd2 at *
     generalize Ek cs' c r'1.cs=cs2 at *
     refine Ah (X:=Nat×(Nat→List Value)) [0,1,6,7,19,20,79] [2,8,9,10] (fun x=>[(80,.int .i64 (x.1:Int))]) (fun x=>(some bh,22,cs3)::Da 3 hd2 x.2 n []) (fun x=>[Ej Ai hd2 x.2 (clr x.1) n []]) (fun x=>x.1≤n) (fun x=>n-x.1) (0,cs2) [0] rfl rfl rfl (Nat.zero_le _) (by repeat (first|exact Fr.sub_nil _|refine Fr.sub_cons rfl ?_)) rfl rfl ?_
     rintro ⟨i,cs2⟩ hi ihi
     simp only [List.cons_append,List.nil_append] at hi ihi ⊢
     by_cases hin:i<n
     ·refine G5 0 rfl fun hlen=>?_
      have hhi:(hd2 i).2.1=n+1:=by rw [hlen i hin rfl];exact (hclW i i hin).1
      have hhc:(hd2 c).2.1=n+1:=by rw [hlen c hcl rfl];exact (hclW i c hcl).1
      have hli:=(hclW i i hin).1
      obtain ⟨z,at_z⟩:∃ z,(clr i i)[c]?=some z:=⟨_,List.getElem?_eq_getElem (by rw [hli];omega)⟩
      have nxt:∀ j,j<n→j≠i→clr (i+1) j=clr i j:=fun j hj hji=>by
       show (if _ then _ else if _ then _ else _)=(if _ then _ else if _ then _ else _)
       by_cases g1:j<i
       ·rw [if_pos g1,if_pos (show j<i+1 by omega)]
       ·rw [if_neg g1,if_neg (show ¬ j<i+1 by omega)]
      by_cases hit:i=c
      ·have nxi:clr (i+1) i=clr i i:=by
        show (if _ then _ else if _ then _ else _)=(if _ then _ else if _ then _ else _)
        rw [if_pos hit,if_pos hit]
       clear_value clr
       refine Do 1 (i) 0 (n+1) rfl rfl (by first|assumption|omega) (by first|rfl|assumption|(simp [Ag,Bd];done)|(simp [Ag,Bd];omega)) (by first|assumption|omega) fun r1 hr1=>?_
       simp only [List.take_succ_cons,List.take_zero,List.cons_append,List.nil_append]
       refine wk 11 cz ?_
       intro h4
       refine Dt 0 rfl (by omega) fun b3 cap3 cs4 hr3=>?_
       subst hr3
       dsimp only
       refine wk 15 cz ?_
       intro hr3 h5
       refine Bu 1 (i) 0 0 1 rfl rfl rfl rfl (by first|assumption|omega) (by first|rfl|assumption|(simp [Ag,Bd];done)|(simp [Ag,Bd];omega)) ?_
       simp only [List.eraseIdx_cons_zero,List.eraseIdx_cons_succ,List.take_succ_cons,List.take_zero,List.cons_append,List.nil_append]
       rw [D6 (Fx (by assumption) hin)]
       refine Br (clr (i+1)) 0 rfl (fun g hg=>by
        by_cases e:g=i
        ·subst e;rw [Bn,nxi]
        ·rw [C0 e,nxt g hg e]) ?_
       exact tw (ihi (i+1,Ek cs2 i cs4) (by dsimp only;omega) (by dsimp only;omega))
      ·have cli:clr i i=Ar (Cc rws c k) i:=by
        show (if _ then _ else if _ then _ else _)=_
        rw [if_neg hit,if_neg (Nat.lt_irrefl i)]
       have nxi:clr (i+1) i=Ey (Ad (fA p m)) (Ad (fM p (Ax m md))) (C3 p m (en (Cc rws c k) i c)) pr (Ar (Cc rws c k) i):=by
        show (if _ then _ else if _ then _ else _)=_
        rw [if_neg hit,if_pos (Nat.lt_succ_self i)]
       have clt:clr i c=pr:=if_pos rfl
       have ez:z=en (Cc rws c k) i c:=by
        rw [cli,hsre i hin] at at_z;exact (Option.some.inj at_z).symm
       obtain ⟨z0,z1⟩:=hsen i hin
       rw [← ez] at nxi z0 z1
       have clL:=(hclW i c hcl).1
       have hprL:=hprW.1
       clear_value clr
       by_cases hz9:z=0
       ·rw [hz9,show C3 p m 0=0 by rw [C3];exact congrArg Int.ofNat (AIY p m),AEE FF hprW (hsW i hin),← cli] at nxi
        refine Do 1 (i) 0 (n+1) rfl rfl (by first|assumption|omega) (by first|rfl|assumption|(simp [Ag,Bd];done)|(simp [Ag,Bd];omega)) (by first|assumption|omega) fun r1 hr1=>?_
        simp only [List.take_succ_cons,List.take_zero,List.cons_append,List.nil_append]
        refine wk 11 cz ?_
        intro h4
        refine Dt 0 rfl (by omega) fun b3 cap3 cs4 hr3=>?_
        subst hr3
        dsimp only
        refine wk 15 cz ?_
        intro hr3 h5 h6
        refine Bu 1 (i) 0 0 1 rfl rfl rfl rfl (by first|assumption|omega) (by first|rfl|assumption|(simp [Ag,Bd];done)|(simp [Ag,Bd];omega)) ?_
        simp only [List.eraseIdx_cons_zero,List.eraseIdx_cons_succ,List.take_succ_cons,List.take_zero,List.cons_append,List.nil_append]
        rw [D6 (Fx (by assumption) hin)]
        refine Br (clr (i+1)) 0 rfl (fun g hg=>by
         by_cases e:g=i
         ·subst e;rw [Bn,nxi]
         ·rw [C0 e,nxt g hg e]) ?_
        exact tw (ihi (i+1,Ek cs2 i cs4) (by dsimp only;omega) (by dsimp only;omega))
       ·have hmb:Bd c [i]=false:=by
         rw [Ag,decide_eq_false (fun e=>hit e.symm)];rfl
        refine Do 1 (i) 0 (n+1) rfl rfl (by first|assumption|omega) (by first|rfl|assumption|(simp [Ag,Bd];done)|(simp [Ag,Bd];omega)) (by first|assumption|omega) fun r1 hr1=>?_
        simp only [List.take_succ_cons,List.take_zero,List.cons_append,List.nil_append]
        refine Do 2 (c) 1 (n+1) rfl rfl (by first|assumption|omega) (by first|rfl|assumption|(simp [Ag,Bd];done)|(simp [Ag,Bd];omega)) (by first|assumption|omega) fun r2 hr3=>?_
        simp only [List.take_succ_cons,List.take_zero,List.cons_append,List.nil_append]
        refine wk 11 cz ?_
        intro h4
        refine Dt 2 rfl (by omega) fun b3 cap3 cs4 hr4=>?_
        subst hr4
        dsimp only
        refine wk 19 cz ?_
        intro hr4 h5 h6
        have eqi:=Fx (by assumption) hin
        have eqc:=Fx (by assumption) hcl
        rw [show clr i i=axK (Ad (fA p m)) (Ad (fM p (Ax m md))) (C3 p m z) pr (clr i i) 0 from AGJ.symm]
        refine Ah (X:=Nat×List Value) [0,1,6,7,11,12,19,20,79,80,100,101] [0,1,5,6,7,8] (fun x=>[(102,.int .i64 (x.1:Int))]) (fun x=>(r2.bo,3,r2.cs)::(some b3,3,x.2)::(some bh,22,cs3)::Da 3 hd2 cs2 n [c,i]) (fun x=>[A6 Ai ⟨some b3,cap3,x.2⟩ (n+1) (axK (Ad (fA p m)) (Ad (fM p (Ax m md))) (C3 p m z) pr (clr i i) x.1)]) (fun x=>x.1≤n+1) (fun x=>n+1-x.1) (0,cs4) [2] rfl rfl rfl (Nat.zero_le _) (by repeat (first|exact Fr.sub_nil _|refine Fr.sub_cons rfl ?_)) rfl rfl ?_
        rintro ⟨j,cs5⟩ hj ihj
        simp only [List.cons_append,List.nil_append] at hj ihj ⊢
        have hKl:=AJn (A:=Ad (fA p m)) (M:=Ad (fM p (Ax m md))) (a:=C3 p m z) (j:=j) hprL hli
        by_cases hjn:j<n+1
        ·have at_x:=AKu (A:=Ad (fA p m)) (M:=Ad (fM p (Ax m md))) (a:=C3 p m z) hprL hli hjn
         have at_y:(clr i c)[j]?=some (Ba pr j):=by rw [clt,Ba,List.getD_eq_getElem?_getD,List.getElem?_eq_getElem (by omega)];rfl
         obtain ⟨x0,x1⟩:=Bh (show 0<p ^ m by omega) (hclW i i hin) j
         obtain ⟨y0,y1⟩:=Bh (show 0<p ^ m by omega) hprW j
         obtain ⟨p0,p1⟩:=FF.ml z (Ba pr j) z0 z1 y0 y1
         have ih':=fun cs=>ihj (j+1,cs) (by dsimp only;omega) (by dsimp only;omega)
         dsimp only at ih'
         rw [← AJi hprL hli hjn,← FO.nml O z0 z1 y0 y1] at ih'
         obtain ⟨⟨v0',v1'⟩,_⟩:=O.ng _ p0 p1
         obtain ⟨s0,s1⟩:=FF.al (Ba (clr i i) j) _ x0 x1 v0' v1'
         have A8:=fun {b ng cg ce cl:Nat}{pg pe pl:Option Addr}=>C1 (b:=b) (ng:=ng) (cg:=cg) (ce:=ce) (cl:=cl) (pg:=pg) (pe:=pe) (pl:=pl) (x:=z) (y:=Ba pr j) K z0 z1 y0 y1
         have Kp:=fun {b ng cg ne ce nl cl:Nat}{pg pe pl:Option Addr}=>Qj (b:=b) (ng:=ng) (cg:=cg) (ne:=ne) (ce:=ce) (nl:=nl) (cl:=cl) (pg:=pg) (pe:=pe) (pl:=pl) (x:=Ba (clr i i) j) (y:=Ad (fM p (Ax m md)) z (Ba pr j)) K x0 x1 p0 p1
         generalize Ad (fM p (Ax m md)) z (Ba pr j)=v at *
         generalize Ba pr j=y at *
         generalize axK (Ad (fA p m)) (Ad (fM p (Ax m md))) (C3 p m z) pr (clr i i) j=L at *
         generalize Ba (clr i i) j=x at *
         generalize hs9:Ad (fA p m) x (C3 p m v)=s9 at *
         refine wk 6 cz ?_
         intro h7
         refine Dt 1 rfl (by omega) fun b4 cap4 cs6 hr5=>?_
         subst hr5
         dsimp only
         refine wk 6 (ct @A8 (ct @Kp cz)) ?_
         intro hr5
         refine Aa rfl (G4 (vs:=[Value.int IntKind.i64 s9]) (z:=(s9:Int)) 1 0 (j) rfl rfl rfl rfl rfl Ci (Nat.mul_one _).symm (by omega) (fun w A hG=>(Dh (by first|(simp only [Bv];omega)|(simp [Bv];done)))) fun cs7=>?_)
         refine wk 3 cz ?_
         exact tw (ih' cs7)
        ·obtain rfl:j=n+1:=by omega
         rw [AJy hprL hli]
         clear ihj
         refine wk 7 cz ?_
         intro h7
         refine Bu 2 (c) 0 1 2 rfl rfl rfl rfl (by first|assumption|omega) (by first|rfl|assumption|(simp [Ag,Bd];done)|(simp [Ag,Bd];omega)) ?_
         simp only [List.eraseIdx_cons_zero,List.eraseIdx_cons_succ,List.take_succ_cons,List.take_zero,List.cons_append,List.nil_append]
         refine Bu 1 (i) 0 1 0 rfl rfl rfl rfl (by first|assumption|omega) (by first|rfl|assumption|(simp [Ag,Bd];done)|(simp [Ag,Bd];omega)) ?_
         simp only [List.eraseIdx_cons_zero,List.eraseIdx_cons_succ,List.take_succ_cons,List.take_zero,List.cons_append,List.nil_append]
         rw [← eqc,D6 rfl,← clt,D6 rfl,D6 eqi]
         refine Br (clr (i+1)) 0 rfl (fun g hg=>by
          by_cases e:g=i
          ·subst e;rw [Bn,nxi,clt,cli]
          ·rw [C0 e,nxt g hg e]) ?_
         exact tw (ihi (i+1,Ek (Ek cs2 c r2.cs) i cs5) (by dsimp only;omega) (by dsimp only;omega))
     ·obtain rfl:i=n:=by omega
      have eF:Hp rws c c=some k:=Zj hk1 (by omega) hz0 hk3
      have eC:i-c=i-(c+1)+1:=by omega
      rw [eC,J9,Ds,eF] at hE
      dsimp only at hE
      rw [List.length_cons] at hE
      refine Br (Ar (Ka (Ad (fA p m)) (Ad (fM p (Ax m md))) (C3 p m) (Hi p m md) c k c rws)) 0 rfl (fun g hg=>by
       rw [M3 (by omega)]
       show (if _ then _ else if _ then _ else _)=_
       have hcc:Ar (Cc rws c k) c=Ar rws k:=by
        rw [Fa (by omega) (by omega)]
        split
        ·rename_i e;rw [← e]
        ·rw [if_pos rfl]
       by_cases e:g=c
       ·rw [if_pos e,if_pos e,← hpr,hcc]
       ·rw [if_neg e,if_neg e,if_pos hg,← hpr,hcc]) ?_
      have hpw:=O.piv_wd hM (t:=c) (k:=k) (c:=c) (by omega) (by omega) hz0
      have ih':=ih (c+1,cs3,hd2,cs2,Ka (Ad (fA p m)) (Ad (fM p (Ax m md))) (C3 p m) (Hi p m md) c k c rws) (by dsimp only;omega) ⟨by dsimp only;omega,by dsimp only;rw [Hh];exact hl,hpw,by dsimp only;rw [J9];omega⟩
      clear ihi ih
      refine wk 7 cz ?_
      intro h4
      exact tw (ih')
    refine wk 4 cz ?_
    intro h4
    (apply Ga (x0:=none) it mx 0 13 [2,3] 1;(· rfl);(· rfl);(· rfl);(· decide))
    simp only [List.drop_zero]
    (apply A3 6;(· rfl);(· simp))
    (apply Ac;(· rfl);(· exact Cf fun _=>Be (k) (k) rfl rfl D5 rfl (by omega) (Nat.mul_one _) An))
    (apply Ac;(· rfl);(· exact F4 0 4 (k) rfl rfl rfl Fb rfl (by assumption)))
    dsimp only
    (apply A3 2;(· rfl);(· simp))
    (apply Ac;(· rfl);(· exact Cf fun _=>Be (c) (c) rfl rfl D5 rfl (by omega) (Nat.mul_one _) An))
    (apply Ac;(· rfl);(· exact F4 0 4 (c) rfl rfl rfl Fb rfl (by assumption)))
    dsimp only
    (apply Ac;(· rfl);(· exact Cf fun _=>Be (c) (c) rfl rfl D5 rfl (by omega) (Nat.mul_one _) An))
    refine Fl rfl ?_
    (rotate_left;rfl;rotate_right)
    simp only [List.map_cons,List.map_nil,List.cons_append,List.nil_append]
    refine Gq it rfl rfl ⟨⟨_,_,_,_,rfl,rfl,rfl,rfl,rfl,rfl,(by first|trivial|(repeat' first|exact trivial|apply And.intro|omega))⟩,⟨⟨_,_,_,_,rfl,rfl,rfl,rfl,rfl,rfl,(by first|trivial|(repeat' first|exact trivial|apply And.intro|omega))⟩,trivial⟩⟩ (G4 (vs:=[Value.slice (ad (hd k).fst) (hd k).snd.fst (hd k).snd.snd]) (z:=((hd k).fst,(hd k).snd.fst,(hd k).snd.snd)) 0 4 (c) rfl rfl rfl rfl rfl Fb (Nat.mul_one _).symm (by omega) (fun w A hG=>(Tv _ _ _)) fun cs2=>?_)
    refine H8 it ⟨⟨_,_,_,_,rfl,rfl,rfl,rfl,rfl,rfl,(by first|trivial|(repeat' first|exact trivial|apply And.intro|omega))⟩,⟨⟨_,_,_,_,rfl,rfl,rfl,rfl,rfl,rfl,(by first|trivial|(repeat' first|exact trivial|apply And.intro|omega))⟩,trivial⟩⟩ ?_
    refine wk 1 cz ?_
    refine Aa rfl (G4 (vs:=[Value.slice (ad (hd c).fst) (hd c).snd.fst (hd c).snd.snd]) (z:=((hd c).fst,(hd c).snd.fst,(hd c).snd.snd)) 0 0 (k) rfl rfl rfl rfl rfl Fb (Nat.mul_one _).symm (by omega) (fun w A hG=>(Tv _ _ _)) fun cs3=>?_)
    refine Xt 1 [.c (pL 59807),.blk 1,.c (pL 935),.lp (pL 116),.blk 0,.c [1,1,1]] rfl ?_
    simp only [setB,List.set_cons_succ,List.set_cons_zero]
    rw [K7,K7]
    by_cases hkt:k=c
    ·refine Br (Ar (Cc rws c k)) 2 rfl (fun g hg=>by
      rw [Fa (by omega) (by omega),hkt]
      split
      ·rename_i e;rw [e]
      ·rfl) ?_
     rw [show Ek (Ek hd c ((hd k).1,(hd k).2.1,(hd k).2.2)) k ((hd c).1,(hd c).2.1,(hd c).2.2)=hd from by
      subst hkt;exact (D6 (f:=Ek hd k _) (Bn ..)).trans (D6 rfl)]
     exact tw (key cs3 hd (Ek cs k cs1))
    ·have hht:=hhd c hcl
     have hmb:Bd k [c]=false:=by
      rw [Ag,decide_eq_false hkt];rfl
     refine Do 1 (c) 2 (n+1) rfl rfl (by first|assumption|omega) (by first|rfl|assumption|(simp [Ag,Bd];done)|(simp [Ag,Bd];omega)) (by first|assumption|omega) fun r1 hr3=>?_
     simp only [List.take_succ_cons,List.take_zero,List.cons_append,List.nil_append]
     refine Do 2 (k) 1 (n+1) rfl rfl (by first|assumption|omega) (by first|rfl|assumption|(simp [Ag,Bd];done)|(simp [Ag,Bd];omega)) (by first|assumption|omega) fun r2 hr4=>?_
     simp only [List.take_succ_cons,List.take_zero,List.cons_append,List.nil_append]
     refine Bu 2 k 1 2 1 rfl rfl rfl rfl hkn hmb ?_
     simp only [List.eraseIdx_cons_zero,List.eraseIdx_cons_succ,List.take_succ_cons,List.take_zero,List.cons_append,List.nil_append]
     refine Bu 1 c 0 1 0 rfl rfl rfl rfl hcl rfl ?_
     simp only [List.eraseIdx_cons_zero,List.eraseIdx_cons_succ,List.take_succ_cons,List.take_zero,List.cons_append,List.nil_append]
     have e1:hd c=(r1.bo,n+1,r1.cap):=Fx (by assumption) hcl
     have e2:hd k=(r2.bo,n+1,r2.cap):=Fx (by assumption) hkn
     rw [show Ek (Ek hd k (r1.bo,n+1,r1.cap)) c (r2.bo,n+1,r2.cap)=Ek (Ek hd c ((hd k).1,(hd k).2.1,(hd k).2.2)) k ((hd c).1,(hd c).2.1,(hd c).2.2) from by
      show Ek (Ek hd k (r1.bo,n+1,r1.cap)) c (r2.bo,n+1,r2.cap)=Ek (Ek hd c (hd k)) k (hd c)
      rw [← e1,← e2]
      funext j
      by_cases g1:j=k
      ·subst g1
       rw [Bn,C0 hkt,Bn]
      ·rw [C0 g1]
       by_cases g2:j=c
       ·rw [g2,Bn,Bn]
       ·rw [C0 g2,C0 g2,C0 g1]]
     refine Br (Ar (Cc rws c k)) 0 rfl (fun g hg=>by
      rw [Fa (by omega) (by omega)]
      by_cases g1:g=k
      ·subst g1
       rw [if_pos rfl,C0 hkt,Bn]
      ·rw [if_neg g1]
       by_cases g2:g=c
       ·rw [if_pos g2,g2,Bn]
       ·rw [if_neg g2,C0 g2,C0 g1]) ?_
     exact tw (key cs3 (Ek (Ek hd c ((hd k).1,(hd k).2.1,(hd k).2.2)) k ((hd c).1,(hd c).2.1,(hd c).2.2)) (Ek (Ek (Ek cs k cs1) k r1.cs) c r2.cs))
  ·obtain rfl:k=n:=by omega
   have hF:Hp rws c c=none:=AAq fun j h1 h2=>hk3 j h1 (by omega)
   have hne:¬ EE=k:=by
    have h1:k-c=(k-c-1)+1:=by omega
    rw [h1,J9,Ds,hF] at hE
    have:=Za (A:=Ad (fA p m)) (M:=Ad (fM p (Ax m md))) (N:=C3 p m) (V:=Hi p m md) (k-c-1) (c+1) c rws
    dsimp only at hE
    omega
   rw [decide_eq_false hne]
   clear ihk ih
   refine wk 16 cz ?_
   intro h2 h3
   refine Bj [] rfl (.tmp rfl (.tmp rfl .nil)) rfl ⟨none,0,0,rfl,rfl,rfl⟩
 ·obtain rfl:c=n:=by omega
  have:EE=c:=by rw [Nat.sub_self] at hE;rw [← hE,J9,Ds];simp
  rw [decide_eq_true this]
  clear ih
  refine wk 13 cz ?_
  intro h1 b1
  rw [show Ao .i64 (List.replicate c 0)=Al .i64 (List.replicate c 0) by simp [Ao,Al]]
  refine Ah (X:=Nat×(Nat→List Value)×List Int) [0,1,6,15,131,132] [0,2,3,4] (fun x=>[(133,.int .i64 (x.1:Int))]) (fun x=>(some b1,3,Al .i64 x.2.2)::(some bh,22,ch)::Da 3 hd x.2.1 c []) (fun x=>[Ej Ai hd x.2.1 (Ar rws) c []]) (fun x=>x.1≤c∧x.2.2.length=c) (fun x=>c-x.1) (0,cs,List.replicate c 0) [1] rfl rfl rfl ⟨Nat.zero_le _,by simp⟩ (by repeat (first|exact Fr.sub_nil _|refine Fr.sub_cons rfl ?_)) rfl rfl ?_
  rintro ⟨i,cs,L⟩ ⟨hi,hLl⟩ ih
  simp only [List.cons_append,List.nil_append] at hi hLl ih ⊢
  by_cases hin:i<c
  ·refine G5 0 rfl fun hlen=>?_
   have hrw:=hM.row (i:=i) (by omega)
   have hhi:(hd i).2.1=c+1:=by rw [hlen i hin rfl];exact hrw.1
   have hrl:=hrw.1
   have at_z:(Ar rws i)[c]?=some (en rws i c):=by
    rw [en,Ba,List.getD_eq_getElem?_getD,List.getElem?_eq_getElem (by omega)];rfl
   obtain ⟨z0,z1⟩:=Bh (by omega) hrw c
   have ih':=fun cs'=>ih (i+1,cs',L.set i (en rws i c)) (by dsimp only;omega) ⟨by dsimp only;omega,by dsimp only;rw [List.length_set];exact hLl⟩
   clear ih
   generalize en rws i c=z at *
   refine Do 2 (i) 0 (c+1) rfl rfl (by first|assumption|omega) (by first|rfl|assumption|(simp [Ag,Bd];done)|(simp [Ag,Bd];omega)) (by first|assumption|omega) fun r1 hr1=>?_
   simp only [List.take_succ_cons,List.take_zero,List.cons_append,List.nil_append]
   refine wk 11 cz ?_
   intro h2
   refine Dt 0 rfl (by omega) fun b2 cap1 cs1 hr2=>?_
   subst hr2
   dsimp only
   refine wk 7 cz ?_
   intro hr2
   refine Bu 2 (i) 0 0 1 rfl rfl rfl rfl (by first|assumption|omega) (by first|rfl|assumption|(simp [Ag,Bd];done)|(simp [Ag,Bd];omega)) ?_
   simp only [List.eraseIdx_cons_zero,List.eraseIdx_cons_succ,List.take_succ_cons,List.take_zero,List.cons_append,List.nil_append]
   simp only [setB,List.set_cons_succ,List.set_cons_zero,List.eraseIdx_cons_zero,List.take_succ_cons,List.take_zero,List.cons_append,List.nil_append]
   rw [D6 (Fx (by assumption) hin),show Ek (Ar rws) i (Ar rws i)=Ar rws from D6 rfl]
   exact tw (ih' (Ek cs i cs1))
  ·obtain rfl:i=c:=by omega
   clear ih
   refine wk 7 cz ?_
   intro h2
   refine Bj [] rfl (.tmp rfl (.tmp rfl .nil)) rfl ⟨_,_,_,rfl,rfl,rfl⟩
end
open Go Go.Fw
set_option maxRecDepth 100000
set_option linter.unusedVariables false
set_option linter.unusedSimpArgs false
set_option maxHeartbeats 0
def syL (M:Nat→Nat→Nat) (p m d:Nat) (l:List Nat) (r:List Int):List (List Int):=(List.range (m / d)).map fun i=>(l.map fun x=>((Mx (Mu M p (d % m)) i x:Nat):Int))++[Ba r i]
def syS (T:List Int) (k j:Nat):List Int:=T.take j++(List.replicate (k-j) 0++T.drop k)
theorem AET {T:List Int}{k j:Nat}(hT:T.length=k+1) (hj:j≤k):(syS T k j).length=k+1:=by
 simp only [syS,List.length_append,List.length_take,List.length_replicate,List.length_drop,hT];omega
theorem AIT {T:List Int}{k:Nat}:syS T k k=T:=by rw [syS,Nat.sub_self,List.replicate_zero,List.nil_append,List.take_append_drop]
theorem AHl {T:List Int}{k:Nat}{z:Int}(hT:T.length=k+1) (hz:T[k]?=some z):(List.replicate (k+1) (0:Int)).set k z=syS T k 0:=by
 rw [syS,List.take_zero,List.nil_append,Nat.sub_zero,List.replicate_succ',List.set_append_right _ _ (by simp),List.length_replicate,Nat.sub_self,List.set_cons_zero]
 congr 1
 rw [List.drop_eq_getElem_cons (by omega),List.drop_of_length_le (by omega)]
 rw [List.getElem?_eq_getElem (by omega)] at hz
 rw [Option.some.inj hz]
theorem AJm {T:List Int}{k j:Nat}{y:Int}(hT:T.length=k+1) (hj:j<k) (hy:T[j]?=some y):(syS T k j).set j y=syS T k (j+1):=by
 have h1:(T.take j).length=j:=by rw [List.length_take];omega
 obtain ⟨e,he⟩:∃ e,k-j=e+1:=⟨k-j-1,by omega⟩
 rw [syS,syS,List.set_append_right _ _ (by omega),h1,Nat.sub_self,he,List.replicate_succ,List.cons_append,List.set_cons_zero,show k-(j+1)=e by omega,List.take_succ_eq_append_getElem (by omega),List.append_assoc,List.singleton_append]
 rw [List.getElem?_eq_getElem (by omega)] at hy
 rw [Option.some.inj hy]
theorem AIQ {T:List Int}{k j:Nat}(hT:∀ z∈T,Bv .i64 z):∀ z∈syS T k j,Bv .i64 z:=fun z hz=>by
 rcases List.mem_append.1 hz with hz|hz
 ·exact hT z (List.mem_of_mem_take hz)
 rcases List.mem_append.1 hz with hz|hz
 ·rw [(List.mem_replicate.1 hz).2];simp [Bv]
 ·exact hT z (List.mem_of_mem_drop hz)
section
variable {b p m n k ng cg ce cl d cL cR:Nat}{pg pe pl pX0 pR:Option Addr}{l:List Nat}{r md:List Int}
theorem Zu (K:Fok p m md) (d1:1≤d) (d8:d≤8) (hn:m / d=n) (hn0:0<n) (hlk:l.length=k) (hk:k≤64) (hlq:∀ x∈l,x<p ^ m) (hrl:r.length=n) (hrr:∀ z∈r,Bv .i64 z) :
  Bs Tryz.prog 217 [.pointer (some ⟨b,0,none⟩),.slice pX0 k cL,.int .i64 (d:Int),.slice pR n cR] []
   [I2 b p m (p ^ m) pg md.length cg pe (p ^ m-1) ce pl (p ^ m) cl,Ap Ai pg md.length cg md,Ap Ai pe (p ^ m-1) ce (Jg p m md),Ap Ai pl (p ^ m) cl (Jf p m md),Ap Ai pX0 k cL (Bc l),Ap Ai pR n cR r]
   (fun v Φ β=>∃ (rh:Row) (hd:Nat→Hd) (cs:Nat→List Value),v = .slice (ad rh.bo) n rh.cap∧Φ=[A6 Sd rh n (Iv hd n),Ej Ai hd cs (Ar (syL (fM p (Ax m md)) p m d l r)) n []]∧β=(rh.bo,22,rh.cs)::Da 3 hd cs n []):=by
 refine Ab (F:=AAr) rfl fun C=>?_
 have hm:=K.m8
 have hn8:n≤8:=by have:=Nat.div_le_self m d;omega
 have hq:=K.q
 have hTl:∀ i,i<n→(Ar (syL (fM p (Ax m md)) p m d l r) i).length=k+1:=fun i hi=>by
  rw [Ar,syL,List.getD_eq_getElem?_getD,List.getElem?_map,List.getElem?_range (by omega)];simp [hlk]
 have hTk:∀ i,i<n→(Ar (syL (fM p (Ax m md)) p m d l r) i)[k]?=some (Ba r i):=fun i hi=>by
  rw [Ar,syL,List.getD_eq_getElem?_getD,List.getElem?_map,List.getElem?_range (by omega)]
  show (_++[Ba r i])[k]?=_
  rw [List.getElem?_append_right (by simp [hlk]),List.length_map,hlk,Nat.sub_self];rfl
 have hTj:∀ i,i<n→∀ (j x:Nat),l[j]?=some x→(Ar (syL (fM p (Ax m md)) p m d l r) i)[j]?=some ((Mx (Mu (fM p (Ax m md)) p (d % m)) i x:Nat):Int):=fun i hi j x hx=>by
  rw [Ar,syL,List.getD_eq_getElem?_getD,List.getElem?_map,List.getElem?_range (by omega)]
  show (_++[Ba r i])[j]?=_
  have:=(List.getElem?_eq_some_iff.1 hx).1
  rw [List.getElem?_append_left (by rw [List.length_map];exact this),List.getElem?_map,hx];rfl
 have hTr:∀ i,i<n→∀ z∈Ar (syL (fM p (Ax m md)) p m d l r) i,Bv .i64 z:=fun i hi z hz=>by
  rw [Ar,syL,List.getD_eq_getElem?_getD,List.getElem?_map,List.getElem?_range (by omega)] at hz
  rcases List.mem_append.1 hz with hz|hz
  ·obtain ⟨x,hx,rfl⟩:=List.mem_map.1 hz
   have:=Pz (f:=Mu (fM p (Ax m md)) p (d % m)) (fun y hy=>Nr K hy (d % m)) (hlq x hx) i
   simp only [Bv];omega
  ·rw [List.mem_singleton.1 hz,Ba,List.getD_eq_getElem?_getD,List.getElem?_eq_getElem (by omega)]
   exact hrr _ (List.getElem_mem _)
 have Cq:=fun {b cg ce cl x:Nat}{pg pe pl:Option Addr}(hx:x<p ^ m)=>(K1 (b:=b) (cg:=cg) (ce:=ce) (cl:=cl) (pg:=pg) (pe:=pe) (pl:=pl) K hx d1 d8).pubR (by show m / d*8≤140737488355328;omega)
 have hE:∀ x,Rp (fM p (Ax m md)) p m d x=(List.range n).map fun i=>Mx (Mu (fM p (Ax m md)) p (d % m)) i x:=fun x=>by rw [Rp,hn]
 rw [hn] at Cq
 generalize syL (fM p (Ax m md)) p m d l r=T at *
 have hk1:(k+1:Int).toNat=k+1:=by omega
 refine wk 5 cz ?_
 refine Aa rfl (ACj (n) _ rfl rfl D5 I5 rfl rfl Nd (by omega) (by omega) (by omega) fun b1=>?_)
 refine wk 6 cz ?_
 refine AHP 0 rfl (by omega) fun csA=>?_
 refine AAs Ai 3 0 ?_
 simp only [setB,List.cons_append,List.nil_append]
 refine Br (fun i=>syS (Ar T i) k 0) 0 rfl (fun g hg=>absurd hg (Nat.not_lt_zero g)) ?_
 refine Ah (X:=Nat×List Value×(Nat→Hd)×(Nat→List Value)) [0,1,2,3,8,9,19] [3,4,5,6,7,8] (fun x=>[(20,.int .i64 (x.1:Int))])
  (fun x=>(some b1,22,x.2.1)::Da 3 x.2.2.1 x.2.2.2 x.1 [])
  (fun x=>[A6 Sd ⟨some b1,n,x.2.1⟩ n (Iv x.2.2.1 n),Ej Ai x.2.2.1 x.2.2.2 (fun i=>syS (Ar T i) k 0) x.1 []])
  (fun x=>x.1≤n) (fun x=>n-x.1) (0,csA,fun _=>(none,0,0),fun _=>[]) [2,0] rfl rfl rfl (Nat.zero_le _) (by repeat (first|exact Fr.sub_nil _|refine Fr.sub_cons rfl ?_)) rfl rfl ?_
 rintro ⟨i,ch,hd,cs⟩ hi ih
 simp only [List.cons_append,List.nil_append] at hi ih ⊢
 by_cases hil:i<n
 ·have at_y:r[i]?=some (Ba r i):=by
   rw [Ba,List.getD_eq_getElem?_getD,List.getElem?_eq_getElem (by omega)];rfl
  refine wk 12 cz ?_
  intro h1 b2
  refine Aa rfl (G4 (vs:=[Value.slice (some { block:=b2,off:=0 }) (k+1) (k+1)]) (z:=(some b2,k+1,k+1)) 1 0 (i) rfl rfl rfl rfl rfl Fb (Nat.mul_one _).symm (by omega) (fun w A hG=>(Tv (some _) _ _)) fun cs1=>?_)
  refine wk 1 cz ?_
  simp only [setB]
  rw [K7]
  have hz:(Iv (Ek hd i (some b2,k+1,k+1)) n)[i]?=some (some b2,k+1,k+1):=by
   rw [Iv,List.getElem?_map,List.getElem?_range hil,Option.map_some,Bn]
  rw [show Ao .i64 (List.replicate (k+1) 0)=Al .i64 (List.replicate (k+1) 0) by simp [Ao,Al]]
  have hrl2:(List.replicate (k+1) (0:Int)).length=k+1:=List.length_replicate
  have hs0:(List.replicate (k+1) (0:Int)).set k (r.getD i default)=syS (Ar T i) k 0:=AHl (hTl i hil) (hTk i hil)
  have hsl:=AET (hTl i hil) (Nat.zero_le k)
  have hsr:=AIQ (k:=k) (j:=0) (hTr i hil)
  generalize List.replicate (k+1) (0:Int)=Z at *
  (apply E7 it mx 10;(· rfl);(· rfl))
  (apply A3 2;(· rfl);(· simp))
  (apply Ac;(· rfl);(· exact Cf fun _=>Be (i) (i) rfl rfl D5 rfl (by omega) (Nat.mul_one _) An))
  (apply Ac;(· rfl);(· exact F4 1 0 (i) rfl rfl rfl Fb rfl (by assumption)))
  dsimp only
  (apply A3 1;(· rfl);(· simp))
  (apply Ac;(· rfl);(· exact Cf fun _=>G6 Cb rfl An))
  (apply A3 2;(· rfl);(· simp))
  (apply ACH;(· rfl);(· exact Cf fun _=>Io 8 (i) rfl rfl rfl Cb rfl (by omega) fun z1 hz1 b3 o1=>(ACz default hz1 0 rfl));intro b3 o1)
  (apply Ac;(· rfl);(· exact Cf fun _=>Av 0 rfl rfl Ci fun ⟨r1,r2⟩=>An))
  refine Eu rfl ?_
  simp only [List.map_cons,List.map_nil,List.cons_append,List.nil_append]
  refine Aa rfl (Be (k) (k) rfl rfl Cb rfl (by omega) (Nat.mul_one _) ?_)
  refine Aa rfl (Xs 0 rfl rfl rfl Ci (by first|omega|(simp;omega)) ?_)
  refine Am [_,_,_,_] rfl ?_
  refine Ae it 2 rfl ⟨trivial,⟨by omega,by omega⟩,trivial⟩ ?_
  refine Xt 1 [.lp (pL 116),.blk 0,.c [1,1,1]] rfl ?_
  simp only [setB,List.set_cons_zero]
  rw [hs0]
  refine Bl 0 rfl hsl.symm hsr (by omega) ?_
  refine AEJ 1 0 0 4 rfl rfl rfl rfl ?_
  simp only [List.eraseIdx_cons_zero,List.eraseIdx_cons_succ,List.take_succ_cons,List.take_zero,List.cons_append,List.nil_append]
  refine Br (fun i=>syS (Ar T i) k 0) 0 rfl (fun g hg=>by
   by_cases e:g=i
   ·subst e
    rw [Bn]
   ·rw [C0 e]) ?_
  exact tw (ih (i+1,cs1,Ek hd i (some b2,k+1,k+1),Ek cs i (Al .i64 (syS (Ar T i) k 0))) (by dsimp only;omega) (by dsimp only;omega))
 ·obtain rfl:i=n:=by omega
  clear ih
  refine wk 9 cz ?_
  intro h1
  refine Ah (X:=Nat×(Nat→List Value)) [0,2,8,9,42,43] [0,2,3,4,5,6,7] (fun x=>[(44,.int .i64 (x.1:Int))])
   (fun x=>(some b1,22,ch)::Da 3 hd x.2 i []) (fun x=>[Ej Ai hd x.2 (fun g=>syS (Ar T g) k x.1) i []])
   (fun x=>x.1≤k) (fun x=>k-x.1) (0,cs) [1] rfl rfl rfl (Nat.zero_le _) (by repeat (first|exact Fr.sub_nil _|refine Fr.sub_cons rfl ?_)) rfl rfl ?_
  rintro ⟨j,cs⟩ hj ih
  simp only [List.cons_append,List.nil_append] at hj ih ⊢
  by_cases hjk:j<k
  ·obtain ⟨x,hx⟩:∃ x,l[j]?=some x:=⟨_,List.getElem?_eq_getElem (by omega)⟩
   have at_x:(Bc l)[j]?=some ((x:Nat):Int):=by rw [Bc,List.getElem?_map,hx];rfl
   have hxq:=hlq x (List.mem_of_getElem? hx)
   have Cq:=fun {b cg ce cl:Nat}{pg pe pl:Option Addr}=>Cq (b:=b) (cg:=cg) (ce:=ce) (cl:=cl) (pg:=pg) (pe:=pe) (pl:=pl) hxq
   have hEL:(Rp (fM p (Ax m md)) p m d x).length=i:=by rw [hE];simp
   have hEa:∀ g,g<i→(Bc (Rp (fM p (Ax m md)) p m d x))[g]?=some ((Mx (Mu (fM p (Ax m md)) p (d % m)) g x:Nat):Int):=fun g hg=>by
    rw [hE,Bc,List.getElem?_map,List.getElem?_map,List.getElem?_range hg];rfl
   have hTx:=fun g (hg:g<i)=>hTj g hg j x hx
   have hit:=fun g=>Pz (f:=Mu (fM p (Ax m md)) p (d % m)) (fun y hy=>Nr K hy (d % m)) hxq g
   have ih':=fun cs=>ih (j+1,cs) (by dsimp only;omega) (by dsimp only;omega)
   clear ih
   generalize Rp (fM p (Ax m md)) p m d x=L at *
   refine wk 7 cz ?_
   intro h2 b2 o1 hz1
   refine Aa rfl (Av 0 rfl rfl Ci fun ⟨r1,r2⟩=>?_)
   refine wk 7 (ct @Cq cz) ?_
   intro pa1 ca1
   refine Br (fun g=>syS (Ar T g) k (if g<0 then j+1 else j)) 2 rfl (fun g hg=>by rw [if_neg (Nat.not_lt_zero g)]) ?_
   simp only [List.cons_append,List.nil_append]
   refine Ah (X:=Nat×(Nat→List Value)) [0,2,8,9,11,12,42,43,44,45,46,47,48,49,50,51,52,53] [1,4,5,6,7,8,9,10] (fun x=>[(54,.int .i64 (x.1:Int))])
    (fun x=>(some b1,22,ch)::Da 3 hd x.2 i []) (fun x=>[Ej Ai hd x.2 (fun g=>syS (Ar T g) k (if g<x.1 then j+1 else j)) i []])
    (fun x=>x.1≤i) (fun x=>i-x.1) (0,cs) [0] rfl rfl rfl (Nat.zero_le _) (by repeat (first|exact Fr.sub_nil _|refine Fr.sub_cons rfl ?_)) rfl rfl ?_
   rintro ⟨g,cs⟩ hg ih
   simp only [List.cons_append,List.nil_append] at hg ih ⊢
   by_cases hgi:g<i
   ·refine G5 0 rfl fun hlen=>?_
    have hT1:=hTl g hgi
    have hl1:=AET hT1 (show j≤k by omega)
    have hgg:syS (Ar T g) k (if g<g then j+1 else j)=syS (Ar T g) k j:=by rw [if_neg (Nat.lt_irrefl g)]
    have hhg:(hd g).2.1=k+1:=by rw [hlen g hgi rfl,hgg];exact hl1
    have at_y:=hEa g hgi
    have hst:=AJm hT1 hjk (hTx g hgi)
    have hyi:=hit g
    have ih2:=fun cs=>ih (g+1,cs) (by dsimp only;omega) (by dsimp only;omega)
    clear ih
    generalize Mx (Mu (fM p (Ax m md)) p (d % m)) g x=y at *
    refine Do 1 (g) 0 (k+1) rfl rfl (by first|assumption|omega) (by first|rfl|assumption|(simp [Ag,Bd];done)|(simp [Ag,Bd];omega)) (by first|assumption|omega) fun r3 hr1=>?_
    simp only [List.take_succ_cons,List.take_zero,List.cons_append,List.nil_append]
    rw [hgg]
    refine wk 7 cz ?_
    intro h3 b3 o2 hz2
    refine Aa rfl (Av 0 rfl rfl Ci fun ⟨r4,r5⟩=>?_)
    refine wk 6 cz ?_
    refine Dt 1 rfl (by omega) fun b4 cap1 cs1 hr2=>?_
    subst hr2
    dsimp only
    refine wk 1 cz ?_
    refine Aa rfl (G4 (vs:=[Value.int IntKind.i64 ↑y]) (z:=(↑y:Int)) 0 1 (j) rfl rfl rfl rfl rfl Ci (Nat.mul_one _).symm (by omega) (fun w A hG=>(Dh (by first|(simp only [Bv];omega)|(simp [Bv];done)))) fun cs2=>?_)
    refine wk 3 cz ?_
    refine Bu 1 (g) 0 0 3 rfl rfl rfl rfl (by first|assumption|omega) (by first|rfl|assumption|(simp [Ag,Bd];done)|(simp [Ag,Bd];omega)) ?_
    simp only [List.eraseIdx_cons_zero,List.eraseIdx_cons_succ,List.take_succ_cons,List.take_zero,List.cons_append,List.nil_append]
    simp only [setB,List.set_cons_zero,List.eraseIdx_cons_zero,List.take_succ_cons,List.take_zero,List.cons_append,List.nil_append]
    rw [D6 (Fx (by assumption) hgi),hst]
    refine Br (fun f=>syS (Ar T f) k (if f<g+1 then j+1 else j)) 0 rfl (fun f hf=>by
     by_cases e:f=g
     ·subst e
      rw [Bn,if_pos (by omega)]
     ·rw [C0 e]
      by_cases h9:f<g
      ·rw [if_pos h9,if_pos (by omega)]
      ·rw [if_neg h9,if_neg (by omega)]) ?_
    exact tw (ih2 (Ek cs g cs2))
   ·obtain rfl:g=i:=by omega
    clear ih
    refine Br (fun f=>syS (Ar T f) k (j+1)) 0 rfl (fun f hf=>by rw [if_pos hf]) ?_
    refine wk 7 cz ?_
    intro h3
    exact tw (ih' cs)
  ·obtain rfl:j=k:=by omega
   clear ih
   refine Br (Ar T) 0 rfl (fun f hf=>by rw [AIT]) ?_
   refine wk 7 cz ?_
   intro h2
   refine Dx 1 [0] [2,0] rfl (.tmp rfl .nil) rfl rfl rfl ⟨⟨some b1,i,ch⟩,hd,cs,rfl,rfl,rfl⟩
end
end Go.Proofs.YtpienolhkccpnaaGreat
