/-
A small field in a big one. A small field in a big one, for codes. Medians, in the library. Reversing a part, in the library. Heap sort, in the library. A part is split, in the library. A part is split into what is no greater and what is, in the library. Partial insertion, in the library. Numbers drawn, in the library. Patterns broken, in the library. Lists put in order by pivots, in the library. Lists put in order and turned round, in the library. Trace codes. Trace codes and subfield subcodes; what is refused. Lifted codes. The examples of the chapter: fields and codes. The chapter is awake. Dual codes and weights, in the document. The document's extended codes. Independent columns: a basis that grows, and the pivots of the rows. Independent columns and the pivots of the rows. Columns taken as long as they are independent, in plain words. Exclusion trees in plain words. Columns in their order, as far as they are independent, in the program. The nodes below a node of an exclusion tree, in the program. The program's walk through an exclusion tree. The program's CheckRank and CheckDistance. Entries of a word at some places, in the document. Tests of exclusion trees in the document. The document's sets of positions and punctured codes. The document's words of a space that vanish at some positions. The document's shortened and expurgated codes. The document's augmented codes. ModifySums: the program and the document make the same codes. Sorted lists of values. Permuted codes, for all lengths. The document's subcodes. The document's permuted codes. ModifyPositions: the program and the document make the same codes. The positions whose bits are set. ModifyDual: duals of punctured and shortened codes. ModifyParity: extended codes.
-/
import Derived.Test.YtpienolhkccpnaaGreatXC7
set_option linter.unusedVariables false
set_option linter.unusedSimpArgs false
namespace Go.Proofs.YtpienolhkccpnaaGreat
open Go Go.Fw
set_option maxRecDepth 100000
set_option linter.unusedVariables false
set_option linter.unusedSimpArgs false
set_option maxHeartbeats 0
def imL (A M:Int→Int→Int) (p d:Nat) (pw:List Int):List Int:=(List.range (p ^ d)).map fun x=>S0 A (List.zipWith M (Bb (Db p d x)) pw)
def U4 (M:Nat→Nat→Nat) (r k:Nat):List Int:=Bb ((List.range k).map (B2 M r))
theorem AIA {M:Nat→Nat→Nat}{r:Nat}(k:Nat):(U4 M r k).length=k:=by simp [U4,Bb]
theorem AK4 {M:Nat→Nat→Nat}{r i k:Nat}(h:i<k):(U4 M r k)[i]?=some ((B2 M r i:Nat):Int):=by
 rw [U4,Bb,List.getElem?_map,List.getElem?_map,List.getElem?_range h];rfl
theorem AGW {M:Nat→Nat→Nat}{r k:Nat}:U4 M r (k+1)=U4 M r k++[((B2 M r k:Nat):Int)]:=by
 rw [U4,U4,Bb,Bb,List.range_succ,List.map_append,List.map_append];rfl
section
variable {b p m ms q n c ng cg ne ce nl cl nm cm:Nat}{pg pe pl ps pm:Option Addr}{l md mds:List Int}
theorem AE9 {A M:Int→Int→Int}{pw:List Int}:(imL A M p ms pw).length=p ^ ms:=by simp [imL]
theorem AK7 {A M:Int→Int→Int}{pw:List Int}{x:Nat}(hx:x<p ^ ms):(imL A M p ms pw)[x]?=some (S0 A (List.zipWith M (Bb (Db p ms x)) pw)):=by
 rw [imL,List.getElem?_map,List.getElem?_range hx];rfl
theorem AA6 {r b6 b2 ng2 cg2 ce2 cl2 cw:Nat}{pg2 pe2 pl2 pw:Option Addr}{C:Cx}(K:Fok p m md) (Ks:Fok p ms mds) (hr:r<p ^ m) :
  J Ts C [.c (pL 4090),.blk 2,.c (pL 1023)]
   [(82,.int .i64 0),(81,.int .i64 ((p ^ ms:Nat):Int)),(14,.slice (some ⟨b6,0,none⟩) (p ^ ms) (p ^ ms)),(10,.slice pw ms cw),(1,.pointer (some ⟨b,0,none⟩)),(6,.pointer (some ⟨b2,0,none⟩)),(5,.int .i64 0)]
   [(some b6,3,Ao .i64 (List.replicate (p ^ ms) 0))]
   [Ap Ai pw ms cw (U4 (fM p (Ax m md)) r ms),Jc b2 p ms (p ^ ms) pg2 ng2 cg2 pe2 (p ^ ms-1) ce2 pl2 (p ^ ms) cl2,Jc b p m (p ^ m) pg ng cg pe (p ^ m-1) ce pl (p ^ m) cl,Ap Ai pe (p ^ m-1) ce (Jh p m md),Ap Ai pl (p ^ m) cl (Jk p m md)]
   (Fg C fun v Φ β=>∃ (pa:Option Addr) (ca:Nat),v = .tuple #[.slice pa (p ^ ms) ca,.int .i64 0]∧Φ=[Ap Ai pa (p ^ ms) ca (imL (Ad (fA p m)) (Ad (fM p (Ax m md))) p ms (U4 (fM p (Ax m md)) r ms))]∧β=[]):=by
 have hq:=K.q
 have hqs:=Ks.q
 have hpw:∀ z∈U4 (fM p (Ax m md)) r ms,0≤z∧z<((p ^ m:Nat):Int):=fun z hz=>by
  obtain ⟨y,hy,rfl⟩:=List.mem_map.1 hz
  obtain ⟨i,_,rfl⟩:=List.mem_map.1 hy
  have:=K.rng'.pw_lt hr i
  omega
 have hpm:p≤p ^ m:=Nat.le_self_pow (by have:=K.m1;omega) p
 have hdg:∀ x,∀ z∈Bb (Db p ms x),0≤z∧z<((p ^ m:Nat):Int):=fun x z hz=>by
  obtain ⟨y,hy,rfl⟩:=List.mem_map.1 hz
  have:=I3 (by have:=K.p2;omega) y hy
  omega
 have Gi:=fun {x:Nat}{b ng cg ne ce nl cl:Nat}{pg pe pl:Option Addr}(hx:x<p ^ ms)=>Ub (b:=b) (ng:=ng) (cg:=cg) (ne:=ne) (ce:=ce) (nl:=nl) (cl:=cl) (pg:=pg) (pe:=pe) (pl:=pl) (x:=(x:Int)) Ks (by omega) (by omega)
 have Kr:=fun {x:Nat}{b ng cg ce cl nu cu nv cv:Nat}{pg pe pl pu pv:Option Addr}=>Yn (b:=b) (ng:=ng) (cg:=cg) (ce:=ce) (cl:=cl) (pg:=pg) (pe:=pe) (pl:=pl) (pu:=pu) (pv:=pv) (nu:=nu) (cu:=cu) (nv:=nv) (cv:=cv) K (hdg x) hpw
 have hTl:=AE9 (p:=p) (ms:=ms) (A:=Ad (fA p m)) (M:=Ad (fM p (Ax m md))) (pw:=U4 (fM p (Ax m md)) r ms)
 have hTa:=fun x (h:x<p ^ ms)=>AK7 (p:=p) (ms:=ms) (A:=Ad (fA p m)) (M:=Ad (fM p (Ax m md))) (pw:=U4 (fM p (Ax m md)) r ms) h
 have hsr:∀ x,0≤S0 (Ad (fA p m)) (List.zipWith (Ad (fM p (Ax m md))) (Bb (Db p ms x)) (U4 (fM p (Ax m md)) r ms))∧S0 (Ad (fA p m)) (List.zipWith (Ad (fM p (Ax m md))) (Bb (Db p ms x)) (U4 (fM p (Ax m md)) r ms))<((p ^ m:Nat):Int):=fun x=>R1 K.fi _ 0 (Int.le_refl 0) K.fi.z fun z hz=>by
  obtain ⟨i,hi,rfl⟩:=List.getElem_of_mem hz
  rw [List.getElem_zipWith]
  rw [List.length_zipWith] at hi
  obtain ⟨a0,a1⟩:=hdg x (Bb (Db p ms x))[i] (List.getElem_mem (by omega))
  obtain ⟨b0,b1⟩:=hpw (U4 (fM p (Ax m md)) r ms)[i] (List.getElem_mem (by omega))
  exact K.fi.ml _ _ a0 a1 b0 b1
 generalize imL (Ad (fA p m)) (Ad (fM p (Ax m md))) p ms (U4 (fM p (Ax m md)) r ms)=T at *
 generalize U4 (fM p (Ax m md)) r ms=PW at *
 rw [show Ao .i64 (List.replicate (p ^ ms) 0)=Al .i64 (T.take 0++List.replicate (p ^ ms-0) 0) by simp [Ao,Al]]
 refine Ah (X:=Nat) [1,5,6,10,14,81] [0,1,2,3,4] (fun x=>[(82,.int .i64 (x:Int))]) (fun i=>[(some b6,3,Al .i64 (T.take i++List.replicate (p ^ ms-i) 0))]) (fun _=>[]) (fun i=>i≤p ^ ms) (fun i=>p ^ ms-i) 0 [] rfl rfl rfl (Nat.zero_le _) (by repeat (first|exact Fr.sub_nil _|refine Fr.sub_cons rfl ?_)) rfl rfl ?_
 rintro i hi ih
 simp only [List.cons_append,List.nil_append] at hi ih ⊢
 by_cases h9:i<p ^ ms
 ·have Gi:=fun {b ng cg ne ce nl cl:Nat}{pg pe pl:Option Addr}=>Gi (b:=b) (ng:=ng) (cg:=cg) (ne:=ne) (ce:=ce) (nl:=nl) (cl:=cl) (pg:=pg) (pe:=pe) (pl:=pl) h9
  have Kr:=fun {b ng cg ce cl nu cu nv cv:Nat}{pg pe pl pu pv:Option Addr}=>Kr (x:=i) (b:=b) (ng:=ng) (cg:=cg) (ce:=ce) (cl:=cl) (pg:=pg) (pe:=pe) (pl:=pl) (pu:=pu) (pv:=pv) (nu:=nu) (cu:=cu) (nv:=nv) (cv:=cv)
  have ih':=ih (i+1) (by omega) (by omega)
  rw [← take_set (hTa i h9) (by omega)] at ih'
  have hln:(T.take i++List.replicate (p ^ ms-i) 0).length=p ^ ms:=by simp;omega
  obtain ⟨s0,s1⟩:=hsr i
  rw [Int.toNat_natCast] at Gi
  generalize T.take i++List.replicate (p ^ ms-i) 0=L at *
  generalize S0 (Ad (fA p m)) (List.zipWith (Ad (fM p (Ax m md))) (Bb (Db p ms i)) PW)=s at *
  clear ih
  refine wk 16 (ct @Gi (ct @Kr cz)) ?_
  intro h1 pa1 ca1
  exact tw (ih')
 ·obtain rfl:i=p ^ ms:=by omega
  rw [Nat.sub_self,List.replicate_zero,List.append_nil,List.take_of_length_le (by omega)]
  clear ih
  have hall:∀ z∈T,Bv .i64 z:=fun z hz=>by
   obtain ⟨j,hj⟩:=List.getElem?_of_mem hz
   have hj':j<p ^ ms:=by have:=(List.getElem?_eq_some_iff.1 hj).1;omega
   rw [hTa j hj'] at hj
   have:=hsr j
   rw [← Option.some.inj hj]
   simp only [Bv];omega
  refine Bk 0 rfl hTl.symm hall (by omega) ?_
  refine C4 0 0 rfl rfl (by show p ^ ms*8≤140737488355328;omega) ?_
  simp only [List.eraseIdx_cons_zero]
  refine wk 7 cz ?_
  intro h1
  refine Ov [0] rfl rfl rfl ⟨_,_,rfl,rfl,rfl⟩
theorem AAI {r:Nat}(K:Fok p m md) (Ks:Fok p ms mds) (hd:dgB m ms=true) (hr:r<p ^ m) (hr1:ms≠1→(rtP (Ad (fA p m)) (Ad (fM p (Ax m md))) (mds++[1]) (p ^ m))[0]?=some (r:Int)) :
  Bt Tryz.prog 126 [.agg #[.int .i64 p,.int .i64 ms,.slice pm nm cm],.pointer (some ⟨b,0,none⟩)] [] [Ap Ai pm nm cm mds,Jc b p m (p ^ m) pg md.length cg pe (p ^ m-1) ce pl (p ^ m) cl,Ap Ai pg md.length cg md,Ap Ai pe (p ^ m-1) ce (Jh p m md),Ap Ai pl (p ^ m) cl (Jk p m md)]
   (fun v Φ β=>∃ (pa:Option Addr) (ca:Nat),v = .tuple #[.slice pa (p ^ ms) ca,.int .i64 0]∧Φ=[Ap Ai pa (p ^ ms) ca (imL (Ad (fA p m)) (Ad (fM p (Ax m md))) p ms (U4 (fM p (Ax m md)) r ms))]∧β=[]):=by
 refine Ab (F:=Ts) rfl fun C=>?_
 have hq:=K.q
 have hqs:=Ks.q
 have hm1:=Ks.m1
 have hm8:=Ks.m8
 have D0:=fun {pm:Option Addr}{nm cm:Nat}=>Fx (pm:=pm) (nm:=nm) (cm:=cm) Ks
 have D8:=fun {b ne ce nl cl cg:Nat}{pg pe pl:Option Addr}=>Jz (b:=b) (ne:=ne) (ce:=ce) (nl:=nl) (cl:=cl) (cg:=cg) (pg:=pg) (pe:=pe) (pl:=pl) K
 have Bg:=fun {b ne ce nl cl cg:Nat}{pg pe pl:Option Addr}=>F5 (b:=b) (ne:=ne) (ce:=ce) (nl:=nl) (cl:=cl) (cg:=cg) (pg:=pg) (pe:=pe) (pl:=pl) K hm1 hm8
 rw [hd] at Bg
 have M3:=fun {b ng cg ne ce nl cl m:Nat}{pg pe pl:Option Addr}=>U6 (q:=p ^ ms) (p:=p) (m:=m) (b:=b) (ng:=ng) (cg:=cg) (ne:=ne) (ce:=ce) (nl:=nl) (cl:=cl) (pg:=pg) (pe:=pe) (pl:=pl) hqs
 refine Ba 0 rfl fun hn hb _=>?_
 subst hn
 have hb':mds.length*8≤140737488355328:=hb
 have Pk:=fun (h1:ms≠1) {b ng cg ce cl n c:Nat}{pg pe pl ps:Option Addr}=>AB0 (b:=b) (ng:=ng) (cg:=cg) (ce:=ce) (cl:=cl) (n:=n) (c:=c) (pg:=pg) (pe:=pe) (pl:=pl) (ps:=ps) (l:=mds++[1]) K (fun c hc=>by
  have:=K.p2
  have h2:p≤p ^ m:=Nat.le_self_pow (by have:=K.m1;omega) p
  rcases List.mem_append.1 hc with hc|hc
  ·have:=Ks.rng c hc;omega
  ·rw [List.mem_singleton.1 hc];omega) (fun x hx=>by rw [List.getLast?_concat] at hx;rw [← Option.some.inj hx];omega) (by simp)
 have A6:=fun {b ng cg ce cl:Nat}{pg pe pl:Option Addr}{x y:Int}=>C3 (b:=b) (ng:=ng) (cg:=cg) (ce:=ce) (cl:=cl) (pg:=pg) (pe:=pe) (pl:=pl) (x:=x) (y:=y) K
 by_cases h1:ms=1
 ·refine wk 48 (ct @D0 (ct @D8 (ct @Bg (ct @M3 cz)))) ?_
  intro b1 b2 pg1 cg1 pe1 ce1 pl1 cl1 h2 h3 b3 h4 b4 --ok
  subst h1
  simp only [List.cons_append,List.nil_append]
  refine Bk (l:=[1]) 1 rfl (n:=1) rfl (fun z hz=>by rw [List.mem_singleton.1 hz];simp [Bv]) (by omega) ?_
  refine C4 1 0 rfl rfl (by show 1*8≤140737488355328;omega) ?_
  refine Py [0] rfl rfl ?_
  rw [← show U4 (fM p (Ax m md)) r 1=[1] from rfl]
  exact tw (AA6 (b6:=b4) (b2:=b2) (b:=b) (pw:=some ⟨b3,0,none⟩) (cw:=1) (ng2:=mds.length) (pg2:=pg1) (pe2:=pe1) (pl2:=pl1) (cg2:=cg1) (ce2:=ce1) (cl2:=cl1) (ng:=md.length) (pg:=pg) (pe:=pe) (pl:=pl) (cg:=cg) (ce:=ce) (cl:=cl) (C:=C) K Ks hr)
 ·have hms:1<ms:=by omega
  have hml:=Ks.len h1
  have Pk:=fun {b ng cg ce cl n c:Nat}{pg pe pl ps:Option Addr}=>Pk h1 (b:=b) (ng:=ng) (cg:=cg) (ce:=ce) (cl:=cl) (n:=n) (c:=c) (pg:=pg) (pe:=pe) (pl:=pl) (ps:=ps)
  have hr0:=hr1 h1
  have hpl:=AIA (M:=fM p (Ax m md)) (r:=r)
  have hpa:=fun i k=>AK4 (M:=fM p (Ax m md)) (r:=r) (i:=i) (k:=k)
  have hps:=fun k=>AGW (M:=fM p (Ax m md)) (r:=r) (k:=k)
  have hpq:=fun k=>K.rng'.pw_lt hr k
  have hp1:U4 (fM p (Ax m md)) r 1=[1]:=rfl
  generalize rtP (Ad (fA p m)) (Ad (fM p (Ax m md))) (mds++[1]) (p ^ m)=RR at *
  have hRl:0<RR.length:=by
   have:=(List.getElem?_eq_some_iff.1 hr0).1;omega
  have er0:RR.getD 0 default=(r:Int):=by rw [List.getD_eq_getElem?_getD,hr0];rfl
  refine Am [_,_] rfl ?_
  refine Aa rfl (Cv rfl fun b1=>?_)
  refine Ae it 2 rfl (by simp) ?_
  refine Am [_,_] rfl ?_
  refine Aa rfl (A1 0 rfl rfl Hy rfl ?_)
  refine Aa rfl (Aw [0] rfl (D0) rfl ?_)
  rintro _ _ _ ⟨b2,pg1,cg1,pe1,ce1,pl1,cl1,rfl,rfl,rfl⟩
  simp only [List.cons_append,List.nil_append]
  refine Ae it 5 rfl (by simp) ?_
  refine Am [_,_,_] rfl ?_
  refine Ae it 2 rfl (by simp) ?_
  refine Am [_,_] rfl ?_
  refine Nd rfl rfl (fun h2=>by exfalso;omega) (fun h2=>?_)
  refine Am [_,_] rfl ?_
  refine Ae it 1 rfl (by simp) ?_
  refine Aa rfl (Aw [5,6] rfl (D8) rfl ?_)
  rintro _ _ _ ⟨rfl,rfl,rfl⟩
  simp only [List.cons_append,List.nil_append]
  simp only [decide_true]
  refine Ae it 5 rfl (by simp) ?_
  refine Am [_,_,_] rfl ?_
  refine Aa rfl (Aq rfl Pn ?_)
  refine Aa rfl (Bm 0 rfl rfl Ci rfl ?_)
  refine Ae it 3 rfl (by simp) ?_
  refine K7 (t:=33) rfl (fun h3=>by exfalso;omega) (fun h3=>?_)
  refine Ae it 1 rfl (by simp) ?_
  refine Bp rfl rfl (Aq rfl P9 ?_)
  refine Bp rfl rfl (Bm 0 rfl rfl Ci rfl ?_)
  refine Bp rfl rfl (Aw [5,6] rfl (Bg) rfl ?_)
  rintro _ _ _ ⟨rfl,rfl,rfl⟩
  simp only [List.cons_append,List.nil_append]
  simp only [decide_true]
  refine Ae it 2 rfl (by simp) ?_
  refine Am [_,_] rfl ?_
  refine K4 rfl rfl ?_
  refine Am [_,_] rfl ?_
  refine Aa rfl (Iu Ce Ep rfl rfl rfl rfl (by decide) (by decide) rfl fun b3=>?_)
  refine Ae it 1 rfl (by simp) ?_
  refine Am [_,_,_] rfl ?_
  refine Aa rfl (Aq rfl P9 ?_)
  refine Aa rfl (Bm 1 rfl rfl Ci rfl ?_)
  refine Ae it 1 rfl (by simp) ?_
  refine Am [_,_] rfl ?_
  refine Lc rfl rfl (fun h4=>?_) (fun h4=>by exfalso;omega)
  refine Am [_,_,_] rfl ?_
  refine Ae it 1 rfl (by simp) ?_
  refine Aa rfl (ADN Ce fun b4=>?_)
  refine Aa rfl (Aq rfl AEM ?_)
  refine Aa rfl (Bm 2 rfl rfl E7 rfl ?_)
  (apply Ly (E:=Dy IntKind.i64 8) (n:=0) (cs:=[]) [] [] 0 (fun w A hG=>Bd);(· rfl);(· rfl);(· rfl);(· rfl);(· decide))
  refine Aa rfl (Uv 0 0 5 rfl rfl rfl rfl rfl Ce Ep rfl (by omega) _ Hu (by omega) fun r1=>?_)
  refine Aa rfl (Iu Ce Ep rfl rfl rfl rfl (by decide) (by decide) rfl fun b5=>?_)
  refine Aa rfl (Ga (z:=(1:Int)) 1 0 0 rfl rfl rfl rfl rfl Ce Ep rfl (fun w A hG=>(Dq (by first|(simp only [Bv];omega)|(simp [Bv];done)))) (by omega) _ Hu (by omega) fun r2=>?_)
  refine D2 0 0 rfl rfl (by show (0 + mds.length + 1) * 8 ≤ 140737488355328;omega) ?_ --ok
  simp only [List.nil_append,List.cons_append,List.eraseIdx_cons_zero,List.eraseIdx_cons_succ,Nat.zero_add]
  refine wk 11 (ct @Pk cz) ?_
  intro pa1 ca1 h5 --ok
  refine Bk (l:=[1]) 1 rfl (n:=1) rfl (fun z hz=>by rw [List.mem_singleton.1 hz];simp [Bv]) (by omega) ?_
  refine Py [1,2] rfl rfl ?_
  rw [← hp1]
  refine Ah (X:=Nat×Row) [1,2,4,5,6,11] [0,1,2,3,4,5,6,7,8,9,10,11,12,13,14] (fun x=>[(13,.int .i64 (x.1:Int)),(10,.slice (ad x.2.bo) x.1 x.2.cap)]) (fun x=>[(x.2.bo,3,x.2.cs),(some b1,24,[.int .i64 p,.int .i64 ms,.slice pm mds.length cm])]) (fun x=>[A7 Ai x.2 x.1 (U4 (fM p (Ax m md)) r x.1)]) (fun x=>1≤x.1∧x.1≤ms) (fun x=>ms-x.1) (1,⟨some b3,1,Al .i64 (U4 (fM p (Ax m md)) r 1)⟩) [0] rfl rfl rfl ⟨Nat.le_refl _,hm1⟩ (by repeat (first|exact Fr.sub_nil _|refine Fr.sub_cons rfl ?_)) rfl rfl ?_
  rintro ⟨k,r3⟩ ⟨hk1,hk2⟩ ih
  simp only [List.cons_append,List.nil_append] at hk1 hk2 ih ⊢
  by_cases hkl:k<ms
  ·have ih':=fun r3=>ih (k+1,r3) (by dsimp only;omega) ⟨by dsimp only;omega,by dsimp only;omega⟩
   dsimp only at ih'
   clear ih
   refine Dt 0 rfl (by omega) fun bh caph csh hr=>?_
   subst hr
   dsimp only
   have hpj:=hpa (k-1) k (by omega)
   have epj:(U4 (fM p (Ax m md)) r k).getD (k-1) default=((B2 (fM p (Ax m md)) r (k-1):Nat):Int):=by rw [List.getD_eq_getElem?_getD,hpj];rfl
   have hpjq:=hpq (k-1)
   have hmr:Ad (fM p (Ax m md)) ((B2 (fM p (Ax m md)) r (k-1):Nat):Int) (RR.getD 0 default)=((B2 (fM p (Ax m md)) r k:Nat):Int):=by
    rw [er0,Ad,Int.toNat_natCast,Int.toNat_natCast]
    show ((B2 (fM p (Ax m md)) r (k-1+1):Nat):Int)=_
    rw [Nat.sub_add_cancel hk1]
   have hpkq:=hpq k
   rw [hps] at ih'
   refine wk 8 cz ?_
   intro h6
   (apply E5 it mx 12;(· rfl);(· rfl))
   (apply A3 4;(· rfl);(· simp))
   (apply Ac (v:=Value.int IntKind.i64 ((((k)-1:Nat)):Int));(· rfl);(· exact Cg fun _=>ADl it _ rfl ⟨by omega,by omega⟩ (by omega) An))
   simp only [Nat.add_sub_cancel]
   (apply Ac;(· rfl);(· exact Cg fun _=>Be (k-1) (k-1) rfl rfl Ce rfl (by omega) (Nat.mul_one _) An))
   (apply Ac;(· rfl);(· exact Hk 0 0 (k-1) rfl rfl rfl Ci rfl (by assumption)))
   (apply A3 1;(· rfl);(· simp))
   (apply AB3;(· rfl);(· exact Cg fun _=>Iw 2 0 rfl rfl rfl Ce (by omega) (by omega) fun z1 hz1 b6 o1=>(ACy default hz1 0 rfl));intro b6 o1)
   (apply Ac;(· rfl);(· exact Cg fun _=>Av 0 rfl rfl Ci fun ⟨r3,r4⟩=>An))
   (apply Ac;(· rfl);(· exact Cg fun _=>Aw [13,15,16] rfl (A6 (by omega) (by omega) (by omega) (by omega)) rfl (by rintro _ _ _ ⟨rfl,rfl,rfl⟩;exact An)))
   (apply Ih;(· rfl);(· exact Cg fun _=>Iu Ce Ep rfl rfl rfl rfl (by decide) (by decide) rfl fun b7=>ACc (E:=Ai) [[Value.int IntKind.i64 (Ad (fM p (Ax m md)) (↑(B2 (fM p (Ax m md)) r (k-1))) (RR.getD 0 default))]] [Ad (fM p (Ax m md)) (↑(B2 (fM p (Ax m md)) r (k-1))) (RR.getD 0 default)] (fun w A hG=>(Az ⟨rfl,by first|assumption|(simp only [Bv];omega)⟩ Bd)) rfl rfl rfl (by first|decide|exact Nat.le_of_ble_eq_true rfl));intro pa2 ca2)
   refine Et rfl ?_
   simp only [List.map_cons,List.map_nil,List.cons_append,List.nil_append]
   refine Aa rfl (Uv 0 2 0 rfl rfl rfl rfl rfl Ce Ep rfl (by omega) _ Hu (by omega) fun r3=>?_)
   refine wk 4 cz ?_ --ok
   rw [hmr]
   simp only [List.eraseIdx_cons_zero]
   exact tw (ih' r3)
  ·obtain rfl:k=ms:=by omega
   clear ih
   refine wk 17 (ct @M3 cz) ?_
   intro h6 b6 --ok
   simp only [List.cons_append,List.nil_append]
   refine D2 1 0 rfl rfl (by show k*8≤140737488355328;omega) ?_
   refine Py [0] rfl rfl ?_
   exact tw (AA6 (b6:=b6) (b2:=b2) (b:=b) (pw:=ad r3.bo) (cw:=r3.cap) (ng2:=mds.length) (pg2:=pg1) (pe2:=pe1) (pl2:=pl1) (cg2:=cg1) (ce2:=ce1) (cl2:=cl1) (ng:=md.length) (pg:=pg) (pe:=pe) (pl:=pl) (cg:=cg) (ce:=ce) (cl:=cl) (C:=C) K Ks hr)
end
open Go Go.Fw
set_option maxRecDepth 100000
set_option linter.unusedVariables false
set_option linter.unusedSimpArgs false
set_option maxHeartbeats 0
section
variable {b p m p2 ms n c ng cg ce cl nm cm nm2 cm2 nm3 cm3:Nat}{pg pe pl ps pm pm2 pm3:Option Addr}{l md mds:List Int}
abbrev AM5 (p m ms:Nat) (md:List Int) (r:Nat):Value→List Fact→List A4→Prop:=fun v Φ β=>∃ b pg cg pe ce pl cl,∃ (pa:Option Addr) (ca:Nat),v = .tuple #[.pointer (some ⟨b,0,none⟩),.slice pa (p ^ ms) ca,.int .i64 0] ∧
 Φ=Ap Ai pa (p ^ ms) ca (imL (Ad (fA p m)) (Ad (fM p (Ax m md))) p ms (U4 (fM p (Ax m md)) r ms))::gfL p m md b pg cg pe ce pl cl∧β=[]
theorem Ki {r q s:Nat}{mdu:List Int}(K:Fok p m md) (Ks:Fok p ms mds) (Ku:Fok q s mdu) (hd:dgB m ms=true) (hr:r<p ^ m) (hr1:ms≠1→(rtP (Ad (fA p m)) (Ad (fM p (Ax m md))) (mds++[1]) (p ^ m))[0]?=some (r:Int)) :
  Bt Tryz.prog 85 [.agg #[.int .i64 p,.int .i64 ms,.slice pm nm cm],.agg #[.int .i64 p,.int .i64 m,.slice pm2 nm2 cm2],.agg #[.int .i64 q,.int .i64 s,.slice pm3 nm3 cm3]] [] [Ap Ai pm nm cm mds,Ap Ai pm2 nm2 cm2 md,Ap Ai pm3 nm3 cm3 mdu] (AM5 p m ms md r):=by
 refine Ab (F:=Yc) rfl fun C=>?_
 have Gv:=fun {pm:Option Addr}{nm cm:Nat}=>O9 (pm:=pm) (nm:=nm) (cm:=cm) Ku
 have D0:=fun {pm:Option Addr}{nm cm:Nat}=>Fx (pm:=pm) (nm:=nm) (cm:=cm) K
 have AAT:=fun {b nm cm cg ce cl:Nat}{pm pg pe pl:Option Addr}=>AAI (b:=b) (nm:=nm) (cm:=cm) (cg:=cg) (ce:=ce) (cl:=cl) (pm:=pm) (pg:=pg) (pe:=pe) (pl:=pl) K Ks hd hr hr1
 refine wk 31 (ct @Gv (ct @D0 (ct @AAT cz))) ?_
 intro b1 b2 b3 h1 b4 pg1 cg1 pe1 ce1 pl1 cl1 h2 pa1 ca1 h3
 refine Bj [0,1,2,3,4] rfl (.tmp rfl (.tmp rfl (.tmp rfl .nil))) rfl ⟨_,_,_,_,_,_,_,_,_,rfl,rfl,rfl⟩
end
open Go Go.Fw
set_option maxRecDepth 100000
set_option linter.unusedVariables false
set_option linter.unusedSimpArgs false
set_option maxHeartbeats 0
section
variable {b s cap n a e k:Nat}{cs:List Value}{l:List Int}
end
open Go Go.Fw
set_option maxRecDepth 100000
set_option linter.unusedVariables false
set_option linter.unusedSimpArgs false
set_option maxHeartbeats 0
section
variable {b cap n a e f lo hi:Nat}{cs:List Value}{l:List Int}
end
open Go Go.Fw
set_option maxRecDepth 100000
set_option linter.unusedVariables false
set_option linter.unusedSimpArgs false
set_option maxHeartbeats 0
section
variable {b cap n a e:Nat}{cs:List Value}{l:List Int}
end
open Go Go.Fw
set_option maxRecDepth 100000
set_option linter.unusedVariables false
set_option linter.unusedSimpArgs false
set_option maxHeartbeats 0
section
variable {b cap n a e pv:Nat}{cs:List Value}{l:List Int}
end
open Go Go.Fw
set_option maxRecDepth 100000
set_option linter.unusedVariables false
set_option linter.unusedSimpArgs false
set_option maxHeartbeats 0
section
variable {b cap n a e pv:Nat}{cs:List Value}{l:List Int}{p:Int}
end
open Go Go.Fw
set_option maxRecDepth 100000
set_option linter.unusedVariables false
set_option linter.unusedSimpArgs false
set_option maxHeartbeats 0
section
variable {b cap n a e:Nat}{cs:List Value}{l:List Int}
end
open Go Go.Fw
set_option maxRecDepth 100000
set_option linter.unusedVariables false
set_option linter.unusedSimpArgs false
set_option maxHeartbeats 0
section
variable {b cap n a e:Nat}{cs:List Value}{l:List Int}
end
open Go Go.Fw
set_option maxRecDepth 100000
set_option linter.unusedVariables false
set_option linter.unusedSimpArgs false
set_option maxHeartbeats 0
section
variable {b cap n:Nat}
end
open Go Go.Fw
set_option maxRecDepth 100000
set_option linter.unusedVariables false
set_option linter.unusedSimpArgs false
set_option maxHeartbeats 0
structure RvI (l L:List Int) (i:Nat):Prop where
 seg:Seg 0 l.length l L
 val:∀ k,k<l.length→Bf L k=if k<i∨l.length-1-k<i then Bf l (l.length-1-k) else Bf l k
theorem RvI.step {l L:List Int}{i:Nat}(h:RvI l L i) (hi:i<l.length-1-i):RvI l (sw L i (l.length-1-i)) (i+1):=by
 have hlen:=h.seg.len
 refine ⟨h.seg.trans (AAu (by omega) (by omega) (by omega) (by omega) (by omega)),fun k hk=>?_⟩
 rw [Xv (by omega) (by omega)]
 by_cases c1:k=l.length-1-i
 ·rw [if_pos c1,h.val i (by omega),if_neg (by omega),if_pos (by omega)];congr 1;omega
 ·by_cases c2:k=i
  ·rw [if_neg c1,if_pos c2,h.val _ (by omega),if_neg (by omega),if_pos (by omega),c2]
  ·rw [if_neg c1,if_neg c2,h.val k hk]
   by_cases c3:k<i∨l.length-1-k<i
   ·rw [if_pos c3,if_pos (by omega)]
   ·rw [if_neg c3,if_neg (by omega)]
theorem RvI.fin {l L:List Int}{i:Nat}(h:RvI l L i) (hi:¬ i<l.length-1-i):L=l.reverse:=by
 refine List.ext_getElem (h.seg.len.trans List.length_reverse.symm) fun k h1 h2=>?_
 have hlen:=h.seg.len
 rw [← AFU h1,List.getElem_reverse,← AFU,h.val k (by omega)]
 by_cases c3:k<i∨l.length-1-k<i
 ·rw [if_pos c3]
 ·rw [if_neg c3];congr 1;omega
section
variable {b cap n:Nat}{cs:List Value}{l:List Int}
end
open Go Go.Fw
set_option maxRecDepth 100000
set_option linter.unusedVariables false
set_option linter.unusedSimpArgs false
set_option maxHeartbeats 0
def txI (p m ms:Nat) (md IM:List Int) (b:Int) (row:List Int):List Int:=(Ct (Ad (fM p (Ax m md))) b row).map fun y=>Tn (S0 (Ad (fA p m)) (Bb (R4 (fM p (Ax m md)) p m ms y.toNat))) IM
def trO (p ms:Nat) (mds:List Int) (N:Nat) (f:Int→List (List Int)) (l:List Int):List (List Int):=l.foldl (fun out b=>(Dh p ms mds N (out++(Dh p ms mds N (f b)).1)).1) (Dh p ms mds N []).1
theorem AHb {p ms N i:Nat}{mds:List Int}{f:Int→List (List Int)}{l:List Int}{b:Int}(h:l[i]?=some b):trO p ms mds N f (l.take (i+1))=(Dh p ms mds N (trO p ms mds N f (l.take i)++(Dh p ms mds N (f b)).1)).1:=by
 rw [trO,List.take_add_one,h,Option.toList_some,List.foldl_append];rfl
theorem AIp {p ms N:Nat}{mds:List Int}{f:Int→List (List Int)}(K:Fok p ms mds) (h1:1≤N) (h2:N≤64):∀ l:List Int,(∀ b∈l,Cw (p ^ ms) N (f b))→Cok p ms mds N (trO p ms mds N f l):=fun l hf=>by
 have h:∀ (l:List Int) (out:List (List Int)),(∀ b∈l,Cw (p ^ ms) N (f b))→Cok p ms mds N out→Cok p ms mds N (l.foldl (fun out b=>(Dh p ms mds N (out++(Dh p ms mds N (f b)).1)).1) out):=by
  intro l
  induction l with
  | nil=>intro out _ ho;exact ho
  | cons b l ih =>
   intro out hf ho
   exact ih _ (fun c hc=>hf c (.tail _ hc)) (Cok.cn K h1 h2 (H8 ho.mat (Cok.cn K h1 h2 (hf b (.head _))).mat))
 exact h l _ hf (Cok.cn K h1 h2 fun r hr=>by cases hr)
section
variable {b p m ms n N ng cg ce cl nm cm nm2 cm2 c ns ci x0:Nat}{pg pe pl ps pm pm2 pi:Option Addr}{md mds IM:List Int}{rows:List (List Int)}
theorem Qm (CC:Cok p m md N rows) (Ks:Fok p ms mds) (hd:dgB m ms=true) (hn:m / ms=n) (hn0:0<n) (hx0:x0<p ^ m)
  (hN:nsB p m ms md (R4 (fM p (Ax m md)) p m ms x0)=true) (hmin:∀ y,y<x0→nsB p m ms md (R4 (fM p (Ax m md)) p m ms y)=false)
  (hxc:Nc (Mp (fM p (Ax m md)) p (ms % m)) n x0=x0) (hxn:∀ i,1≤i→i<n→Nc (Mp (fM p (Ax m md)) p (ms % m)) i x0≠x0)
  (hTr:∀ y,y<p ^ m→0≤Tn (S0 (Ad (fA p m)) (Bb (R4 (fM p (Ax m md)) p m ms y))) IM∧Tn (S0 (Ad (fA p m)) (Bb (R4 (fM p (Ax m md)) p m ms y))) IM<((p ^ ms:Nat):Int)) :
  Bt Tryz.prog 86 [.agg #[.int .i64 p,.int .i64 m,.slice pm nm cm,.int .i64 N,.slice ps ns c],.agg #[.int .i64 p,.int .i64 ms,.slice pm2 nm2 cm2],.pointer (some ⟨b,0,none⟩),.slice pi (p ^ ms) ci] []
   [Ap (Aj Ai) ps ns c rows,Ap Ai pm2 nm2 cm2 mds,Jc b p m (p ^ m) pg md.length cg pe (p ^ m-1) ce pl (p ^ m) cl,Ap Ai pg md.length cg md,Ap Ai pe (p ^ m-1) ce (Jh p m md),Ap Ai pl (p ^ m) cl (Jk p m md),Ap Ai pi (p ^ ms) ci IM]
   (Xc p ms N mds (trO p ms mds N (fun b=>rows.map (txI p m ms md IM b)) (Bb ((List.range n).map fun i=>Nc (Mp (fM p (Ax m md)) p (ms % m)) i x0))) 0):=by
 refine Ab (F:=Yd) rfl fun C=>?_
 refine Ba 0 rfl fun hnn hb _=>?_
 subst hnn
 have K:=CC.K
 have hq:=K.q
 have hqs:=Ks.q
 have d1:=Ks.m1
 have d8:=Ks.m8
 have h64:=CC.n64
 have h1N:=CC.n1
 have hrl:=CC.len
 have hFM:∀ b:Int,0≤b→b<((p ^ m:Nat):Int)→∀ r∈rows,Wd (p ^ ms) N (txI p m ms md IM b r):=fun b b0 b1 r hr=>by
  have hw:=(C1 K).scl_wd b0 b1 (CC.mat r hr)
  refine ⟨by rw [txI,List.length_map];exact hw.1,fun z hz=>?_⟩
  obtain ⟨y,hy,rfl⟩:=List.mem_map.1 hz
  have:=hw.2 y hy
  exact hTr y.toNat (by omega)
 have Zz:=fun {b cg ce cl:Nat}{pg pe pl:Option Addr}=>Zb (b:=b) (cg:=cg) (ce:=ce) (cl:=cl) (pg:=pg) (pe:=pe) (pl:=pl) K d1 d8 hd hn hn0 hx0 hN hmin
 have Ud:=fun {b cg ce cl:Nat}{pg pe pl:Option Addr}=>Un (b:=b) (cg:=cg) (ce:=ce) (cl:=cl) (pg:=pg) (pe:=pe) (pl:=pl) K hx0 d1 d8 hd (by rw [hn];exact hxc)
 have hNew:=fun {rows:List (List Int)}{pm ps:Option Addr}{nm cm n c:Nat}(hl:rows.length≤256) (hM:Cw (p ^ ms) N rows)=>Io (pm:=pm) (ps:=ps) (nm:=nm) (cm:=cm) (n:=n) (c:=c) (N:=N) (rows:=rows) Ks h1N h64 hl hM
 have Df:=fun {pm ps:Option Addr}{nm cm n c:Nat}=>hNew (rows:=[]) (pm:=pm) (ps:=ps) (nm:=nm) (cm:=cm) (n:=n) (c:=c) (by simp) (fun r hr=>by cases hr)
 refine Eh (Ap (Aj Ai) none 0 0 []) (fun w A _=>Do _ w A none 0) ?_
 refine wk 19 (ct @Zz cz) ?_
 intro b1 b2 b3 h1
 refine Aa rfl (Aw [3,4,5,6] rfl (Ud) rfl ?_)
 rintro _ _ _ ⟨r1,k1,rfl,rfl,rfl,h2,h3,h4,h5⟩
 simp only [List.cons_append,List.nil_append]
 simp only [decide_true]
 refine wk 20 (ct @Df cz) ?_
 intro h6 pb1 pc1 nb1 cb1 nc1 cc1 b4 --ok
 have hk1:k1=n:=by
  have e1:=‹1≤k1›
  have e2:=‹k1≤m / ms›
  have e3:=‹Nc (Mp (fM p (Ax m md)) p (ms % m)) k1 x0=x0›
  have:=hxn k1 e1
  omega
 have hn8:n≤8:=by have:=K.m8;have:=Nat.div_le_self m ms;omega
 subst hk1
 simp only [setB,List.set_cons_zero,List.set_cons_succ,List.cons_append,List.nil_append]
 refine D2 1 2 rfl rfl (by show k1*8≤140737488355328;omega) ?_
 simp only [List.eraseIdx_cons_zero,List.eraseIdx_cons_succ]
 have hbl:(Bb ((List.range k1).map fun i=>Nc (Mp (fM p (Ax m md)) p (ms % m)) i x0)).length=k1:=by simp [Bb]
 have hba:∀ i,i<k1→(Bb ((List.range k1).map fun i=>Nc (Mp (fM p (Ax m md)) p (ms % m)) i x0))[i]?=some ((Nc (Mp (fM p (Ax m md)) p (ms % m)) i x0:Nat):Int):=fun i hi=>by
  rw [Bb,List.getElem?_map,List.getElem?_map,List.getElem?_range hi];rfl
 have hbq:=fun i=>P6 (f:=Mp (fM p (Ax m md)) p (ms % m)) (fun y hy=>Nw K hy (ms % m)) hx0 i
 generalize Bb ((List.range k1).map fun i=>Nc (Mp (fM p (Ax m md)) p (ms % m)) i x0)=BS at *
 have hFM2:∀ b:Int,0≤b→b<((p ^ m:Nat):Int)→Cw (p ^ ms) N (rows.map (txI p m ms md IM b)):=fun b b0 b1 r hr=>by
  obtain ⟨s,hs,rfl⟩:=List.mem_map.1 hr
  exact hFM b b0 b1 s hs
 have hbs:∀ i b,BS[i]?=some b→0≤b∧b<((p ^ m:Nat):Int):=fun i b h=>by
  have hi:i<k1:=by rw [← hbl];exact (List.getElem?_eq_some_iff.1 h).1
  rw [hba i hi] at h
  have:=hbq i
  rw [← Option.some.inj h]
  omega
 refine Ah (X:=Nat×(Option Addr×Nat×Nat)×(Option Addr×Nat×Nat)) [2,3,4,5,8,13,57,58] [0,4,5,6,7,8,9,10,11] (fun z=>[(59,.int .i64 (z.1:Int)),(11,.int .i64 0)])
  (fun z=>(some b4,27,[.int .i64 p,.int .i64 ms,.slice z.2.1.1 z.2.1.2.1 z.2.1.2.2,.int .i64 N,.slice z.2.2.1 z.2.2.2.1 z.2.2.2.2])::_)
  (fun z=>[Ap Ai z.2.1.1 z.2.1.2.1 z.2.1.2.2 mds,Ap (Aj Ai) z.2.2.1 z.2.2.2.1 z.2.2.2.2 (trO p ms mds N (fun b=>rows.map (txI p m ms md IM b)) (BS.take z.1))])
  (fun z=>z.1≤k1) (fun z=>k1-z.1) (0,(pb1,nb1,cb1),(pc1,nc1,cc1)) [1,2] rfl rfl rfl (Nat.zero_le _) (by repeat (first|exact Fr.sub_nil _|refine Fr.sub_cons rfl ?_)) rfl rfl ?_
 rintro ⟨k,⟨pb,nb,cb⟩,⟨pc,nc,cc⟩⟩ hk ih
 simp only [List.cons_append,List.nil_append] at hk ih ⊢
 by_cases hkl:k<k1
 ·have at_x:=hba k hkl
  have hxb:=hbq k
  have hOC:Cok p ms mds N (trO p ms mds N (fun b=>rows.map (txI p m ms md IM b)) (BS.take k)):=AIp Ks h1N h64 _ fun b hb=>by
   obtain ⟨i,hi⟩:=List.getElem?_of_mem (List.mem_of_mem_take hb)
   obtain ⟨b0,b1⟩:=hbs i b hi
   exact hFM2 b b0 b1
  have ih0:=fun pb nb cb pc nc cc=>ih (k+1,(pb,nb,cb),(pc,nc,cc)) (by dsimp only;omega) (by dsimp only;omega)
  dsimp only at ih0
  rw [AHb at_x] at ih0
  clear ih
  generalize trO p ms mds N (fun b=>rows.map (txI p m ms md IM b)) (BS.take k)=OUT at *
  generalize Nc (Mp (fM p (Ax m md)) p (ms % m)) k x0=x at *
  have hMx:=hFM2 (x:Int) (by omega) (by omega)
  have hWx:=hFM (x:Int) (by omega) (by omega)
  have El:=fun {u:List Int}{b ng cg ce cl nu cu:Nat}{pg pe pl pu:Option Addr}(hu:∀ x∈u,0≤x∧x<((p ^ m:Nat):Int))=>(U2 (b:=b) (ng:=ng) (cg:=cg) (ce:=ce) (cl:=cl) (pg:=pg) (pe:=pe) (pl:=pl) (pu:=pu) (nu:=nu) (cu:=cu) (u:=u) K (Int.natCast_nonneg x) (by omega:(x:Int)<((p ^ m:Nat):Int)) hu)
  have Nk:=fun {y:Nat}{b cg ce cl:Nat}{pg pe pl:Option Addr}(hy:y<p ^ m)=>AAW (b:=b) (cg:=cg) (ce:=ce) (cl:=cl) (pg:=pg) (pe:=pe) (pl:=pl) K hy d1 d8 hd
  refine Am [_,_,_,_,_] rfl ?_
  refine Ae it 1 rfl (by simp) ?_
  refine Am [_,_,_,_,_] rfl ?_
  refine Lc rfl rfl (fun h7=>?_) (fun h7=>by exfalso;omega)
  refine Am [_,_,_,_,_,_,_] rfl ?_
  refine Aa rfl (Iw 2 (k) rfl rfl rfl Ce rfl (by omega) fun z1 hz1 b5 o1=>?_)
  obtain rfl:_=z1:=Option.some.inj (at_x.symm.trans hz1)
  refine Aa rfl (Av 0 rfl rfl Ci fun ⟨r2,r3⟩=>?_)
  refine Ae it 1 rfl (by simp) ?_
  refine Am [_,_,_,_,_,_,_] rfl ?_
  refine Aa rfl (Aq rfl Kt ?_)
  refine Aa rfl (Bm 3 rfl rfl Ci rfl ?_)
  refine Aa rfl (Dn (cs:=[Value.int IntKind.i64 ↑N,Value.slice none 0 0]) Uz G9 rfl rfl ?_)
  refine Aa rfl (Bl G9 fun b6=>?_)
  refine Aa rfl (A8 0 rfl rfl rfl F6 rfl rfl (by simp [Value.oneCell']) ?_)
  refine Am [_,_,_,_,_,_,_,_] rfl ?_
  refine Aa rfl (Aq rfl R9 ?_)
  refine Aa rfl (Bm 4 rfl rfl H7 rfl ?_)
  refine Aa rfl (Hf D5 rfl ?_)
  refine Ae it 1 rfl (by simp) ?_
  refine Am [_,_,_,_,_,_,_,_] rfl ?_ --ok
  simp only [setB,List.set_cons_zero,List.set_cons_succ]
  refine F3 (Aj Ai) 22 ?_
  refine Ah (X:=Nat×Row) [2,3,4,5,8,11,13,15,16,57,58,59,60,61,62,63,64,65,66,67,68] [0,1,2,3,4,5,6,7,8,9,10,11,12] (fun z=>[(69,.int .i64 (z.1:Int))]) (fun z=>(z.2.bo,22,z.2.cs)::(some b6,62,[.int .i64 N,.slice (ad z.2.bo) z.1 z.2.cap])::_) (fun z=>[A7 (Aj Ai) z.2 z.1 ((rows.take z.1).map (txI p m ms md IM x))]) (fun z=>z.1≤rows.length) (fun z=>rows.length-z.1) (0,⟨none,0,[]⟩) [0] rfl rfl rfl (Nat.zero_le _) (by repeat (first|exact Fr.sub_nil _|refine Fr.sub_cons rfl ?_)) rfl rfl ?_
  rintro ⟨i,r⟩ hi ih
  simp only [List.cons_append,List.nil_append] at hi ih ⊢
  by_cases hil:i<rows.length
  ·obtain ⟨u,at_u⟩:∃ u,rows[i]?=some u:=⟨_,List.getElem?_eq_getElem hil⟩
   have hum:=List.mem_of_getElem? at_u
   have hu:=CC.mat u hum
   have hul:=hu.1
   have ih1:=fun r=>ih (i+1,r) (by dsimp only;omega) (by dsimp only;omega)
   dsimp only at ih1
   rw [List.take_add_one (l:=rows),at_u,Option.toList_some,List.map_append,List.map_cons,List.map_nil] at ih1
   clear ih
   have El:=fun {b ng cg ce cl cu:Nat}{pg pe pl pu:Option Addr}=>(El (u:=u) (b:=b) (ng:=ng) (cg:=cg) (ce:=ce) (cl:=cl) (pg:=pg) (pe:=pe) (pl:=pl) (pu:=pu) (nu:=u.length) (cu:=cu) hu.2).pubR (by show u.length*8≤140737488355328;omega)
   have hSw:=(C1 K).scl_wd (Int.natCast_nonneg x) (by omega:(x:Int)<((p ^ m:Nat):Int)) hu
   have hTw:=hWx u hum
   have hTa:∀ (j:Nat) (y:Int),(Ct (Ad (fM p (Ax m md))) (x:Int) u)[j]?=some y→(txI p m ms md IM x u)[j]?=some (Tn (S0 (Ad (fA p m)) (Bb (R4 (fM p (Ax m md)) p m ms y.toNat))) IM):=fun j y h=>by rw [txI,List.getElem?_map,h];rfl
   generalize txI p m ms md IM x u=T at *
   have hSl:=hSw.1
   generalize Ct (Ad (fM p (Ax m md))) (x:Int) u=SC at *
   refine wk 19 (ct @El cz) ?_
   intro h8 b7 o2 hz2 pa1 ca1 b8 pa2 ca2 --ok
   rw [show Ao .i64 (List.replicate N 0)=Al .i64 (T.take 0++List.replicate (N-0) 0) by simp [Ao,Al]]
   simp only [List.cons_append,List.nil_append]
   refine Ah (X:=Nat) [2,3,4,5,8,11,13,15,16,18,19,57,58,59,60,61,62,63,64,65,66,67,68,69,70,71,72,73,74,75,76,77,78,79,80] [0,1,2,3,4,5,6,7,8,9,10,11,12,13,14,15,16] (fun t=>[(81,.int .i64 (t:Int))]) (fun t=>(some b8,3,Al .i64 (T.take t++List.replicate (N-t) 0))::_) (fun _=>[]) (fun t=>t≤N) (fun t=>N-t) 0 [] rfl rfl rfl (Nat.zero_le _) (by repeat (first|exact Fr.sub_nil _|refine Fr.sub_cons rfl ?_)) rfl rfl ?_
   rintro t ht ih
   simp only [List.cons_append,List.nil_append] at ht ih ⊢
   by_cases htl:t<N
   ·obtain ⟨y,at_y⟩:∃ y,SC[t]?=some y:=⟨_,List.getElem?_eq_getElem (by omega)⟩
    obtain ⟨y0,y1⟩:=hSw.2 y (List.mem_of_getElem? at_y)
    obtain ⟨y',rfl⟩:=Int.eq_ofNat_of_zero_le y0
    have hyq:y'<p ^ m:=by omega
    have hTt:=hTa t _ at_y
    rw [Int.toNat_natCast] at hTt
    obtain ⟨i0,i1⟩:=hTr y' hyq
    have Nk:=fun {b cg ce cl:Nat}{pg pe pl:Option Addr}=>Nk (b:=b) (cg:=cg) (ce:=ce) (cl:=cl) (pg:=pg) (pe:=pe) (pl:=pl) hyq
    have ih':=ih (t+1) (by omega) (by omega)
    rw [← take_set hTt htl] at ih'
    have hln:(T.take t++List.replicate (N-t) 0).length=N:=by have:=hTw.1;simp;omega
    generalize T.take t++List.replicate (N-t) 0=L at *
    generalize S0 (Ad (fA p m)) (Bb (R4 (fM p (Ax m md)) p m ms y'))=tr at *
    clear ih
    refine wk 7 cz ?_
    intro h9 b9 o3 hz3
    refine Aa rfl (Av 0 rfl rfl Ci fun ⟨r4,r5⟩=>?_)
    refine wk 15 (ct @Nk (ct @Hq cz)) ?_
    exact tw (ih')
   ·obtain rfl:t=N:=by omega
    have hTl:=hTw.1
    rw [Nat.sub_self,List.replicate_zero,List.append_nil,List.take_of_length_le (by omega)]
    clear ih
    have hmr:∀ z∈T,Bv .i64 z:=fun z hz=>by have:=hTw.2 z hz;simp only [Bv];omega
    refine Bk 0 rfl hTl.symm hmr (by omega) ?_
    refine wk 9 cz ?_
    intro h9 b9
    refine C4 1 0 rfl rfl (by show (t)*8≤140737488355328;omega) ?_
    refine Aa rfl (Ga (z:=T) 1 0 5 rfl rfl rfl rfl rfl D5 I6 rfl (fun w A hG=>(A2 (hG _ (Af (n:=0) rfl)))) (by omega) _ M7 (by omega) fun r4=>?_)
    refine wk 5 cz ?_
    refine Kx [true,false,true,true,true,true,true] [0,7,8,9,10,11,12,13,14,15,16,17,18,19] (by exact Uy rfl) rfl rfl (ih1 r4)
  ·obtain rfl:i=rows.length:=by omega
   clear ih
   rw [List.take_length]
   refine D2 0 0 rfl rfl (by show rows.length*24≤140737488355328;omega) ?_
   simp only [List.eraseIdx_cons_zero,List.eraseIdx_cons_succ]
   have hRl:(rows.map (txI p m ms md IM (x:Int))).length=rows.length:=List.length_map _
   have hCok2:=Cok.cn Ks h1N h64 hMx
   generalize rows.map (txI p m ms md IM (x:Int))=RX at *
   have Df:=fun {pm ps:Option Addr}{nm cm n c:Nat}=>hNew (rows:=RX) (pm:=pm) (ps:=ps) (nm:=nm) (cm:=cm) (n:=n) (c:=c) (by omega) hMx
   have Ua:=fun {pm ps p2 pm2:Option Addr}{nm cm n c nm2 cm2 n2 c2:Nat}=>To (pm:=pm) (ps:=ps) (nm:=nm) (cm:=cm) (n:=n) (c:=c) (p2:=p2) (pm2:=pm2) (n2:=n2) (c2:=c2) (nm2:=nm2) (cm2:=cm2) hOC hCok2
   refine wk 30 (ct @Df (ct @Ua cz)) ?_
   intro h8 pb2 pc2 nb2 cb2 nc2 cc2 b7 h9 pb3 pc3 nb3 cb3 nc3 cc3 h10
   simp only [setB,List.set_cons_zero,List.set_cons_succ,List.cons_append,List.nil_append]
   refine Py [2,3,4,5] rfl rfl ?_
   exact tw (ih0 pb3 nb3 cb3 pc3 nc3 cc3)
 ·obtain rfl:k=k1:=by omega
  rw [List.take_of_length_le (by omega)]
  clear ih
  refine wk 10 cz ?_
  intro h7
  refine Bj [0,1] rfl (.agg 1 rfl rfl Cs rfl (.tmp rfl .nil)) rfl ⟨_,_,_,_,_,_,rfl,rfl,rfl⟩
end
open Go Go.Fw
set_option maxRecDepth 100000
set_option linter.unusedVariables false
set_option linter.unusedSimpArgs false
set_option maxHeartbeats 0
abbrev imT (p m ms:Nat) (md:List Int) (r:Nat):List Int:=imL (Ad (fA p m)) (Ad (fM p (Ax m md))) p ms (U4 (fM p (Ax m md)) r ms)
structure TwOk (p m ms:Nat) (md mds:List Int) (r x0:Nat):Prop where
 K:Fok p m md
 Ks:Fok p ms mds
 hd:dgB m ms=true
 hr:r<p ^ m
 hr1:ms≠1→(rtP (Ad (fA p m)) (Ad (fM p (Ax m md))) (mds++[1]) (p ^ m))[0]?=some (r:Int)
 hx0:x0<p ^ m
 hN:nsB p m ms md (R4 (fM p (Ax m md)) p m ms x0)=true
 hmin:∀ y,y<x0→nsB p m ms md (R4 (fM p (Ax m md)) p m ms y)=false
 hxc:Nc (Mp (fM p (Ax m md)) p (ms % m)) (m / ms) x0=x0
 hxn:∀ i,1≤i→i<m / ms→Nc (Mp (fM p (Ax m md)) p (ms % m)) i x0≠x0
 hTr:∀ y,y<p ^ m→0≤Tn (S0 (Ad (fA p m)) (Bb (R4 (fM p (Ax m md)) p m ms y))) (imT p m ms md r)∧Tn (S0 (Ad (fA p m)) (Bb (R4 (fM p (Ax m md)) p m ms y))) (imT p m ms md r)<((p ^ ms:Nat):Int)
theorem TwOk.n0 {p m ms r x0:Nat}{md mds:List Int}(T:TwOk p m ms md mds r x0):0<m / ms:=Nat.div_pos (of_decide_eq_true T.hd).1 T.Ks.m1
def tcP (p m ms:Nat) (md mds:List Int) (r x0 N:Nat) (rows:List (List Int)):List (List Int):=trO p ms mds N (fun b=>rows.map (txI p m ms md (imT p m ms md r) b)) (Bb ((List.range (m / ms)).map fun i=>Nc (Mp (fM p (Ax m md)) p (ms % m)) i x0))
def emL (IM:List Int) (row:List Int):List Int:=row.map fun x=>Bf IM x.toNat
section
variable {p m ms n nm cm nm2 cm2 c r x0:Nat}{ps pm pm2:Option Addr}{md mds:List Int}{rows:List (List Int)}
theorem Vh {N:Nat}(CC:Cok p m md N rows) (T:TwOk p m ms md mds r x0) :
  Bt Tryz.prog 34 [.agg #[.int .i64 p,.int .i64 m,.slice pm nm cm,.int .i64 N,.slice ps n c],.agg #[.int .i64 p,.int .i64 ms,.slice pm2 nm2 cm2]] [] [Ap Ai pm nm cm md,Ap (Aj Ai) ps n c rows,Ap Ai pm2 nm2 cm2 mds] (Xc p ms N mds (tcP p m ms md mds r x0 N rows) 0):=by
 refine Ab (F:=AAi) rfl fun C=>?_
 have h64:=CC.n64
 have Au:=fun {pm ps:Option Addr}{nm cm n c:Nat}=>Ds (P:=p) (M:=m) (pm:=pm) (ps:=ps) (nm:=nm) (cm:=cm) (n:=n) (c:=c) (md:=md) (rows:=rows) (N:=N) (by simp only [Bv];omega) CC.ck
 have Gs:=fun {pm pm2 pm3:Option Addr}{nm cm nm2 cm2 nm3 cm3:Nat}=>Ki (pm:=pm) (nm:=nm) (cm:=cm) (pm2:=pm2) (nm2:=nm2) (cm2:=cm2) (pm3:=pm3) (nm3:=nm3) (cm3:=cm3) T.K T.Ks T.Ks T.hd T.hr T.hr1
 have H9:=fun {b nm cm nm2 cm2 n c cg ce cl ci:Nat}{pm pm2 ps pg pe pl pi:Option Addr}=>Qm (b:=b) (nm:=nm) (cm:=cm) (nm2:=nm2) (cm2:=cm2) (ns:=n) (c:=c) (cg:=cg) (ce:=ce) (cl:=cl) (ci:=ci) (pm:=pm) (pm2:=pm2) (ps:=ps) (pg:=pg) (pe:=pe) (pl:=pl) (pi:=pi) CC T.Ks T.hd rfl T.n0 T.hx0 T.hN T.hmin T.hxc T.hxn T.hTr
 rw [tcP]
 refine wk 33 (ct @Au (ct @Gs (ct @H9 cz))) ?_
 intro b1 b2 b3 h1 b4 pg1 cg1 pe1 ce1 pl1 cl1 pa1 ca1 h2 pb1 pc1 nb1 cb1 nc1 cc1
 refine Bj [0,1] rfl (.agg 0 rfl rfl Cs rfl (.tmp rfl .nil)) rfl ⟨_,_,_,_,_,_,rfl,rfl,rfl⟩
theorem Rw {N:Nat}(CC:Cok p m md N rows) (T:TwOk p m ms md mds r x0) (hT:Cok p ms mds N (tcP p m ms md mds r x0 N (Li p m md N rows))) :
  Bt Tryz.prog 32 [.agg #[.int .i64 p,.int .i64 m,.slice pm nm cm,.int .i64 N,.slice ps n c],.agg #[.int .i64 p,.int .i64 ms,.slice pm2 nm2 cm2]] [] [Ap Ai pm nm cm md,Ap (Aj Ai) ps n c rows,Ap Ai pm2 nm2 cm2 mds] (Xc p ms N mds (Li p ms mds N (tcP p m ms md mds r x0 N (Li p m md N rows))) 0):=by
 refine Ab (F:=Vg) rfl fun C=>?_
 have h64:=CC.n64
 have CN:=CC.nu
 have Au:=fun {pm ps:Option Addr}{nm cm n c:Nat}=>Ds (P:=p) (M:=m) (pm:=pm) (ps:=ps) (nm:=nm) (cm:=cm) (n:=n) (c:=c) (md:=md) (rows:=rows) (N:=N) (by simp only [Bv];omega) CC.ck
 have Gs:=fun {pm pm2 pm3:Option Addr}{nm cm nm2 cm2 nm3 cm3:Nat}=>Ki (pm:=pm) (nm:=nm) (cm:=cm) (pm2:=pm2) (nm2:=nm2) (cm2:=cm2) (pm3:=pm3) (nm3:=nm3) (cm3:=cm3) T.K T.Ks T.Ks T.hd T.hr T.hr1
 have Gc:=fun {pm ps:Option Addr}{nm cm n c:Nat}=>Jb (pm:=pm) (ps:=ps) (nm:=nm) (cm:=cm) (n:=n) (c:=c) CC
 have hD:=fun {pm ps:Option Addr}{nm cm n c:Nat}=>Jb (pm:=pm) (ps:=ps) (nm:=nm) (cm:=cm) (n:=n) (c:=c) hT
 have H9:=fun {b nm cm nm2 cm2 n c cg ce cl ci:Nat}{pm pm2 ps pg pe pl pi:Option Addr}=>Qm (b:=b) (nm:=nm) (cm:=cm) (nm2:=nm2) (cm2:=cm2) (ns:=n) (c:=c) (cg:=cg) (ce:=ce) (cl:=cl) (ci:=ci) (pm:=pm) (pm2:=pm2) (ps:=ps) (pg:=pg) (pe:=pe) (pl:=pl) (pi:=pi) CN T.Ks T.hd rfl T.n0 T.hx0 T.hN T.hmin T.hxc T.hxn T.hTr
 rw [← tcP] at H9
 generalize tcP p m ms md mds r x0 N (Li p m md N rows)=TC at *
 generalize Li p m md N rows=D at *
 refine wk 39 (ct @Au (ct @Gs (ct @Gc cz))) ?_
 intro b1 b2 b3 h1 b4 pg1 cg1 pe1 ce1 pl1 cl1 pa1 ca1 h2 pb1 pc1 nb1 cb1 nc1 cc1 b5 h3
 have Gc:=fun {pm ps:Option Addr}{nm cm n c:Nat}=>hD (pm:=pm) (ps:=ps) (nm:=nm) (cm:=cm) (n:=n) (c:=c)
 generalize Li p ms mds N TC=R at *
 refine wk 16 (ct @H9 (ct @Gc cz)) ?_
 intro pb2 pc2 nb2 cb2 nc2 cc2 b6 h4 pb3 pc3 nb3 cb3 nc3 cc3
 refine Bj [0,1] rfl (.agg 2 rfl rfl Cs rfl (.tmp rfl .nil)) rfl ⟨_,_,_,_,_,_,rfl,rfl,rfl⟩
theorem AJx (K:Fok p m md) (hr:r<p ^ m) (Ks:Fok p ms mds):∀ z∈imT p m ms md r,0≤z∧z<((p ^ m:Nat):Int):=fun z hz=>by
 obtain ⟨x,_,rfl⟩:=List.mem_map.1 hz
 refine R1 K.fi _ 0 (Int.le_refl 0) K.fi.z fun y hy=>?_
 obtain ⟨i,hi,rfl⟩:=List.getElem_of_mem hy
 rw [List.getElem_zipWith]
 rw [List.length_zipWith] at hi
 have h1:∀ z∈Bb (Db p ms x),0≤z∧z<((p ^ m:Nat):Int):=fun z hz=>by
  obtain ⟨y,hy,rfl⟩:=List.mem_map.1 hz
  have:=I3 (by have:=K.p2;omega) y hy
  have hpm:p≤p ^ m:=Nat.le_self_pow (by have:=K.m1;omega) p
  omega
 have h2:∀ z∈U4 (fM p (Ax m md)) r ms,0≤z∧z<((p ^ m:Nat):Int):=fun z hz=>by
  obtain ⟨y,hy,rfl⟩:=List.mem_map.1 hz
  obtain ⟨i,_,rfl⟩:=List.mem_map.1 hy
  have:=K.rng'.pw_lt hr i
  omega
 obtain ⟨a0,a1⟩:=h1 (Bb (Db p ms x))[i] (List.getElem_mem (by omega))
 obtain ⟨b0,b1⟩:=h2 (U4 (fM p (Ax m md)) r ms)[i] (List.getElem_mem (by omega))
 exact K.fi.ml _ _ a0 a1 b0 b1
theorem AHm {q q' N:Nat}{IM u:List Int}(h0:0<q') (hI:∀ z∈IM,0≤z∧z<(q':Int)) (hu:Wd q N u):Wd q' N (emL IM u):=⟨by rw [emL,List.length_map,hu.1],fun z hz=>by
 obtain ⟨x,_,rfl⟩:=List.mem_map.1 hz
 rw [Bf,List.getD_eq_getElem?_getD]
 cases h:IM[x.toNat]? with
 | none=>exact ⟨Int.le_refl 0,by show (0:Int)<_;omega⟩
 | some y=>exact hI y (List.mem_of_getElem? h)⟩
end
open Go Go.Fw
set_option maxRecDepth 100000
set_option linter.unusedVariables false
set_option linter.unusedSimpArgs false
set_option maxHeartbeats 0
section
variable {p m ms n nm cm nm2 cm2 c r x0:Nat}{ps pm pm2:Option Addr}{md mds:List Int}{rows:List (List Int)}
theorem Xe {N:Nat}(CC:Cok p ms mds N rows) (K:Fok p m md) (hd:dgB m ms=true) (hr:r<p ^ m) (hr1:ms≠1→(rtP (Ad (fA p m)) (Ad (fM p (Ax m md))) (mds++[1]) (p ^ m))[0]?=some (r:Int)) :
  Bt Tryz.prog 36 [.agg #[.int .i64 p,.int .i64 ms,.slice pm nm cm,.int .i64 N,.slice ps n c],.agg #[.int .i64 p,.int .i64 m,.slice pm2 nm2 cm2]] [] [Ap Ai pm nm cm mds,Ap (Aj Ai) ps n c rows,Ap Ai pm2 nm2 cm2 md] (Xc p m N md (Dh p m md N (rows.map (emL (imT p m ms md r)))).1 0):=by
 refine Ab (F:=AA2) rfl fun C=>?_
 refine Ba 1 rfl fun hn hb1 _=>?_
 subst hn
 have h64:=CC.n64
 have hl:=CC.len
 have Ks:=CC.K
 have hq:=K.q
 have Au:=fun {pm ps:Option Addr}{nm cm n c:Nat}=>Ds (P:=p) (M:=ms) (pm:=pm) (ps:=ps) (nm:=nm) (cm:=cm) (n:=n) (c:=c) (md:=mds) (rows:=rows) (N:=N) (by simp only [Bv];omega) CC.ck
 have Gs:=fun {pm pm2 pm3:Option Addr}{nm cm nm2 cm2 nm3 cm3:Nat}=>Ki (pm:=pm) (nm:=nm) (cm:=cm) (pm2:=pm2) (nm2:=nm2) (cm2:=cm2) (pm3:=pm3) (nm3:=nm3) (cm3:=cm3) K CC.K K hd hr hr1
 have hIr:=AJx K hr CC.K
 have hIl:(imT p m ms md r).length=p ^ ms:=AE9
 have hEM:Cw (p ^ m) N (rows.map (emL (imT p m ms md r))):=fun s hs=>by
  obtain ⟨u,hu,rfl⟩:=List.mem_map.1 hs
  exact AHm (Nat.pow_pos (by have:=K.p2;omega)) hIr (CC.mat u hu)
 have hRl:(rows.map (emL (imT p m ms md r))).length=rows.length:=List.length_map _
 have Df:=fun {pm ps:Option Addr}{nm cm n c:Nat}=>Io (pm:=pm) (ps:=ps) (nm:=nm) (cm:=cm) (n:=n) (c:=c) (N:=N) (rows:=rows.map (emL (imT p m ms md r))) K CC.n1 CC.n64 (by omega) hEM
 generalize hG:(Dh p m md N (rows.map (emL (imT p m ms md r)))).1=G at *
 clear hG
 simp only [imT] at *
 refine Am [_,_] rfl ?_
 refine Aa rfl (Cv rfl fun b1=>?_)
 refine Aa rfl (Cv rfl fun b2=>?_)
 refine Aa rfl (Bl O0 fun b3=>?_)
 refine Ae it 1 rfl (by simp) ?_
 refine Am [_,_,_] rfl ?_
 refine Aa rfl (A1 2 rfl rfl Cs rfl ?_)
 refine Aa rfl (Aw [0,1] rfl (Au) rfl ?_)
 rintro _ _ _ ⟨rfl,rfl,rfl⟩
 simp only [List.cons_append,List.nil_append]
 refine Ae it 1 rfl (by simp) ?_
 refine Am [_,_,_] rfl ?_
 refine Ae it 2 rfl (by simp) ?_
 refine Am [_,_] rfl ?_
 refine Nd rfl rfl (fun h1=>by exfalso;omega) (fun h1=>?_)
 refine Am [_,_] rfl ?_
 refine Aa rfl (Aq rfl Ug ?_)
 refine Aa rfl (S2 2 rfl rfl Hy rfl rfl ?_)
 refine Aa rfl (A1 1 rfl rfl Hy rfl ?_)
 refine Aa rfl (A1 1 rfl rfl Hy rfl ?_)
 refine Aa rfl (Aw [0,2,2] rfl (Gs) rfl ?_)
 rintro _ _ _ ⟨b4,pg1,cg1,pe1,ce1,pl1,cl1,pa1,ca1,rfl,rfl,rfl⟩
 simp only [List.cons_append,List.nil_append]
 simp only [decide_true]
 refine Ae it 7 rfl (by simp) ?_
 refine Am [_,_,_] rfl ?_
 refine Ae it 2 rfl (by simp) ?_
 refine Am [_,_] rfl ?_
 refine Nd rfl rfl (fun h2=>by exfalso;omega) (fun h2=>?_)
 refine Am [_,_] rfl ?_
 refine Aa rfl (Aq rfl Kt ?_)
 refine Aa rfl (Bm 2 rfl rfl Ci rfl ?_)
 refine Aa rfl (Dn (cs:=[Value.int IntKind.i64 ↑N,Value.slice none 0 0]) Uz G9 rfl rfl ?_)
 refine Aa rfl (Bl G9 fun b5=>?_)
 refine Aa rfl (A8 0 rfl rfl rfl F6 rfl rfl (by simp [Value.oneCell']) ?_)
 refine Am [_,_,_] rfl ?_
 refine Aa rfl (Aq rfl R9 ?_)
 refine Aa rfl (Bm 3 rfl rfl H7 rfl ?_)
 refine Aa rfl (Hf D5 rfl ?_)
 refine Ae it 1 rfl (by simp) ?_
 refine Am [_,_,_] rfl ?_ --ok
 simp only [setB,List.set_cons_zero,List.set_cons_succ,List.cons_append,List.nil_append]
 generalize imL (Ad (fA p m)) (Ad (fM p (Ax m md))) p ms (U4 (fM p (Ax m md)) r ms)=IM at *
 refine Eh (Ap (Aj Ai) none 0 0 []) (fun w A _=>Do _ w A none 0) ?_
 refine F3 (Aj Ai) 22 ?_
 refine Ah (X:=Nat×Row) [2,3,4,5,8,10,39,40] [0,1,2,3,4,5,6,7,8,9] (fun z=>[(41,.int .i64 (z.1:Int))]) (fun z=>(z.2.bo,22,z.2.cs)::(some b5,62,[.int .i64 N,.slice (ad z.2.bo) z.1 z.2.cap])::_) (fun z=>[A7 (Aj Ai) z.2 z.1 ((rows.take z.1).map (emL IM))]) (fun z=>z.1≤rows.length) (fun z=>rows.length-z.1) (0,⟨none,0,[]⟩) [0] rfl rfl rfl (Nat.zero_le _) (by repeat (first|exact Fr.sub_nil _|refine Fr.sub_cons rfl ?_)) rfl rfl ?_
 rintro ⟨i,r⟩ hi ih
 simp only [List.cons_append,List.nil_append] at hi ih ⊢
 by_cases hil:i<rows.length
 ·obtain ⟨u,at_u⟩:∃ u,rows[i]?=some u:=⟨_,List.getElem?_eq_getElem hil⟩
  have hum:=List.mem_of_getElem? at_u
  have hu:=CC.mat u hum
  have hul:=hu.1
  have ih1:=fun r=>ih (i+1,r) (by dsimp only;omega) (by dsimp only;omega)
  dsimp only at ih1
  rw [List.take_add_one (l:=rows),at_u,Option.toList_some,List.map_append,List.map_cons,List.map_nil] at ih1
  clear ih
  have hTw:=AHm (show 0<p ^ m from Nat.pow_pos (by have:=K.p2;omega)) hIr hu
  have hTa:∀ (j:Nat) (y:Int),u[j]?=some y→(emL IM u)[j]?=some (Bf IM y.toNat):=fun j y h=>by rw [emL,List.getElem?_map,h];rfl
  generalize emL IM u=T at *
  refine wk 18 cz ?_
  intro h3 b6 o1 hz1 pa2 ca2 b7 --ok
  rw [show Ao .i64 (List.replicate N 0)=Al .i64 (T.take 0++List.replicate (N-0) 0) by simp [Ao,Al]]
  simp only [List.cons_append,List.nil_append]
  refine Ah (X:=Nat) [2,3,4,5,8,10,12,13,39,40,41,42,43,44,45,46,47,48,49] [0,1,2,3,4,5,6,7,8,9,10,11,12] (fun t=>[(50,.int .i64 (t:Int))]) (fun t=>(some b7,3,Al .i64 (T.take t++List.replicate (N-t) 0))::_) (fun _=>[]) (fun t=>t≤N) (fun t=>N-t) 0 [] rfl rfl rfl (Nat.zero_le _) (by repeat (first|exact Fr.sub_nil _|refine Fr.sub_cons rfl ?_)) rfl rfl ?_
  rintro t ht ih
  simp only [List.cons_append,List.nil_append] at ht ih ⊢
  by_cases htl:t<N
  ·obtain ⟨y,at_y⟩:∃ y,u[t]?=some y:=⟨_,List.getElem?_eq_getElem (by omega)⟩
   obtain ⟨y0,y1⟩:=hu.2 y (List.mem_of_getElem? at_y)
   obtain ⟨y',rfl⟩:=Int.eq_ofNat_of_zero_le y0
   have hTt:=hTa t _ at_y
   rw [Int.toNat_natCast] at hTt
   obtain ⟨z,at_z⟩:∃ z,IM[y']?=some z:=⟨_,List.getElem?_eq_getElem (by omega)⟩
   have ez:Bf IM y'=z:=by rw [Bf,List.getD_eq_getElem?_getD,at_z];rfl
   obtain ⟨z0,z1⟩:=hIr z (List.mem_of_getElem? at_z)
   rw [ez] at hTt
   have ih':=ih (t+1) (by omega) (by omega)
   rw [← take_set hTt htl] at ih'
   have hln:(T.take t++List.replicate (N-t) 0).length=N:=by have:=hTw.1;simp;omega
   generalize T.take t++List.replicate (N-t) 0=L at *
   clear ih
   refine wk 7 cz ?_
   intro h4 b8 o2 hz2
   refine Aa rfl (Av 0 rfl rfl Ci fun ⟨r1,r2⟩=>?_)
   refine wk 4 cz ?_
   intro b9 o3 hz3
   refine Aa rfl (Av 0 rfl rfl Ci fun ⟨r3,r4⟩=>?_)
   refine wk 5 cz ?_
   exact tw (ih')
  ·obtain rfl:t=N:=by omega
   have hTl:=hTw.1
   rw [Nat.sub_self,List.replicate_zero,List.append_nil,List.take_of_length_le (by omega)]
   clear ih
   have hmr:∀ z∈T,Bv .i64 z:=fun z hz=>by have:=hTw.2 z hz;simp only [Bv];omega
   refine Bk 0 rfl hTl.symm hmr (by omega) ?_
   refine wk 9 cz ?_
   intro h4 b8
   refine C4 1 0 rfl rfl (by show (t)*8≤140737488355328;omega) ?_
   refine Aa rfl (Ga (z:=T) 1 0 4 rfl rfl rfl rfl rfl D5 I6 rfl (fun w A hG=>(A2 (hG _ (Af (n:=0) rfl)))) (by omega) _ M7 (by omega) fun r1=>?_)
   refine wk 5 cz ?_
   refine Kx [true,false,true,true,true,true] [0,6,7,8,9,10,11,12,13,14,15] (by exact Uy rfl) rfl rfl (ih1 r1)
 ·obtain rfl:i=rows.length:=by omega
  clear ih
  rw [List.take_length]
  refine D2 0 0 rfl rfl (by show rows.length*24≤140737488355328;omega) ?_
  simp only [List.eraseIdx_cons_zero,List.eraseIdx_cons_succ]
  refine wk 12 (ct @Df cz) ?_
  intro h3 pb1 pc1 nb1 cb1 nc1 cc1
  refine Bj [0,1] rfl (.agg 1 rfl rfl Cs rfl (.tmp rfl .nil)) rfl ⟨_,_,_,_,_,_,rfl,rfl,rfl⟩
end
open Go Go.Fw
set_option maxRecDepth 100000
set_option linter.unusedVariables false
set_option linter.unusedSimpArgs false
set_option maxHeartbeats 0
theorem AMf:Prm 2:=⟨Nat.le_refl 2,fun d h1 h2=>by omega⟩
theorem K21:Fok 2 1 []:=⟨AMf,by decide,by decide,by decide,fun _=>rfl,fun h=>absurd rfl h,fun x hx=>(by cases hx),fun h=>absurd rfl h⟩
theorem K22:Fok 2 2 [1,1]:=⟨AMf,by decide,by decide,by decide,fun h=>absurd h (by decide),fun _=>rfl,fun x hx=>(by
 rcases List.mem_cons.1 hx with rfl|hx
 ·decide
 ·rw [List.mem_singleton.1 hx];decide),fun _ d h1 h2 v hv hc=>by
 have h2:2*d≤2:=h2
 obtain rfl:d=1:=by omega
 have hv:v<2:=hv
 have h0:=hc 0
 match v,hv with
 | 0,_=>exact absurd h0 (by decide +kernel)
 | 1,_=>exact absurd h0 (by decide +kernel)⟩
abbrev cR:List (List Int):=[[1,0,1,0],[0,1,1,1]]
theorem AK2 {q n:Nat}{u:List Int}(h:(decide (u.length=n) && u.all fun x=>decide (0≤x∧x<(q:Int)))=true):Wd q n u:=by
 rw [Bool.and_eq_true] at h
 exact ⟨of_decide_eq_true h.1,fun x hx=>of_decide_eq_true (List.all_eq_true.1 h.2 x hx)⟩
theorem Yu {q n:Nat}{rows:List (List Int)}(h:(rows.all fun u=>decide (u.length=n) && u.all fun x=>decide (0≤x∧x<(q:Int)))=true):Cw q n rows:=fun r hr=>AK2 (List.all_eq_true.1 h r hr)
theorem CCa:Cok 2 1 [] 4 cR:=⟨K21,by decide,by decide,Yu (by decide +kernel),by decide +kernel⟩
theorem CCb:Cok 2 2 [1,1] 3 [[1,2,3]]:=⟨K22,by decide,by decide,Yu (by decide +kernel),by decide +kernel⟩
theorem CCy:Cok 2 1 [] 4 [[1,0,1,0]]:=⟨K21,by decide,by decide,Yu (by decide +kernel),by decide +kernel⟩
theorem TW:TwOk 2 2 1 [1,1] [] 0 2 where
 K:=K22
 Ks:=K21
 hd:=by decide +kernel
 hr:=by decide
 hr1:=fun h=>absurd rfl h
 hx0:=by decide
 hN:=by decide +kernel
 hmin:=by decide +kernel
 hxc:=by decide +kernel
 hxn:=fun i h1 h2=>by
  have h2:i<2:=h2
  obtain rfl:i=1:=by omega
  decide +kernel
 hTr:=by decide +kernel
section
variable {n c nm cm ns cs' nm2 cm2:Nat}{pm ps pt pm2:Option Addr}
theorem AHA {n:Int}{l:List Int}(h:(l.all fun x=>decide (0≤x∧x<n))=true) (h2:l.Pairwise (·<·)):Yk n l:=⟨fun x hx=>of_decide_eq_true (List.all_eq_true.1 h x hx),h2⟩
theorem AJY:psE 2 1 [] 4 cR [0]=0:=by
 rw [psE,if_neg (fun e=>e CCa.ck),if_neg (fun e=>e (AHA (by decide) (by simp))),if_neg (by decide)]
theorem ADY:Bt Tryz.prog 15 [.agg #[.int .i64 2,.int .i64 1,.slice pm nm cm,.int .i64 4,.slice ps n c],.slice pt ns cs'] [] [Ap Ai pm nm cm [],Ap (Aj Ai) ps n c cR,Ap Ai pt ns cs' [0]] (Xc 2 1 3 [] [[1,0,1],[0,1,0]] 0):=by
 have h:=Nh (P:=((2:Nat):Int)) (M:=((1:Nat):Int)) (pm:=pm) (nm:=nm) (cm:=cm) (ps:=ps) (n:=n) (c:=c) (md:=[]) (rows:=cR) (N:=((4:Nat):Int)) (pt:=pt) (ns:=ns) (cs':=cs') (set:=[0]) (by simp [Bv])
 rw [AD5 (p:=2) (m:=1) (n:=4) AJY,show (Dh 2 1 [] (Co 4 [[0]]).length (cR.map fun r=>Tc r (Co 4 [[0]]))).1=[[1,0,1],[0,1,0]] by decide +kernel] at h
 exact h
theorem AFT:Bt Tryz.prog 18 [.agg #[.int .i64 2,.int .i64 1,.slice pm nm cm,.int .i64 4,.slice ps n c],.slice pt ns cs'] [] [Ap Ai pm nm cm [],Ap (Aj Ai) ps n c cR,Ap Ai pt ns cs' [0]] (Xc 2 1 3 [] [[1,1,1]] 0):=by
 have h:=Of (P:=((2:Nat):Int)) (M:=((1:Nat):Int)) (pm:=pm) (nm:=nm) (cm:=cm) (ps:=ps) (n:=n) (c:=c) (md:=[]) (rows:=cR) (N:=((4:Nat):Int)) (pt:=pt) (ns:=ns) (cs':=cs') (set:=[0]) (by simp [Bv])
 rw [ADP (p:=2) (m:=1) (n:=4) AJY,show (Dh 2 1 [] (Co 4 [[0]]).length ((wiP 2 1 [] 4 cR [0]).map fun r=>Tc r (Co 4 [[0]]))).1=[[1,1,1]] by decide +kernel] at h
 exact h
theorem AGL:Bt Tryz.prog 26 [.agg #[.int .i64 2,.int .i64 1,.slice pm nm cm,.int .i64 4,.slice ps n c]] [] [Ap Ai pm nm cm [],Ap (Aj Ai) ps n c cR] (Xc 2 1 5 [] [[1,0,1,0,0],[0,1,1,1,1]] 0):=by
 have h:=Qi (P:=((2:Nat):Int)) (M:=((1:Nat):Int)) (pm:=pm) (nm:=nm) (cm:=cm) (ps:=ps) (n:=n) (c:=c) (md:=[]) (rows:=cR) (N:=((4:Nat):Int)) (by simp [Bv])
 rw [AEa CCa (by decide),show (Dh 2 1 [] (4+1) (etL 2 1 cR)).1=[[1,0,1,0,0],[0,1,1,1,1]] by decide +kernel] at h
 exact h
theorem ADr:Bt Tryz.prog 28 [.agg #[.int .i64 2,.int .i64 1,.slice pm nm cm,.int .i64 4,.slice ps n c]] [] [Ap Ai pm nm cm [],Ap (Aj Ai) ps n c cR] (Xc 2 1 4 [] [[1,0,1,0]] 0):=by
 have h:=Lz (P:=((2:Nat):Int)) (M:=((1:Nat):Int)) (pm:=pm) (nm:=nm) (cm:=cm) (ps:=ps) (n:=n) (c:=c) (md:=[]) (rows:=cR) (N:=((4:Nat):Int)) (by simp [Bv])
 rw [AEp CCa,show exP 2 1 [] 4 cR=[[1,0,1,0]] by decide +kernel] at h
 exact h
theorem AMQ:PmOk 4 [1,0,2,3]:=⟨by decide,by decide,by decide⟩
theorem AFS:Bt Tryz.prog 22 [.agg #[.int .i64 2,.int .i64 1,.slice pm nm cm,.int .i64 4,.slice ps n c],.slice pt ns cs'] [] [Ap Ai pm nm cm [],Ap (Aj Ai) ps n c cR,Ap Ai pt ns cs' [1,0,2,3]] (Xc 2 1 4 [] [[1,0,1,1],[0,1,1,0]] 0):=by
 have h:=Vl (P:=((2:Nat):Int)) (M:=((1:Nat):Int)) (pm:=pm) (nm:=nm) (cm:=cm) (ps:=ps) (n:=n) (c:=c) (md:=[]) (rows:=cR) (N:=((4:Nat):Int)) (pt:=pt) (ns:=ns) (cs':=cs') (l:=[1,0,2,3]) (by simp [Bv]) (by decide) (fun hr {b2 n cs ps}=>Zh (b2:=b2) (n:=n) (cs:=cs) (ps:=ps) (by decide) hr)
 rw [AGH CCa AMQ,show (Dh 2 1 [] 4 (cR.map fun r=>mvI 4 r [1,0,2,3])).1=[[1,0,1,1],[0,1,1,0]] by decide +kernel] at h
 exact h
theorem AGg:Bt Tryz.prog 30 [.agg #[.int .i64 2,.int .i64 1,.slice pm nm cm,.int .i64 4,.slice ps n c]] [] [Ap Ai pm nm cm [],Ap (Aj Ai) ps n c [[1,0,1,0]]] (Xc 2 1 4 [] [[1,0,1,0],[0,1,0,1]] 0):=by
 have h:=Pf (P:=((2:Nat):Int)) (M:=((1:Nat):Int)) (pm:=pm) (nm:=nm) (cm:=cm) (ps:=ps) (n:=n) (c:=c) (md:=[]) (rows:=[[1,0,1,0]]) (N:=((4:Nat):Int)) (by simp [Bv])
 rw [AEl CCy,show auP 2 1 [] 4 [[1,0,1,0]]=[[1,0,1,0],[0,1,0,1]] by decide +kernel] at h
 exact h
theorem AGd:Bt Tryz.prog 20 [.agg #[.int .i64 2,.int .i64 1,.slice pm nm cm,.int .i64 4,.slice ps n c],.slice pt ns cs'] [] [Ap Ai pm nm cm [],Ap (Aj Ai) ps n c cR,Ap Ai pt ns cs' [1]] (Xc 2 1 4 [] [[0,1,1,1]] 0):=by
 have h:=Ww (P:=((2:Nat):Int)) (M:=((1:Nat):Int)) (pm:=pm) (nm:=nm) (cm:=cm) (ps:=ps) (n:=n) (c:=c) (md:=[]) (rows:=cR) (N:=((4:Nat):Int)) (pt:=pt) (ns:=ns) (cs':=cs') (set:=[1]) (by simp [Bv])
 rw [AHe CCa (set:=[1]) (AHA (by decide) (by simp)),show (Dh 2 1 [] 4 (sbL cR [1])).1=[[0,1,1,1]] by decide +kernel] at h
 exact h
theorem AEz:Bt Tryz.prog 32 [.agg #[.int .i64 2,.int .i64 2,.slice pm nm cm,.int .i64 3,.slice ps n c],.agg #[.int .i64 2,.int .i64 1,.slice pm2 nm2 cm2]] [] [Ap Ai pm nm cm [1,1],Ap (Aj Ai) ps n c [[1,2,3]],Ap Ai pm2 nm2 cm2 []] (Xc 2 1 3 [] [] 0):=by
 have h:=Rw (pm:=pm) (nm:=nm) (cm:=cm) (ps:=ps) (n:=n) (c:=c) (pm2:=pm2) (nm2:=nm2) (cm2:=cm2) CCb TW ⟨K21,by decide,by decide,Yu (by decide +kernel),by decide +kernel⟩
 rw [show Li 2 1 [] 3 (tcP 2 2 1 [1,1] [] 0 2 3 (Li 2 2 [1,1] 3 [[1,2,3]]))=[] by decide +kernel] at h
 exact h
theorem AIl:Bt Tryz.prog 34 [.agg #[.int .i64 2,.int .i64 2,.slice pm nm cm,.int .i64 3,.slice ps n c],.agg #[.int .i64 2,.int .i64 1,.slice pm2 nm2 cm2]] [] [Ap Ai pm nm cm [1,1],Ap (Aj Ai) ps n c [[1,2,3]],Ap Ai pm2 nm2 cm2 []] (Xc 2 1 3 [] [[1,0,1],[0,1,1]] 0):=by
 have h:=Vh (pm:=pm) (nm:=nm) (cm:=cm) (ps:=ps) (n:=n) (c:=c) (pm2:=pm2) (nm2:=nm2) (cm2:=cm2) CCb TW
 rw [show tcP 2 2 1 [1,1] [] 0 2 3 [[1,2,3]]=[[1,0,1],[0,1,1]] by decide +kernel] at h
 exact h
theorem ALh:Bt Tryz.prog 36 [.agg #[.int .i64 2,.int .i64 1,.slice pm nm cm,.int .i64 4,.slice ps n c],.agg #[.int .i64 2,.int .i64 2,.slice pm2 nm2 cm2]] [] [Ap Ai pm nm cm [],Ap (Aj Ai) ps n c cR,Ap Ai pm2 nm2 cm2 [1,1]] (Xc 2 2 4 [1,1] cR 0):=by
 have h:=Xe (r:=0) (pm:=pm) (nm:=nm) (cm:=cm) (ps:=ps) (n:=n) (c:=c) (pm2:=pm2) (nm2:=nm2) (cm2:=cm2) CCa K22 (by decide +kernel) (by decide) (fun h=>absurd rfl h)
 rw [show (Dh 2 2 [1,1] 4 (cR.map (emL (imT 2 2 1 [1,1] 0)))).1=cR by decide +kernel] at h
 exact h
end
open Go Go.Fw
set_option maxRecDepth 100000
set_option linter.unusedVariables false
set_option linter.unusedSimpArgs false
set_option maxHeartbeats 0
theorem Fp {l:List Int}(h:(l.all fun x=>decide (0≤x∧x<100))=true):∀ z∈l,Bv .i64 z:=fun z hz=>by
 have:=of_decide_eq_true (List.all_eq_true.1 h z hz)
 simp only [Bv];omega
theorem Pc:Bt Tryz.prog 13 [] [] [] (Rv (.bool true) []):=by
 refine Ab (F:=Pd) rfl fun C=>?_
 have G6:=fun {n c nm cm ns cs':Nat}{pm ps pt:Option Addr}=>ADY (n:=n) (c:=c) (nm:=nm) (cm:=cm) (ns:=ns) (cs':=cs') (pm:=pm) (ps:=ps) (pt:=pt)
 have Hm:=fun {n c nm cm ns cs':Nat}{pm ps pt:Option Addr}=>AFT (n:=n) (c:=c) (nm:=nm) (cm:=cm) (ns:=ns) (cs':=cs') (pm:=pm) (ps:=ps) (pt:=pt)
 have Kn:=fun {n c nm cm:Nat}{pm ps:Option Addr}=>AGL (n:=n) (c:=c) (nm:=nm) (cm:=cm) (pm:=pm) (ps:=ps)
 have Ie:=fun {n c nm cm:Nat}{pm ps:Option Addr}=>ADr (n:=n) (c:=c) (nm:=nm) (cm:=cm) (pm:=pm) (ps:=ps)
 have Wq:=fun {n c nm cm ns cs':Nat}{pm ps pt:Option Addr}=>AFS (n:=n) (c:=c) (nm:=nm) (cm:=cm) (ns:=ns) (cs':=cs') (pm:=pm) (ps:=ps) (pt:=pt)
 have Vy:=fun {n c nm cm nm2 cm2:Nat}{pm ps pm2:Option Addr}=>AEz (n:=n) (c:=c) (nm:=nm) (cm:=cm) (nm2:=nm2) (cm2:=cm2) (pm:=pm) (ps:=ps) (pm2:=pm2)
 have Zg:=fun {n c nm cm nm2 cm2:Nat}{pm ps pm2:Option Addr}=>AIl (n:=n) (c:=c) (nm:=nm) (cm:=cm) (nm2:=nm2) (cm2:=cm2) (pm:=pm) (ps:=ps) (pm2:=pm2)
 have AAy:=fun {n c nm cm nm2 cm2:Nat}{pm ps pm2:Option Addr}=>ALh (n:=n) (c:=c) (nm:=nm) (cm:=cm) (nm2:=nm2) (cm2:=cm2) (pm:=pm) (ps:=ps) (pm2:=pm2)
 have Jn:=fun {n c nm cm:Nat}{pm ps:Option Addr}=>AGg (n:=n) (c:=c) (nm:=nm) (cm:=cm) (pm:=pm) (ps:=ps)
 have W6:=fun {n c nm cm ns cs':Nat}{pm ps pt:Option Addr}=>AGd (n:=n) (c:=c) (nm:=nm) (cm:=cm) (ns:=ns) (cs':=cs') (pm:=pm) (ps:=ps) (pt:=pt)
 have As:=fun {l:List (List Int)}{pl pk:Option Addr}{nl cl nk ck:Nat}=>Dv (l:=l) (k:=l) (res:=true) (pl:=pl) (pk:=pk) (nl:=nl) (cl:=cl) (nk:=nk) (ck:=ck) (decide_eq_true rfl)
 refine Eh (Ap Ai none 0 0 []) (fun w A _=>Do _ w A none 0) ?_
 refine Am [_,_] rfl ?_
 refine Ae it 1 rfl (by simp) ?_
 refine Am [_,_] rfl ?_
 refine Aa rfl (Dn (cs:=[Value.int IntKind.i64 2,Value.int IntKind.i64 1,Value.slice none 0 0]) AJi AGj rfl rfl ?_)
 refine Aa rfl (Bl AGj fun b1=>?_)
 refine Aa rfl (A8 0 rfl rfl rfl Hy rfl rfl (by simp [Value.oneCell']) ?_)
 refine Am [_,_] rfl ?_
 refine Aa rfl (Iu Ce Ep rfl rfl rfl rfl (by decide) (by decide) rfl fun b2=>?_)
 refine Bk (l:=[1,1]) 0 rfl (n:=2) rfl (fun z hz=>Fp (by decide) z hz) (by omega) ?_
 refine C4 0 0 rfl rfl (by decide) ?_
 simp only [List.eraseIdx_cons_zero]
 refine Aa rfl (Dn (cs:=[Value.int IntKind.i64 2,Value.int IntKind.i64 2,Value.slice (some { block:=b2,off:=0 }) 2 2]) AJi AGj rfl rfl ?_)
 refine Aa rfl (Bl AGj fun b3=>?_)
 refine Aa rfl (A8 0 rfl rfl rfl Hy rfl rfl (by simp [Value.oneCell']) ?_)
 refine Am [_,_] rfl ?_
 refine Aa rfl (A1 1 rfl rfl Hy rfl ?_)
 refine Aa rfl (Iu Ce Ep rfl rfl rfl rfl (by decide) (by decide) rfl fun b4=>?_)
 refine Bk (l:=[1,0,1,0]) 0 rfl (n:=4) rfl (fun z hz=>Fp (by decide) z hz) (by omega) ?_
 refine C4 0 0 rfl rfl (by decide) ?_
 simp only [List.eraseIdx_cons_zero]
 refine wk 1 cz ?_
 intro b5
 refine Bk (l:=[0,1,1,1]) 0 rfl (n:=4) rfl (fun z hz=>Fp (by decide) z hz) (by omega) ?_
 refine C4 0 0 rfl rfl (by decide) ?_
 simp only [List.eraseIdx_cons_zero]
 refine Aa rfl (Iu D5 I6 rfl rfl rfl rfl (by decide) (by decide) rfl fun b6=>?_)
 refine Aa rfl (Dn (cs:=[Value.int IntKind.i64 2,Value.int IntKind.i64 1,Value.slice none 0 0,Value.int IntKind.i64 4,Value.slice (some { block:=b6,off:=0 }) 2 2]) AKg O0 rfl rfl ?_)
 refine Aa rfl (Bl O0 fun b7=>?_)
 refine Aa rfl (A8 0 rfl rfl rfl Cs rfl rfl (by simp [Value.oneCell']) ?_)
 refine Am [_,_] rfl ?_
 refine Aa rfl (A1 2 rfl rfl Hy rfl ?_)
 refine Aa rfl (Iu Ce Ep rfl rfl rfl rfl (by decide) (by decide) rfl fun b8=>?_)
 refine Bk (l:=[1,2,3]) 0 rfl (n:=3) rfl (fun z hz=>Fp (by decide) z hz) (by omega) ?_
 refine C4 0 0 rfl rfl (by decide) ?_
 simp only [List.eraseIdx_cons_zero]
 refine Aa rfl (Iu D5 I6 rfl rfl rfl rfl (by decide) (by decide) rfl fun b9=>?_)
 refine Aa rfl (Dn (cs:=[Value.int IntKind.i64 2,Value.int IntKind.i64 2,Value.slice (some { block:=b2,off:=0 }) 2 2,Value.int IntKind.i64 3,Value.slice (some { block:=b9,off:=0 }) 1 1]) AKg O0 rfl rfl ?_)
 refine Aa rfl (Bl O0 fun b10=>?_)
 refine Aa rfl (A8 0 rfl rfl rfl Cs rfl rfl (by simp [Value.oneCell']) ?_)
 refine Am [_,_] rfl ?_
 refine Aa rfl (A1 2 rfl rfl Cs rfl ?_)
 refine Aa rfl (Iu Ce Ep rfl rfl rfl rfl (by decide) (by decide) rfl fun b11=>?_)
 refine Cb (E:=(Aj (Ai))) (n:=2) [[Value.slice (some { block:=b4,off:=0 }) 4 4],[Value.slice (some { block:=b5,off:=0 }) 4 4]] [[1,0,1,0],[0,1,1,1]] 4 (fun w A hG=>(Az (A2 (hG _ (Af (n:=4) rfl))) (Az (A2 (hG _ (Af (n:=2) rfl))) Bd))) rfl rfl rfl rfl (by first|decide|exact Nat.le_of_ble_eq_true rfl) (by first|decide|exact Nat.le_of_ble_eq_true rfl) ?_
 refine Cb (E:=Ai) (n:=1) [[Value.int IntKind.i64 0]] [0] 0 (fun w A hG=>(Az ⟨rfl,by first|assumption|(simp only [Bv];omega)⟩ Bd)) rfl rfl rfl rfl (by first|decide|exact Nat.le_of_ble_eq_true rfl) (by first|decide|exact Nat.le_of_ble_eq_true rfl) ?_
 refine Aa rfl (Aw [10,1,0] rfl (G6) rfl ?_)
 rintro _ _ _ ⟨pb1,pc1,nb1,cb1,nc1,cc1,rfl,rfl,rfl⟩
 simp only [List.cons_append,List.nil_append]
 refine Ae it 3 rfl (by simp) ?_
 refine Aa rfl (Bl O0 fun b12=>?_)
 refine Aa rfl (A8 0 rfl rfl rfl Cs rfl rfl (by simp [Value.oneCell']) ?_)
 refine Ae it 1 rfl (by simp) ?_
 refine Am [_,_] rfl ?_
 refine Aa rfl (A1 3 rfl rfl Cs rfl ?_)
 refine Aa rfl (Iu Ce Ep rfl rfl rfl rfl (by decide) (by decide) rfl fun b13=>?_)
 refine Cb (E:=Ai) (n:=1) [[Value.int IntKind.i64 0]] [0] 0 (fun w A hG=>(Az ⟨rfl,by first|assumption|(simp only [Bv];omega)⟩ Bd)) rfl rfl rfl rfl (by first|decide|exact Nat.le_of_ble_eq_true rfl) (by first|decide|exact Nat.le_of_ble_eq_true rfl) ?_
 refine Aa rfl (Aw [13,4,0] rfl (Hm) rfl ?_)
 rintro _ _ _ ⟨pb2,pc2,nb2,cb2,nc2,cc2,rfl,rfl,rfl⟩
 simp only [List.cons_append,List.nil_append]
 refine Ae it 3 rfl (by simp) ?_
 refine Aa rfl (Bl O0 fun b14=>?_)
 refine Aa rfl (A8 0 rfl rfl rfl Cs rfl rfl (by simp [Value.oneCell']) ?_)
 refine Ae it 1 rfl (by simp) ?_
 refine Am [_,_] rfl ?_
 refine Aa rfl (A1 4 rfl rfl Cs rfl ?_)
 refine Aa rfl (Aw [15,6] rfl (Kn) rfl ?_)
 rintro _ _ _ ⟨pb3,pc3,nb3,cb3,nc3,cc3,rfl,rfl,rfl⟩
 simp only [List.cons_append,List.nil_append]
 refine Ae it 3 rfl (by simp) ?_
 refine Aa rfl (Bl O0 fun b15=>?_)
 refine Aa rfl (A8 0 rfl rfl rfl Cs rfl rfl (by simp [Value.oneCell']) ?_)
 refine Ae it 1 rfl (by simp) ?_
 refine Am [_,_] rfl ?_
 refine Aa rfl (A1 5 rfl rfl Cs rfl ?_)
 refine Aa rfl (Aw [17,8] rfl (Ie) rfl ?_)
 rintro _ _ _ ⟨pb4,pc4,nb4,cb4,nc4,cc4,rfl,rfl,rfl⟩
 simp only [List.cons_append,List.nil_append]
 refine Ae it 3 rfl (by simp) ?_
 refine Aa rfl (Bl O0 fun b16=>?_)
 refine Aa rfl (A8 0 rfl rfl rfl Cs rfl rfl (by simp [Value.oneCell']) ?_)
 refine Ae it 1 rfl (by simp) ?_
 refine Am [_,_] rfl ?_
 refine Aa rfl (A1 6 rfl rfl Cs rfl ?_)
 refine Aa rfl (Iu Ce Ep rfl rfl rfl rfl (by decide) (by decide) rfl fun b17=>?_)
 refine Cb (E:=Ai) (n:=4) [[Value.int IntKind.i64 1],[Value.int IntKind.i64 0],[Value.int IntKind.i64 2],[Value.int IntKind.i64 3]] [1,0,2,3] 0 (fun w A hG=>(Az ⟨rfl,by first|assumption|(simp only [Bv];omega)⟩ (Az ⟨rfl,by first|assumption|(simp only [Bv];omega)⟩ (Az ⟨rfl,by first|assumption|(simp only [Bv];omega)⟩ (Az ⟨rfl,by first|assumption|(simp only [Bv];omega)⟩ Bd))))) rfl rfl rfl rfl (by first|decide|exact Nat.le_of_ble_eq_true rfl) (by first|decide|exact Nat.le_of_ble_eq_true rfl) ?_
 refine Aa rfl (Aw [20,11,0] rfl (Wq) rfl ?_)
 rintro _ _ _ ⟨pb5,pc5,nb5,cb5,nc5,cc5,rfl,rfl,rfl⟩
 simp only [List.cons_append,List.nil_append]
 refine Ae it 3 rfl (by simp) ?_
 refine Aa rfl (Bl O0 fun b18=>?_)
 refine Aa rfl (A8 0 rfl rfl rfl Cs rfl rfl (by simp [Value.oneCell']) ?_)
 refine Ae it 1 rfl (by simp) ?_
 refine Am [_,_] rfl ?_
 refine Aa rfl (A1 5 rfl rfl Cs rfl ?_)
 refine Aa rfl (A1 9 rfl rfl Hy rfl ?_)
 refine Cb (E:=(Aj (Ai))) (n:=1) [[Value.slice (some { block:=b8,off:=0 }) 3 3]] [[1,2,3]] 6 (fun w A hG=>(Az (A2 (hG _ (Af (n:=14) rfl))) Bd)) rfl rfl rfl rfl (by first|decide|exact Nat.le_of_ble_eq_true rfl) (by first|decide|exact Nat.le_of_ble_eq_true rfl) ?_
 refine Aa rfl (Aw [21,0,23] rfl (Vy) rfl ?_)
 rintro _ _ _ ⟨pb6,pc6,nb6,cb6,nc6,cc6,rfl,rfl,rfl⟩
 simp only [List.cons_append,List.nil_append]
 refine Ae it 3 rfl (by simp) ?_
 refine Aa rfl (Bl O0 fun b19=>?_)
 refine Aa rfl (A8 0 rfl rfl rfl Cs rfl rfl (by simp [Value.oneCell']) ?_)
 refine Ae it 1 rfl (by simp) ?_
 refine Am [_,_] rfl ?_
 refine Aa rfl (A1 6 rfl rfl Cs rfl ?_)
 refine Aa rfl (A1 9 rfl rfl Hy rfl ?_)
 refine Ba 1 rfl fun hn0 _ _=>?_
 simp only [List.length_nil] at hn0
 subst hn0
 refine wk 8 (ct @Zg cz) ?_
 intro pb7 pc7 nb7 cb7 nc6 cc7 b20
 refine wk 13 (ct @AAy cz) ?_
 intro pb8 pc8 nb8 cb8 nc7 cc8 b21 h1 b22
 refine Bk (l:=[1,0,1]) 0 rfl (n:=3) rfl (fun z hz=>Fp (by decide) z hz) (by omega) ?_
 refine C4 0 0 rfl rfl (by decide) ?_
 simp only [List.eraseIdx_cons_zero]
 refine wk 1 cz ?_
 intro b23
 refine Bk (l:=[0,1,0]) 0 rfl (n:=3) rfl (fun z hz=>Fp (by decide) z hz) (by omega) ?_
 refine C4 0 0 rfl rfl (by decide) ?_
 simp only [List.eraseIdx_cons_zero]
 refine wk 1 cz ?_
 intro b24
 refine Cb (E:=(Aj (Ai))) (n:=2) [[Value.slice (some { block:=b22,off:=0 }) 3 3],[Value.slice (some { block:=b23,off:=0 }) 3 3]] [[1,0,1],[0,1,0]] 0 (fun w A hG=>(Az (A2 (hG _ (Af (n:=2) rfl))) (Az (A2 (hG _ (Af (n:=0) rfl))) Bd))) rfl rfl rfl rfl (by first|decide|exact Nat.le_of_ble_eq_true rfl) (by first|decide|exact Nat.le_of_ble_eq_true rfl) ?_
 refine wk 5 (ct @As cz) ?_
 intro b25
 refine Bk (l:=[1,1,1]) 0 rfl (n:=3) rfl (fun z hz=>Fp (by decide) z hz) (by omega) ?_
 refine C4 0 0 rfl rfl (by decide) ?_
 simp only [List.eraseIdx_cons_zero]
 refine wk 1 cz ?_
 intro b26
 refine Cb (E:=(Aj (Ai))) (n:=1) [[Value.slice (some { block:=b25,off:=0 }) 3 3]] [[1,1,1]] 0 (fun w A hG=>(Az (A2 (hG _ (Af (n:=0) rfl))) Bd)) rfl rfl rfl rfl (by first|decide|exact Nat.le_of_ble_eq_true rfl) (by first|decide|exact Nat.le_of_ble_eq_true rfl) ?_
 refine wk 5 (ct @As cz) ?_
 intro b27
 refine Bk (l:=[1,0,1,0,0]) 0 rfl (n:=5) rfl (fun z hz=>Fp (by decide) z hz) (by omega) ?_
 refine C4 0 0 rfl rfl (by decide) ?_
 simp only [List.eraseIdx_cons_zero]
 refine wk 1 cz ?_
 intro b28
 refine Bk (l:=[0,1,1,1,1]) 0 rfl (n:=5) rfl (fun z hz=>Fp (by decide) z hz) (by omega) ?_
 refine C4 0 0 rfl rfl (by decide) ?_
 simp only [List.eraseIdx_cons_zero]
 refine wk 1 cz ?_
 intro b29
 refine Cb (E:=(Aj (Ai))) (n:=2) [[Value.slice (some { block:=b27,off:=0 }) 5 5],[Value.slice (some { block:=b28,off:=0 }) 5 5]] [[1,0,1,0,0],[0,1,1,1,1]] 0 (fun w A hG=>(Az (A2 (hG _ (Af (n:=2) rfl))) (Az (A2 (hG _ (Af (n:=0) rfl))) Bd))) rfl rfl rfl rfl (by first|decide|exact Nat.le_of_ble_eq_true rfl) (by first|decide|exact Nat.le_of_ble_eq_true rfl) ?_
 refine wk 5 (ct @As cz) ?_
 intro b30
 refine Bk (l:=[1,0,1,0]) 0 rfl (n:=4) rfl (fun z hz=>Fp (by decide) z hz) (by omega) ?_
 refine C4 0 0 rfl rfl (by decide) ?_
 simp only [List.eraseIdx_cons_zero]
 refine wk 1 cz ?_
 intro b31
 refine Cb (E:=(Aj (Ai))) (n:=1) [[Value.slice (some { block:=b30,off:=0 }) 4 4]] [[1,0,1,0]] 0 (fun w A hG=>(Az (A2 (hG _ (Af (n:=0) rfl))) Bd)) rfl rfl rfl rfl (by first|decide|exact Nat.le_of_ble_eq_true rfl) (by first|decide|exact Nat.le_of_ble_eq_true rfl) ?_
 refine wk 7 (ct @As cz) ?_
 intro b32
 refine Bk (l:=[1,0,1,1]) 0 rfl (n:=4) rfl (fun z hz=>Fp (by decide) z hz) (by omega) ?_
 refine C4 0 0 rfl rfl (by decide) ?_
 simp only [List.eraseIdx_cons_zero]
 refine wk 1 cz ?_
 intro b33
 refine Bk (l:=[0,1,1,0]) 0 rfl (n:=4) rfl (fun z hz=>Fp (by decide) z hz) (by omega) ?_
 refine C4 0 0 rfl rfl (by decide) ?_
 simp only [List.eraseIdx_cons_zero]
 refine wk 1 cz ?_
 intro b34
 refine Cb (E:=(Aj (Ai))) (n:=2) [[Value.slice (some { block:=b32,off:=0 }) 4 4],[Value.slice (some { block:=b33,off:=0 }) 4 4]] [[1,0,1,1],[0,1,1,0]] 0 (fun w A hG=>(Az (A2 (hG _ (Af (n:=2) rfl))) (Az (A2 (hG _ (Af (n:=0) rfl))) Bd))) rfl rfl rfl rfl (by first|decide|exact Nat.le_of_ble_eq_true rfl) (by first|decide|exact Nat.le_of_ble_eq_true rfl) ?_
 refine wk 14 (ct @As cz) ?_
 intro h2 h3 b35
 refine Bk (l:=[1,0,1]) 0 rfl (n:=3) rfl (fun z hz=>Fp (by decide) z hz) (by omega) ?_
 refine C4 0 0 rfl rfl (by decide) ?_
 simp only [List.eraseIdx_cons_zero]
 refine wk 1 cz ?_
 intro b36
 refine Bk (l:=[0,1,1]) 0 rfl (n:=3) rfl (fun z hz=>Fp (by decide) z hz) (by omega) ?_
 refine C4 0 0 rfl rfl (by decide) ?_
 simp only [List.eraseIdx_cons_zero]
 refine wk 1 cz ?_
 intro b37
 refine Cb (E:=(Aj (Ai))) (n:=2) [[Value.slice (some { block:=b35,off:=0 }) 3 3],[Value.slice (some { block:=b36,off:=0 }) 3 3]] [[1,0,1],[0,1,1]] 0 (fun w A hG=>(Az (A2 (hG _ (Af (n:=2) rfl))) (Az (A2 (hG _ (Af (n:=0) rfl))) Bd))) rfl rfl rfl rfl (by first|decide|exact Nat.le_of_ble_eq_true rfl) (by first|decide|exact Nat.le_of_ble_eq_true rfl) ?_
 refine wk 18 (ct @As (ct @As (ct @Jn cz))) ?_
 intro pb9 pc9 nb9 cb9 nc8 cc9 b38 b39
 refine Cb (E:=Ai) (n:=1) [[Value.int IntKind.i64 1]] [1] 0 (fun w A hG=>(Az ⟨rfl,by first|assumption|(simp only [Bv];omega)⟩ Bd)) rfl rfl rfl rfl (by first|decide|exact Nat.le_of_ble_eq_true rfl) (by first|decide|exact Nat.le_of_ble_eq_true rfl) ?_
 refine wk 11 (ct @W6 cz) ?_
 intro pb10 pc10 nb10 cb10 nc9 cc10 b40 h4 b41
 refine Bk (l:=[1,0,1,0]) 0 rfl (n:=4) rfl (fun z hz=>Fp (by decide) z hz) (by omega) ?_
 refine C4 0 0 rfl rfl (by decide) ?_
 simp only [List.eraseIdx_cons_zero]
 refine wk 1 cz ?_
 intro b42
 refine Bk (l:=[0,1,0,1]) 0 rfl (n:=4) rfl (fun z hz=>Fp (by decide) z hz) (by omega) ?_
 refine C4 0 0 rfl rfl (by decide) ?_
 simp only [List.eraseIdx_cons_zero]
 refine wk 1 cz ?_
 intro b43
 refine Cb (E:=(Aj (Ai))) (n:=2) [[Value.slice (some { block:=b41,off:=0 }) 4 4],[Value.slice (some { block:=b42,off:=0 }) 4 4]] [[1,0,1,0],[0,1,0,1]] 0 (fun w A hG=>(Az (A2 (hG _ (Af (n:=2) rfl))) (Az (A2 (hG _ (Af (n:=0) rfl))) Bd))) rfl rfl rfl rfl (by first|decide|exact Nat.le_of_ble_eq_true rfl) (by first|decide|exact Nat.le_of_ble_eq_true rfl) ?_
 refine wk 5 (ct @As cz) ?_
 intro b44
 refine Bk (l:=[0,1,1,1]) 0 rfl (n:=4) rfl (fun z hz=>Fp (by decide) z hz) (by omega) ?_
 refine C4 0 0 rfl rfl (by decide) ?_
 simp only [List.eraseIdx_cons_zero]
 refine wk 1 cz ?_
 intro b45
 refine Cb (E:=(Aj (Ai))) (n:=1) [[Value.slice (some { block:=b44,off:=0 }) 4 4]] [[0,1,1,1]] 0 (fun w A hG=>(Az (A2 (hG _ (Af (n:=0) rfl))) Bd)) rfl rfl rfl rfl (by first|decide|exact Nat.le_of_ble_eq_true rfl) (by first|decide|exact Nat.le_of_ble_eq_true rfl) ?_
 refine wk 3 (ct @As cz) ?_
 exact ge
section
variable {p m N nm cm n c nw cw:Nat}{pm ps pw:Option Addr}{md w:List Int}{rows:List (List Int)}
end
open Go Go.Fw
set_option maxRecDepth 100000
set_option linter.unusedVariables false
set_option linter.unusedSimpArgs false
set_option maxHeartbeats 0
section
variable {P M:Int}{n c nm cm nu cu:Nat}{pm ps pu:Option Addr}{md:List Int}{rows:List (List Int)}
end
set_option maxRecDepth 100000
set_option linter.unusedVariables false
set_option linter.unusedSimpArgs false
section
variable {q:Nat}{A M:Int→Int→Int}{N V:Int→Int}(O:FO q A M N V)
include O
end
set_option maxRecDepth 100000
set_option linter.unusedVariables false
set_option linter.unusedSimpArgs false
section
variable {q:Nat}{A M:Int→Int→Int}{N V:Int→Int}(O:FO q A M N V)
include O
end
open Go Go.Fw
set_option maxRecDepth 100000
set_option linter.unusedVariables false
set_option linter.unusedSimpArgs false
set_option maxHeartbeats 0
section
variable {q:Nat}{A M:Int→Int→Int}{N V:Int→Int}(O:FO q A M N V)
include O
end
open Go Go.Fw
set_option maxRecDepth 100000
set_option linter.unusedVariables false
set_option linter.unusedSimpArgs false
set_option maxHeartbeats 0
section
variable {q:Nat}{A M:Int→Int→Int}{N V:Int→Int}(O:FO q A M N V)
include O
end
open Go Go.Fw
set_option maxRecDepth 100000
set_option linter.unusedVariables false
set_option linter.unusedSimpArgs false
set_option maxHeartbeats 0
section
variable {p m N b bp nm cm ns cs ny cy nt ct:Nat}{pm ps py pt:Option Addr}{co:Bool}{Mo w ap:Int}{md:List Int}{rows:List (List Int)}
end
open Go Go.Fw
set_option maxRecDepth 100000
set_option linter.unusedVariables false
set_option linter.unusedSimpArgs false
set_option maxHeartbeats 0
section
variable {P:Program}{C:Cx}{σ:Fr}{β:List A4}{Γ:List Fact}{ty:TypeId}
end
section
variable {p m N b bp nm cm ns cs ny cy nt ct:Nat}{pm ps py pt:Option Addr}{co:Bool}{Mo w:Int}{md:List Int}{rows sets:List (List Int)}
end
open Go Go.Fw
set_option maxRecDepth 100000
set_option linter.unusedVariables false
set_option linter.unusedSimpArgs false
set_option maxHeartbeats 0
section
variable {p m N b bp nm cm ns cs ny cy nt ct:Nat}{pm ps py pt:Option Addr}{Mo w:Int}{md:List Int}{rows sets:List (List Int)}
end
open Go Go.Fw
set_option maxRecDepth 100000
set_option linter.unusedVariables false
set_option linter.unusedSimpArgs false
set_option maxHeartbeats 0
section
variable {p m N b bp nm cm ns cs ny cy nt ct:Nat}{pm ps py pt:Option Addr}{Mo:Int}{d:Nat}{md:List Int}{rows sets:List (List Int)}
end
open Go Go.Fw
set_option maxRecDepth 100000
set_option linter.unusedVariables false
set_option linter.unusedSimpArgs false
set_option maxHeartbeats 0
section
variable {p m N n c nm cm ny cy k:Nat}{pm ps py:Option Addr}{Mo w:Int}{md:List Int}{rows:List (List Int)}
end
open Go Go.Fw
set_option maxRecDepth 100000
set_option linter.unusedVariables false
set_option linter.unusedSimpArgs false
set_option maxHeartbeats 0
section
variable {P M:Int}{p m n c nm cm ns cs':Nat}{pm ps pt:Option Addr}{md set:List Int}{rows:List (List Int)}
end
open Go Go.Fw
set_option maxRecDepth 100000
set_option linter.unusedVariables false
set_option linter.unusedSimpArgs false
set_option maxHeartbeats 0
section
variable {p m n c nm cm ns cs' N:Nat}{P M:Int}{pm ps pt:Option Addr}{md set:List Int}{rows:List (List Int)}
end
open Go Go.Fw
set_option maxRecDepth 100000
set_option linter.unusedVariables false
set_option linter.unusedSimpArgs false
set_option maxHeartbeats 0
section
variable {P M:Int}{n c nm cm ns cs':Nat}{pm ps pt:Option Addr}{md set:List Int}{rows:List (List Int)}
end
open Go Go.Fw
set_option maxRecDepth 100000
set_option linter.unusedVariables false
set_option linter.unusedSimpArgs false
set_option maxHeartbeats 0
section
variable {P M:Int}{p m n c nm cm ns cs':Nat}{pm ps pt:Option Addr}{md set:List Int}{rows:List (List Int)}
end
open Go Go.Fw
set_option maxRecDepth 100000
set_option linter.unusedVariables false
set_option linter.unusedSimpArgs false
set_option maxHeartbeats 0
section
variable {P M N:Int}{n c nm cm:Nat}{pm ps:Option Addr}{md:List Int}{rows:List (List Int)}
theorem AHz (P M:Int):0≤Hv P M∧Hv P M≤256:=by
 rw [Hv]
 split
 ·rename_i h
  have:=h.2.2.2
  omega
 ·omega
theorem AF8 {P M N:Int}{md:List Int}{rows:List (List Int)}{n c nm cm n2 c2 nm2 cm2:Nat}{pm ps pm2 p2:Option Addr}:Bt Tryz.prog 17 [.agg #[.int .i64 P,.int .i64 M,.slice pm nm cm,.int .i64 N,.slice ps n c],.agg #[.int .i64 P,.int .i64 M,.slice pm2 nm2 cm2,.int .i64 N,.slice p2 n2 c2]] [] [Ap Ai pm nm cm md,Ap (Aj Ai) ps n c rows,Ap Ai pm2 nm2 cm2 md,Ap (Aj Ai) p2 n2 c2 rows] (Rv (.bool true) []) :=
 Qc (by simp)
end
open Go Go.Fw
set_option maxRecDepth 100000
set_option linter.unusedVariables false
set_option linter.unusedSimpArgs false
set_option maxHeartbeats 0
section
variable {ps:Option Addr}{n cs:Nat}{data:List Int}
end
open Go Go.Fw
set_option maxRecDepth 100000
set_option linter.unusedVariables false
set_option linter.unusedSimpArgs false
set_option maxHeartbeats 0
section
variable {P M:Int}{n c nm cm ns cs':Nat}{pm ps pt:Option Addr}{md l:List Int}{rows:List (List Int)}
end
open Go Go.Fw
set_option maxRecDepth 100000
set_option linter.unusedVariables false
set_option linter.unusedSimpArgs false
set_option maxHeartbeats 0
section
variable {P M:Int}{p m n c nm cm ns cs':Nat}{pm ps pt:Option Addr}{md set:List Int}{rows:List (List Int)}
end
open Go Go.Fw
set_option maxRecDepth 100000
set_option linter.unusedVariables false
set_option linter.unusedSimpArgs false
set_option maxHeartbeats 0
section
variable {P M:Int}{n c nm cm ns cs':Nat}{pm ps pt:Option Addr}{md l:List Int}{rows:List (List Int)}
end
open Go Go.Fw
set_option maxRecDepth 100000
set_option linter.unusedVariables false
set_option linter.unusedSimpArgs false
set_option maxHeartbeats 0
section
variable {P M N:Int}{n c nm cm ns cs':Nat}{pm ps pt:Option Addr}{md l:List Int}{rows:List (List Int)}
def AFH (P M N:Int) (rows:List (List Int)):Bool:=AEK rows 120 && (decide (N≤16∨64<N) && decide (Hv P M≤64))
theorem Qz {res:Bool}(hr:AFH P M N rows=res) (hN:Bv .i64 N):Bt Tryz.prog 14 [.agg #[.int .i64 P,.int .i64 M,.slice pm nm cm,.int .i64 N,.slice ps n c]] [] [Ap (Aj Ai) ps n c rows] (Rv (.bool res) []):=by
 subst hr
 refine Ab (F:=Q9) rfl fun C=>?_
 have E3:=fun {P M N:Int}{n c nm cm:Nat}{pm ps:Option Addr}{res:Bool}(hr:AEK rows 120=res)=>Q3 (P:=P) (M:=M) (N:=N) (n:=n) (c:=c) (nm:=nm) (cm:=cm) (pm:=pm) (ps:=ps) (k:=120) (by decide) (by decide) hr
 have Dk:=fun {pm:Option Addr}{n c:Nat}=>Bn (P:=P) (M:=M) (pm:=pm) (n:=n) (c:=c) rfl
 have ho:=AHz P M
 rw [AFH]
 generalize Hv P M=o at *
 cases hf:AEK rows 120 with
 | false =>
  refine wk 7 (ct @E3 cz) ?_
  intro b1
  refine D7 rfl rfl ?_
  refine D7 rfl rfl ?_
  refine D7 rfl rfl ?_
  refine wk 2 cz ?_
  exact ge
 | true =>
  by_cases h16:N≤16
  ·rw [Bool.true_and,decide_eq_true (show N≤16∨64<N from .inl h16),Bool.true_and]
   refine wk 18 (ct @E3 (ct @Dk cz)) ?_
   intro b1 h1
   exact ge
  ·by_cases h64:64<N
   ·rw [Bool.true_and,decide_eq_true (show N≤16∨64<N from .inr h64),Bool.true_and]
    refine wk 24 (ct @E3 (ct @Dk cz)) ?_
    intro b1 h1 h2
    exact ge
   ·rw [Bool.true_and,decide_eq_false (show ¬ (N≤16∨64<N) by omega),Bool.false_and]
    refine wk 21 (ct @E3 cz) ?_
    intro b1 h1 h2
    exact ge
end
open Go Go.Fw
set_option maxRecDepth 100000
set_option linter.unusedVariables false
set_option linter.unusedSimpArgs false
set_option maxHeartbeats 0
section
variable {p m n N nm cm nm2 cm2 ns c ns2 c2 nt ct:Nat}{pm ps pm2 p2 pt:Option Addr}{md set:List Int}{rows:List (List Int)}
abbrev puR (p m:Nat) (md:List Int) (n:Nat) (rows:List (List Int)) (set:List Int):List (List Int):=(Dh p m md (Co n [set]).length (rows.map fun r=>Tc r (Co n [set]))).1
abbrev shR (p m:Nat) (md:List Int) (n:Nat) (rows:List (List Int)) (set:List Int):List (List Int):=(Dh p m md (Co n [set]).length ((wiP p m md n rows set).map fun r=>Tc r (Co n [set]))).1
theorem AJJ (CC:Cok p m md n rows) (hs:Yk n set) (hl:set.length≠n):psE p m md n rows set=0:=by
 rw [psE,if_neg (fun e=>e CC.ck),if_neg (fun e=>e hs),if_neg (by omega)]
theorem AKx (CC:Cok p m md n rows) (hs:Yk n set) (hl:set.length≠n):Bt Tryz.prog 15 [.agg #[.int .i64 p,.int .i64 m,.slice pm nm cm,.int .i64 n,.slice ps ns c],.slice pt nt ct] [] [Ap Ai pm nm cm md,Ap (Aj Ai) ps ns c rows,Ap Ai pt nt ct set] (Xc p m ((Co n [set]).length:Nat) md (puR p m md n rows set) 0):=by
 have hN:=CC.n64
 have h:=Nh (P:=p) (M:=m) (pm:=pm) (nm:=nm) (cm:=cm) (ps:=ps) (n:=ns) (c:=c) (pt:=pt) (ns:=nt) (cs':=ct) (md:=md) (rows:=rows) (set:=set) (N:=n) (by simp only [Bv];omega)
 rw [AD5 (AJJ CC hs hl)] at h
 exact h
theorem AKT (CC:Cok p m md n rows) (hs:Yk n set) (hl:set.length≠n):Bt Tryz.prog 18 [.agg #[.int .i64 p,.int .i64 m,.slice pm nm cm,.int .i64 n,.slice ps ns c],.slice pt nt ct] [] [Ap Ai pm nm cm md,Ap (Aj Ai) ps ns c rows,Ap Ai pt nt ct set] (Xc p m ((Co n [set]).length:Nat) md (shR p m md n rows set) 0):=by
 have hN:=CC.n64
 have h:=Of (P:=p) (M:=m) (pm:=pm) (nm:=nm) (cm:=cm) (ps:=ps) (n:=ns) (c:=c) (pt:=pt) (ns:=nt) (cs':=ct) (md:=md) (rows:=rows) (set:=set) (N:=n) (by simp only [Bv];omega)
 rw [ADP (AJJ CC hs hl)] at h
 exact h
theorem ALm {P M:Int}{n:Nat}(h:AFH P M n rows=true) (h64:n≤64):n≤16:=by
 rw [AFH,Bool.and_eq_true,Bool.and_eq_true] at h
 have:=of_decide_eq_true h.2.1
 omega
end
open Go Go.Fw
set_option maxRecDepth 100000
set_option linter.unusedVariables false
set_option linter.unusedSimpArgs false
set_option maxHeartbeats 0
section
variable {p m n N nm cm nm2 cm2 ns c ns2 c2 nt ct:Nat}{pm ps pm2 p2 pt:Option Addr}{md set:List Int}{rows:List (List Int)}
noncomputable abbrev etR (p m:Nat) (md:List Int) (n:Nat) (rows:List (List Int)):List (List Int):=(Dh p m md (n+1) (etL p m rows)).1
theorem AKE (CC:Cok p m md n rows) (h16:n≤16):Bt Tryz.prog 26 [.agg #[.int .i64 p,.int .i64 m,.slice pm nm cm,.int .i64 n,.slice ps ns c]] [] [Ap Ai pm nm cm md,Ap (Aj Ai) ps ns c rows] (Xc p m ((n+1:Nat):Int) md (etR p m md n rows) 0):=by
 have h:=Qi (P:=p) (M:=m) (pm:=pm) (nm:=nm) (cm:=cm) (ps:=ps) (n:=ns) (c:=c) (md:=md) (rows:=rows) (N:=n) (by simp only [Bv];omega)
 rw [AEa CC (by omega)] at h
 exact h
theorem AJ9 (CC:Cok p m md n rows):Bt Tryz.prog 28 [.agg #[.int .i64 p,.int .i64 m,.slice pm nm cm,.int .i64 n,.slice ps ns c]] [] [Ap Ai pm nm cm md,Ap (Aj Ai) ps ns c rows] (Xc p m n md (exP p m md n rows) 0):=by
 have hN:=CC.n64
 have h:=Lz (P:=p) (M:=m) (pm:=pm) (nm:=nm) (cm:=cm) (ps:=ps) (n:=ns) (c:=c) (md:=md) (rows:=rows) (N:=n) (by simp only [Bv];omega)
 rw [AEp CC] at h
 exact h
theorem AKN (CC:Cok p m md n rows):Bt Tryz.prog 30 [.agg #[.int .i64 p,.int .i64 m,.slice pm nm cm,.int .i64 n,.slice ps ns c]] [] [Ap Ai pm nm cm md,Ap (Aj Ai) ps ns c rows] (Xc p m n md (auP p m md n rows) 0):=by
 have hN:=CC.n64
 have h:=Pf (P:=p) (M:=m) (pm:=pm) (nm:=nm) (cm:=cm) (ps:=ps) (n:=ns) (c:=c) (md:=md) (rows:=rows) (N:=n) (by simp only [Bv];omega)
 rw [AEl CC] at h
 exact h
theorem AHn (CC:Cok p m md n rows):etL p m rows=rows.map (Ux (Ad (fA p m)) (Ad (fM p (Ax m md))) (Cz p m) n):=by
 refine List.map_congr_left fun r hr=>?_
 show r++[Cz p m (r.foldl (Ad (fA p m)) 0)]=r++[_]
 rw [(C1 CC.K).sm_dot (CC.mat r hr)]
theorem AAg:Co (n+1) [[(n:Int)]]=Sr n:=by
 rw [Co,List.range_succ,List.filter_append,List.map_append]
 have h1:(List.range n).filter (Rd [[(n:Int)]])=List.range n:=List.filter_eq_self.2 fun i hi=>by
  have:=List.mem_range.1 hi
  have h:¬ (i:Int)=(n:Int):=by omega
  simp [Rd,h]
 rw [h1]
 simp [Rd]
theorem AKk (CC:Cok p m md n rows) (h16:n≤16):Cok p m md (n+1) (etR p m md n rows):=Cok.cn CC.K (by omega) (by omega) (AEd CC)
theorem ALc (CC:Cok p m md n rows):∀ r∈etR p m md n rows,S0 (Ad (fA p m)) r=0:=fun r hr=>by
 have O:=C1 CC.K
 have hE:=AEd CC
 have h1:=(O.cmb_cn hE).1 (O.cmb_row (O.cn hE).1.mat hr)
 rw [AHn CC] at h1
 obtain ⟨w,hw,rfl⟩:=(O.ex_cmb CC.mat).1 h1
 exact O.ex_sum (O.cmb_mat CC.mat hw)
theorem ALX (CC:Cok p m md n rows):puR p m md (n+1) (etR p m md n rows) [(n:Int)]=rows:=by
 have h:=(C1 CC.K).ex_pu CC.mat CC.can
 rw [← AHn CC] at h
 rw [puR,AAg,show (Sr n).length=n by simp [Sr]]
 exact h
theorem AL5 (CC:Cok p m md n rows):shR p m md (n+1) (etR p m md n rows) [(n:Int)]=exP p m md n rows:=by
 have h:=(C1 CC.K).ex_sh CC.mat
 rw [← AHn CC] at h
 rw [shR,AAg,show (Sr n).length=n by simp [Sr]]
 exact h
theorem AKm (CC:Cok p m md n rows):Cok p m md n (exP p m md n rows):=by
 have hM:=H8 CC.nu.mat (Xl CC.K n)
 exact ⟨CC.K,CC.n1,CC.n64,((C1 CC.K).nu hM).1,(C1 CC.K).nu_can hM⟩
theorem ALH (CC:Cok p m md n rows):Li p m md n (exP p m md n rows)=auP p m md n (Li p m md n rows) :=
 (C1 CC.K).nu_nu (H8 CC.nu.mat (Xl CC.K n))
theorem Jm {P M N:Int}(hN:Bv .i64 N):Bt Tryz.prog 7 [.agg #[.int .i64 P,.int .i64 M,.slice pm nm cm,.int .i64 N,.slice ps ns c]] [] [Ap Ai pm nm cm md,Ap (Aj Ai) ps ns c rows] (Rv (.bool true) []):=by
 refine Ab (F:=Jl) rfl fun C=>?_
 have hr:=Pv P M md N rows
 have Di:=Pc
 have G0:=fun {n c nm cm:Nat}{pm ps:Option Addr}{res:Bool}(hr:AFH P M N rows=res)=>Qz (n:=n) (c:=c) (nm:=nm) (cm:=cm) (pm:=pm) (ps:=ps) hr hN
 have F9:=fun {pm ps:Option Addr}{nm cm n c:Nat}=>Ot (P:=P) (M:=M) (pm:=pm) (ps:=ps) (nm:=nm) (cm:=cm) (n:=n) (c:=c) (md:=md) (rows:=rows) (N:=N) hN rfl
 cases hf:AFH P M N rows with
 | false =>
  refine wk 15 (ct @Di (ct @G0 (ct @Di cz))) ?_
  intro b1
  exact ge
 | true =>
  by_cases h0:Pg P M md N rows=0
  ·obtain ⟨p,m,n',rfl,rfl,rfl,CC⟩:=Z4 h0
   rw [h0] at F9
   have h64:=CC.n64
   have h1:=CC.n1
   have h16:=ALm hf h64
   have CE:=AKk CC h16
   have CX:=AKm CC
   have CN:=CC.nu
   have e1:=ALX CC
   have e2:=AL5 CC
   have e3:=ALH CC
   have e4:((Co (n'+1) [[(n':Int)]]).length)=n':=by rw [AAg];simp [Sr]
   have hs:=ALc CC
   have hlast:Yk ((n'+1:Nat):Int) [(n':Int)]:=⟨fun x hx=>by rw [List.mem_singleton.1 hx];omega,List.pairwise_singleton _ _⟩
   have hln:[(n':Int)].length≠n'+1:=by simp;omega
   have hq:=CC.K.q
   have hsr:=fun (u:List Int) (hu:∀ x∈u,0≤x∧x<((p ^ m:Nat):Int)) i=>R1 CC.K.fi (u.take i) 0 (Int.le_refl 0) CC.K.fi.z fun x hx=>hu x (List.mem_of_mem_take hx)
   have Gy:=fun {nm cm:Nat}{pm:Option Addr}{x y:Int}=>Jg (nm:=nm) (cm:=cm) (pm:=pm) (x:=x) (y:=y) CC.K
   have Kn:=fun {pm ps:Option Addr}{nm cm ns c:Nat}=>AKE (pm:=pm) (nm:=nm) (cm:=cm) (ps:=ps) (ns:=ns) (c:=c) CC h16
   have Ie:=fun {pm ps:Option Addr}{nm cm ns c:Nat}=>AJ9 (pm:=pm) (nm:=nm) (cm:=cm) (ps:=ps) (ns:=ns) (c:=c) CC
   have Jn:=fun {pm ps:Option Addr}{nm cm ns c:Nat}=>AKN (pm:=pm) (nm:=nm) (cm:=cm) (ps:=ps) (ns:=ns) (c:=c) CN
   have G6:=fun {pm ps pt:Option Addr}{nm cm ns c nt ct:Nat}=>AKx (pm:=pm) (nm:=nm) (cm:=cm) (ps:=ps) (ns:=ns) (c:=c) (pt:=pt) (nt:=nt) (ct:=ct) CE hlast hln
   have Hm:=fun {pm ps pt:Option Addr}{nm cm ns c nt ct:Nat}=>AKT (pm:=pm) (nm:=nm) (cm:=cm) (ps:=ps) (ns:=ns) (c:=c) (pt:=pt) (nt:=nt) (ct:=ct) CE hlast hln
   rw [e1,e4] at G6
   rw [e2,e4] at Hm
   have Gc:=fun {N:Nat}{rows:List (List Int)}{pm ps:Option Addr}{nm cm n c:Nat}(CC:Cok p m md N rows)=>Jb (pm:=pm) (ps:=ps) (nm:=nm) (cm:=cm) (n:=n) (c:=c) CC
   have Gk:=fun {P M N:Int}{md:List Int}{rows:List (List Int)}{n c nm cm n2 c2 nm2 cm2:Nat}{pm ps pm2 p2:Option Addr}=>AF8 (P:=P) (M:=M) (N:=N) (md:=md) (rows:=rows) (n:=n) (c:=c) (nm:=nm) (cm:=cm) (n2:=n2) (c2:=c2) (nm2:=nm2) (cm2:=cm2) (pm:=pm) (ps:=ps) (pm2:=pm2) (p2:=p2)
   have hEM:=CE.mat
   have hEl:=CE.len
   generalize etR p m md n' rows=ET at *
   refine wk 37 (ct @Di (ct @G0 (ct @F9 (ct @Kn cz)))) ?_
   intro b1 h2 pb1 pc1 nb1 cb1 nc1 cc1 b2 h3 h4 --ok
   simp only [setB,List.set_cons_zero,List.cons_append,List.nil_append]
   refine Ba 1 rfl fun hn hb1 _=>?_
   subst hn
   refine Ah (X:=Nat) [1,3,4,48,49] [0,1,2,3] (fun i=>[(50,.int .i64 (i:Int))]) (fun _=>_) (fun _=>[]) (fun i=>i≤ET.length) (fun i=>ET.length-i) 0 [] rfl rfl rfl (Nat.zero_le _) (by repeat (first|exact Fr.sub_nil _|refine Fr.sub_cons rfl ?_)) rfl rfl ?_
   rintro i hi ih
   simp only [List.cons_append,List.nil_append] at hi ih ⊢
   by_cases hil:i<ET.length
   ·obtain ⟨u,at_u⟩:∃ u,ET[i]?=some u:=⟨_,List.getElem?_eq_getElem hil⟩
    have hum:=List.mem_of_getElem? at_u
    have hu:=(hEM u hum).2
    have hul:=(hEM u hum).1
    have hus:=hs u hum
    have hur:=hsr u hu
    have ih1:=ih (i+1) (by omega) (by omega)
    clear ih
    refine wk 15 cz ?_
    intro h5 b3 o1 hz1 pa1 ca1 --ok
    refine Ah (X:=Nat) [1,3,4,6,48,49,50,51,52,53,54,55] [0,1,2,3,4,5] (fun t=>[(56,.int .i64 (t:Int)),(7,.int .i64 (S0 (Ad (fA p m)) (u.take t)))]) (fun _=>_) (fun _=>[]) (fun t=>t≤u.length) (fun t=>u.length-t) 0 [] rfl rfl rfl (Nat.zero_le _) (by repeat (first|exact Fr.sub_nil _|refine Fr.sub_cons rfl ?_)) rfl rfl ?_
    rintro t ht ih
    simp only [List.cons_append,List.nil_append] at ht ih ⊢
    by_cases htl:t<u.length
    ·obtain ⟨x,at_x⟩:∃ x,u[t]?=some x:=⟨_,List.getElem?_eq_getElem htl⟩
     obtain ⟨hx0,hx1⟩:=hu x (List.mem_of_getElem? at_x)
     have ih':=ih (t+1) (by omega) (by omega)
     rw [Z5 at_x] at ih'
     obtain ⟨s0,s1⟩:=hur t
     rw [← S0] at s0 s1
     generalize S0 (Ad (fA p m)) (u.take t)=s at *
     clear ih
     refine wk 6 cz ?_
     intro h6 b4 o2 hz2
     refine Aa rfl (Av 0 rfl rfl Ci fun ⟨r1,r2⟩=>?_)
     refine wk 10 (ct @Gy cz) ?_
     exact tw (ih')
    ·obtain rfl:t=u.length:=by omega
     rw [List.take_length,hus]
     clear ih
     refine wk 11 cz ?_
     intro h6 h7
     exact tw (ih1)
   ·obtain rfl:i=ET.length:=by omega
    clear ih
    refine Am [_,_,_,_,_] rfl ?_
    refine Ae it 1 rfl (by simp) ?_
    refine Am [_,_,_,_,_] rfl ?_
    refine Lc rfl rfl (fun h5=>by exfalso;omega) (fun h5=>?_)
    refine Am [_,_] rfl ?_
    refine Aa rfl (Aq rfl Kt ?_)
    refine Aa rfl (Bm 1 rfl rfl Ci rfl ?_)
    refine Aa rfl (Iu Ce Ep rfl rfl rfl rfl (by decide) (by decide) rfl fun b3=>?_)
    refine Ae it 1 rfl (by simp) ?_
    refine Am [_,_] rfl ?_
    refine Aa rfl (A1 1 rfl rfl Cs rfl ?_)
    refine Ae it 1 rfl (by simp) ?_
    refine Cb (E:=Ai) (n:=1) [[Value.int IntKind.i64 ↑n']] [↑n'] 0 (fun w A hG=>(Az ⟨rfl,by first|assumption|(simp only [Bv];omega)⟩ Bd)) rfl rfl rfl rfl (by first|decide|exact Nat.le_of_ble_eq_true rfl) (by first|decide|exact Nat.le_of_ble_eq_true rfl) ?_
    refine Aa rfl (Aw [1,2,0] rfl (G6) rfl ?_)
    rintro _ _ _ ⟨pb2,pc2,nb2,cb2,nc1,cc2,rfl,rfl,rfl⟩
    simp only [List.cons_append,List.nil_append]
    refine Ae it 3 rfl (by simp) ?_
    refine Aa rfl (Bl O0 fun b4=>?_)
    refine Aa rfl (A8 0 rfl rfl rfl Cs rfl rfl (by simp [Value.oneCell']) ?_)
    refine Ae it 1 rfl (by simp) ?_
    refine Am [_,_] rfl ?_
    refine Aa rfl (A1 1 rfl rfl Cs rfl ?_)
    refine Ae it 1 rfl (by simp) ?_
    refine Aa rfl (Aw [3,4,2] rfl (Hm) rfl ?_)
    rintro _ _ _ ⟨pb3,pc3,nb3,cb3,nc2,cc3,rfl,rfl,rfl⟩
    simp only [List.cons_append,List.nil_append]
    refine Ae it 3 rfl (by simp) ?_
    refine Aa rfl (Bl O0 fun b5=>?_)
    refine Aa rfl (A8 0 rfl rfl rfl Cs rfl rfl (by simp [Value.oneCell']) ?_)
    refine Ae it 1 rfl (by simp) ?_
    refine Am [_,_] rfl ?_
    refine Aa rfl (A1 3 rfl rfl Cs rfl ?_)
    refine Aa rfl (Aw [7,8] rfl (Ie) rfl ?_)
    rintro _ _ _ ⟨pb4,pc4,nb4,cb4,nc3,cc4,rfl,rfl,rfl⟩
    simp only [List.cons_append,List.nil_append]
    refine Ae it 3 rfl (by simp) ?_
    refine Aa rfl (Bl O0 fun b6=>?_)
    refine Aa rfl (A8 0 rfl rfl rfl Cs rfl rfl (by simp [Value.oneCell']) ?_)
    refine Ae it 1 rfl (by simp) ?_
    refine Am [_,_,_] rfl ?_
    refine Ae it 11 rfl (by simp) ?_
    refine K7 (t:=99) rfl (fun h6=>by exfalso;omega) (fun h6=>?_)
    refine Bp rfl rfl (A1 2 rfl rfl Cs rfl ?_)
    refine Bp rfl rfl (A1 4 rfl rfl Cs rfl ?_)
    refine Bp rfl rfl (Aw [4,5,9,10] rfl (Gk) rfl ?_)
    rintro _ _ _ ⟨rfl,rfl,rfl⟩
    simp only [List.cons_append,List.nil_append]
    simp only [decide_true]
    refine Ae it 3 rfl (by simp) ?_
    refine Bp rfl rfl (A1 1 rfl rfl Cs rfl ?_)
    refine Bp rfl rfl (A1 0 rfl rfl Cs rfl ?_)
    refine Bp rfl rfl (Aw [2,3,0,1] rfl (Gk) rfl ?_)
    rintro _ _ _ ⟨rfl,rfl,rfl⟩
    simp only [List.cons_append,List.nil_append]
    refine Ae it 2 rfl (by simp) ?_
    refine Am [_,_] rfl ?_
    refine K4 rfl rfl ?_
    refine Am [_,_] rfl ?_
    refine Aa rfl (A1 4 rfl rfl Cs rfl ?_)
    refine Aa rfl (Aw [9,10] rfl (Gc (by omega)) rfl ?_)
    rintro _ _ _ ⟨pb5,pc5,nb5,cb5,nc4,cc5,rfl,rfl,rfl⟩
    simp only [List.cons_append,List.nil_append]
    refine Ae it 3 rfl (by simp) ?_
    refine Aa rfl (Bl O0 fun b7=>?_)
    refine Aa rfl (A8 0 rfl rfl rfl Cs rfl rfl (by simp [Value.oneCell']) ?_)
    refine Ae it 1 rfl (by simp) ?_
    refine Am [_,_] rfl ?_
    refine Aa rfl (A1 0 rfl rfl Cs rfl ?_)
    refine Aa rfl (Aw [0,1] rfl (Jn) rfl ?_)
    rintro _ _ _ ⟨pb6,pc6,nb6,cb6,nc5,cc6,rfl,rfl,rfl⟩
    simp only [List.cons_append,List.nil_append]
    refine Ae it 3 rfl (by simp) ?_
    refine Aa rfl (Bl O0 fun b8=>?_)
    refine Aa rfl (A8 0 rfl rfl rfl Cs rfl rfl (by simp [Value.oneCell']) ?_)
    refine Ae it 1 rfl (by simp) ?_
    refine Am [_,_] rfl ?_
    refine Aa rfl (A1 2 rfl rfl Cs rfl ?_)
    refine Aa rfl (Aw [4,5] rfl (Gc (by omega)) rfl ?_)
    rintro _ _ _ ⟨pb7,pc7,nb7,cb7,nc6,cc7,rfl,rfl,rfl⟩
    simp only [List.cons_append,List.nil_append]
    refine Ae it 3 rfl (by simp) ?_
    refine Aa rfl (Bl O0 fun b9=>?_)
    refine Aa rfl (A8 0 rfl rfl rfl Cs rfl rfl (by simp [Value.oneCell']) ?_)
    refine Ae it 1 rfl (by simp) ?_
    refine Am [_,_] rfl ?_
    refine Ae it 11 rfl (by simp) ?_
    refine By (t:=136) rfl (fun h7=>?_) (fun h7=>by exfalso;omega)
    refine Bp rfl rfl (A1 1 rfl rfl Cs rfl ?_)
    refine Bp rfl rfl (A1 0 rfl rfl Cs rfl ?_) --ok
    rw [e3]
    refine wk 3 (ct @Gk cz) ?_
    exact ge
  ·generalize Pg P M md N rows=e at *
   refine wk 18 (ct @Di (ct @G0 (ct @F9 (ct @Di cz)))) ?_
   intro b1 h1
   exact ge
end
end Go.Proofs.YtpienolhkccpnaaGreat
