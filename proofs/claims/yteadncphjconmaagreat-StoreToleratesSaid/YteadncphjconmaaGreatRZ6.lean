/-
The exclusion prover's basis, in the program. Columns in their order, as far as they are independent, in the program. The nodes below a node of an exclusion tree, in the program. Right nodes of an exclusion tree, in the program. The program's walk through an exclusion tree. The program's CheckRank and CheckDistance. Binomial coefficients as numbers of the machine, in the program. Sums and extreme entries of lists; how many sets there are. Multiples and sums of rows in the document. Elimination in the document. Canonical rows, null spaces, combinations and columns in the document. The document's tests of spaces and codes, of sets and pairs. A word of the span of a reduced matrix leaves nothing. The document's fields: sums of products; rows of elements. Entries of a word at some places, in the document. Tests of exclusion trees in the document. The document's walk through an exclusion tree. The tests of a store's configuration. The law's function StoreConfigs.
-/
import Derived.Test.YteadncphjconmaaGreatRZ5
set_option linter.unusedVariables false
set_option linter.unusedSimpArgs false
namespace Go.Proofs.YteadncphjconmaaGreat
open Go Go.Fw
set_option maxRecDepth 100000
set_option linter.unusedVariables false
set_option linter.unusedSimpArgs false
set_option maxHeartbeats 0
theorem Of {x:Int}:Br Tryz.prog 189 [.int .i64 x] [] [] (Rv (.bool (!decide (x=0))) []):=by
 refine Ad (F:=N5) rfl fun C=>?_
 refine wk 5 cz ?_
 exact ge
abbrev AD6 (bb b:Nat) (rR rP:Row) (k:Nat):Bb:=(some bb,195,[.pointer (some ⟨b,0,none⟩),.slice (ad rR.bo) k rR.cap,.slice (ad rP.bo) k rP.cap])
abbrev BaQ (bb b k:Nat) (t:Bool) (P:List Nat) (R:List (List Int)):Value→List Fact→List Bb→Prop:=fun v Φ β=>∃ rR rP:Row,v = .bool t∧Φ=[Aw (Ar Ak) rR k R,Aw Ak rP k (Bz P)]∧β=[AD6 bb b rR rP k,(rR.bo,22,rR.cs),(rP.bo,3,rP.cs)]
theorem I2 {p m b ng cg ce cl bb n K:Nat}{pg pe pl:Option Addr}{md x:List Int}{R:List (List Int)}{P:List Nat}{rR rP r:Row}(KK:Fok p m md) (hR:Fc (p ^ m) n R) (hlen:R.length=P.length) (hK:P.length=K) (hPn:∀ j∈P,j<n) (hn1:1≤n) (hN:n≤1000000) (hPl:K≤1000000) (hx:Wd (p ^ m) n x) :
  Br Tryz.prog 182 [.pointer (some ⟨bb,0,none⟩),.slice (ad r.bo) n r.cap] [AD6 bb b rR rP K,(rR.bo,22,rR.cs),(rP.bo,3,rP.cs),(r.bo,3,r.cs)]
   [T0 b p m (p ^ m) pg ng cg pe (p ^ m-1) ce pl (p ^ m) cl,A2 Ak pe (p ^ m-1) ce (T8 p m md),A2 Ak pl (p ^ m) cl (Tt p m md),Aw (Ar Ak) rR K R,Aw Ak rP K (Bz P),Aw Ak r n x]
   (fun v Φ β=>(Sc (Jq (Aq (fA p m)) (Aq (fM p (Cc m md))) (Gx p m) P R x)<0→BaQ bb b K false P R v Φ β) ∧
    (¬ Sc (Jq (Aq (fA p m)) (Aq (fM p (Cc m md))) (Gx p m) P R x)<0→BaQ bb b (K+1) true (P++[(Sc (Jq (Aq (fA p m)) (Aq (fM p (Cc m md))) (Gx p m) P R x)).toNat]) (R++[B3 (Aq (fM p (Cc m md))) (Hr p m md (An (Jq (Aq (fA p m)) (Aq (fM p (Cc m md))) (Gx p m) P R x) (Sc (Jq (Aq (fA p m)) (Aq (fM p (Cc m md))) (Gx p m) P R x)).toNat)) (Jq (Aq (fA p m)) (Aq (fM p (Cc m md))) (Gx p m) P R x)]) v Φ β)):=by
 refine Ad (F:=Qf) rfl fun C=>?_
 have O:=Xe KK
 have FF:=O.fi
 have hq:=KK.q
 have hq2:=O.q2
 subst hK
 have hxn:=hx.1
 have Cd:=fun {b ng cg ce cl:Nat}{pg pe pl:Option Addr}{x y:Int}=>F9 (b:=b) (ng:=ng) (cg:=cg) (ce:=ce) (cl:=cl) (pg:=pg) (pe:=pe) (pl:=pl) (x:=x) (y:=y) KK
 have X5:=fun {b ng cg ne ce nl cl:Nat}{pg pe pl:Option Addr}{x y:Int}=>Yg (b:=b) (ng:=ng) (cg:=cg) (ne:=ne) (ce:=ce) (nl:=nl) (cl:=cl) (pg:=pg) (pe:=pe) (pl:=pl) (x:=x) (y:=y) KK
 have Vh:=fun {b ng cg ce cl:Nat}{pg pe pl:Option Addr}{a:Int}{pu:Option Addr}{cu:Nat}{u:List Int} a0 a1 hu=>(Vx (b:=b) (ng:=ng) (cg:=cg) (ce:=ce) (cl:=cl) (pg:=pg) (pe:=pe) (pl:=pl) (a:=a) (pu:=pu) (nu:=n) (cu:=cu) (u:=u) KK a0 a1 hu).pubR (by show n*8≤140737488355328;omega)
 have F6:∀ {b ng cg ce cl:Nat}{pg pe pl:Option Addr}{x:Int},0<x→x<((p ^ m:Nat):Int)→Br Tryz.prog 167 [.pointer (some ⟨b,0,none⟩),.int .i64 x] [] [T0 b p m (p ^ m) pg ng cg pe (p ^ m-1) ce pl (p ^ m) cl,A2 Ak pe (p ^ m-1) ce (T8 p m md),A2 Ak pl (p ^ m) cl (Tt p m md)] (Rv (.tuple #[.int .i64 (Hr p m md x),.int .i64 0]) []):=fun {b ng cg ce cl:Nat}{pg pe pl:Option Addr}{x:Int}=>Rh (b:=b) (ng:=ng) (cg:=cg) (ce:=ce) (cl:=cl) (pg:=pg) (pe:=pe) (pl:=pl) (x:=x) KK
 generalize Hr p m md=V at *
 generalize Aq (fM p (Cc m md))=M at *
 generalize Aq (fA p m)=A0 at *
 generalize Gx p m=Ng at *
 refine wk 9 cz ?_
 refine Eu 5 rfl hn1 fun b9 cap9 cs9 hr=>?_
 subst hr
 refine Ag (X:=Nat×List Value) [0,1,4,16,17] [0,1,2,3,4,5] (fun x'=>[(18,.int .i64 (x'.1:Int))]) (fun x'=>[AD6 bb b rR rP P.length,(rR.bo,22,rR.cs),(rP.bo,3,rP.cs),(some b9,3,x'.2)])
  (fun x'=>[Aw Ak ⟨some b9,cap9,x'.2⟩ n (Jq A0 M Ng (P.take x'.1) (R.take x'.1) x)]) (fun x'=>x'.1≤P.length) (fun x'=>P.length-x'.1) (0,cs9) [5] rfl rfl rfl (Nat.zero_le _) (by repeat (first|exact Fr.sub_nil _|refine Fr.sub_cons rfl ?_)) rfl rfl ?_
 rintro ⟨i,cs⟩ hi ih
 simp only [List.cons_append,List.nil_append] at hi ih ⊢
 have hL:=O.rp_wd (P:=P.take i) (R:=R.take i) (fun r hr=>hR r (List.mem_of_mem_take hr)) hx
 by_cases hil:i<P.length
 ·obtain ⟨pi,hpi⟩:∃ pi,P[i]?=some pi:=⟨_,List.getElem?_eq_getElem hil⟩
  obtain ⟨ri,at_r⟩:∃ ri,R[i]?=some ri:=⟨_,List.getElem?_eq_getElem (by omega)⟩
  have at_p:(Bz P)[i]?=some (pi:Int):=Js hpi
  have hpn:=hPn pi (List.mem_of_getElem? hpi)
  have hri:=hR ri (List.mem_of_getElem? at_r)
  have hst:Jq A0 M Ng (P.take (i+1)) (R.take (i+1)) x=Gw A0 M (Ng (An (Jq A0 M Ng (P.take i) (R.take i) x) pi)) ri (Jq A0 M Ng (P.take i) (R.take i) x):=by
   rw [List.take_add_one,List.take_add_one,hpi,at_r]
   exact ACU (by rw [List.length_take,List.length_take,hlen])
  have ih':=fun cs=>ih (i+1,cs) (by dsimp only;omega) (by dsimp only;omega)
  dsimp only at ih'
  simp only [hst] at ih'
  generalize Jq A0 M Ng (P.take i) (R.take i) x=L at *
  have at_y:L[pi]?=some (An L pi):=by rw [An,List.getD_eq_getElem?_getD,List.getElem?_eq_getElem (by rw [hL.1];exact hpn)];rfl
  obtain ⟨y0,y1⟩:=Bo (by omega) hL pi
  generalize An L pi=y at *
  obtain ⟨⟨n0,n1⟩,_⟩:=O.ng y y0 y1
  by_cases hy:y=0
  ·have e0:Gw A0 M (Ng y) ri L=L:=by rw [hy,O.n0];exact O.axp0 hri hL
   rw [e0] at ih'
   refine wk 6 cz ?_
   intro h1
   refine Eu 4 rfl (by omega) fun b1 cap1 cs1 hr1=>?_
   subst hr1
   dsimp only
   refine wk 1 cz ?_
   refine Ab rfl (Hu 1 4 (i) rfl rfl rfl Ez rfl (by omega) fun z1 hz1 pa1 ca1=>?_)
   obtain rfl:_=z1:=Option.some.inj (at_r.symm.trans hz1)
   refine wk 4 cz ?_
   refine Ab rfl (Dt 0 rfl rfl Ez rfl ?_)
   refine wk 1 cz ?_
   refine Eu 6 rfl (by omega) fun b2 cap2 cs2 hr1=>?_
   subst hr1
   dsimp only
   refine wk 1 cz ?_
   refine Ab rfl (Lv 2 6 (i) rfl rfl rfl Bm rfl (by assumption) fun hr1=>?_)
   refine wk 1 cz ?_
   refine Ab rfl (Lv 3 1 (pi) rfl rfl rfl Bm rfl (by assumption) fun hr2=>?_)
   refine wk 8 cz ?_
   intro h2
   exact tw (ih' cs)
  ·obtain ⟨hax0,hax1⟩:Wd (p ^ m) n (Gw A0 M (Ng y) ri L):=FF.axw n0 n1 hri hL
   have hLl:=hL.1
   have hrl:=hri.1
   refine wk 6 cz ?_
   intro h1
   refine Eu 4 rfl (by omega) fun b1 cap1 cs1 hr1=>?_
   subst hr1
   dsimp only
   refine wk 1 cz ?_
   refine Ab rfl (Hu 1 4 (i) rfl rfl rfl Ez rfl (by omega) fun z1 hz1 pa1 ca1=>?_)
   obtain rfl:_=z1:=Option.some.inj (at_r.symm.trans hz1)
   refine wk 4 cz ?_
   refine Ab rfl (Dt 0 rfl rfl Ez rfl ?_)
   refine wk 1 cz ?_
   refine Eu 6 rfl (by omega) fun b2 cap2 cs2 hr1=>?_
   subst hr1
   dsimp only
   refine wk 1 cz ?_
   refine Ab rfl (Lv 2 6 (i) rfl rfl rfl Bm rfl (by assumption) fun hr1=>?_)
   refine wk 1 cz ?_
   refine Ab rfl (Lv 3 1 (pi) rfl rfl rfl Bm rfl (by assumption) fun hr2=>?_)
   refine wk 10 cz ?_
   intro h2
   refine Ag (X:=Nat×List Value) [0,1,4,5,6,7,16,17,18,19,20,21,22,23,24,25,26,27,28,29,30,31,32,33,34,35,36] [0,1,2,3,4,5,6,7] (fun z=>[(37,.int .i64 (z.1:Int))]) (fun z=>[AD6 bb b ⟨some b1,cap1,cs1⟩ ⟨some b2,cap2,cs2⟩ P.length,(some b1,22,cs1),(some b2,3,cs2),(some b9,3,z.2)]) (fun z=>[Aw Ak ⟨some b9,cap9,z.2⟩ n ((Gw A0 M (Ng y) ri L).take z.1++L.drop z.1)]) (fun z=>z.1≤n) (fun z=>n-z.1) (0,cs) [1] rfl rfl rfl (Nat.zero_le _) (by repeat (first|exact Fr.sub_nil _|refine Fr.sub_cons rfl ?_)) rfl rfl ?_
   rintro ⟨j,cs⟩ hj ihj
   simp only [List.cons_append,List.nil_append] at hj ihj ⊢
   by_cases hjl:j<n
   ·obtain ⟨z,at_z⟩:∃ z,ri[j]?=some z:=⟨_,List.getElem?_eq_getElem (by omega)⟩
    obtain ⟨u,hu⟩:∃ u,L[j]?=some u:=⟨_,List.getElem?_eq_getElem (by omega)⟩
    obtain ⟨z0,z1⟩:=hri.2 z (List.mem_of_getElem? at_z)
    obtain ⟨u0,u1⟩:=hL.2 u (List.mem_of_getElem? hu)
    obtain ⟨m0,m1⟩:=FF.ml y z y0 y1 z0 z1
    have hT:(Gw A0 M (Ng y) ri L)[j]?=some (A0 u (Ng (M y z))):=by rw [Gw,List.getElem?_zipWith,hu,at_z,O.ng_mul y0 y1 z0 z1]
    have hLj:=(AEF hax0 hL.1 hjl).trans hu
    have hset:=ACy hax0 hL.1 hjl hT
    have hLl:((Gw A0 M (Ng y) ri L).take j++L.drop j).length=n:=by rw [List.length_append,List.length_take,List.length_drop];omega
    have ihj':=fun cs=>ihj (j+1,cs) (by dsimp only;omega) (by dsimp only;omega)
    dsimp only at ihj'
    rw [← hset] at ihj'
    generalize (Gw A0 M (Ng y) ri L).take j++L.drop j=L2 at *
    obtain ⟨⟨g0,g1⟩,_⟩:=O.ng _ m0 m1
    obtain ⟨a0,a1⟩:=FF.al u _ u0 u1 g0 g1
    refine wk 6 cz ?_
    intro h3
    refine Ab rfl (E0 1 (j) rfl rfl rfl Bj rfl (by omega) fun z2 hz2 b3 o1=>?_)
    obtain rfl:_=z2:=Option.some.inj (at_z.symm.trans hz2)
    refine Ab rfl (Aj 0 rfl rfl Bm fun ⟨r1,r2⟩=>?_)
    refine wk 2 cz ?_
    (apply Ch it mx 18;(· rfl);(· rfl))
    (apply Ae 4;(· rfl);(· simp))
    (apply Ac;(· rfl);(· exact Bi fun _=>A3 rfl ABG Af))
    (apply Ac;(· rfl);(· exact Bn 0 rfl rfl AAC rfl))
    (apply Ae 2;(· rfl);(· simp))
    (apply Ac;(· rfl);(· exact Bi fun _=>Ah (j) (j) rfl rfl Bj rfl (by omega) (Nat.mul_one _) Af))
    (apply Ac;(· rfl);(· exact A6 3 1 (j) rfl rfl rfl Bm rfl (by assumption)))
    (apply Ae 2;(· rfl);(· simp))
    (apply Ac;(· rfl);(· exact Bi fun _=>A3 rfl ABG Af))
    (apply Ac;(· rfl);(· exact Bn 0 rfl rfl AAC rfl))
    (apply Ae 2;(· rfl);(· simp))
    (apply Ac;(· rfl);(· exact Bi fun _=>Ai [4,5,6] rfl (Cd (by omega) (by omega) (by omega) (by omega)) rfl (by rintro _ _ _ ⟨rfl,rfl,rfl⟩;exact Af)))
    (apply Ac;(· rfl);(· exact Bi fun _=>Ai [4] rfl (X5 (by omega) (by omega) (by omega) (by omega)) rfl (by rintro _ _ _ ⟨rfl,rfl,rfl⟩;exact Af)))
    refine B7 rfl ?_
    simp only [List.map_cons,List.map_nil,List.cons_append,List.nil_append]
    refine wk 1 cz ?_
    refine Ab rfl (Cb (vs:=[Value.int IntKind.i64 (A0 u (Ng (M y z)))]) (z:=(A0 u (Ng (M y z)):Int)) 3 1 (j) rfl rfl rfl rfl rfl Bm (Nat.mul_one _).symm (by omega) (fun w A hG=>(Bh (by first|(simp only [Bf];omega)|(simp [Bf];done)))) fun cs3=>?_)
    refine wk 3 cz ?_
    exact tw (ihj' cs3)
   ·obtain rfl:n=j:=by omega
    rw [List.take_of_length_le (by omega),List.drop_of_length_le (by omega),List.append_nil]
    refine wk 7 cz ?_
    intro h3
    exact tw (ih' cs)
 ·obtain rfl:i=P.length:=by omega
  rw [List.take_length,← hlen,List.take_length] at *
  generalize Jq A0 M Ng P R x=L at *
  have hLl:=hL.1
  refine Ev 3 0 rfl rfl (by show n*8≤140737488355328;omega) ?_
  refine AJM [] rfl ?_
  have D0:∀ {ps:Option Addr}{c:Nat},Br Tryz.prog 80 [.slice ps n c,.func (.func 189) #[] #[]] [] [A2 Ak ps n c L,ACD []] (Rv (.int .i64 (Sc L)) []):=fun {ps:Option Addr}{c:Nat}=>Kh (f:=189) (caps:=[]) (g:=ACD []) (p:=fun x=>!decide (x=0)) (ps:=ps) (n:=n) (c:=c) (l:=L) fun x _=>Of.conj
  by_cases h:Sc L<0
  ·refine wk 15 (ct @D0 cz) ?_
   intro h1 h2
   refine B0 3 [0,1,2] [6,7] rfl (.tmp rfl .nil) rfl rfl rfl ⟨fun _=>⟨rR,rP,rfl,rfl,rfl⟩,fun h1=>absurd h h1⟩
  ·obtain ⟨k1,k2⟩:=Wo h
   obtain ⟨k,hk⟩:=Int.eq_ofNat_of_zero_le (Int.not_lt.1 h)
   simp only [hk,Int.toNat_natCast] at k1 k2 D0 ⊢
   obtain ⟨y0,y1⟩:=Bo (by omega) hL k
   obtain ⟨⟨v0,v1⟩,hiv⟩:=O.iv _ y0 y1 k2
   have y2:0<An L k:=by omega
   rw [show An L k=L.getD k default from rfl] at *
   have hu:=hL.2
   refine wk 16 (ct @D0 (ct @F6 cz)) ?_
   intro h1 h2 b1 o1
   (refine Xo [1,0,2] rfl rfl ?_;apply AAa it mx 1 15;(· rfl);(· rfl);(· rfl))
   (apply Ae 3;(· rfl);(· simp))
   (apply Ac;(· rfl);(· exact Bi fun _=>A3 rfl AIh Af))
   (apply Ac;(· rfl);(· exact Bn 0 rfl rfl M5 rfl))
   (apply Ae 2;(· rfl);(· simp))
   (apply Ac;(· rfl);(· exact Bi fun _=>A3 rfl ABG Af))
   (apply Ac;(· rfl);(· exact Bn 0 rfl rfl AAC rfl))
   (apply Ae 2;(· rfl);(· simp))
   (apply Dl;(· rfl);(· exact Bi fun _=>Ai [4,5,6,2] rfl (Vh (by omega) (by omega) (by omega)) rfl (by rintro _ _ _ ⟨pa1,ca1,rfl,rfl,rfl⟩;exact (E7 0 rfl)));intro pa1 ca1)
   (apply Dl;(· rfl);(· exact Bi fun _=>ACX Fo ACP rfl rfl rfl rfl (by decide) (by decide) rfl fun b2=>AD1 (E:=(Ar (Ak))) [[Value.slice pa1 n ca1]] [B3 M (V (L.getD k default)) L] (fun w A hG=>(Ji (Ew (hG _ (Al (n:=0) rfl))) D5)) rfl rfl rfl (by first|decide|exact Nat.le_of_ble_eq_true rfl));intro pa2 ca2)
   (apply AH0 (m:=1) 9 0;(· rfl);(· rfl);(· rfl);(· rfl);(· rfl);(· exact Fo);(· exact ACP);(· rfl);(· (first|omega|(simp;done)));(· (first|omega|(simp only [List.length_cons,List.length_nil];omega)));(· exact AEA);(· (first|omega|(simp only [List.length_cons,List.length_nil];omega)));intro b2 cap1 cs1)
   (apply Ae 1;(· rfl);(· simp))
   refine B7 rfl ?_
   simp only [List.map_cons,List.map_nil,List.cons_append,List.nil_append]
   refine wk 8 cz ?_
   intro b3
   refine Ab rfl (Ik (z:=(↑k:Int)) 3 0 11 rfl rfl rfl rfl rfl Bj Hb rfl (fun w A hG=>(Bh (by first|(simp only [Bf];omega)|(simp [Bf];done)))) (by omega) _ Iy (by omega) fun r1=>?_)
   refine wk 6 cz ?_
   have eP:Bz (P++[k])=Bz P++[(k:Int)]:=List.map_append
   refine B0 4 [3,2,0] [1,0] rfl (.tmp rfl .nil) rfl rfl rfl ⟨fun h1=>absurd h1 (by omega),fun _=>⟨⟨some b2,cap1,cs1⟩,r1,rfl,by rw [eP],rfl⟩⟩
abbrev Wb (bp b p m N nm cm ns cs ny cy nt ct:Nat) (pm ps py pt:Option Addr) (co:Bool) (Mo w ap:Int):Bb:=(some bp,157,[.pointer (some ⟨b,0,none⟩),.int .i64 p,.int .i64 m,.slice pm nm cm,.int .i64 N,.slice ps ns cs,.slice py ny cy,.bool co,.int .i64 Mo,.int .i64 w,.slice pt nt ct,.int .i64 ap])
section
variable {p m N b bp nm cm ns cs ny cy nt ct:Nat}{pm ps py pt:Option Addr}{co:Bool}{Mo w ap:Int}{md:List Int}{Aa:List (List Int)}
theorem Ni {x:Nat}(K:Fok p m md) (hM:Fc (p ^ m) N Aa) (hx:x<N) (hr:Aa.length≤1000000) :
  Br Tryz.prog 183 [.pointer (some ⟨bp,0,none⟩),.int .i64 x] [Wb bp b p m N nm cm ns cs ny cy nt ct pm ps py pt co Mo w ap] [A2 (Ar Ak) ps ns cs Aa]
   (fun v Φ β=>∃ r:Row,v = .slice (ad r.bo) Aa.length r.cap∧Φ=[Aw Ak r Aa.length (F8 Aa x)]∧β=[Wb bp b p m N nm cm ns cs ny cy nt ct pm ps py pt co Mo w ap,(r.bo,3,r.cs)]):=by
 refine Ad (F:=My) rfl fun C=>?_
 refine Bd 0 rfl fun hn hb _=>?_
 subst hn
 have hq:=K.q
 have hq2:=(Xe K).q2
 have hcW:=Ma (show 0<p ^ m by omega) hM x
 have hTl:(F8 Aa x).length=Aa.length:=List.length_map _
 have hTa:∀ (k:Nat) (u:List Int),Aa[k]?=some u→(F8 Aa x)[k]?=some (An u x):=fun k u h=>by rw [F8,List.getElem?_map,h];rfl
 have hTr:∀ z∈F8 Aa x,Bf .i64 z:=fun z hz=>by
  have:=hcW.2 z hz
  simp only [Bf];omega
 refine wk 18 cz ?_
 intro b1
 rw [show Ap .i64 (List.replicate Aa.length 0)=Az .i64 ((F8 Aa x).take 0++List.replicate (Aa.length-0) 0) by simp [Ap,Az]]
 refine Ag (X:=Nat) [1,4,5,19,20] [0] (fun k=>[(21,.int .i64 (k:Int))]) (fun k=>[(some b1,3,Az .i64 ((F8 Aa x).take k++List.replicate (Aa.length-k) 0)),Wb bp b p m N nm cm Aa.length cs ny cy nt ct pm ps py pt co Mo w ap]) (fun _=>[]) (fun k=>k≤Aa.length) (fun k=>Aa.length-k) 0 [] rfl rfl rfl (Nat.zero_le _) (by repeat (first|exact Fr.sub_nil _|refine Fr.sub_cons rfl ?_)) rfl rfl ?_
 rintro k hk ihk
 simp only [List.cons_append,List.nil_append] at hk ihk ⊢
 by_cases h8:k<Aa.length
 ·obtain ⟨u,at_x⟩:∃ u,Aa[k]?=some u:=⟨_,List.getElem?_eq_getElem h8⟩
  have hxl:=(hM u (List.mem_of_getElem? at_x)).1
  have hT:=hTa k u at_x
  have at_y:u[x]?=some (An u x):=by
   rw [An,List.getD_eq_getElem?_getD,List.getElem?_eq_getElem (by omega)];rfl
  have ih':=ihk (k+1) (by omega) (by omega)
  rw [← take_set hT h8] at ih'
  have hln:((F8 Aa x).take k++List.replicate (Aa.length-k) 0).length=Aa.length:=by rw [List.length_append,List.length_take,List.length_replicate];omega
  generalize (F8 Aa x).take k++List.replicate (Aa.length-k) 0=L at *
  refine wk 12 cz ?_
  intro h1 b2 o1 hz1 pa1 ca1 b3 o2 hz2
  refine Ab rfl (Aj 0 rfl rfl Bm fun ⟨r1,r2⟩=>?_)
  refine wk 5 cz ?_
  exact tw (ih')
 ·obtain rfl:k=Aa.length:=by omega
  rw [Nat.sub_self,List.replicate_zero,List.append_nil,List.take_of_length_le (by omega)]
  clear ihk
  refine wk 3 cz ?_
  refine Ow 0 rfl hTl.symm hTr (by omega) ?_
  refine wk 4 cz ?_
  intro h1
  refine B0 2 [1,0] [0] rfl (.tmp rfl .nil) rfl rfl rfl ⟨⟨some b1,Aa.length,Az .i64 (F8 Aa x)⟩,rfl,rfl,rfl⟩
theorem AHY {ng cg ce cl bb n k:Nat}{pg pe pl:Option Addr}{x:List Int}{R:List (List Int)}{P:List Nat}{rR rP r:Row}(K:Fok p m md) (hR:Fc (p ^ m) n R) (hlen:R.length=P.length) (hK:P.length=k) (hPn:∀ j∈P,j<n) (hn1:1≤n) (hN:n≤1000000) (hPl:k≤1000000) (hx:Wd (p ^ m) n x) (h:Sc (Jq (Aq (fA p m)) (Aq (fM p (Cc m md))) (Gx p m) P R x)<0) :
  Br Tryz.prog 182 [.pointer (some ⟨bb,0,none⟩),.slice (ad r.bo) n r.cap] [AD6 bb b rR rP k,(rR.bo,22,rR.cs),(rP.bo,3,rP.cs),(r.bo,3,r.cs)]
   [T0 b p m (p ^ m) pg ng cg pe (p ^ m-1) ce pl (p ^ m) cl,A2 Ak pe (p ^ m-1) ce (T8 p m md),A2 Ak pl (p ^ m) cl (Tt p m md),Aw (Ar Ak) rR k R,Aw Ak rP k (Bz P),Aw Ak r n x] (BaQ bb b k false P R) :=
 (I2 K hR hlen hK hPn hn1 hN hPl hx).mono fun C w v Φ β' hQ hO hF=>⟨_,_,hQ.1 h,hO,hF⟩
theorem AGa {ng cg ce cl bb n k:Nat}{pg pe pl:Option Addr}{x:List Int}{R:List (List Int)}{P:List Nat}{rR rP r:Row}(K:Fok p m md) (hR:Fc (p ^ m) n R) (hlen:R.length=P.length) (hK:P.length=k) (hPn:∀ j∈P,j<n) (hn1:1≤n) (hN:n≤1000000) (hPl:k≤1000000) (hx:Wd (p ^ m) n x) {w:List Int}(hw:Jq (Aq (fA p m)) (Aq (fM p (Cc m md))) (Gx p m) P R x=w) (h:¬ Sc w<0) :
  Br Tryz.prog 182 [.pointer (some ⟨bb,0,none⟩),.slice (ad r.bo) n r.cap] [AD6 bb b rR rP k,(rR.bo,22,rR.cs),(rP.bo,3,rP.cs),(r.bo,3,r.cs)]
   [T0 b p m (p ^ m) pg ng cg pe (p ^ m-1) ce pl (p ^ m) cl,A2 Ak pe (p ^ m-1) ce (T8 p m md),A2 Ak pl (p ^ m) cl (Tt p m md),Aw (Ar Ak) rR k R,Aw Ak rP k (Bz P),Aw Ak r n x] (BaQ bb b (k+1) true (P++[(Sc w).toNat]) (R++[B3 (Aq (fM p (Cc m md))) (Hr p m md (An w (Sc w).toNat)) w])) :=
 (I2 K hR hlen hK hPn hn1 hN hPl hx).mono fun C w v Φ β' hQ hO hF=>⟨_,_,by subst hw;exact hQ.2 h,hO,hF⟩
abbrev grP (p m:Nat) (md:List Int) (Aa:List (List Int)) (most:Nat) (o:List Int) (P:List Nat) (R:List (List Int)) (out:List Int):List Int:=grL (Aq (fA p m)) (Aq (fM p (Cc m md))) (Gx p m) (Hr p m md) (fun i=>F8 Aa i.toNat) most o P R out
theorem M8 {ng cg ce cl most no co':Nat}{pg pe pl po:Option Addr}{o:List Int}(K:Fok p m md) (hM:Fc (p ^ m) N Aa) (hr1:1≤Aa.length) (hr:Aa.length≤1000000) (ho:∀ x∈o,0≤x∧x<(N:Int)) (hol:o.length≤1000) (hmo:most≤1000000) :
  Br Tryz.prog 171 [.pointer (some ⟨bp,0,none⟩),.slice po no co',.int .i64 most] [Wb bp b p m N nm cm ns cs ny cy nt ct pm ps py pt co Mo w ap] [A2 (Ar Ak) ps ns cs Aa,T0 b p m (p ^ m) pg ng cg pe (p ^ m-1) ce pl (p ^ m) cl,A2 Ak pe (p ^ m-1) ce (T8 p m md),A2 Ak pl (p ^ m) cl (Tt p m md),A2 Ak po no co' o]
   (fun v Φ β=>∃ r:Row,v = .slice (ad r.bo) (grP p m md Aa most o [] [] []).length r.cap∧Φ=[Aw Ak r (grP p m md Aa most o [] [] []).length (grP p m md Aa most o [] [] [])]∧β=[Wb bp b p m N nm cm ns cs ny cy nt ct pm ps py pt co Mo w ap,(r.bo,3,r.cs)]):=by
 refine Ad (F:=M6) rfl fun C=>?_
 refine Bd 4 rfl fun hn hb _=>?_
 subst hn
 have O:=Xe K
 have hq:=K.q
 have hq2:=O.q2
 have G8:=fun {x:Nat}=>Ni (p:=p) (m:=m) (N:=N) (b:=b) (bp:=bp) (nm:=nm) (cm:=cm) (ns:=ns) (cs:=cs) (ny:=ny) (cy:=cy) (nt:=nt) (ct:=ct) (pm:=pm) (ps:=ps) (py:=py) (pt:=pt) (co:=co) (Mo:=Mo) (w:=w) (ap:=ap) (Aa:=Aa) (x:=x) K hM
 refine wk 16 cz ?_
 intro b1
 refine Jj Ak 3 ?_
 refine Jj Ak 3 ?_
 refine Jj (Ar Ak) 22 ?_
 refine Ag (X:=Nat×Row×Row×Row×List Nat×List (List Int)×List Int) [0,2,6,7,17,18] [0,1,2,3,4,5,6,7] (fun z=>[(19,.int .i64 (z.1:Int)),(8,.slice (ad z.2.2.2.1.bo) z.2.2.2.2.2.2.length z.2.2.2.1.cap)])
  (fun z=>[(z.2.1.bo,22,z.2.1.cs),(z.2.2.1.bo,3,z.2.2.1.cs),(z.2.2.2.1.bo,3,z.2.2.2.1.cs),AD6 b1 b z.2.1 z.2.2.1 z.2.2.2.2.1.length,Wb bp b p m N nm cm ns cs ny cy nt ct pm ps py pt co Mo w ap])
  (fun z=>[Aw (Ar Ak) z.2.1 z.2.2.2.2.1.length z.2.2.2.2.2.1,Aw Ak z.2.2.1 z.2.2.2.2.1.length (Bz z.2.2.2.2.1),Aw Ak z.2.2.2.1 z.2.2.2.2.2.2.length z.2.2.2.2.2.2])
  (fun z=>z.1≤o.length∧Fc (p ^ m) Aa.length z.2.2.2.2.2.1∧z.2.2.2.2.2.1.length=z.2.2.2.2.1.length∧(∀ j∈z.2.2.2.2.1,j<Aa.length)∧z.2.2.2.2.1.length≤z.1∧z.2.2.2.2.2.2.length≤z.1∧grP p m md Aa most (o.drop z.1) z.2.2.2.2.1 z.2.2.2.2.2.1 z.2.2.2.2.2.2=grP p m md Aa most o [] [] []) (fun z=>o.length-z.1) (0,⟨none,0,[]⟩,⟨none,0,[]⟩,⟨none,0,[]⟩,[],[],[]) [0,1,2] rfl rfl rfl (by dsimp only;exact ⟨Nat.zero_le _,(show Fc (p ^ m) Aa.length [] from fun r hr=>absurd hr List.not_mem_nil),rfl,(fun j hj=>absurd hj List.not_mem_nil),Nat.le_refl _,Nat.le_refl _,rfl⟩) (by repeat (first|exact Fr.sub_nil _|refine Fr.sub_cons rfl ?_)) rfl rfl ?_
 rintro ⟨i,rR,rP,r,P,R,out⟩ ⟨hi,hR,hlen,hPn,hPi,hoi,hg⟩ ih
 simp only [List.cons_append,List.nil_append] at hi hR hlen hPn hPi hoi hg ih ⊢
 by_cases hil:i<o.length
 ·obtain ⟨x,at_x⟩:∃ x,o[i]?=some x:=⟨_,List.getElem?_eq_getElem hil⟩
  obtain ⟨x0,x1⟩:=ho x (List.mem_of_getElem? at_x)
  obtain ⟨x,rfl⟩:=Int.eq_ofNat_of_zero_le x0
  have hcW:=Ma (show 0<p ^ m by omega) hM x
  have e3:o.drop i=(x:Int)::o.drop (i+1):=by
   rw [List.drop_eq_getElem_cons hil];rw [List.getElem?_eq_getElem hil] at at_x;rw [Option.some.inj at_x]
  rw [e3] at hg
  by_cases hm:out.length=most
  ·rw [← hg,show grP p m md Aa most ((x:Int)::o.drop (i+1)) P R out=out by rw [grP,grL,if_pos hm]]
   refine wk 6 cz ?_
   intro h1 b2 o1 hz1
   refine Ab rfl (Aj 0 rfl rfl Bm fun ⟨r1,r2⟩=>?_)
   refine wk 10 cz ?_
   intro h2
   refine B0 5 [4,2] [3] rfl (.tmp rfl .nil) rfl rfl rfl ⟨r,rfl,rfl,rfl⟩
  ·rw [grP,grL,if_neg hm,Int.toNat_natCast] at hg
   have hrw:=O.rp_wd (P:=P) (R:=R) hR hcW
   obtain ⟨w0,hw0⟩:∃ w0,Jq (Aq (fA p m)) (Aq (fM p (Cc m md))) (Gx p m) P R (F8 Aa x)=w0:=⟨_,rfl⟩
   rw [hw0] at hg hrw
   by_cases hf:Sc w0<0
   ·rw [if_pos hf] at hg
    have F3:=fun {ng cg ce cl bb:Nat}{pg pe pl:Option Addr}{rR rP r:Row}=>AHY (b:=b) (ng:=ng) (cg:=cg) (ce:=ce) (cl:=cl) (bb:=bb) (pg:=pg) (pe:=pe) (pl:=pl) (rR:=rR) (rP:=rP) (r:=r) K hR hlen rfl hPn hr1 hr (by omega) hcW (by rw [hw0];exact hf)
    have ih':=fun rR rP=>ih (i+1,rR,rP,r,P,R,out) (by dsimp only;omega) (by dsimp only;exact ⟨by omega,hR,hlen,hPn,by omega,by omega,hg⟩)
    dsimp only at ih'
    refine wk 6 cz ?_
    intro h1 b2 o1 hz1
    refine Ab rfl (Aj 0 rfl rfl Bm fun ⟨r1,r2⟩=>?_)
    refine wk 9 cz ?_
    intro h2
    refine Ab rfl (Bt 4 [7] rfl rfl (G8 (by omega) (by omega)) rfl ?_)
    rintro _ _ _ ⟨r3,rfl,rfl,rfl⟩
    simp only [List.cons_append,List.nil_append]
    refine Xo [5,2,3,1,0,4] rfl rfl ?_
    refine Ab rfl (F1 4 [9,10,11,2,3,0] rfl rfl (F3) rfl ?_)
    rintro _ _ _ ⟨rR1,rP1,rfl,rfl,rfl⟩
    simp only [List.cons_append,List.nil_append]
    refine wk 5 cz ?_
    refine Qu 5 [1,2,4,0,3] rfl rfl ?_
    exact tw (ih' rR1 rP1)
   ·rw [if_neg hf] at hg
    have F3:=fun {ng cg ce cl bb:Nat}{pg pe pl:Option Addr}{rR rP r:Row}=>AGa (b:=b) (ng:=ng) (cg:=cg) (ce:=ce) (cl:=cl) (bb:=bb) (pg:=pg) (pe:=pe) (pl:=pl) (rR:=rR) (rP:=rP) (r:=r) K hR hlen rfl hPn hr1 hr (by omega) hcW hw0 hf
    have hst:=Wo hf
    have hvi:=O.iv _ (Bo (by omega) hrw (Sc w0).toNat).1 (Bo (by omega) hrw (Sc w0).toNat).2 hst.2
    have hR':Fc (p ^ m) Aa.length (R++[B3 (Aq (fM p (Cc m md))) (Hr p m md (An w0 (Sc w0).toNat)) w0]):=fun u hu=>by
     rcases List.mem_append.1 hu with hu|hu
     ·exact hR u hu
     ·rw [List.mem_singleton.1 hu];exact O.scl_wd hvi.1.1 hvi.1.2 hrw
    have hPn':∀ j∈P++[(Sc w0).toNat],j<Aa.length:=fun j hj=>by
     rcases List.mem_append.1 hj with hj|hj
     ·exact hPn j hj
     ·rw [List.mem_singleton.1 hj];have:=hrw.1;omega
    have ih':=fun rR rP r=>ih (i+1,rR,rP,r,P++[(Sc w0).toNat],R++[B3 (Aq (fM p (Cc m md))) (Hr p m md (An w0 (Sc w0).toNat)) w0],out++[(x:Int)]) (by dsimp only;omega) (by dsimp only;refine ⟨by omega,hR',by rw [List.length_append,List.length_append,hlen];rfl,hPn',by rw [List.length_append];exact Nat.add_le_add_right hPi 1,by rw [List.length_append];exact Nat.add_le_add_right hoi 1,hg⟩)
    dsimp only at ih'
    simp only [List.length_append,List.length_singleton] at ih'
    refine wk 6 cz ?_
    intro h1 b2 o1 hz1
    refine Ab rfl (Aj 0 rfl rfl Bm fun ⟨r1,r2⟩=>?_)
    refine wk 9 cz ?_
    intro h2
    refine Ab rfl (Bt 4 [7] rfl rfl (G8 (by omega) (by omega)) rfl ?_)
    rintro _ _ _ ⟨r3,rfl,rfl,rfl⟩
    simp only [List.cons_append,List.nil_append]
    refine Xo [5,2,3,1,0,4] rfl rfl ?_
    refine Ab rfl (F1 4 [9,10,11,2,3,0] rfl rfl (F3) rfl ?_)
    rintro _ _ _ ⟨rR1,rP1,rfl,rfl,rfl⟩
    simp only [List.cons_append,List.nil_append]
    refine wk 5 cz ?_
    intro b3
    refine Ab rfl (Ik (z:=(↑x:Int)) 5 0 6 rfl rfl rfl rfl rfl Bj Hb rfl (fun w A hG=>(Bh (by first|(simp only [Bf];omega)|(simp [Bf];done)))) (by omega) _ Iy (by omega) fun r4=>?_)
    refine wk 4 cz ?_
    refine Qu 6 [3,4,0,2,5] rfl rfl ?_
    exact tw (ih' rR1 rP1 r4)
 ·obtain rfl:i=o.length:=by omega
  rw [List.drop_length] at hg
  rw [← hg,show grP p m md Aa most [] P R out=out from rfl]
  refine wk 7 cz ?_
  intro h1
  refine B0 5 [4,2] [2] rfl (.tmp rfl .nil) rfl rfl rfl ⟨r,rfl,rfl,rfl⟩
end
open Go Go.Fw
set_option maxRecDepth 100000
set_option linter.unusedVariables false
set_option linter.unusedSimpArgs false
set_option maxHeartbeats 0
section
variable {P:Program}{C:Cx}{σ:Fr}{β:List Bb}{Γ:List Fact}{ty:TypeId}
theorem AIO {K:Value→List Bb→List Fact→Prop}{f:FuncId}{x:Operand}{xs:List Operand}{ts:Array TypeId}{bnd args caps:List Value}(hv:ev σ x=some (.func (.func f) bnd.toArray caps.toArray)) (hx:evs σ xs=some args)
  (h:Ej P C (.call { callee:=.value (.func f),args:=((bnd++args++caps).map Operand.const).toArray,argTypes:=ts }) ty σ β Γ K):Ej P C (.call { callee:=.value x,args:=xs.toArray,argTypes:=ts }) ty σ β Γ K:=by
 intro w hO hG ρ hρ
 have h1:=h w hO hG ρ hρ
 have hc:ρ (.func f) = .func (.func f) #[] #[]:=hρ _ _ rfl
 have hv':ρ x = .func (.func f) bnd.toArray caps.toArray:=hρ _ _ hv
 have ha:xs.toArray.map ρ=args.toArray:=by rw [List.map_toArray,St hρ hx]
 have hb:((bnd++args++caps).map Operand.const).toArray.map ρ=(bnd++args++caps).toArray:=by rw [List.map_toArray,St hρ (Ts σ _)]
 simp only [execOp,Cp,resolve,hb,hc,Deferred.ofValue,Sem.run_bind,Sem.run_pure,Result.andThen_ok,invoke,Array.append_empty,Array.empty_append] at h1
 simp only [execOp,Cp,resolve,ha,hv',Deferred.ofValue,Sem.run_bind,Sem.run_pure,Result.andThen_ok,invoke]
 rw [List.append_toArray,List.append_toArray]
 exact h1
end
theorem AFB {w:World}{A:Nat→Prop}{vss:List (List Value)}{l:List Int}(h:Fu Ak vss l w A):vss.flatten=Az .i64 l:=by
 have e:vss=l.map fun x=>[Value.int .i64 x]:=List.ext_getElem? fun i=>by
  rw [List.getElem?_map]
  by_cases hi:i<l.length
  ·rw [List.getElem?_eq_getElem hi,List.getElem?_eq_getElem (by rw [h.1];exact hi)]
   exact congrArg some (h.2 i _ _ (List.getElem?_eq_getElem (by rw [h.1];exact hi)) (List.getElem?_eq_getElem hi)).1
  ·have hv:=h.1
   rw [List.getElem?_eq_none (show vss.length≤i by omega),List.getElem?_eq_none (show l.length≤i by omega)];rfl
 rw [e]
 clear e h
 induction l with
 | nil=>rfl
 | cons x l ih=>rw [List.map_cons,List.flatten_cons,ih];rfl
theorem Rm {r:Row}{n:Nat}{l:List Int}(hl:l.length≤17592186044416):Br Tryz.prog 162 [.slice (ad r.bo) n r.cap] [(r.bo,3,r.cs)] [Aw Ak r n l] (fun v Φ β=>∃ r':Row,v = .slice (ad r'.bo) n r'.cap∧Φ=[Aw Ak r' n l,Aw Ak r n l]∧β=[(r'.bo,3,r'.cs),(r.bo,3,r.cs)]):=by
 refine Ad (F:=G4) rfl fun C=>?_
 refine AGX 0 rfl fun hn=>?_
 subst hn
 obtain ⟨bo,cap,cs⟩:=r
 cases bo with
 | none =>
  by_cases h0:0<l.length
  ·exact Eu 0 rfl h0 fun b' cap' cs' hr=>by cases hr
  obtain rfl:l=[]:=List.length_eq_zero_iff.1 (by omega)
  refine wk 4 cz ?_
  refine Ab rfl (Za Bj rfl rfl ?_)
  refine wk 5 cz ?_
  refine Jj Ak 3 ?_
  refine B0 2 [0,1] [0,1] rfl (.tmp rfl .nil) rfl rfl rfl ⟨⟨none,0,[]⟩,rfl,rfl,rfl⟩
 | some b =>
  refine Zp (q:=cs.take (l.length*1)=Az .i64 l∧l.length≤17592186044416) (fun w A hG=>by
   obtain ⟨h1,h2,vss,h3,h4⟩:=hG _ (Al (n:=0) rfl)
   exact ⟨h4.trans (AFB h3),hl⟩) fun ⟨hcs,hl2⟩=>?_
  refine Be [_,_] rfl ?_
  refine Au it 1 rfl (by simp) ?_
  refine Be [_,_,_] rfl ?_
  refine Au it 1 rfl (by simp) ?_
  refine Ab rfl (Vu Bj rfl rfl ?_)
  refine Be [_,_] rfl ?_
  refine T5 rfl rfl ?_
  refine Be [_,_] rfl ?_
  refine Ab rfl (ADt Bj fun b1=>?_)
  refine Au it 1 rfl (by simp) ?_
  (apply He (E:=Ca IntKind.i64 8) (n:=0) (cs:=[]) [] [] 0 (fun w A hG=>D5);(· rfl);(· rfl);(· rfl);(· rfl);(· decide)) --ok
  refine Ab rfl (AIM 0 1 rfl rfl rfl rfl Bj Hb rfl (by first|exact Mb.nil _|assumption|exact .inr ⟨_,rfl,Nat.le_refl _,by omega,rfl⟩) hcs (by simp [Az]) (fun u hu=>by
   rw [Az] at hu
   obtain ⟨x,_,rfl⟩:=List.mem_map.1 hu
   rfl) (by omega) _ Iy (by omega) fun bo' cap' cs' hg' hc'=>?_)
  refine Jh (Aw Ak ⟨bo',cap',cs'⟩ (0+l.length) l) (fun w A hG=>by
   obtain ⟨h1,h2,vss,h3,h4⟩:=hG _ (Al (n:=1) rfl)
   exact ⟨Nat.zero_add _,hg',vss,h3,by rw [Nat.zero_add];rw [Nat.zero_add] at hc';exact (hc'.trans hcs.symm).trans h4⟩) ?_
  refine wk 2 cz ?_
  simp only [Nat.zero_add]
  refine B0 2 [0,1] [0,2] rfl (.tmp rfl .nil) rfl rfl rfl ⟨⟨bo',cap',cs'⟩,rfl,rfl,rfl⟩
section
variable {p m N b bp nm cm ns cs ny cy nt ct:Nat}{pm ps py pt:Option Addr}{co:Bool}{Mo w:Int}{md:List Int}{Aa sets:List (List Int)}
def ChQ (B:Nat→Bb) (L:Nat):Option (List (List Int))→Value→List Fact→List Bb→Prop
 | some T=>fun v Φ β=>v = .int .i64 0∧Φ=[]∧β=[B (L-T.length)]
 | none=>fun v Φ β=>∃ ap:Nat,v = .int .i64 13∧Φ=[]∧β=[B ap]
theorem Kq {n1 c1 n2 c2 n3 c3 ap:Nat}{p1 p2 p3:Option Addr}{s:List Int}{f:Value}(hs:(s.length:Int)=w) :
  Br Tryz.prog 151 [.pointer (some ⟨bp,0,none⟩),.slice p1 n1 c1,.slice p2 n2 c2,.slice p3 n3 c3,f] [Wb bp b p m N nm cm ns cs ny cy nt ct pm ps py pt co Mo w ap] [A2 Ak p1 n1 c1 s]
   (fun v Φ β=>v = .int .i64 0∧Φ=[]∧β=[Wb bp b p m N nm cm ns cs ny cy nt ct pm ps py pt co Mo w ap]):=by
 refine Ad (F:=Gm) rfl fun C=>?_
 refine Bd 0 rfl fun hn hb _=>?_
 subst hn
 refine wk 14 cz ?_
 intro h1
 refine B0 1 [0] [] rfl (.tmp rfl .nil) rfl rfl rfl ⟨rfl,rfl,rfl⟩
theorem AD5 {z:List Int}{x:Int}{l:List Int}(h:x∈z):Mr z (x::l)=Mr z l:=by
 rw [Mr,List.filter_cons,decide_eq_true h];rfl
theorem AB9 {z:List Int}{x:Int}{l:List Int}(h:x∉z):Mr z (x::l)=x::Mr z l:=by
 rw [Mr,List.filter_cons,decide_eq_false h];rfl
theorem ACw {f:List Int→List Int→List (List Int)→Option (List (List Int))}(hf:∀ {s z T T'},f s z T=some T'→T' <:+ T) {s z:List Int}:∀ {ks pre:List Int}{T T':List (List Int)},V6 f s z pre ks T=some T'→T' <:+ T
 | [],pre,T,T',h=>by rw [V6] at h;rw [Option.some.inj h];exact List.suffix_refl _
 | i::r,pre,T,T',h=>by
  rw [V6] at h
  cases hE:f (s++[i]) (z++pre) T with
  | none=>rw [hE] at h;cases h
  | some T2=>rw [hE] at h;exact (ACw hf h).trans (hf hE)
theorem AB0 {rt:List Int→List Int→Bool}:∀ {d:Nat}{s z:List Int}{T T':List (List Int)},Sp rt d s z T=some T'→T' <:+ T
 | 0,s,z,[],T',h=>by rw [Sp] at h;cases h
 | d+1,s,z,[],T',h=>by rw [Sp] at h;cases h
 | 0,s,z,x::T,T',h=>by
  rw [Sp] at h
  split at h
  ·rw [← Option.some.inj h];exact List.suffix_cons _ _
  ·cases h
 | d+1,s,z,x::T,T',h=>by
  rw [Sp] at h
  split at h
  ·exact (ACw (fun h=>AB0 h) h).trans (List.suffix_cons _ _)
  ·cases h
theorem AGN {z set:List Int}{i:Nat}{x:Int}(hst:set.Pairwise (·<·)) (hx:set[i]?=some x):x∈z++Mr z (set.take i)↔x∈z:=by
 refine ⟨fun h=>?_,fun h=>List.mem_append.2 (Or.inl h)⟩
 rcases List.mem_append.1 h with h|h
 ·exact h
 ·have h1:=(List.mem_filter.1 h).1
  obtain ⟨k,hk⟩:=List.getElem?_of_mem h1
  obtain ⟨k1,k2⟩:=List.getElem?_eq_some_iff.1 hk
  rw [List.length_take] at k1
  rw [List.getElem_take] at k2
  obtain ⟨i1,i2⟩:=List.getElem?_eq_some_iff.1 hx
  have:=List.pairwise_iff_getElem.1 hst k i (by omega) i1 (by omega)
  omega
theorem Lg {ng cg ce cl n1 c1 n2 c2 n3 c3 d:Nat}{pg pe pl p1 p2 p3:Option Addr}{s z set:List Int}{T:List (List Int)}{rt:List Int→List Int→Bool}(hs:(s.length:Int)<w) (hst:stP N set) (hsl:s.length≤1000) (hzl:z.length≤100000) (hl:set.length≤1000) (hT:T <:+ sets)
  (hf:∀ {n1 c1 n2 c2:Nat}{p1 p2:Option Addr}{x:Int}{z':List Int}{T:List (List Int)},z'.length≤z.length+1000→T <:+ sets→Br Tryz.prog 129 [.pointer (some ⟨bp,0,none⟩),.slice p1 n1 c1,.slice p2 n2 c2] [Wb bp b p m N nm cm ns cs ny cy nt ct pm ps py pt co Mo w ((sets.length-T.length:Nat):Int)] [A2 (Ar Ak) ps ns cs Aa,T0 b p m (p ^ m) pg ng cg pe (p ^ m-1) ce pl (p ^ m) cl,A2 Ak pe (p ^ m-1) ce (T8 p m md),A2 Ak pl (p ^ m) cl (Tt p m md),A2 (Ar Ak) pt nt ct sets,A2 Ak p1 n1 c1 (s++[x]),A2 Ak p2 n2 c2 z']
   (ChQ (fun ap=>Wb bp b p m N nm cm ns cs ny cy nt ct pm ps py pt co Mo w (ap:Nat)) sets.length (Sp rt d (s++[x]) z' T))) :
  Br Tryz.prog 151 [.pointer (some ⟨bp,0,none⟩),.slice p1 n1 c1,.slice p2 n2 c2,.slice p3 n3 c3,.func (.func 129) #[.pointer (some ⟨bp,0,none⟩)] #[]] [Wb bp b p m N nm cm ns cs ny cy nt ct pm ps py pt co Mo w ((sets.length-T.length:Nat):Int)] [A2 (Ar Ak) ps ns cs Aa,T0 b p m (p ^ m) pg ng cg pe (p ^ m-1) ce pl (p ^ m) cl,A2 Ak pe (p ^ m-1) ce (T8 p m md),A2 Ak pl (p ^ m) cl (Tt p m md),A2 (Ar Ak) pt nt ct sets,A2 Ak p1 n1 c1 s,A2 Ak p2 n2 c2 z,A2 Ak p3 n3 c3 set]
   (ChQ (fun ap=>Wb bp b p m N nm cm ns cs ny cy nt ct pm ps py pt co Mo w (ap:Nat)) sets.length (V6 (Sp rt d) s z [] (Mr z set) T)):=by
 refine Ad (F:=Gm) rfl fun C=>?_
 refine Bd 5 rfl fun hn hb _=>?_
 subst hn
 refine Bd 6 rfl fun hn hb2 _=>?_
 subst hn
 refine Bd 7 rfl fun hn hb3 _=>?_
 subst hn
 obtain ⟨G,hG⟩:∃ G,V6 (Sp rt d) s z [] (Mr z set) T=G:=⟨_,rfl⟩
 rw [hG]
 refine wk 13 cz ?_
 intro h1
 refine Ab rfl (Ai [6] rfl (Dm) rfl ?_)
 rintro _ _ _ ⟨r1,rfl,rfl,rfl⟩
 simp only [List.cons_append,List.nil_append]
 refine wk 6 cz ?_
 refine Ag (X:=Nat×Row×List Int×List (List Int)) [1,4,23,24] [0,1,2,3,4,5,6,7,8] (fun x=>[(25,.int .i64 (x.1:Int)),(2,.slice (ad x.2.1.bo) x.2.2.1.length x.2.1.cap)])
  (fun x=>[(x.2.1.bo,3,x.2.1.cs),Wb bp b p m N nm cm ns cs ny cy nt ct pm ps py pt co Mo w ((sets.length-x.2.2.2.length:Nat):Int)]) (fun x=>[Aw Ak x.2.1 x.2.2.1.length x.2.2.1])
  (fun x=>x.1≤set.length∧x.2.2.1=z++Mr z (set.take x.1)∧V6 (Sp rt d) s z (Mr z (set.take x.1)) (Mr z (set.drop x.1)) x.2.2.2=G∧x.2.2.2 <:+ sets) (fun x=>set.length-x.1) (0,r1,z,T) [0] rfl rfl rfl ⟨Nat.zero_le _,(List.append_nil z).symm,hG,hT⟩ (by repeat (first|exact Fr.sub_nil _|refine Fr.sub_cons rfl ?_)) rfl rfl ?_
 rintro ⟨i,r,y,T⟩ ⟨hi,hy,hg,hT⟩ ih
 simp only [List.cons_append,List.nil_append] at hi hy hg hT ih ⊢
 by_cases hil:i<set.length
 ·obtain ⟨x,at_x⟩:∃ x,set[i]?=some x:=⟨_,List.getElem?_eq_getElem hil⟩
  have e3:set.drop i=x::set.drop (i+1):=by
   rw [List.drop_eq_getElem_cons hil];rw [List.getElem?_eq_getElem hil] at at_x;rw [Option.some.inj at_x]
  have e4:set.take (i+1)=set.take i++[x]:=by rw [List.take_add_one,at_x];rfl
  have hkd:=AGN (z:=z) hst.2 at_x
  rw [← hy] at hkd
  have hyl:y.length≤z.length+1000:=by
   have h1:=List.length_filter_le (fun i=>!decide (i∈z)) (set.take i)
   rw [hy,List.length_append]
   rw [List.length_take] at h1
   have:(Mr z (set.take i)).length≤min i set.length:=h1
   omega
  rw [e3] at hg
  by_cases hx:x∈z
  ·have Ax:=fun {r:Row}=>(By (pl:=ad r.bo) (nl:=y.length) (cl:=r.cap) (l:=y) (x:=x) (decide_eq_true (hkd.2 hx))).lend (e:=3) (by show y.length*8≤140737488355328;omega)
   rw [AD5 hx] at hg
   have ih':=ih (i+1,r,y,T) (by dsimp only;omega) (by dsimp only;refine ⟨by omega,?_,?_,hT⟩ <;> rw [e4,Mr,List.filter_append,show ([x].filter fun i=>!decide (i∈z))=[] from AD5 hx,List.append_nil] <;> assumption)
   refine wk 6 cz ?_
   intro h2 b1 o1 hz1
   refine Ab rfl (Aj 0 rfl rfl Bm fun ⟨r2,r3⟩=>?_)
   refine wk 3 cz ?_
   refine Ab rfl (Bt 0 [1] rfl rfl (Ax) rfl ?_)
   rintro _ _ _ ⟨rfl,rfl,rfl⟩
   simp only [List.cons_append,List.nil_append]
   refine wk 5 cz ?_
   exact tw (ih')
  ·have Ax:=fun {r:Row}=>(By (pl:=ad r.bo) (nl:=y.length) (cl:=r.cap) (l:=y) (x:=x) (decide_eq_false (mt hkd.1 hx))).lend (e:=3) (by show y.length*8≤140737488355328;omega)
   rw [AB9 hx,V6,← hy] at hg
   cases hE:Sp rt d (s++[x]) y T with
   | none =>
    rw [hE] at hg
    subst hg
    have Ay:=fun {n1 c1 n2 c2:Nat}{p1 p2:Option Addr}=>hf (n1:=n1) (c1:=c1) (n2:=n2) (c2:=c2) (p1:=p1) (p2:=p2) (x:=x) (z':=y) (T:=T) hyl hT
    simp only [hE] at Ay
    simp only [ChQ] at Ay
    refine wk 6 cz ?_
    intro h2 b1 o1 hz1
    refine Ab rfl (Aj 0 rfl rfl Bm fun ⟨r2,r3⟩=>?_)
    refine wk 3 cz ?_
    refine Ab rfl (Bt 0 [1] rfl rfl (Ax) rfl ?_)
    rintro _ _ _ ⟨rfl,rfl,rfl⟩
    simp only [List.cons_append,List.nil_append]
    refine wk 4 cz ?_
    refine Ab rfl (Ai [9] rfl (Dm) rfl ?_)
    rintro _ _ _ ⟨r4,rfl,rfl,rfl⟩
    simp only [List.cons_append,List.nil_append]
    refine wk 2 cz ?_
    intro b2
    refine Ab rfl (Ik (z:=(x:Int)) 1 0 0 rfl rfl rfl rfl rfl Bj Hb rfl (fun w A hG=>(Bh (by first|(simp only [Bf];omega)|(simp [Bf];done)))) (by omega) _ Iy (by omega) fun r5=>?_)
    refine wk 1 cz ?_
    have Et:=fun {r:Row}{n:Nat}=>Rm (r:=r) (n:=n) (l:=y) (by omega)
    refine Ab rfl (Bt 2 [2] rfl rfl (Et) rfl ?_)
    rintro _ _ _ ⟨r'1,rfl,rfl,rfl⟩
    simp only [List.cons_append,List.nil_append] --ok
    refine Ev 0 0 rfl rfl (by show y.length*8≤140737488355328;omega) ?_
    refine Ev 1 3 rfl rfl (by show (s.length+1)*8≤140737488355328;omega) ?_
    refine Ab rfl <| AIO rfl rfl (Bt 2 [10,11,12,13,14,0,1] rfl rfl (Ay) rfl ?_)
    rintro _ _ _ ⟨ap1,rfl,rfl,rfl⟩
    simp only [List.cons_append,List.nil_append]
    refine wk 8 cz ?_
    intro h3
    refine B0 3 [0] [] rfl (.tmp rfl .nil) rfl rfl rfl ⟨ap1,rfl,rfl,rfl⟩
   | some T2 =>
    rw [hE] at hg
    have Ay:=fun {n1 c1 n2 c2:Nat}{p1 p2:Option Addr}=>hf (n1:=n1) (c1:=c1) (n2:=n2) (c2:=c2) (p1:=p1) (p2:=p2) (x:=x) (z':=y) (T:=T) hyl hT
    simp only [hE] at Ay
    simp only [ChQ] at Ay
    have ih':=fun r=>ih (i+1,r,y++[x],T2) (by dsimp only;omega) (by dsimp only;refine ⟨by omega,?_,?_,(AB0 hE).trans hT⟩ <;> rw [e4,Mr,List.filter_append,show ([x].filter fun i=>!decide (i∈z))=[x] from AB9 hx] <;> first|assumption|rw [hy,List.append_assoc])
    refine wk 6 cz ?_
    intro h2 b1 o1 hz1
    refine Ab rfl (Aj 0 rfl rfl Bm fun ⟨r2,r3⟩=>?_)
    refine wk 3 cz ?_
    refine Ab rfl (Bt 0 [1] rfl rfl (Ax) rfl ?_)
    rintro _ _ _ ⟨rfl,rfl,rfl⟩
    simp only [List.cons_append,List.nil_append]
    refine wk 4 cz ?_
    refine Ab rfl (Ai [9] rfl (Dm) rfl ?_)
    rintro _ _ _ ⟨r4,rfl,rfl,rfl⟩
    simp only [List.cons_append,List.nil_append]
    refine wk 2 cz ?_
    intro b2
    refine Ab rfl (Ik (z:=(x:Int)) 1 0 0 rfl rfl rfl rfl rfl Bj Hb rfl (fun w A hG=>(Bh (by first|(simp only [Bf];omega)|(simp [Bf];done)))) (by omega) _ Iy (by omega) fun r5=>?_)
    refine wk 1 cz ?_
    have Et:=fun {r:Row}{n:Nat}=>Rm (r:=r) (n:=n) (l:=y) (by omega)
    refine Ab rfl (Bt 2 [2] rfl rfl (Et) rfl ?_)
    rintro _ _ _ ⟨r'1,rfl,rfl,rfl⟩
    simp only [List.cons_append,List.nil_append] --ok
    refine Ev 0 0 rfl rfl (by show y.length*8≤140737488355328;omega) ?_
    refine Ev 1 3 rfl rfl (by show (s.length+1)*8≤140737488355328;omega) ?_
    dsimp only at ih'
    simp only [List.length_append,List.length_singleton] at ih'
    refine Ab rfl <| AIO rfl rfl (Bt 2 [10,11,12,13,14,0,1] rfl rfl (Ay) rfl ?_)
    rintro _ _ _ ⟨rfl,rfl,rfl⟩
    simp only [List.cons_append,List.nil_append]
    refine wk 8 cz ?_
    intro h3 b3
    refine Ab rfl (Ik (z:=(x:Int)) 2 0 3 rfl rfl rfl rfl rfl Bj Hb rfl (fun w A hG=>(Bh (by first|(simp only [Bf];omega)|(simp [Bf];done)))) (by omega) _ Iy (by omega) fun r6=>?_)
    refine wk 4 cz ?_
    refine Qu 4 [0,2] rfl rfl ?_
    exact tw (ih' r6)
 ·obtain rfl:i=set.length:=by omega
  rw [List.drop_length] at hg
  obtain rfl:some T=G:=hg
  refine wk 7 cz ?_
  intro h2
  refine B0 2 [1] [] rfl (.tmp rfl .nil) rfl rfl rfl ⟨rfl,rfl,rfl⟩
end
open Go Go.Fw
set_option maxRecDepth 100000
set_option linter.unusedVariables false
set_option linter.unusedSimpArgs false
set_option maxHeartbeats 0
section
variable {p m N b bp nm cm ns cs ny cy nt ct:Nat}{pm ps py pt:Option Addr}{Mo w ap:Int}{md:List Int}{Aa:List (List Int)}
theorem N2 {ng cg ce cl n1 c1 n2 c2:Nat}{pg pe pl p1 p2:Option Addr}{s set:List Int}(K:Fok p m md) (hM:Fc (p ^ m) N Aa) (hr1:1≤Aa.length) (hr:Aa.length≤1000000) (hN:N≤1000) :
  Br Tryz.prog 150 [.pointer (some ⟨bp,0,none⟩),.slice p1 n1 c1,.slice p2 n2 c2] [Wb bp b p m N nm cm ns cs ny cy nt ct pm ps py pt false Mo w ap] [A2 (Ar Ak) ps ns cs Aa,T0 b p m (p ^ m) pg ng cg pe (p ^ m-1) ce pl (p ^ m) cl,A2 Ak pe (p ^ m-1) ce (T8 p m md),A2 Ak pl (p ^ m) cl (Tt p m md),A2 Ak p1 n1 c1 s,A2 Ak p2 n2 c2 set]
   (fun v Φ β=>v = .bool (Tz p m md N Aa Mo s set)∧Φ=[]∧β=[Wb bp b p m N nm cm ns cs ny cy nt ct pm ps py pt false Mo w ap]):=by
 refine Ad (F:=N3) rfl fun C=>?_
 refine Bd 5 rfl fun hn hb _=>?_
 subst hn
 have hb':set.length*8≤140737488355328:=hb
 have O:=Xe K
 have hq:=K.q
 refine wk 7 cz ?_
 refine Ag (X:=Nat) [0,1,2,9,10] [0,1,2,3,4,5] (fun i=>[(11,.int .i64 (i:Int))]) (fun _=>[Wb bp b p m N nm cm ns cs ny cy nt ct pm ps py pt false Mo w ap]) (fun _=>[]) (fun i=>i≤set.length∧(∀ j,j<i→stA N set j)∧∀ x∈set.take i,x∉s) (fun i=>set.length-i) 0 [] rfl rfl rfl ⟨Nat.zero_le _,(fun j h=>absurd h (Nat.not_lt_zero j)),fun x h=>absurd h List.not_mem_nil⟩ (by repeat (first|exact Fr.sub_nil _|refine Fr.sub_cons rfl ?_)) rfl rfl ?_
 rintro i ⟨hi,hno,hns⟩ ih
 simp only [List.cons_append,List.nil_append] at hi ih ⊢
 by_cases h9:i<set.length
 ·obtain ⟨x,at_x⟩:∃ x,set[i]?=some x:=⟨_,List.getElem?_eq_getElem h9⟩
  have bad:¬ stA N set i→Tz p m md N Aa Mo s set=false:=fun h=>by
   rw [Tz,decide_eq_false (AF8 h9 h)];rfl
  have good:stA N set i→x∉s→(∀ j,j<i+1→stA N set j)∧∀ z∈set.take (i+1),z∉s:=fun h hx=>⟨fun j hj=>by
   rcases Nat.lt_succ_iff_lt_or_eq.1 hj with h1|rfl
   ·exact hno j h1
   ·exact h,fun z hz=>by
    rw [List.take_add_one,at_x] at hz
    rcases List.mem_append.1 hz with hz|hz
    ·exact hns z hz
    ·rw [List.mem_singleton.1 hz];exact hx⟩
  by_cases a0:x<0
  ·rw [bad fun h=>by have:=(h x at_x).1;omega]
   refine Be [_,_,_,_,_] rfl ?_
   refine Au it 1 rfl (by simp) ?_
   refine Be [_,_,_,_,_] rfl ?_
   refine M1 rfl rfl (fun h1=>?_) (fun h1=>by exfalso;omega)
   refine Be [_,_,_,_,_,_,_] rfl ?_
   refine Au it 1 rfl (by simp) ?_
   refine Ab rfl (E0 5 (i) rfl rfl rfl Bj rfl (by omega) fun z1 hz1 b1 o1=>?_)
   obtain rfl:_=z1:=Option.some.inj (at_x.symm.trans hz1)
   refine Ab rfl (Aj 0 rfl rfl Bm fun ⟨r1,r2⟩=>?_)
   refine Au it 2 rfl (by simp) ?_
   refine Be [_,_,_,_,_,_,_] rfl ?_
   refine Au it 3 rfl (by simp) ?_
   refine Bp (t:=18) rfl (fun h2=>?_) (fun h2=>by exfalso;omega)
   refine Au it 12 rfl (by simp) ?_
   refine Em rfl rfl ?_
   refine Em rfl rfl ?_
   refine Em rfl rfl ?_
   refine Em rfl rfl ?_
   refine Em rfl rfl ?_
   refine Em rfl rfl ?_
   refine Em rfl rfl ?_
   refine Au it 7 rfl (by simp) ?_
   refine Be [_,_,_,_,_,_] rfl ?_
   refine Sf rfl rfl ?_
   refine Be [_,_,_,_,_,_,_] rfl ?_
   refine Au it 1 rfl (by simp) ?_
   refine Be [_,_,_,_,_,_] rfl ?_
   refine B0 1 [0] [] rfl (.tmp rfl .nil) rfl rfl rfl ⟨rfl,rfl,rfl⟩
  ·by_cases a1:(N:Int)≤x
   ·rw [bad fun h=>by have:=(h x at_x).1;omega]
    refine Be [_,_,_,_,_] rfl ?_
    refine Au it 1 rfl (by simp) ?_
    refine Be [_,_,_,_,_] rfl ?_
    refine M1 rfl rfl (fun h1=>?_) (fun h1=>by exfalso;omega)
    refine Be [_,_,_,_,_,_,_] rfl ?_
    refine Au it 1 rfl (by simp) ?_
    refine Ab rfl (E0 5 (i) rfl rfl rfl Bj rfl (by omega) fun z1 hz1 b1 o1=>?_)
    obtain rfl:_=z1:=Option.some.inj (at_x.symm.trans hz1)
    refine Ab rfl (Aj 0 rfl rfl Bm fun ⟨r1,r2⟩=>?_)
    refine Au it 2 rfl (by simp) ?_
    refine Be [_,_,_,_,_,_,_] rfl ?_
    refine Au it 3 rfl (by simp) ?_
    refine Bp (t:=18) rfl (fun h2=>by exfalso;omega) (fun h2=>?_)
    refine Au it 3 rfl (by simp) ?_
    refine Bg rfl rfl (A3 rfl Ys ?_)
    refine Bg rfl rfl (A3 rfl S9 ?_)
    refine Bg rfl rfl (Dt 0 rfl rfl Bm rfl ?_)
    refine Au it 3 rfl (by simp) ?_
    refine Bp (t:=27) rfl (fun h3=>?_) (fun h3=>by exfalso;omega)
    refine Au it 3 rfl (by simp) ?_
    refine Em rfl rfl ?_
    refine Em rfl rfl ?_
    refine Em rfl rfl ?_
    refine Em rfl rfl ?_
    refine Em rfl rfl ?_
    refine Em rfl rfl ?_
    refine Em rfl rfl ?_
    refine Au it 7 rfl (by simp) ?_
    refine Be [_,_,_,_,_,_] rfl ?_
    refine Sf rfl rfl ?_
    refine Be [_,_,_,_,_,_,_] rfl ?_
    refine Au it 1 rfl (by simp) ?_
    refine Be [_,_,_,_,_,_] rfl ?_
    refine B0 1 [0] [] rfl (.tmp rfl .nil) rfl rfl rfl ⟨rfl,rfl,rfl⟩
   ·have hin:∀ h:x∈s,Tz p m md N Aa Mo s set=false:=fun h=>by
     rw [Tz,List.any_eq_true.2 ⟨x,List.mem_of_getElem? at_x,decide_eq_true h⟩];simp
    rcases Nat.eq_zero_or_pos i with hi0|hi0
    ·subst hi0
     by_cases a3:x∈s
     ·rw [hin a3]
      have Ax:=fun {pl:Option Addr}{nl cl:Nat}=>By (pl:=pl) (nl:=nl) (cl:=cl) (l:=s) (x:=x) (decide_eq_true a3)
      refine wk 6 cz ?_
      intro h1
      refine Ab rfl (E0 5 (0) rfl rfl rfl Bj rfl (by omega) fun z1 hz1 b1 o1=>?_)
      obtain rfl:_=z1:=Option.some.inj (at_x.symm.trans hz1)
      refine wk 15 cz ?_
      intro _ r1 r2 h2
      refine Bp (t:=27) rfl (fun h3=>by exfalso;omega) (fun h3=>?_)
      refine wk 1 cz ?_
      refine Bg rfl rfl (Ai [5] rfl (Ax) rfl ?_)
      rintro _ _ _ ⟨rfl,rfl,rfl⟩
      simp only [List.cons_append,List.nil_append]
      refine wk 6 cz ?_
      refine B0 1 [0] [] rfl (.tmp rfl .nil) rfl rfl rfl ⟨rfl,rfl,rfl⟩
     ·have Ax:=fun {pl:Option Addr}{nl cl:Nat}=>By (pl:=pl) (nl:=nl) (cl:=cl) (l:=s) (x:=x) (decide_eq_false a3)
      refine wk 6 cz ?_
      intro h1
      refine Ab rfl (E0 5 (0) rfl rfl rfl Bj rfl (by omega) fun z1 hz1 b1 o1=>?_)
      obtain rfl:_=z1:=Option.some.inj (at_x.symm.trans hz1)
      refine wk 15 cz ?_
      intro _ r1 r2 h2
      refine Bp (t:=27) rfl (fun h3=>by exfalso;omega) (fun h3=>?_)
      refine wk 1 cz ?_
      refine Bg rfl rfl (Ai [5] rfl (Ax) rfl ?_)
      rintro _ _ _ ⟨rfl,rfl,rfl⟩
      simp only [List.cons_append,List.nil_append]
      refine wk 6 cz ?_
      exact tw (ih 1 (by omega) ⟨by omega,good (fun z hz=>by
       rw [at_x] at hz;obtain rfl:=Option.some.inj hz
       exact ⟨by omega,fun y h=>by omega⟩) a3⟩)
    ·obtain ⟨k,rfl⟩:∃ k,i=k+1:=⟨i-1,by omega⟩
     obtain ⟨y,at_y⟩:∃ y,set[k]?=some y:=⟨_,List.getElem?_eq_getElem (by omega)⟩
     by_cases a2:x≤y
     ·rw [bad fun h=>by have:=(h x at_x).2 y (by omega) at_y;omega]
      refine Be [_,_,_,_,_] rfl ?_
      refine Au it 1 rfl (by simp) ?_
      refine Be [_,_,_,_,_] rfl ?_
      refine M1 rfl rfl (fun h1=>?_) (fun h1=>by exfalso;omega)
      refine Be [_,_,_,_,_,_,_] rfl ?_
      refine Au it 1 rfl (by simp) ?_
      refine Ab rfl (E0 5 (k+1) rfl rfl rfl Bj rfl (by omega) fun z1 hz1 b1 o1=>?_)
      obtain rfl:_=z1:=Option.some.inj (at_x.symm.trans hz1)
      refine Ab rfl (Aj 0 rfl rfl Bm fun ⟨r1,r2⟩=>?_)
      refine Au it 2 rfl (by simp) ?_
      refine Be [_,_,_,_,_,_,_] rfl ?_
      refine Au it 3 rfl (by simp) ?_
      refine Bp (t:=18) rfl (fun h2=>by exfalso;omega) (fun h2=>?_)
      refine Au it 3 rfl (by simp) ?_
      refine Bg rfl rfl (A3 rfl Ys ?_)
      refine Bg rfl rfl (A3 rfl S9 ?_)
      refine Bg rfl rfl (Dt 0 rfl rfl Bm rfl ?_)
      refine Au it 3 rfl (by simp) ?_
      refine Bp (t:=27) rfl (fun h3=>by exfalso;omega) (fun h3=>?_)
      refine Au it 3 rfl (by simp) ?_
      refine Bp (t:=30) rfl (fun h4=>?_) (fun h4=>by exfalso;omega)
      refine Au it 4 rfl ⟨⟨by omega,by omega⟩,trivial,trivial,trivial,trivial⟩ ?_
      refine Bg rfl rfl (E0 6 ((k+1)-1) rfl rfl rfl Bj (by omega) (by omega) fun z1 hz2 b2 o2=>?_)
      obtain rfl:_=z1:=Option.some.inj (at_y.symm.trans hz2)
      refine Bg rfl rfl (Aj 0 rfl rfl Bm fun ⟨r3,r4⟩=>?_)
      refine Au it 4 rfl (by simp) ?_
      refine Bp (t:=40) rfl (fun h5=>?_) (fun h5=>by exfalso;omega)
      refine Au it 4 rfl (by simp) ?_
      refine Be [_,_,_,_,_,_] rfl ?_
      refine Sf rfl rfl ?_
      refine Be [_,_,_,_,_,_,_] rfl ?_
      refine Au it 1 rfl (by simp) ?_
      refine Be [_,_,_,_,_,_] rfl ?_
      refine B0 1 [0] [] rfl (.tmp rfl .nil) rfl rfl rfl ⟨rfl,rfl,rfl⟩
     ·by_cases a3:x∈s
      ·rw [hin a3]
       have Ax:=fun {pl:Option Addr}{nl cl:Nat}=>By (pl:=pl) (nl:=nl) (cl:=cl) (l:=s) (x:=x) (decide_eq_true a3)
       refine Be [_,_,_,_,_] rfl ?_
       refine Au it 1 rfl (by simp) ?_
       refine Be [_,_,_,_,_] rfl ?_
       refine M1 rfl rfl (fun h1=>?_) (fun h1=>by exfalso;omega)
       refine Be [_,_,_,_,_,_,_] rfl ?_
       refine Au it 1 rfl (by simp) ?_
       refine Ab rfl (E0 5 (k+1) rfl rfl rfl Bj rfl (by omega) fun z1 hz1 b1 o1=>?_)
       obtain rfl:_=z1:=Option.some.inj (at_x.symm.trans hz1)
       refine Ab rfl (Aj 0 rfl rfl Bm fun ⟨r1,r2⟩=>?_)
       refine Au it 2 rfl (by simp) ?_
       refine Be [_,_,_,_,_,_,_] rfl ?_
       refine Au it 3 rfl (by simp) ?_
       refine Bp (t:=18) rfl (fun h2=>by exfalso;omega) (fun h2=>?_)
       refine Au it 3 rfl (by simp) ?_
       refine Bg rfl rfl (A3 rfl Ys ?_)
       refine Bg rfl rfl (A3 rfl S9 ?_)
       refine Bg rfl rfl (Dt 0 rfl rfl Bm rfl ?_)
       refine Au it 3 rfl (by simp) ?_
       refine Bp (t:=27) rfl (fun h3=>by exfalso;omega) (fun h3=>?_)
       refine Au it 3 rfl (by simp) ?_
       refine Bp (t:=30) rfl (fun h4=>?_) (fun h4=>by exfalso;omega)
       refine Au it 4 rfl ⟨⟨by omega,by omega⟩,trivial,trivial,trivial,trivial⟩ ?_
       refine Bg rfl rfl (E0 6 ((k+1)-1) rfl rfl rfl Bj (by omega) (by omega) fun z1 hz2 b2 o2=>?_)
       obtain rfl:_=z1:=Option.some.inj (at_y.symm.trans hz2)
       refine Bg rfl rfl (Aj 0 rfl rfl Bm fun ⟨r3,r4⟩=>?_)
       refine Au it 4 rfl (by simp) ?_
       refine Bp (t:=40) rfl (fun h5=>by exfalso;omega) (fun h5=>?_)
       refine Au it 2 rfl (by simp) ?_
       refine Bg rfl rfl (Ai [6] rfl (Ax) rfl ?_)
       rintro _ _ _ ⟨rfl,rfl,rfl⟩
       simp only [List.cons_append,List.nil_append]
       refine Au it 1 rfl (by simp) ?_
       refine Be [_,_,_,_,_,_] rfl ?_
       refine Sf rfl rfl ?_
       refine Be [_,_,_,_,_,_,_] rfl ?_
       refine Au it 1 rfl (by simp) ?_
       refine Be [_,_,_,_,_,_] rfl ?_
       refine B0 1 [0] [] rfl (.tmp rfl .nil) rfl rfl rfl ⟨rfl,rfl,rfl⟩
      ·have Ax:=fun {pl:Option Addr}{nl cl:Nat}=>By (pl:=pl) (nl:=nl) (cl:=cl) (l:=s) (x:=x) (decide_eq_false a3)
       refine Be [_,_,_,_,_] rfl ?_
       refine Au it 1 rfl (by simp) ?_
       refine Be [_,_,_,_,_] rfl ?_
       refine M1 rfl rfl (fun h1=>?_) (fun h1=>by exfalso;omega)
       refine Be [_,_,_,_,_,_,_] rfl ?_
       refine Au it 1 rfl (by simp) ?_
       refine Ab rfl (E0 5 (k+1) rfl rfl rfl Bj rfl (by omega) fun z1 hz1 b1 o1=>?_)
       obtain rfl:_=z1:=Option.some.inj (at_x.symm.trans hz1)
       refine Ab rfl (Aj 0 rfl rfl Bm fun ⟨r1,r2⟩=>?_)
       refine Au it 2 rfl (by simp) ?_
       refine Be [_,_,_,_,_,_,_] rfl ?_
       refine Au it 3 rfl (by simp) ?_
       refine Bp (t:=18) rfl (fun h2=>by exfalso;omega) (fun h2=>?_)
       refine Au it 3 rfl (by simp) ?_
       refine Bg rfl rfl (A3 rfl Ys ?_)
       refine Bg rfl rfl (A3 rfl S9 ?_)
       refine Bg rfl rfl (Dt 0 rfl rfl Bm rfl ?_)
       refine Au it 3 rfl (by simp) ?_
       refine Bp (t:=27) rfl (fun h3=>by exfalso;omega) (fun h3=>?_)
       refine Au it 3 rfl (by simp) ?_
       refine Bp (t:=30) rfl (fun h4=>?_) (fun h4=>by exfalso;omega)
       refine Au it 4 rfl ⟨⟨by omega,by omega⟩,trivial,trivial,trivial,trivial⟩ ?_
       refine Bg rfl rfl (E0 6 ((k+1)-1) rfl rfl rfl Bj (by omega) (by omega) fun z1 hz2 b2 o2=>?_)
       obtain rfl:_=z1:=Option.some.inj (at_y.symm.trans hz2)
       refine Bg rfl rfl (Aj 0 rfl rfl Bm fun ⟨r3,r4⟩=>?_)
       refine Au it 4 rfl (by simp) ?_
       refine Bp (t:=40) rfl (fun h5=>by exfalso;omega) (fun h5=>?_)
       refine Au it 2 rfl (by simp) ?_
       refine Bg rfl rfl (Ai [6] rfl (Ax) rfl ?_)
       rintro _ _ _ ⟨rfl,rfl,rfl⟩
       simp only [List.cons_append,List.nil_append]
       refine Au it 1 rfl (by simp) ?_
       refine Be [_,_,_,_,_,_] rfl ?_
       refine T5 rfl rfl ?_
       refine Be [_,_,_,_] rfl ?_
       refine Au it 2 rfl ⟨trivial,⟨by omega,by omega⟩,trivial⟩ ?_
       refine Mj 1 [.lp [1,0,1,0,0],.blk 0,.c [1,1]] rfl ?_
       exact tw (ih (k+2) (by omega) ⟨by omega,good (fun z hz=>by
        rw [at_x] at hz;obtain rfl:=Option.some.inj hz
        exact ⟨by omega,fun y' h hy=>by rw [show k+1-1=k by omega,at_y] at hy;obtain rfl:=Option.some.inj hy;omega⟩) a3⟩)
 ·obtain rfl:i=set.length:=by omega
  rw [List.take_length] at hns
  have hst:stP N set:=ABw.2 hno
  have e1:decide (stP (N:Int) set)=true:=decide_eq_true hst
  have e2:(set.any fun x=>decide (x∈s))=false:=List.any_eq_false.2 fun x hx=>by rw [decide_eq_true_eq];exact hns x hx
  have hgr:=O.gr_piv (V:=Hr p m md) hM (set:=set)
  have hln:set.length≤N:=by
   have h1:(set.map Int.toNat).Nodup:=by
    rw [List.Nodup,List.pairwise_map]
    refine hst.2.imp_of_mem fun {a b} ha hb hab e=>?_
    have:=(hst.1 a ha).1;have:=(hst.1 b hb).1
    omega
   have h2:=Lq h1 (l':=List.range N) fun x hx=>by
    obtain ⟨y,hy,rfl⟩:=List.mem_map.1 hx
    have:=hst.1 y hy
    exact List.mem_range.2 (by omega)
   rwa [List.length_map,List.length_range] at h2
  have G3:=fun {ng cg ce cl no co':Nat}{pg pe pl po:Option Addr}=>M8 (p:=p) (m:=m) (N:=N) (b:=b) (bp:=bp) (nm:=nm) (cm:=cm) (ns:=ns) (cs:=cs) (ny:=ny) (cy:=cy) (nt:=nt) (ct:=ct) (pm:=pm) (ps:=ps) (py:=py) (pt:=pt) (co:=false) (Mo:=Mo) (w:=w) (ap:=ap) (ng:=ng) (cg:=cg) (ce:=ce) (cl:=cl) (most:=set.length) (no:=no) (co':=co') (pg:=pg) (pe:=pe) (pl:=pl) (po:=po) (o:=set) K hM hr1 hr hst.1 (by omega) (by omega)
  by_cases hg:(grP p m md Aa set.length set [] [] []).length=set.length
  ·have e3:Tz p m md N Aa Mo s set=decide ((set.length:Int)=Mo):=by
    rw [Tz,e1,e2,decide_eq_true (hgr.1 hg)];rfl
   rw [e3]
   refine wk 7 cz ?_
   intro h1
   refine Ab rfl (Bt 0 [0,1,2,3,5] rfl rfl (G3) rfl ?_)
   rintro _ _ _ ⟨r1,rfl,rfl,rfl⟩
   simp only [List.cons_append,List.nil_append]
   refine wk 21 cz ?_
   intro h2
   refine B0 2 [0] [] rfl (.tmp rfl .nil) rfl rfl rfl ⟨rfl,rfl,rfl⟩
  ·have e3:Tz p m md N Aa Mo s set=false:=by
    rw [Tz,e1,e2,decide_eq_false (mt hgr.2 hg)];rfl
   rw [e3]
   refine wk 7 cz ?_
   intro h1
   refine Ab rfl (Bt 0 [0,1,2,3,5] rfl rfl (G3) rfl ?_)
   rintro _ _ _ ⟨r1,rfl,rfl,rfl⟩
   simp only [List.cons_append,List.nil_append]
   refine wk 9 cz ?_
   intro h2
   refine B0 2 [0] [] rfl (.tmp rfl .nil) rfl rfl rfl ⟨rfl,rfl,rfl⟩
end
open Go Go.Fw
set_option maxRecDepth 100000
set_option linter.unusedVariables false
set_option linter.unusedSimpArgs false
set_option maxHeartbeats 0
theorem AGw {p m N:Nat}{md s set:List Int}{Aa:List (List Int)}{k:Int}(h:Tz p m md N Aa k s set=true):stP N set:=by
 rw [Tz,Bool.and_eq_true,Bool.and_eq_true,Bool.and_eq_true] at h
 exact of_decide_eq_true h.1.1.1
theorem ABR {rt:List Int→List Int→Bool}{d:Nat}{s z:List Int}:Sp rt d s z []=none:=by
 cases d <;> rw [Sp]
theorem AIB {rt:List Int→List Int→Bool}{d:Nat}{s z x:List Int}{T:List (List Int)}(h:rt s x=false):Sp rt d s z (x::T)=none:=by
 cases d <;> rw [Sp,h] <;> rfl
theorem Br.weak {P:Program}{f:FuncId}{args:List Value}{β:List Bb}{Γ Γ':List Fact}{Q:Value→List Fact→List Bb→Prop}(h:Br P f args β Γ Q) (hs:∀ g∈Γ,g∈Γ'):Br P f args β Γ' Q:=⟨h.1,fun w A h1 h2 h3 h4=>h.2 w A h1 h2 h3 fun g hg=>h4 g (hs g hg)⟩
theorem AJr {x:List Int}{T sets:List (List Int)}(h:(x::T) <:+ sets):T.length+1≤sets.length∧sets[sets.length-(T.length+1)]?=some x:=by
 obtain ⟨l,rfl⟩:=h
 refine ⟨by rw [List.length_append,List.length_cons];omega,?_⟩
 rw [List.length_append,List.length_cons,List.getElem?_append_right (by omega),show l.length+(T.length+1)-(T.length+1)-l.length=0 by omega]
 rfl
section
variable {p m N b bp nm cm ns cs ny cy nt ct:Nat}{pm ps py pt:Option Addr}{Mo w:Int}{md:List Int}{Aa sets:List (List Int)}
theorem AGj {ng cg ce cl n1 c1 n2 c2:Nat}{pg pe pl p1 p2:Option Addr}{s set:List Int}{ap:Int}{res:Bool}(K:Fok p m md) (hM:Fc (p ^ m) N Aa) (hr1:1≤Aa.length) (hr:Aa.length≤1000000) (hN:N≤1000) (h:Tz p m md N Aa Mo s set=res) :
  Br Tryz.prog 150 [.pointer (some ⟨bp,0,none⟩),.slice p1 n1 c1,.slice p2 n2 c2] [Wb bp b p m N nm cm ns cs ny cy nt ct pm ps py pt false Mo w ap] [A2 (Ar Ak) ps ns cs Aa,T0 b p m (p ^ m) pg ng cg pe (p ^ m-1) ce pl (p ^ m) cl,A2 Ak pe (p ^ m-1) ce (T8 p m md),A2 Ak pl (p ^ m) cl (Tt p m md),A2 Ak p1 n1 c1 s,A2 Ak p2 n2 c2 set]
   (fun v Φ β=>v = .bool res∧Φ=[]∧β=[Wb bp b p m N nm cm ns cs ny cy nt ct pm ps py pt false Mo w ap]):=h▸N2 K hM hr1 hr hN
theorem Ze {n1 c1 n2 c2:Nat}{p1 p2:Option Addr} :
  Br Tryz.prog 129 [.pointer (some ⟨bp,0,none⟩),.slice p1 n1 c1,.slice p2 n2 c2] [Wb bp b p m N nm cm ns cs ny cy nt ct pm ps py pt false Mo w ((sets.length-([]:List (List Int)).length:Nat):Int)] [A2 (Ar Ak) pt nt ct sets]
   (ChQ (fun ap=>Wb bp b p m N nm cm ns cs ny cy nt ct pm ps py pt false Mo w (ap:Nat)) sets.length none):=by
 refine Ad (F:=Hc) rfl fun C=>?_
 refine Bd 0 rfl fun hn hb _=>?_
 subst hn
 have e0:([]:List (List Int)).length=0:=rfl
 refine wk 9 cz ?_
 refine B0 1 [0] [] rfl (.tmp rfl .nil) rfl rfl rfl ⟨_,rfl,rfl,rfl⟩
theorem Xu {ng cg ce cl n1 c1 n2 c2:Nat}{pg pe pl p1 p2:Option Addr}{s z x:List Int}{T:List (List Int)}{R:Option (List (List Int))}(K:Fok p m md) (hM:Fc (p ^ m) N Aa) (hr1:1≤Aa.length) (hr:Aa.length≤1000000) (hN:N≤1000) (hT:(x::T) <:+ sets)
  (hch:Tz p m md N Aa Mo s x=true→∀ {n1 c1 n2 c2 n3 c3:Nat}{p1 p2 p3:Option Addr},Br Tryz.prog 151 [.pointer (some ⟨bp,0,none⟩),.slice p1 n1 c1,.slice p2 n2 c2,.slice p3 n3 c3,.func (.func 129) #[.pointer (some ⟨bp,0,none⟩)] #[]] [Wb bp b p m N nm cm ns cs ny cy nt ct pm ps py pt false Mo w ((sets.length-T.length:Nat):Int)] [A2 (Ar Ak) ps ns cs Aa,T0 b p m (p ^ m) pg ng cg pe (p ^ m-1) ce pl (p ^ m) cl,A2 Ak pe (p ^ m-1) ce (T8 p m md),A2 Ak pl (p ^ m) cl (Tt p m md),A2 (Ar Ak) pt nt ct sets,A2 Ak p1 n1 c1 s,A2 Ak p2 n2 c2 z,A2 Ak p3 n3 c3 x]
   (ChQ (fun ap=>Wb bp b p m N nm cm ns cs ny cy nt ct pm ps py pt false Mo w (ap:Nat)) sets.length R)) :
  Br Tryz.prog 129 [.pointer (some ⟨bp,0,none⟩),.slice p1 n1 c1,.slice p2 n2 c2] [Wb bp b p m N nm cm ns cs ny cy nt ct pm ps py pt false Mo w ((sets.length-(x::T).length:Nat):Int)] [A2 (Ar Ak) ps ns cs Aa,T0 b p m (p ^ m) pg ng cg pe (p ^ m-1) ce pl (p ^ m) cl,A2 Ak pe (p ^ m-1) ce (T8 p m md),A2 Ak pl (p ^ m) cl (Tt p m md),A2 (Ar Ak) pt nt ct sets,A2 Ak p1 n1 c1 s,A2 Ak p2 n2 c2 z]
   (ChQ (fun ap=>Wb bp b p m N nm cm ns cs ny cy nt ct pm ps py pt false Mo w (ap:Nat)) sets.length (if Tz p m md N Aa Mo s x=true then R else none)):=by
 refine Ad (F:=Hc) rfl fun C=>?_
 refine Bd 4 rfl fun hn hb _=>?_
 subst hn
 have hb':sets.length*24≤140737488355328:=hb
 have e0:(x::T).length=T.length+1:=rfl
 obtain ⟨hk,at_x⟩:=AJr hT
 have hgx:sets.getD (sets.length-(T.length+1)) default=x:=by rw [List.getD_eq_getElem?_getD,at_x];rfl
 have E9:=fun {ng cg ce cl n1 c1 n2 c2:Nat}{pg pe pl p1 p2:Option Addr}{s set:List Int}{ap:Int}{res:Bool}(h:Tz p m md N Aa Mo s set=res)=>AGj (p:=p) (m:=m) (N:=N) (b:=b) (bp:=bp) (nm:=nm) (cm:=cm) (ns:=ns) (cs:=cs) (ny:=ny) (cy:=cy) (nt:=sets.length) (ct:=ct) (pm:=pm) (ps:=ps) (py:=py) (pt:=pt) (Mo:=Mo) (w:=w) (ap:=ap) (Aa:=Aa) (ng:=ng) (cg:=cg) (ce:=ce) (cl:=cl) (n1:=n1) (c1:=c1) (n2:=n2) (c2:=c2) (pg:=pg) (pe:=pe) (pl:=pl) (p1:=p1) (p2:=p2) (s:=s) (set:=set) K hM hr1 hr hN h
 rw [e0]
 obtain ⟨k,hk2⟩:∃ k,sets.length-(T.length+1)=k:=⟨_,rfl⟩
 rw [hk2] at at_x hgx ⊢
 cases hrt:Tz p m md N Aa Mo s x with
 | false =>
  rw [← hgx] at hrt
  rw [if_neg (by simp)]
  refine wk 3 cz ?_
  (apply Ch it mx 23;(· rfl);(· rfl))
  (apply Ae 2;(· rfl);(· simp))
  (apply Ac;(· rfl);(· exact Bi fun _=>A3 rfl Nr Af))
  (apply Ac;(· rfl);(· exact Bn 0 rfl rfl Bm rfl))
  (apply Ae 2;(· rfl);(· simp))
  (apply Ac;(· rfl);(· exact Bi fun _=>A3 rfl Ns Af))
  (apply Ac;(· rfl);(· exact Bn 0 rfl rfl M5 rfl))
  (apply Ac;(· rfl);(· exact Bi fun _=>P1 Fo rfl Af))
  (apply Ac;(· rfl);(· exact Bi fun _=>Tm it rfl (by trivial) (by omega) Af))
  (apply Ae 5;(· rfl);(· simp))
  (apply Ac;(· rfl);(· exact Bi fun _=>A3 rfl Ns Af))
  (apply Ac;(· rfl);(· exact Bn 0 rfl rfl M5 rfl))
  (apply Ae 2;(· rfl);(· simp))
  (apply Ac;(· rfl);(· exact Bi fun _=>A3 rfl Nr Af))
  (apply Ac;(· rfl);(· exact Bn 0 rfl rfl Bm rfl))
  (apply Ku;(· rfl);(· exact Bi fun _=>E0 4 (k) rfl rfl rfl Fo rfl (by omega) fun z1 hz1 b1 o1=>(Ky default hz1 0 rfl));intro b1 o1)
  (apply Dl;(· rfl);(· exact Bi fun _=>Jz 0 rfl rfl Ez fun pa1 ca1=>(E7 0 rfl));intro pa1 ca1)
  refine B7 rfl ?_
  simp only [List.map_cons,List.map_nil,List.cons_append,List.nil_append]
  refine Bg rfl rfl (Bt 0 [2,3,4,5,7,0] rfl rfl (E9 (by omega)) rfl ?_)
  rintro _ _ _ ⟨rfl,rfl,rfl⟩
  simp only [List.cons_append,List.nil_append]
  refine wk 6 cz ?_
  refine B0 1 [0] [] rfl (.tmp rfl .nil) rfl rfl rfl ⟨_,rfl,rfl,rfl⟩
 | true =>
  have hch':=@hch hrt
  rw [if_pos rfl]
  rw [← hgx] at hrt hch'
  have hk3:sets.length-T.length=k+1:=by omega
  rw [hk3] at hch'
  clear hch
  cases R with
  | none =>
   simp only [ChQ] at hch' ⊢
   have Eg:=fun {n1 c1 n2 c2 n3 c3:Nat}{p1 p2 p3:Option Addr}=>hch' (n1:=n1) (c1:=c1) (n2:=n2) (c2:=c2) (n3:=n3) (c3:=c3) (p1:=p1) (p2:=p2) (p3:=p3)
   refine wk 3 cz ?_
   (apply Ch it mx 23;(· rfl);(· rfl))
   (apply Ae 2;(· rfl);(· simp))
   (apply Ac;(· rfl);(· exact Bi fun _=>A3 rfl Nr Af))
   (apply Ac;(· rfl);(· exact Bn 0 rfl rfl Bm rfl))
   (apply Ae 2;(· rfl);(· simp))
   (apply Ac;(· rfl);(· exact Bi fun _=>A3 rfl Ns Af))
   (apply Ac;(· rfl);(· exact Bn 0 rfl rfl M5 rfl))
   (apply Ac;(· rfl);(· exact Bi fun _=>P1 Fo rfl Af))
   (apply Ac;(· rfl);(· exact Bi fun _=>Tm it rfl (by trivial) (by omega) Af))
   (apply Ae 5;(· rfl);(· simp))
   (apply Ac;(· rfl);(· exact Bi fun _=>A3 rfl Ns Af))
   (apply Ac;(· rfl);(· exact Bn 0 rfl rfl M5 rfl))
   (apply Ae 2;(· rfl);(· simp))
   (apply Ac;(· rfl);(· exact Bi fun _=>A3 rfl Nr Af))
   (apply Ac;(· rfl);(· exact Bn 0 rfl rfl Bm rfl))
   (apply Ku;(· rfl);(· exact Bi fun _=>E0 4 (k) rfl rfl rfl Fo rfl (by omega) fun z1 hz1 b1 o1=>(Ky default hz1 0 rfl));intro b1 o1)
   (apply Dl;(· rfl);(· exact Bi fun _=>Jz 0 rfl rfl Ez fun pa1 ca1=>(E7 0 rfl));intro pa1 ca1)
   refine B7 rfl ?_
   simp only [List.map_cons,List.map_nil,List.cons_append,List.nil_append]
   refine Bg rfl rfl (Bt 0 [2,3,4,5,7,0] rfl rfl (E9 (by omega)) rfl ?_)
   rintro _ _ _ ⟨rfl,rfl,rfl⟩
   simp only [List.cons_append,List.nil_append]
   refine wk 11 cz ?_
   (apply Ch it mx 16;(· rfl);(· rfl))
   (apply Ae 5;(· rfl);(· simp))
   (apply Ac;(· rfl);(· exact Bi fun _=>A3 rfl Ns Af))
   (apply Ac;(· rfl);(· exact Bn 0 rfl rfl M5 rfl))
   (apply Ae 2;(· rfl);(· simp))
   (apply Ac;(· rfl);(· exact Bi fun _=>A3 rfl Nr Af))
   (apply Ac;(· rfl);(· exact Bn 0 rfl rfl Bm rfl))
   (apply Ac (v:=Value.int IntKind.i64 (((((k)+1)-1:Nat)):Int));(· rfl);(· exact Bi fun _=>V0 it _ rfl ⟨by omega,by omega⟩ (by omega) Af))
   simp only [Nat.add_sub_cancel]
   (apply Ku;(· rfl);(· exact Bi fun _=>E0 6 (k) rfl rfl rfl Fo rfl (by omega) fun z1 hz1 b2 o2=>(Ky default hz1 0 rfl));intro b2 o2)
   (apply Dl;(· rfl);(· exact Bi fun _=>Jz 0 rfl rfl Ez fun pa2 ca2=>(E7 0 rfl));intro pa2 ca2)
   (apply Ae 2;(· rfl);(· simp))
   refine B7 rfl ?_
   simp only [List.map_cons,List.map_nil,List.cons_append,List.nil_append]
   refine Ab rfl (Bt 0 [4,5,6,7,8,9,10,0] rfl rfl (Eg) rfl ?_)
   rintro _ _ _ ⟨ap1,rfl,rfl,rfl⟩
   simp only [List.cons_append,List.nil_append]
   refine wk 2 cz ?_
   refine B0 1 [0] [] rfl (.tmp rfl .nil) rfl rfl rfl ⟨_,rfl,rfl,rfl⟩
  | some T' =>
   simp only [ChQ] at hch' ⊢
   have Eg:=fun {n1 c1 n2 c2 n3 c3:Nat}{p1 p2 p3:Option Addr}=>hch' (n1:=n1) (c1:=c1) (n2:=n2) (c2:=c2) (n3:=n3) (c3:=c3) (p1:=p1) (p2:=p2) (p3:=p3)
   refine wk 3 cz ?_
   (apply Ch it mx 23;(· rfl);(· rfl))
   (apply Ae 2;(· rfl);(· simp))
   (apply Ac;(· rfl);(· exact Bi fun _=>A3 rfl Nr Af))
   (apply Ac;(· rfl);(· exact Bn 0 rfl rfl Bm rfl))
   (apply Ae 2;(· rfl);(· simp))
   (apply Ac;(· rfl);(· exact Bi fun _=>A3 rfl Ns Af))
   (apply Ac;(· rfl);(· exact Bn 0 rfl rfl M5 rfl))
   (apply Ac;(· rfl);(· exact Bi fun _=>P1 Fo rfl Af))
   (apply Ac;(· rfl);(· exact Bi fun _=>Tm it rfl (by trivial) (by omega) Af))
   (apply Ae 5;(· rfl);(· simp))
   (apply Ac;(· rfl);(· exact Bi fun _=>A3 rfl Ns Af))
   (apply Ac;(· rfl);(· exact Bn 0 rfl rfl M5 rfl))
   (apply Ae 2;(· rfl);(· simp))
   (apply Ac;(· rfl);(· exact Bi fun _=>A3 rfl Nr Af))
   (apply Ac;(· rfl);(· exact Bn 0 rfl rfl Bm rfl))
   (apply Ku;(· rfl);(· exact Bi fun _=>E0 4 (k) rfl rfl rfl Fo rfl (by omega) fun z1 hz1 b1 o1=>(Ky default hz1 0 rfl));intro b1 o1)
   (apply Dl;(· rfl);(· exact Bi fun _=>Jz 0 rfl rfl Ez fun pa1 ca1=>(E7 0 rfl));intro pa1 ca1)
   refine B7 rfl ?_
   simp only [List.map_cons,List.map_nil,List.cons_append,List.nil_append]
   refine Bg rfl rfl (Bt 0 [2,3,4,5,7,0] rfl rfl (E9 (by omega)) rfl ?_)
   rintro _ _ _ ⟨rfl,rfl,rfl⟩
   simp only [List.cons_append,List.nil_append]
   refine wk 11 cz ?_
   (apply Ch it mx 16;(· rfl);(· rfl))
   (apply Ae 5;(· rfl);(· simp))
   (apply Ac;(· rfl);(· exact Bi fun _=>A3 rfl Ns Af))
   (apply Ac;(· rfl);(· exact Bn 0 rfl rfl M5 rfl))
   (apply Ae 2;(· rfl);(· simp))
   (apply Ac;(· rfl);(· exact Bi fun _=>A3 rfl Nr Af))
   (apply Ac;(· rfl);(· exact Bn 0 rfl rfl Bm rfl))
   (apply Ac (v:=Value.int IntKind.i64 (((((k)+1)-1:Nat)):Int));(· rfl);(· exact Bi fun _=>V0 it _ rfl ⟨by omega,by omega⟩ (by omega) Af))
   simp only [Nat.add_sub_cancel]
   (apply Ku;(· rfl);(· exact Bi fun _=>E0 6 (k) rfl rfl rfl Fo rfl (by omega) fun z1 hz1 b2 o2=>(Ky default hz1 0 rfl));intro b2 o2)
   (apply Dl;(· rfl);(· exact Bi fun _=>Jz 0 rfl rfl Ez fun pa2 ca2=>(E7 0 rfl));intro pa2 ca2)
   (apply Ae 2;(· rfl);(· simp))
   refine B7 rfl ?_
   simp only [List.map_cons,List.map_nil,List.cons_append,List.nil_append]
   refine Ab rfl (Bt 0 [4,5,6,7,8,9,10,0] rfl rfl (Eg) rfl ?_)
   rintro _ _ _ ⟨rfl,rfl,rfl⟩
   simp only [List.cons_append,List.nil_append]
   refine wk 2 cz ?_
   refine B0 1 [0] [] rfl (.tmp rfl .nil) rfl rfl rfl ⟨rfl,rfl,rfl⟩
theorem Oa {ng cg ce cl:Nat}{pg pe pl:Option Addr}(K:Fok p m md) (hM:Fc (p ^ m) N Aa) (hr1:1≤Aa.length) (hr:Aa.length≤1000000) (hN:N≤1000):∀ (d:Nat) {n1 c1 n2 c2:Nat}{p1 p2:Option Addr}{s z:List Int}{T:List (List Int)},
  ((s.length+d:Nat):Int)=w→s.length+d≤1000→z.length+1000*d≤100000→T <:+ sets →
  Br Tryz.prog 129 [.pointer (some ⟨bp,0,none⟩),.slice p1 n1 c1,.slice p2 n2 c2] [Wb bp b p m N nm cm ns cs ny cy nt ct pm ps py pt false Mo w ((sets.length-T.length:Nat):Int)] [A2 (Ar Ak) ps ns cs Aa,T0 b p m (p ^ m) pg ng cg pe (p ^ m-1) ce pl (p ^ m) cl,A2 Ak pe (p ^ m-1) ce (T8 p m md),A2 Ak pl (p ^ m) cl (Tt p m md),A2 (Ar Ak) pt nt ct sets,A2 Ak p1 n1 c1 s,A2 Ak p2 n2 c2 z]
   (ChQ (fun ap=>Wb bp b p m N nm cm ns cs ny cy nt ct pm ps py pt false Mo w (ap:Nat)) sets.length (Sp (Tz p m md N Aa Mo) d s z T)):=by
 intro d
 induction d with
 | zero =>
  intro n1 c1 n2 c2 p1 p2 s z T hs hs2 hz hT
  cases T with
  | nil=>rw [ABR];exact Br.weak Ze (by simp)
  | cons x T =>
   rw [Sp]
   refine Xu K hM hr1 hr hN hT fun hrt=>?_
   intro n1 c1 n2 c2 n3 c3 p1 p2 p3
   exact Br.weak (Kq (by omega)) (by simp)
 | succ d ih =>
  intro n1 c1 n2 c2 p1 p2 s z T hs hs2 hz hT
  cases T with
  | nil=>rw [ABR];exact Br.weak Ze (by simp)
  | cons x T =>
   rw [Sp]
   refine Xu K hM hr1 hr hN hT fun hrt=>?_
   intro n1 c1 n2 c2 n3 c3 p1 p2 p3
   have hst:=AGw hrt
   have hsl:=AD0 hst
   refine Lg (by omega) hst (by omega) (by omega) (by omega) ((List.suffix_cons x T).trans hT) ?_
   intro n1 c1 n2 c2 p1 p2 y z' T hz' hT'
   exact ih (by rw [List.length_append,List.length_singleton];omega) (by rw [List.length_append,List.length_singleton];omega) (by omega) hT'
end
open Go Go.Fw
set_option maxRecDepth 100000
set_option linter.unusedVariables false
set_option linter.unusedSimpArgs false
set_option maxHeartbeats 0
def exB (p m:Nat) (md:List Int) (N:Nat) (Aa:List (List Int)) (Mo:Int) (d:Nat) (sets:List (List Int)):Bool:=decide (Sp (Tz p m md N Aa Mo) d [] [] sets=some [])
section
variable {p m N b bp nm cm ns cs ny cy nt ct:Nat}{pm ps py pt:Option Addr}{Mo:Int}{d:Nat}{md:List Int}{Aa sets:List (List Int)}
theorem M9 {ng cg ce cl nt' ct':Nat}{pg pe pl pt':Option Addr}{bo:Bool}(K:Fok p m md) (hM:Fc (p ^ m) N Aa) (hr1:1≤Aa.length) (hr:Aa.length≤1000000) (hN:N≤1000) (hd:d≤64) (hbo:exB p m md N Aa Mo d sets=bo) :
  Br Tryz.prog 92 [.pointer (some ⟨bp,0,none⟩),.agg #[.slice pt nt ct]] [Wb bp b p m N nm cm ns cs ny cy nt' ct' pm ps py pt' false Mo d 0] [A2 (Ar Ak) ps ns cs Aa,T0 b p m (p ^ m) pg ng cg pe (p ^ m-1) ce pl (p ^ m) cl,A2 Ak pe (p ^ m-1) ce (T8 p m md),A2 Ak pl (p ^ m) cl (Tt p m md),A2 (Ar Ak) pt nt ct sets]
   (Rv (.int .i64 (if bo=true then 0 else 13)) []):=by
 refine Ad (F:=M0) rfl fun C=>?_
 refine Bd 4 rfl fun hn hb _=>?_
 subst hn
 refine Jh (A2 Ak none 0 0 []) (fun w A _=>Wl _ w A none 0) ?_
 have e0:([]:List Int).length=0:=rfl
 have h:=Oa (b:=b) (bp:=bp) (nm:=nm) (cm:=cm) (ns:=ns) (cs:=cs) (ny:=ny) (cy:=cy) (nt:=sets.length) (ct:=ct) (pm:=pm) (ps:=ps) (py:=py) (pt:=pt) (Mo:=Mo) (w:=d) (sets:=sets) (ng:=ng) (cg:=cg) (ce:=ce) (cl:=cl) (pg:=pg) (pe:=pe) (pl:=pl) K hM hr1 hr hN d (n1:=0) (c1:=0) (n2:=0) (c2:=0) (p1:=none) (p2:=none) (s:=[]) (z:=[]) (T:=sets) (by rw [e0,Nat.zero_add]) (by rw [e0];omega) (by rw [e0];omega) (List.suffix_refl _)
 rw [Nat.sub_self] at h
 cases hE:Sp (Tz p m md N Aa Mo) d [] [] sets with
 | none =>
  rw [hE] at h
  rw [exB,hE] at hbo
  simp only [reduceCtorEq,decide_false] at hbo
  subst hbo
  simp only [ChQ] at h
  have Ay:=h
  refine wk 12 cz ?_
  intro b1
  refine Ab rfl (Bt 1 [1,2,3,4,5,0,0] rfl rfl (Ay) rfl ?_)
  rintro _ _ _ ⟨ap1,rfl,rfl,rfl⟩
  simp only [List.cons_append,List.nil_append]
  refine wk 8 cz ?_
  exact ge
 | some T =>
  rw [hE] at h
  rw [exB,hE] at hbo
  simp only [ChQ] at h
  have Ay:=h
  have hTl:=(AB0 hE).length_le
  cases T with
  | nil =>
   have e1:([]:List (List Int)).length=0:=rfl
   simp only [decide_true] at hbo
   subst hbo
   rw [e1] at Ay
   refine wk 12 cz ?_
   intro b1
   refine Ab rfl (Bt 1 [1,2,3,4,5,0,0] rfl rfl (Ay) rfl ?_)
   rintro _ _ _ ⟨rfl,rfl,rfl⟩
   simp only [List.cons_append,List.nil_append]
   refine wk 8 cz ?_
   exact ge
  | cons x T =>
   have e1:(x::T).length=T.length+1:=rfl
   simp only [Option.some.injEq,reduceCtorEq,decide_false] at hbo
   subst hbo
   rw [e1] at Ay hTl
   refine wk 12 cz ?_
   intro b1
   refine Ab rfl (Bt 1 [1,2,3,4,5,0,0] rfl rfl (Ay) rfl ?_)
   rintro _ _ _ ⟨rfl,rfl,rfl⟩
   simp only [List.cons_append,List.nil_append]
   refine wk 8 cz ?_
   exact ge
theorem K0 {n c:Nat}{w:Int}(CC:Cok p m md N Aa) (hw:Bf .i64 w):Br Tryz.prog 128 [.agg #[.int .i64 p,.int .i64 m,.slice pm nm cm,.int .i64 N,.slice ps n c],.int .i64 w] [] [A2 Ak pm nm cm md,A2 (Ar Ak) ps n c Aa]
   (fun v Φ β=>∃ (bp b:Nat) (pg:Option Addr) (cg:Nat) (pe:Option Addr) (ce:Nat) (pl:Option Addr) (cl:Nat),v = .tuple #[.pointer (some ⟨bp,0,none⟩),.int .i64 0]∧Φ=gfL p m md b pg cg pe ce pl cl∧β=[Wb bp b p m N nm cm n c 0 0 0 0 pm ps none none false 0 w 0]):=by
 refine Ad (F:=Pm) rfl fun C=>?_
 have hN:Bf .i64 (N:Int):=by have:=CC.n64;simp only [Bf];omega
 have Eb:=fun {pm ps:Option Addr}{nm cm n c:Nat}=>Q3 (P:=(p:Int)) (M:=(m:Int)) (N:=(N:Int)) (pm:=pm) (ps:=ps) (nm:=nm) (cm:=cm) (n:=n) (c:=c) (md:=md) (Aa:=Aa) hN CC.ck
 have Gs:=fun {pm:Option Addr}{nm cm:Nat}=>I0 (pm:=pm) (nm:=nm) (cm:=cm) CC.K
 refine wk 24 (ct @Eb (ct @Gs cz)) ?_
 intro b1 h1 b2 pg1 cg1 pe1 ce1 pl1 cl1 b3
 refine B0 2 [0] [0,1,2,3] rfl (.tmp rfl (.tmp rfl .nil)) rfl rfl rfl ⟨_,_,_,_,_,_,_,_,rfl,rfl,rfl⟩
theorem So {n c:Nat}{P M N w e:Int}(hN:Bf .i64 N) (h:Xw P M md N Aa=e) (he:e≠0):Br Tryz.prog 128 [.agg #[.int .i64 P,.int .i64 M,.slice pm nm cm,.int .i64 N,.slice ps n c],.int .i64 w] [] [A2 Ak pm nm cm md,A2 (Ar Ak) ps n c Aa]
   (Rv (.tuple #[.pointer none,.int .i64 e]) []):=by
 refine Ad (F:=Pm) rfl fun C=>?_
 have hr:=Nl P M md N Aa
 have Eb:=fun {pm ps:Option Addr}{nm cm n c:Nat}=>Q3 (P:=P) (M:=M) (N:=N) (pm:=pm) (ps:=ps) (nm:=nm) (cm:=cm) (n:=n) (c:=c) (md:=md) (Aa:=Aa) hN h
 refine wk 14 (ct @Eb cz) ?_
 intro b1 h1
 exact ge
theorem Ui {n c:Nat}(CC:Cok p m md N Aa) (hM:0≤Mo) (hM2:Mo≤Aa.length) (hd:d≤N):Br Tryz.prog 91 [.agg #[.int .i64 p,.int .i64 m,.slice pm nm cm,.int .i64 N,.slice ps n c],.int .i64 Mo,.int .i64 d] [] [A2 Ak pm nm cm md,A2 (Ar Ak) ps n c Aa]
   (fun v Φ β=>∃ (bp b:Nat) (pg:Option Addr) (cg:Nat) (pe:Option Addr) (ce:Nat) (pl:Option Addr) (cl:Nat),v = .tuple #[.pointer (some ⟨bp,0,none⟩),.int .i64 0]∧Φ=gfL p m md b pg cg pe ce pl cl∧β=[Wb bp b p m N nm cm n c 0 0 0 0 pm ps none none false Mo d 0]):=by
 refine Ad (F:=Jo) rfl fun C=>?_
 refine Bd 1 rfl fun hn hb _=>?_
 subst hn
 have hn:=CC.n64
 have Db:=fun {pm ps:Option Addr}{nm cm n c:Nat}=>K0 (pm:=pm) (ps:=ps) (nm:=nm) (cm:=cm) (n:=n) (c:=c) (w:=d) CC (by simp only [Bf];omega)
 refine wk 39 (ct @Db cz) ?_
 intro b1 bp1 b2 pg1 cg1 pe1 ce1 pl1 cl1 h1 h2 h3 h4 h5
 refine B0 2 [0] [0,1,2,3] rfl (.tmp rfl (.tmp rfl .nil)) rfl rfl rfl ⟨_,_,_,_,_,_,_,_,rfl,rfl,rfl⟩
theorem S5 {n c:Nat}{w:Int}(CC:Cok p m md N Aa) (hw:Bf .i64 w) (h:Mo<0∨Aa.length<Mo∨w<0∨N<w):Br Tryz.prog 91 [.agg #[.int .i64 p,.int .i64 m,.slice pm nm cm,.int .i64 N,.slice ps n c],.int .i64 Mo,.int .i64 w] [] [A2 Ak pm nm cm md,A2 (Ar Ak) ps n c Aa]
   (Rv (.tuple #[.pointer none,.int .i64 6]) []):=by
 refine Ad (F:=Jo) rfl fun C=>?_
 refine Bd 1 rfl fun hn hb _=>?_
 subst hn
 have hn:=CC.n64
 have Db:=fun {pm ps:Option Addr}{nm cm n c:Nat}=>K0 (pm:=pm) (ps:=ps) (nm:=nm) (cm:=cm) (n:=n) (c:=c) (w:=w) CC hw
 by_cases h1:Mo<0
 ·refine wk 23 (ct @Db cz) ?_
  intro b1 bp1 b2 pg1 cg1 pe1 ce1 pl1 cl1 h2 h3
  exact ge
 ·by_cases h2:Aa.length<Mo
  ·refine wk 31 (ct @Db cz) ?_
   intro b1 bp1 b2 pg1 cg1 pe1 ce1 pl1 cl1 h3 h4 h5
   exact ge
  ·by_cases h3:w<0
   ·refine wk 36 (ct @Db cz) ?_
    intro b1 bp1 b2 pg1 cg1 pe1 ce1 pl1 cl1 h4 h5 h6 h7
    exact ge
   ·have h4:N<w:=by omega
    refine wk 39 (ct @Db cz) ?_
    intro b1 bp1 b2 pg1 cg1 pe1 ce1 pl1 cl1 h5 h6 h7 h8 h9
    exact ge
theorem Sv {n c:Nat}{P M N w e:Int}(hN:Bf .i64 N) (h:Xw P M md N Aa=e) (he:e≠0):Br Tryz.prog 91 [.agg #[.int .i64 P,.int .i64 M,.slice pm nm cm,.int .i64 N,.slice ps n c],.int .i64 Mo,.int .i64 w] [] [A2 Ak pm nm cm md,A2 (Ar Ak) ps n c Aa]
   (Rv (.tuple #[.pointer none,.int .i64 e]) []):=by
 refine Ad (F:=Jo) rfl fun C=>?_
 have hr:=Nl P M md N Aa
 have Db:=fun {pm ps:Option Addr}{nm cm n c:Nat}=>So (pm:=pm) (ps:=ps) (nm:=nm) (cm:=cm) (n:=n) (c:=c) (w:=w) hN h he
 refine wk 15 (ct @Db cz) ?_
 intro b1 h1
 exact ge
noncomputable def rkE (P M:Int) (md:List Int) (N:Int) (Aa:List (List Int)) (Mo w:Int) (sets:List (List Int)):Int :=
 if Xw P M md N Aa≠0 then Xw P M md N Aa else if Mo<0∨Aa.length<Mo∨w<0∨N<w then 6 else if exB P.toNat M.toNat md N.toNat Aa Mo w.toNat sets=true then 0 else 13
theorem R3 {n c:Nat}{P M N w e:Int}(hN:Bf .i64 N) (hw:Bf .i64 w) (hr1:1≤Aa.length) (h:rkE P M md N Aa Mo w sets=e):Br Tryz.prog 59 [.agg #[.int .i64 P,.int .i64 M,.slice pm nm cm,.int .i64 N,.slice ps n c],.int .i64 Mo,.int .i64 w,.agg #[.slice pt nt ct]] [] [A2 Ak pm nm cm md,A2 (Ar Ak) ps n c Aa,A2 (Ar Ak) pt nt ct sets]
   (Rv (.int .i64 e) []):=by
 refine Ad (F:=Rx) rfl fun C=>?_
 refine Bd 1 rfl fun hn hb _=>?_
 subst hn
 have hr:=Nl P M md N Aa
 rw [rkE] at h
 by_cases hc:Xw P M md N Aa=0
 ·rw [if_neg (fun e=>e hc)] at h
  obtain ⟨p,m,N,rfl,rfl,rfl,CC⟩:=ACs hc
  have h64:=CC.n64
  rw [Int.toNat_natCast,Int.toNat_natCast,Int.toNat_natCast] at h
  by_cases h1:Mo<0∨Aa.length<Mo∨w<0∨N<w
  ·rw [if_pos h1] at h
   subst h
   have Fj:=fun {pm ps:Option Addr}{nm cm n c:Nat}=>S5 (pm:=pm) (ps:=ps) (nm:=nm) (cm:=cm) (n:=n) (c:=c) CC hw h1
   refine wk 7 cz ?_
   intro b1 b2
   refine Ab rfl (Ai [0,1] rfl (Fj) rfl ?_)
   rintro _ _ _ ⟨rfl,rfl,rfl⟩
   simp only [List.cons_append,List.nil_append]
   refine wk 8 cz ?_
   intro h2
   exact ge
  ·rw [if_neg h1] at h
   obtain ⟨d,rfl⟩:=Int.eq_ofNat_of_zero_le (show 0≤w by omega)
   rw [Int.toNat_natCast] at h
   have Fj:=fun {pm ps:Option Addr}{nm cm n c:Nat}=>Ui (pm:=pm) (ps:=ps) (nm:=nm) (cm:=cm) (n:=n) (c:=c) CC (show 0≤Mo by omega) (by omega) (show d≤N by omega)
   have hl:Aa.length≤1000000:=by have:=CC.len;omega
   have G9:=fun {bp b nm cm ns cs ny cy nt ct ng cg ce cl nt' ct':Nat}{pm ps py pt pg pe pl pt':Option Addr}=>M9 (p:=p) (m:=m) (N:=N) (b:=b) (bp:=bp) (nm:=nm) (cm:=cm) (ns:=ns) (cs:=cs) (ny:=ny) (cy:=cy) (nt:=nt) (ct:=ct) (pm:=pm) (ps:=ps) (py:=py) (pt:=pt) (Mo:=Mo) (d:=d) (sets:=sets) (ng:=ng) (cg:=cg) (ce:=ce) (cl:=cl) (pg:=pg) (pe:=pe) (pl:=pl) (nt':=nt') (ct':=ct') (pt':=pt') CC.K CC.mat hr1 hl (by omega) (by omega) rfl
   rw [h] at G9
   refine wk 7 cz ?_
   intro b1 b2
   refine Ab rfl (Ai [0,1] rfl (Fj) rfl ?_)
   rintro _ _ _ ⟨bp1,b3,pg1,cg1,pe1,ce1,pl1,cl1,rfl,rfl,rfl⟩
   simp only [List.cons_append,List.nil_append]
   refine wk 8 cz ?_
   intro h2
   refine Ab rfl (Bt 0 [5,0,2,3,6] rfl rfl (G9) rfl ?_)
   rintro _ _ _ ⟨rfl,rfl,rfl⟩
   simp only [List.cons_append,List.nil_append]
   simp only [decide_true]
   refine wk 2 cz ?_
   exact ge
 ·rw [if_pos hc] at h
  subst h
  have Fj:=fun {pm ps:Option Addr}{nm cm n c:Nat}=>Sv (pm:=pm) (ps:=ps) (nm:=nm) (cm:=cm) (n:=n) (c:=c) (Mo:=Mo) (w:=w) hN rfl hc
  refine wk 7 cz ?_
  intro b1 b2
  refine Ab rfl (Ai [0,1] rfl (Fj) rfl ?_)
  rintro _ _ _ ⟨rfl,rfl,rfl⟩
  simp only [List.cons_append,List.nil_append]
  refine wk 8 cz ?_
  intro h1
  exact ge
theorem Mw {n c:Nat}{N:Nat}{P M dd r:Int}(hN:N≤1000) (hd:Bf .i64 dd) (h:(if dd<1∨N+1<dd then -1 else dd-1)=r):Br Tryz.prog 60 [.agg #[.int .i64 P,.int .i64 M,.slice pm nm cm,.int .i64 N,.slice ps n c],.int .i64 dd] [] [] (Rv (.int .i64 r) []):=by
 refine Ad (F:=Uy) rfl fun C=>?_
 simp only [Bf] at hd
 by_cases h1:dd<1
 ·rw [if_pos (.inl h1)] at h
  subst h
  refine wk 14 cz ?_
  intro b1 h2
  exact ge
 ·by_cases h2:N+1<dd
  ·rw [if_pos (.inr h2)] at h
   subst h
   refine wk 17 cz ?_
   intro b1 h3 h4
   exact ge
  ·rw [if_neg (by omega)] at h
   subst h
   refine wk 17 cz ?_
   intro b1 h3 h4
   exact ge
noncomputable def cdE (P M:Int) (md:List Int) (N:Int) (Aa:List (List Int)) (dd:Int) (sets:List (List Int)):Int :=
 if Xw P M md N Aa≠0 then Xw P M md N Aa else if dd<1∨N+1<dd then 6 else if exB P.toNat M.toNat md N.toNat Aa Aa.length (dd-1).toNat sets=true then 0 else 13
theorem Nh {n c:Nat}{p m N:Nat}{dd e:Int}(CC:Cok p m md N Aa) (hd:Bf .i64 dd) (hr1:1≤Aa.length) (h:cdE p m md N Aa dd sets=e):Br Tryz.prog 27 [.agg #[.int .i64 p,.int .i64 m,.slice pm nm cm,.int .i64 N,.slice ps n c],.int .i64 dd,.agg #[.slice pt nt ct]] [] [A2 Ak pm nm cm md,A2 (Ar Ak) ps n c Aa,A2 (Ar Ak) pt nt ct sets]
   (Rv (.int .i64 e) []):=by
 refine Ad (F:=M7) rfl fun C=>?_
 refine Bd 1 rfl fun hn hb _=>?_
 subst hn
 have h64:=CC.n64
 have hln:=CC.len
 have hN:Bf .i64 (N:Int):=by simp only [Bf];omega
 rw [cdE,CC.ck,if_neg (by simp)] at h
 have Jd:=fun {pm ps pt:Option Addr}{nm cm n c nt ct:Nat}{w e:Int}(hw:Bf .i64 w) (h:rkE p m md N Aa Aa.length w sets=e)=>R3 (P:=p) (M:=m) (pm:=pm) (ps:=ps) (nm:=nm) (cm:=cm) (n:=n) (c:=c) (nt:=nt) (ct:=ct) (pt:=pt) (md:=md) hN hw hr1 h
 by_cases h1:dd<1∨N+1<dd
 ·rw [if_pos h1] at h
  subst h
  have Hy:=fun {pm ps:Option Addr}{nm cm n c:Nat}{P M:Int}=>Mw (P:=P) (M:=M) (pm:=pm) (ps:=ps) (nm:=nm) (cm:=cm) (n:=n) (c:=c) (N:=N) (by omega) hd (if_pos h1)
  have hk:rkE p m md N Aa Aa.length (-1) sets=6:=by rw [rkE,CC.ck,if_neg (by simp),if_pos (by omega)]
  have hr:Bf .i64 (-1):=by simp only [Bf];omega
  refine wk 5 cz ?_
  intro b1 b2
  (apply Ch it mx 9;(· rfl);(· rfl))
  (apply Ac;(· rfl);(· exact B2 1 rfl rfl AIj rfl))
  (apply Ac;(· rfl);(· exact Bi fun _=>A3 rfl ADH Af))
  (apply Ac;(· rfl);(· exact Bn 1 rfl rfl M5 rfl))
  (apply Ac;(· rfl);(· exact Bi fun _=>P1 Fo rfl Af))
  (apply Ac;(· rfl);(· exact B2 1 rfl rfl AIj rfl))
  (apply Ae 1;(· rfl);(· simp))
  (apply Ac;(· rfl);(· exact Bi fun _=>Ai [] rfl (Hy) rfl (by rintro _ _ _ ⟨rfl,rfl,rfl⟩;exact Af)))
  (apply Ac;(· rfl);(· exact B2 0 rfl rfl AKt rfl))
  (apply Ac;(· rfl);(· exact Bi fun _=>Ai [0,1,2] rfl (Jd (by omega) (by omega)) rfl (by rintro _ _ _ ⟨rfl,rfl,rfl⟩;exact Af)))
  refine B7 rfl ?_
  simp only [List.map_cons,List.map_nil,List.cons_append,List.nil_append]
  refine wk 2 cz ?_
  exact ge
 ·rw [if_neg h1] at h
  have Hy:=fun {pm ps:Option Addr}{nm cm n c:Nat}{P M:Int}=>Mw (P:=P) (M:=M) (pm:=pm) (ps:=ps) (nm:=nm) (cm:=cm) (n:=n) (c:=c) (N:=N) (by omega) hd (if_neg h1)
  have hk:rkE p m md N Aa Aa.length (dd-1) sets=e:=by rw [rkE,CC.ck,if_neg (by simp),if_neg (by omega)];exact h
  have hr:Bf .i64 (dd-1):=by simp only [Bf];omega
  refine wk 5 cz ?_
  intro b1 b2
  (apply Ch it mx 9;(· rfl);(· rfl))
  (apply Ac;(· rfl);(· exact B2 1 rfl rfl AIj rfl))
  (apply Ac;(· rfl);(· exact Bi fun _=>A3 rfl ADH Af))
  (apply Ac;(· rfl);(· exact Bn 1 rfl rfl M5 rfl))
  (apply Ac;(· rfl);(· exact Bi fun _=>P1 Fo rfl Af))
  (apply Ac;(· rfl);(· exact B2 1 rfl rfl AIj rfl))
  (apply Ae 1;(· rfl);(· simp))
  (apply Ac;(· rfl);(· exact Bi fun _=>Ai [] rfl (Hy) rfl (by rintro _ _ _ ⟨rfl,rfl,rfl⟩;exact Af)))
  (apply Ac;(· rfl);(· exact B2 0 rfl rfl AKt rfl))
  (apply Ac;(· rfl);(· exact Bi fun _=>Ai [0,1,2] rfl (Jd (by omega) (by omega)) rfl (by rintro _ _ _ ⟨rfl,rfl,rfl⟩;exact Af)))
  refine B7 rfl ?_
  simp only [List.map_cons,List.map_nil,List.cons_append,List.nil_append]
  refine wk 2 cz ?_
  exact ge
end
open Go Go.Fw
set_option maxRecDepth 100000
set_option linter.unusedVariables false
set_option linter.unusedSimpArgs false
set_option maxHeartbeats 0
theorem Xp:∀ (n k:Nat),3≤n→Ci n k+1≤2 ^ (n-1)
 | 0,_,h=>by omega
 | 1,_,h=>by omega
 | 2,_,h=>by omega
 | 3,k,_=>by
  rcases k with _|_|_|_|k
  ·decide
  ·decide
  ·decide
  ·decide
  ·rw [Kk 3 _ (by omega)];decide
 | n+4,0,_=>by
  rw [U6]
  have:2 ^ 1≤2 ^ (n+4-1):=Nat.pow_le_pow_right (by omega) (by omega)
  omega
 | n+4,k+1,_=>by
  have h1:=Xp (n+3) k (by omega)
  have h2:=Xp (n+3) (k+1) (by omega)
  rw [L9,show n+4-1=(n+3-1)+1 by omega,Nat.pow_succ]
  omega
theorem Sj {n k:Nat}(h:n≤64):Ci n k≤9223372036854775807:=by
 by_cases h3:3≤n
 ·have h1:=Xp n k h3
  have h2:2 ^ (n-1)≤2 ^ 63:=Nat.pow_le_pow_right (by omega) (by omega)
  have h4:(2:Nat) ^ 63=9223372036854775808:=by decide
  omega
 ·have:Ci n k≤2:=by
   rcases n with _|_|_|n
   ·rcases k with _|k
    ·decide
    ·rw [Kk 0 _ (by omega)];omega
   ·rcases k with _|_|k
    ·decide
    ·decide
    ·rw [Kk 1 _ (by omega)];omega
   ·rcases k with _|_|_|k
    ·decide
    ·decide
    ·decide
    ·rw [Kk 2 _ (by omega)];omega
   ·omega
  omega
def R8 (n:Nat) (f:Nat→Nat):List Nat:=(List.range (n+1)).map f
theorem Tv {n:Nat}{f:Nat→Nat}:(R8 n f).length=n+1:=by simp [R8]
theorem To {n j:Nat}{f:Nat→Nat}(h:j≤n):(R8 n f)[j]?=some (f j):=by rw [R8,List.getElem?_map,List.getElem?_range (by omega)];rfl
theorem V2 {n:Nat}{f g:Nat→Nat}(h:∀ t,t≤n→f t=g t):R8 n f=R8 n g:=List.map_congr_left fun t ht=>h t (by have:=List.mem_range.1 ht;omega)
theorem ABV {n j v:Nat}{f:Nat→Nat}:(R8 n f).set j v=R8 n fun t=>if t=j then v else f t:=by
 refine List.ext_getElem (by rw [List.length_set,Tv,Tv]) fun i h1 h2=>?_
 rw [List.getElem_set]
 simp only [R8,List.getElem_map,List.getElem_range]
 by_cases e:j=i
 ·rw [if_pos e,if_pos e.symm]
 ·rw [if_neg e,if_neg fun h=>e h.symm]
abbrev R0 (i j t:Nat):Nat:=if j<t then Ci i t else Ci (i-1) t
theorem AAZ {n i:Nat}:R8 n (R0 i i)=R8 n (Ci (i-1)):=V2 fun t _=>by
 rw [R0]
 split
 ·rename_i h;rw [Kk i t h,Kk (i-1) t (by omega)]
 ·rfl
theorem AE0 {n i:Nat}:R8 n (R0 i 0)=R8 n (Ci i):=V2 fun t _=>by
 rw [R0]
 split
 ·rfl
 ·rename_i h
  obtain rfl:t=0:=by omega
  rw [U6,U6]
theorem ACN {n i j:Nat}(h1:1≤j) (h2:j≤i):(R8 n (R0 i j)).set j (Ci (i-1) j+Ci (i-1) (j-1))=R8 n (R0 i (j-1)):=by
 rw [ABV]
 refine V2 fun t _=>?_
 obtain ⟨i,rfl⟩:∃ i',i=i'+1:=⟨i-1,by omega⟩
 obtain ⟨j,rfl⟩:∃ j',j=j'+1:=⟨j-1,by omega⟩
 rw [R0,R0,Nat.add_sub_cancel,Nat.add_sub_cancel]
 by_cases e:t=j+1
 ·rw [if_pos e,if_pos (by omega),e,L9,Nat.add_comm]
 ·rw [if_neg e]
  by_cases h:j+1<t
  ·rw [if_pos h,if_pos (by omega)]
  ·rw [if_neg h,if_neg (by omega)]
theorem AAE {n k:Nat}(hn:n≤64):Br Tryz.prog 61 [.int .i64 n,.int .i64 k] [] [] (Rv (.int .i64 (Ci n k:Nat)) []):=by
 refine Ad (F:=AAI) rfl fun C=>?_
 by_cases hk:n<k
 ·rw [Kk n k hk]
  refine wk 9 cz ?_
  intro h1
  exact ge
 ·refine wk 13 cz ?_
  intro h1 b1
  refine Ab rfl (Tn 0 1 rfl rfl rfl Bm ?_ ?_ ?_) --ok
  ·rfl
  ·rw [List.length_replicate];omega
  rw [show (List.replicate (n+1) 0).set 0 1=R8 n (Ci 0) by
   rw [show List.replicate (n+1) 0=R8 n (fun _=>0) by simp [R8,List.map_const'],ABV]
   exact V2 fun t _=>by cases t <;> rfl]
  simp only [setB,List.set_cons_zero]
  refine wk 3 cz ?_
  refine Ag (X:=Nat) [0,1,4,5] [] (fun i=>[(6,.int .i64 (i:Int))]) (fun i=>[(some b1,3,Ap .i64 (R8 n (Ci (i-1))))]) (fun _=>[]) (fun i=>1≤i∧i≤n+1) (fun i=>n+1-i) 1 [] rfl rfl rfl ⟨Nat.le_refl _,by omega⟩ (by repeat (first|exact Fr.sub_nil _|refine Fr.sub_cons rfl ?_)) rfl rfl ?_
  rintro i ⟨hi1,hi⟩ ih
  simp only [List.cons_append,List.nil_append] at hi1 hi ih ⊢
  by_cases hin:i≤n
  ·have ih':=ih (i+1) (by omega) ⟨by omega,by omega⟩
   rw [Nat.add_sub_cancel,← AE0] at ih'
   rw [← AAZ (i:=i)]
   clear ih
   refine wk 7 cz ?_
   intro h2
   refine Ag (X:=Nat) [0,1,4,5,6,20,21,22,25] [] (fun j=>[(7,.int .i64 (j:Int))]) (fun j=>[(some b1,3,Ap .i64 (R8 n (R0 i j)))]) (fun _=>[]) (fun j=>j≤i) (fun j=>j) i [] rfl rfl rfl (Nat.le_refl _) (by repeat (first|exact Fr.sub_nil _|refine Fr.sub_cons rfl ?_)) rfl rfl ?_
   rintro j hj ihj
   simp only [List.cons_append,List.nil_append] at hj ihj ⊢
   by_cases hj0:1≤j
   ·have ihj':=ihj (j-1) (by omega) (by omega)
    rw [← ACN hj0 hj] at ihj'
    have g1:(R8 n (R0 i j))[j]?=some (Ci (i-1) j):=by rw [To (by omega)];exact congrArg some (if_neg (by omega))
    have g2:(R8 n (R0 i j))[j-1]?=some (Ci (i-1) (j-1)):=by rw [To (by omega)];exact congrArg some (if_neg (by omega))
    have hL:(R8 n (R0 i j)).length=n+1:=Tv
    have hs:=Sj (n:=i) (k:=j) (by omega)
    rw [show Ci i j=Ci (i-1) j+Ci (i-1) (j-1) by
     obtain ⟨i,rfl⟩:∃ i',i=i'+1:=⟨i-1,by omega⟩
     obtain ⟨j,rfl⟩:∃ j',j=j'+1:=⟨j-1,by omega⟩
     rw [L9,Nat.add_comm];rfl] at hs
    generalize R8 n (R0 i j)=L at *
    generalize Ci (i-1) j=u at *
    generalize Ci (i-1) (j-1)=v at *
    clear ihj ih'
    refine wk 11 cz ?_
    intro h3
    simp only [setB,List.set_cons_zero]
    exact tw (ihj')
   ·obtain rfl:j=0:=by omega
    clear ihj
    refine wk 7 cz ?_
    intro h3
    exact tw (ih')
  ·obtain rfl:i=n+1:=by omega
   have at_k:(R8 n (Ci n))[k]?=some (Ci n k):=To (by omega)
   have hL:(R8 n (Ci n)).length=n+1:=Tv
   rw [Nat.add_sub_cancel]
   clear ih
   refine wk 7 cz ?_
   intro h2
   refine Ab rfl (Xn 0 rfl rfl Bm (by first|omega|(simp;omega)) fun z1 hz1=>?_)
   obtain rfl:_=z1:=Option.some.inj (at_k.symm.trans hz1)
   refine wk 2 cz ?_
   exact ge
theorem X7 {n k:Nat}(hn:n≤64):Br Tryz.prog 28 [.int .i64 n,.int .i64 k] [] [] (Rv (.tuple #[.int .i64 (Ci n k:Nat),.int .i64 0]) []):=by
 refine Ad (F:=Ye) rfl fun C=>?_
 have AAv:=AAE (n:=n) (k:=k) hn
 have hb:=Sj (n:=n) (k:=k) hn
 refine wk 11 (ct @AAv cz) ?_
 intro h1
 exact ge
theorem Mv {n k:Nat}(hn:n≤64):Br Tryz.prog 65 [.int .i64 n,.int .i64 k] [] [] (Rv (.tuple #[.int .i64 (Ci n k:Nat),.int .i64 0]) []):=by
 refine Ad (F:=Md) rfl fun C=>?_
 by_cases hk:n<k
 ·rw [Kk n k hk]
  refine wk 13 cz ?_
  intro h1 h2
  exact ge
 ·refine wk 17 cz ?_
  intro h1 h2 b1
  refine Ab rfl (Tn 0 1 rfl rfl rfl Bm ?_ ?_ ?_) --ok
  ·rfl
  ·rw [List.length_replicate];omega
  rw [show (List.replicate (n+1) 0).set 0 1=R8 n (Ci 0) by
   rw [show List.replicate (n+1) 0=R8 n (fun _=>0) by simp [R8,List.map_const'],ABV]
   exact V2 fun t _=>by cases t <;> rfl]
  simp only [setB,List.set_cons_zero]
  refine wk 3 cz ?_
  refine Ag (X:=Nat) [0,1,4,5,6] [] (fun i=>[(7,.int .i64 (i:Int))]) (fun i=>[(some b1,3,Ap .i64 (R8 n (Ci (i-1))))]) (fun _=>[]) (fun i=>1≤i∧i≤n+1) (fun i=>n+1-i) 1 [] rfl rfl rfl ⟨Nat.le_refl _,by omega⟩ (by repeat (first|exact Fr.sub_nil _|refine Fr.sub_cons rfl ?_)) rfl rfl ?_
  rintro i ⟨hi1,hi⟩ ih
  simp only [List.cons_append,List.nil_append] at hi1 hi ih ⊢
  by_cases hin:i≤n
  ·have ih':=ih (i+1) (by omega) ⟨by omega,by omega⟩
   rw [Nat.add_sub_cancel,← AE0] at ih'
   rw [← AAZ (i:=i)]
   clear ih
   refine wk 7 cz ?_
   intro h3
   refine Ag (X:=Nat) [0,1,4,5,6,7,27,28,29,32] [] (fun j=>[(8,.int .i64 (j:Int))]) (fun j=>[(some b1,3,Ap .i64 (R8 n (R0 i j)))]) (fun _=>[]) (fun j=>j≤i) (fun j=>j) i [] rfl rfl rfl (Nat.le_refl _) (by repeat (first|exact Fr.sub_nil _|refine Fr.sub_cons rfl ?_)) rfl rfl ?_
   rintro j hj ihj
   simp only [List.cons_append,List.nil_append] at hj ihj ⊢
   by_cases hj0:1≤j
   ·have ihj':=ihj (j-1) (by omega) (by omega)
    rw [← ACN hj0 hj] at ihj'
    have g1:(R8 n (R0 i j))[j]?=some (Ci (i-1) j):=by rw [To (by omega)];exact congrArg some (if_neg (by omega))
    have g2:(R8 n (R0 i j))[j-1]?=some (Ci (i-1) (j-1)):=by rw [To (by omega)];exact congrArg some (if_neg (by omega))
    have hL:(R8 n (R0 i j)).length=n+1:=Tv
    have hs:=Sj (n:=i) (k:=j) (by omega)
    rw [show Ci i j=Ci (i-1) j+Ci (i-1) (j-1) by
     obtain ⟨i,rfl⟩:∃ i',i=i'+1:=⟨i-1,by omega⟩
     obtain ⟨j,rfl⟩:∃ j',j=j'+1:=⟨j-1,by omega⟩
     rw [L9,Nat.add_comm];rfl] at hs
    generalize R8 n (R0 i j)=L at *
    generalize Ci (i-1) j=u at *
    generalize Ci (i-1) (j-1)=v at *
    clear ihj ih'
    refine wk 11 cz ?_
    intro h4
    simp only [setB,List.set_cons_zero]
    exact tw (ihj')
   ·obtain rfl:j=0:=by omega
    clear ihj
    refine wk 7 cz ?_
    intro h4
    exact tw (ih')
  ·obtain rfl:i=n+1:=by omega
   have at_k:(R8 n (Ci n))[k]?=some (Ci n k):=To (by omega)
   have hL:(R8 n (Ci n)).length=n+1:=Tv
   rw [Nat.add_sub_cancel]
   clear ih
   refine wk 7 cz ?_
   intro h3
   refine Ab rfl (Xn 0 rfl rfl Bm (by first|omega|(simp;omega)) fun z1 hz1=>?_)
   obtain rfl:_=z1:=Option.some.inj (at_k.symm.trans hz1)
   refine wk 2 cz ?_
   exact ge
def Bq:List Int→Int
 | []=>0
 | x::l=>x+Bq l
theorem Y6:∀ {l k:List Int},Bq (l++k)=Bq l+Bq k
 | [],k=>by rw [List.nil_append,Bq,Int.zero_add]
 | x::l,k=>by rw [List.cons_append,Bq,Bq,Y6];omega
theorem Cw {l:List Int}{i:Nat}{x:Int}(h:l[i]?=some x):Bq (l.take (i+1))=Bq (l.take i)+x:=by
 rw [List.take_add_one,h,Option.toList_some,Y6];simp [Bq]
theorem Yi:∀ {l:List Int},(∀ x∈l,0≤x)→0≤Bq l
 | [],_=>Int.le_refl 0
 | x::l,h=>by rw [Bq];have:=h x (.head _);have:=Yi (l:=l) fun y hy=>h y (.tail _ hy);omega
theorem Cv {l:List Int}(h:∀ x∈l,0≤x) (i:Nat):0≤Bq (l.take i)∧Bq (l.take i)≤Bq l:=by
 have h1:=Yi (l:=l.take i) fun x hx=>h x (List.mem_of_mem_take hx)
 have h2:=Yi (l:=l.drop i) fun x hx=>h x (List.mem_of_mem_drop hx)
 have h3:=Y6 (l:=l.take i) (k:=l.drop i)
 rw [List.take_append_drop] at h3
 omega
def AAb:Int→List Int→Int
 | m,[]=>m
 | m,x::l=>AAb (if x<m then x else m) l
def If:Int→List Int→Int
 | m,[]=>m
 | m,x::l=>If (if m<x then x else m) l
theorem ABq {c:Int}:∀ {m:Int}{l:List Int},AAb m l<c↔m<c∨∃ x∈l,x<c
 | m,[]=>by simp [AAb]
 | m,x::l=>by
  rw [AAb,ABq]
  constructor
  ·rintro (h|⟨y,hy,h⟩)
   ·split at h
    ·exact .inr ⟨x,.head _,h⟩
    ·exact .inl h
   ·exact .inr ⟨y,.tail _ hy,h⟩
  ·rintro (h|⟨y,hy,h⟩)
   ·left;split <;> omega
   ·rcases List.mem_cons.1 hy with rfl|hy
    ·left;split <;> omega
    ·exact .inr ⟨y,hy,h⟩
theorem Vm {c:Int}:∀ {m:Int}{l:List Int},c<If m l↔c<m∨∃ x∈l,c<x
 | m,[]=>by simp [If]
 | m,x::l=>by
  rw [If,Vm]
  constructor
  ·rintro (h|⟨y,hy,h⟩)
   ·split at h
    ·exact .inr ⟨x,.head _,h⟩
    ·exact .inl h
   ·exact .inr ⟨y,.tail _ hy,h⟩
  ·rintro (h|⟨y,hy,h⟩)
   ·left;split <;> omega
   ·rcases List.mem_cons.1 hy with rfl|hy
    ·left;split <;> omega
    ·exact .inr ⟨y,hy,h⟩
def AAJ (n:Nat):Nat→Nat
 | 0=>0
 | k+1=>min (AAJ n k+min (Ci n k) 65537) 65537
def O3 (n:Nat):Nat→Nat
 | 0=>0
 | k+1=>O3 n k+Ci n k
theorem ACq {n:Nat}:∀ {k:Nat},AAJ n k=min (O3 n k) 65537
 | 0=>by rw [AAJ,O3];omega
 | k+1=>by rw [AAJ,O3,ACq];omega
theorem AEg {n:Nat}:∀ {k d:Nat},O3 n k≤O3 n (k+d)
 | _,0=>Nat.le_refl _
 | k,d+1=>by rw [← Nat.add_assoc,O3];have:=AEg (n:=n) (k:=k) (d:=d);omega
section
variable {n t cl k c:Nat}{pl:Option Addr}{l:List Int}{x:Int}
theorem Oy (hr:∀ y∈x::l,Bf .i64 y):Br Tryz.prog 29 [.slice pl k c] [] [A2 Ak pl k c (x::l)] (Rv (.int .i64 (AAb x l)) []):=by
 refine Ad (F:=O1) rfl fun C=>?_
 refine Bd 0 rfl fun hn hb _=>?_
 subst hn
 have hb':(x::l).length*8≤140737488355328:=hb
 have hl:(x::l).length=l.length+1:=rfl
 have at_x:(x::l)[0]?=some x:=rfl
 refine wk 11 cz ?_
 intro h1 b1 o1 hz1
 refine Ab rfl (Aj 0 rfl rfl Bm fun ⟨r1,r2⟩=>?_)
 refine wk 4 cz ?_
 refine Ag (X:=Nat×Int) [0,2] [0,1] (fun y=>[(4,.int .i64 (y.1:Int)),(3,.int .i64 y.2)]) (fun _=>[]) (fun _=>[]) (fun y=>1≤y.1∧y.1≤(x::l).length∧Bf .i64 y.2∧AAb x l=AAb y.2 ((x::l).drop y.1)) (fun y=>(x::l).length-y.1) (1,x) [] rfl rfl rfl ⟨Nat.le_refl _,by dsimp only;omega,hr x (.head _),rfl⟩ (by repeat (first|exact Fr.sub_nil _|refine Fr.sub_cons rfl ?_)) rfl rfl ?_
 rintro ⟨i,m⟩ ⟨hi1,hi,hm,hg⟩ ih
 simp only [List.cons_append,List.nil_append] at hi1 hi hm hg ih ⊢
 by_cases hil:i<(x::l).length
 ·obtain ⟨y,at_y⟩:∃ y,(x::l)[i]?=some y:=⟨_,List.getElem?_eq_getElem hil⟩
  have hy:=hr y (List.mem_of_getElem? at_y)
  have e:(x::l).drop i=y::(x::l).drop (i+1):=by
   rw [List.drop_eq_getElem_cons hil];rw [List.getElem?_eq_getElem hil] at at_y;rw [Option.some.inj at_y]
  rw [e,AAb] at hg
  have ih':=ih (i+1,if y<m then y else m) (by dsimp only;omega) ⟨by dsimp only;omega,by dsimp only;omega,by dsimp only;split <;> assumption,hg⟩
  dsimp only at ih'
  clear ih
  refine wk 9 cz ?_
  intro h2 b2 o2 hz2
  refine Ab rfl (Aj 0 rfl rfl Bm fun ⟨r3,r4⟩=>?_)
  refine Ab rfl (AA9 rfl rfl ?_)
  refine wk 4 cz ?_
  exact tw (ih')
 ·obtain rfl:i=(x::l).length:=by omega
  rw [List.drop_length,AAb] at hg
  rw [hg]
  clear ih
  refine wk 9 cz ?_
  intro h2
  exact ge
theorem Ps (hr:∀ y∈x::l,Bf .i64 y):Br Tryz.prog 66 [.slice pl k c] [] [A2 Ak pl k c (x::l)] (Rv (.int .i64 (If x l)) []):=by
 refine Ad (F:=Ou) rfl fun C=>?_
 refine Bd 0 rfl fun hn hb _=>?_
 subst hn
 have hb':(x::l).length*8≤140737488355328:=hb
 have hl:(x::l).length=l.length+1:=rfl
 have at_x:(x::l)[0]?=some x:=rfl
 refine wk 11 cz ?_
 intro h1 b1 o1 hz1
 refine Ab rfl (Aj 0 rfl rfl Bm fun ⟨r1,r2⟩=>?_)
 refine wk 4 cz ?_
 refine Ag (X:=Nat×Int) [0,2] [0,1] (fun y=>[(4,.int .i64 (y.1:Int)),(3,.int .i64 y.2)]) (fun _=>[]) (fun _=>[]) (fun y=>1≤y.1∧y.1≤(x::l).length∧Bf .i64 y.2∧If x l=If y.2 ((x::l).drop y.1)) (fun y=>(x::l).length-y.1) (1,x) [] rfl rfl rfl ⟨Nat.le_refl _,by dsimp only;omega,hr x (.head _),rfl⟩ (by repeat (first|exact Fr.sub_nil _|refine Fr.sub_cons rfl ?_)) rfl rfl ?_
 rintro ⟨i,m⟩ ⟨hi1,hi,hm,hg⟩ ih
 simp only [List.cons_append,List.nil_append] at hi1 hi hm hg ih ⊢
 by_cases hil:i<(x::l).length
 ·obtain ⟨y,at_y⟩:∃ y,(x::l)[i]?=some y:=⟨_,List.getElem?_eq_getElem hil⟩
  have hy:=hr y (List.mem_of_getElem? at_y)
  have e:(x::l).drop i=y::(x::l).drop (i+1):=by
   rw [List.drop_eq_getElem_cons hil];rw [List.getElem?_eq_getElem hil] at at_y;rw [Option.some.inj at_y]
  rw [e,If] at hg
  have ih':=ih (i+1,if m<y then y else m) (by dsimp only;omega) ⟨by dsimp only;omega,by dsimp only;omega,by dsimp only;split <;> assumption,hg⟩
  dsimp only at ih'
  clear ih
  refine wk 9 cz ?_
  intro h2 b2 o2 hz2
  refine Ab rfl (Aj 0 rfl rfl Bm fun ⟨r3,r4⟩=>?_)
  refine Ab rfl (AKH rfl rfl ?_)
  refine wk 4 cz ?_
  exact tw (ih')
 ·obtain rfl:i=(x::l).length:=by omega
  rw [List.drop_length,If] at hg
  rw [hg]
  clear ih
  refine wk 9 cz ?_
  intro h2
  exact ge
theorem Ra (hn:n≤64) (ht:t≤n):Br Tryz.prog 32 [.int .i64 n,.int .i64 t] [] [] (Rv (.int .i64 (AAJ n (t+1):Nat)) []):=by
 refine Ad (F:=Re) rfl fun C=>?_
 refine wk 7 cz ?_
 refine Ag (X:=Nat) [0,1,4] [] (fun k=>[(6,.int .i64 (k:Int)),(5,.int .i64 (AAJ n k:Nat))]) (fun _=>[]) (fun _=>[]) (fun k=>k≤t+1) (fun k=>t+1-k) 0 [] rfl rfl rfl (Nat.zero_le _) (by repeat (first|exact Fr.sub_nil _|refine Fr.sub_cons rfl ?_)) rfl rfl ?_
 rintro k hk ih
 simp only [List.cons_append,List.nil_append] at hk ih ⊢
 have hs:AAJ n k≤65537:=by cases k <;> rw [AAJ] <;> omega
 by_cases hkt:k≤t
 ·have ih':=ih (k+1) (by omega) (by omega)
  have hb:=Sj (n:=n) (k:=k) hn
  have Mi:=Mv (n:=n) (k:=k) hn
  rw [AAJ] at ih'
  generalize AAJ n k=s at *
  generalize Ci n k=b at *
  clear ih
  refine wk 15 (ct @Mi cz) ?_
  intro h1 h2
  refine Ab rfl (AA9 rfl rfl ?_)
  refine wk 3 cz ?_
  refine Ab rfl (AA9 rfl rfl ?_)
  refine wk 4 cz ?_
  rw [show (if (65537:Int)<↑s+(if (65537:Int)<↑b then 65537 else ↑b) then 65537 else ↑s+(if (65537:Int)<↑b then 65537 else ↑b))=((min (s+min b 65537) 65537:Nat):Int) by (repeat' split) <;> omega]
  exact tw (ih')
 ·obtain rfl:k=t+1:=by omega
  clear ih
  refine wk 12 cz ?_
  intro h1
  exact ge
end
open Go Go.Fw
set_option maxRecDepth 100000
set_option linter.unusedVariables false
set_option linter.unusedSimpArgs false
set_option maxHeartbeats 0
theorem Pn {p m nm cm:Nat}{a:Int}{pm pu:Option Addr}{nu cu:Nat}{u md:List Int}(K:Fok p m md) (a0:0≤a) (a1:a<((p ^ m:Nat):Int)) (hu:∀ x∈u,0≤x∧x<((p ^ m:Nat):Int)) :
  Br Tryz.prog 153 [.agg #[.int .i64 p,.int .i64 m,.slice pm nm cm],.int .i64 a,.slice pu nu cu] [] [A2 Ak pm nm cm md,A2 Ak pu nu cu u] (RwI nu (B3 (Aq (fM p (Cc m md))) a u)):=by
 refine Ad (F:=O6) rfl fun C=>?_
 refine Bd 1 rfl fun hn hb _=>?_
 subst hn
 have hb':u.length*8≤140737488355328:=hb
 have Cm:=fun {nm cm:Nat}{pm:Option Addr}{x y:Int}=>Gf (nm:=nm) (cm:=cm) (pm:=pm) (x:=x) (y:=y) K
 have hml:=fun x (h:x∈u)=>K.fi.ml a x a0 a1 (hu x h).1 (hu x h).2
 have hq:=K.q
 generalize Aq (fM p (Cc m md))=M at *
 generalize p ^ m=q at *
 refine wk 11 cz ?_
 intro b1 b2
 rw [show Ap .i64 (List.replicate u.length 0)=Az .i64 ((B3 M a u).take 0++List.replicate (u.length-0) 0) by simp [Ap,Az]]
 refine Ag (X:=Nat) [1,2,3,6,7] [0,1] (fun i=>[(8,.int .i64 (i:Int))]) (fun i=>(some b2,3,Az .i64 ((B3 M a u).take i++List.replicate (u.length-i) 0))::_) (fun _=>[]) (fun i=>i≤u.length) (fun i=>u.length-i) 0 [] rfl rfl rfl (Nat.zero_le _) (by repeat (first|exact Fr.sub_nil _|refine Fr.sub_cons rfl ?_)) rfl rfl ?_
 rintro i hi ih
 simp only [List.cons_append,List.nil_append] at hi ih ⊢
 by_cases h9:i<u.length
 ·obtain ⟨x,at_x⟩:∃ x,u[i]?=some x:=⟨_,List.getElem?_eq_getElem h9⟩
  have ex:u.getD i default=x:=by rw [List.getD_eq_getElem?_getD,at_x];rfl
  have hx:=hu x (List.mem_of_getElem? at_x)
  have hm:=hml x (List.mem_of_getElem? at_x)
  obtain ⟨hx0,hx1⟩:=hx
  have ih':=ih (i+1) (by omega) (by omega)
  have eT:(B3 M a u)[i]?=some (M a (u.getD i default)):=by rw [B3,List.getElem?_map,at_x,ex];rfl
  rw [← take_set eT h9] at ih'
  have hln:((B3 M a u).take i++List.replicate (u.length-i) 0).length=u.length:=by simp [B3];omega
  generalize (B3 M a u).take i++List.replicate (u.length-i) 0=L at *
  rw [← ex] at hm
  refine wk 13 (ct @Cm cz) ?_
  intro h1 b3 o1
  exact tw (ih')
 ·obtain rfl:i=u.length:=by omega
  rw [Nat.sub_self,List.replicate_zero,List.append_nil,List.take_of_length_le (by simp [B3])]
  refine wk 9 cz ?_
  intro h1
  have hall:∀ z∈B3 M a u,Bf .i64 z:=fun z hz=>by
   obtain ⟨y,hy,rfl⟩:=List.mem_map.1 hz
   have:=hml y hy
   simp only [Bf];omega
  have hln:(B3 M a u).length=u.length:=by simp [B3]
  generalize B3 M a u=L at *
  refine Ow 0 rfl hln.symm hall (by omega) ?_
  refine B0 2 [0] [0] rfl (.tmp rfl .nil) rfl rfl rfl ⟨⟨some b2,u.length,Az .i64 L⟩,rfl,rfl,rfl⟩
theorem P7 {p m nm cm n:Nat}{a:Int}{pm pu pv:Option Addr}{nu cu nv cv:Nat}{u v md:List Int}(K:Fok p m md) (a0:0≤a) (a1:a<((p ^ m:Nat):Int)) (hu:Wd (p ^ m) n u) (hv:Wd (p ^ m) n v) :
  Br Tryz.prog 75 [.agg #[.int .i64 p,.int .i64 m,.slice pm nm cm],.slice pv nv cv,.int .i64 a,.slice pu nu cu] [] [A2 Ak pm nm cm md,A2 Ak pv nv cv v,A2 Ak pu nu cu u] (RwI n (Gw (Aq (fA p m)) (Aq (fM p (Cc m md))) a u v)):=by
 refine Ad (F:=P4) rfl fun C=>?_
 refine Bd 1 rfl fun hn hb _=>?_
 refine Bd 2 rfl fun hn2 hb2 _=>?_
 have hul:=hu.1
 have hvl:=hv.1
 have hb':v.length*8≤140737488355328:=hn▸hb
 rw [hvl] at hn hb'
 rw [hul] at hn2
 subst hn
 subst hn2
 have FF:=K.fi
 have Cm:=fun {nm cm:Nat}{pm:Option Addr}{x y:Int}=>Gf (nm:=nm) (cm:=cm) (pm:=pm) (x:=x) (y:=y) K
 have R2:=fun {nm cm:Nat}{pm:Option Addr}{x y:Int}=>R1 (nm:=nm) (cm:=cm) (pm:=pm) (x:=x) (y:=y) K
 have hT:=FF.axw a0 a1 hu hv
 have hq:=K.q
 generalize Aq (fM p (Cc m md))=M at *
 generalize Aq (fA p m)=A0 at *
 generalize p ^ m=q at *
 have hTa:∀ (i:Nat) (x y:Int),u[i]?=some x→v[i]?=some y→(Gw A0 M a u v)[i]?=some (A0 y (M a x)):=fun i x y h1 h2=>by rw [Gw,List.getElem?_zipWith,h1,h2]
 generalize Gw A0 M a u v=T at *
 have hTl:=hT.1
 refine wk 11 cz ?_
 intro b1 b2
 rw [show Ap .i64 (List.replicate nu 0)=Az .i64 (T.take 0++List.replicate (nu-0) 0) by simp [Ap,Az]]
 refine Ag (X:=Nat) [1,2,3,4,8,9] [0,1,2] (fun i=>[(10,.int .i64 (i:Int))]) (fun i=>(some b2,3,Az .i64 (T.take i++List.replicate (nu-i) 0))::_) (fun _=>[]) (fun i=>i≤nu) (fun i=>nu-i) 0 [] rfl rfl rfl (Nat.zero_le _) (by repeat (first|exact Fr.sub_nil _|refine Fr.sub_cons rfl ?_)) rfl rfl ?_
 rintro i hi ih
 simp only [List.cons_append,List.nil_append] at hi ih ⊢
 by_cases h9:i<nu
 ·obtain ⟨x,at_x⟩:∃ x,u[i]?=some x:=⟨_,List.getElem?_eq_getElem (by omega)⟩
  obtain ⟨y,at_y⟩:∃ y,v[i]?=some y:=⟨_,List.getElem?_eq_getElem (by omega)⟩
  have ex:u.getD i default=x:=by rw [List.getD_eq_getElem?_getD,at_x];rfl
  have ey:v.getD i default=y:=by rw [List.getD_eq_getElem?_getD,at_y];rfl
  obtain ⟨x0,x1⟩:=hu.2 x (List.mem_of_getElem? at_x)
  obtain ⟨y0,y1⟩:=hv.2 y (List.mem_of_getElem? at_y)
  obtain ⟨m0,m1⟩:=FF.ml a x a0 a1 x0 x1
  have eT:=hTa i x y at_x at_y
  obtain ⟨t0,t1⟩:=hT.2 _ (List.mem_of_getElem? eT)
  have ih':=ih (i+1) (by omega) (by omega)
  have hln:(T.take i++List.replicate (nu-i) 0).length=nu:=by rw [List.length_append,List.length_take,List.length_replicate];omega
  by_cases h0:x=0
  ·rw [h0,FF.m0 a0 a1,FF.a0 y y0 y1] at eT
   rw [← take_set eT h9] at ih'
   generalize T.take i++List.replicate (nu-i) 0=L at *
   refine wk 9 cz ?_
   intro h1 b3 o1 hz1
   refine Ab rfl (Aj 0 rfl rfl Bm fun ⟨r1,r2⟩=>?_)
   refine wk 5 cz ?_
   intro b4 o2 hz2
   refine Ab rfl (Aj 0 rfl rfl Bm fun ⟨r3,r4⟩=>?_)
   refine wk 6 cz ?_
   intro h2
   exact tw (ih')
  ·rw [← ex,← ey] at eT t0 t1
   rw [← ex] at m0 m1
   rw [← take_set eT h9,← List.set_set (i:=i) (a:=y)] at ih'
   generalize T.take i++List.replicate (nu-i) 0=L at *
   refine wk 9 cz ?_
   intro h1 b3 o1 hz1
   refine Ab rfl (Aj 0 rfl rfl Bm fun ⟨r1,r2⟩=>?_)
   refine wk 5 cz ?_
   intro b4 o2 hz2
   refine Ab rfl (Aj 0 rfl rfl Bm fun ⟨r3,r4⟩=>?_)
   refine wk 5 (ct @Cm (ct @R2 cz)) ?_
   intro h2 b5 o3 b6 o4
   refine Ab rfl (AAM 0 rfl rfl rfl Bm (by first|omega|(simp;omega)) ?_)
   refine wk 3 cz ?_
   exact tw (ih')
 ·obtain rfl:i=nu:=by omega
  rw [Nat.sub_self,List.replicate_zero,List.append_nil,List.take_of_length_le (by omega)]
  refine wk 9 cz ?_
  intro h1
  refine Ow 0 rfl hTl.symm (fun z hz=>by have:=hT.2 z hz;simp only [Bf];omega) (by omega) ?_
  refine B0 2 [0] [0] rfl (.tmp rfl .nil) rfl rfl rfl ⟨⟨some b2,_,Az .i64 T⟩,rfl,rfl,rfl⟩
abbrev ElR (n:Nat) (E:List (List Int)×List Nat):Value→List Fact→List Bb→Prop:=fun v Φ β=>∃ (pb pp:Option Addr) (cb cp:Nat),v = .tuple #[.slice pb n cb,.slice pp E.2.length cp]
 ∧ Φ=[A2 (Ar Ak) pb n cb E.1,A2 Ak pp E.2.length cp (Bz E.2)]∧β=[]
theorem Ld {p m n N W nm cm c:Nat}{pm ps:Option Addr}{Aa:List (List Int)}{md:List Int}(K:Fok p m md) (hn:n≤1000000) (hNW:N≤W) (hW:W≤1000000) (hl:Aa.length=n) (hM:Fc (p ^ m) W Aa) :
  Br Tryz.prog 131 [.agg #[.int .i64 p,.int .i64 m,.slice pm nm cm],.slice ps n c,.int .i64 N] [] [A2 Ak pm nm cm md,A2 (Ar Ak) ps n c Aa] (ElR n (Sg p m md N 0 0 Aa)):=by
 refine Ad (F:=Gg) rfl fun C=>?_
 have O:=Y3 K
 have hq:=K.q
 have q2:=O.q2
 subst hl
 generalize hEE:Sg p m md N 0 0 Aa=EE
 have Iq:=fun {ps:Option Addr}{n c:Nat}=>Rd (ps:=ps) (n:=n) (c:=c) (Aa:=Aa) fun r hr=>by rw [(hM r hr).1];exact hW
 have hb0:Aa.length*24≤140737488355328:=by omega
 rcases Nat.eq_zero_or_pos Aa.length with hn0|hn0
 ·have hr0:=List.length_eq_zero_iff.1 hn0
  subst hr0
  rw [Sg,Ln _ _ _ _ (Nat.zero_le _)] at hEE
  subst hEE
  refine wk 14 (ct @Iq cz) ?_
  intro b1 r1
  refine Jj Ak 3 ?_
  refine Ag (X:=Unit) [2,3,6,7,8] [0,1,2,3] (fun _=>[(11,.int .i64 0),(10,.int .i64 0),(9,.slice none 0 0)]) (fun _=>_) (fun _=>[]) (fun _=>True) (fun _=>0) () [] rfl rfl rfl trivial (by repeat (first|exact Fr.sub_nil _|refine Fr.sub_cons rfl ?_)) rfl rfl ?_
  rintro ⟨⟩-ih
  simp only [List.cons_append,List.nil_append] at ih ⊢
  refine Ev 0 0 rfl rfl (by show 0*8≤140737488355328;omega) ?_
  refine Ev 0 2 rfl rfl (by show 0*24≤140737488355328;omega) ?_
  rcases Nat.eq_zero_or_pos N with hN0|hN0
  ·subst hN0
   refine wk 7 cz ?_
   refine Gl [0,1] rfl rfl rfl ⟨_,_,_,_,rfl,rfl,rfl⟩
  ·refine wk 14 cz ?_
   intro h1 h2
   refine Gl [0,1] rfl rfl rfl ⟨_,_,_,_,rfl,rfl,rfl⟩
 refine wk 14 (ct @Iq cz) ?_
 intro b1 r1
 refine Eu 0 rfl hn0 fun bh caph csh hr=>?_
 subst hr
 dsimp only
 refine Jj Ak 3 ?_
 refine Ag (X:=Nat×List Value×Row×List (List Int)×List Nat) [2,3,6,7,8] [2] (fun x=>[(11,.int .i64 (x.1:Int)),(10,.int .i64 (x.2.2.2.2.length:Int)),(9,.slice (ad x.2.2.1.bo) x.2.2.2.2.length x.2.2.1.cap)])
  (fun x=>(x.2.2.1.bo,3,x.2.2.1.cs)::(some bh,22,x.2.1)::_)
  (fun x=>[Aw Ak x.2.2.1 x.2.2.2.2.length (Bz x.2.2.2.2),Aw (Ar Ak) ⟨some bh,caph,x.2.1⟩ Aa.length x.2.2.2.1])
  (fun x=>x.1≤N∧x.2.2.2.1.length=Aa.length∧Fc (p ^ m) W x.2.2.2.1∧x.2.2.2.2.length≤Aa.length∧(Sg p m md (N-x.1) x.1 x.2.2.2.2.length x.2.2.2.1).1=EE.1∧x.2.2.2.2++(Sg p m md (N-x.1) x.1 x.2.2.2.2.length x.2.2.2.1).2=EE.2) (fun x=>N-x.1)
  (0,csh,⟨none,0,[]⟩,Aa,[]) [0,1] rfl rfl rfl ⟨Nat.zero_le _,rfl,hM,Nat.zero_le _,congrArg Prod.fst hEE,congrArg Prod.snd hEE⟩ (by repeat (first|exact Fr.sub_nil _|refine Fr.sub_cons rfl ?_)) rfl rfl ?_
 clear hEE
 generalize hnn:Aa.length=n at *
 rintro ⟨c,ch,rp,L,pv⟩ ⟨hcN,hL,hLM,hpv,hE1,hE2⟩ ih
 simp only [List.cons_append,List.nil_append] at hcN hL hLM hpv hE1 hE2 ih ⊢
 by_cases hcl:c<N
 ·by_cases hpl:pv.length<n
  ·have hrl:∀ k,k<n→(A7 L k).length=W:=fun k hk=>(hLM.row (by omega)).1
   have hra:∀ k,k<n→L[k]?=some (A7 L k):=fun k hk=>by rw [A7,List.getD_eq_getElem?_getD,List.getElem?_eq_getElem (by omega)];rfl
   have hre:∀ k,k<n→(A7 L k)[c]?=some (en L k c):=fun k hk=>by
    rw [en,An,List.getD_eq_getElem?_getD,List.getElem?_eq_getElem (by rw [hrl k hk];omega)];rfl
   have hen:∀ k,k<n→0≤en L k c∧en L k c<((p ^ m:Nat):Int):=fun k hk=>Bo (by omega) (hLM.row (by omega)) c
   refine wk 14 cz ?_
   intro h1 h2
   refine Ag (X:=Nat) [2,3,6,7,8,9,10,11,16,17,18,19,20,21,22,23,24,27] [0,1,2] (fun k=>[(12,.int .i64 (k:Int))]) (fun _=>_) (fun _=>[]) (fun k=>pv.length≤k∧k≤n∧∀ j,pv.length≤j→j<k→en L j c=0) (fun k=>n-k) pv.length [] rfl rfl rfl ⟨Nat.le_refl _,hpv,fun j h1 h2=>by omega⟩ (by repeat (first|exact Fr.sub_nil _|refine Fr.sub_cons rfl ?_)) rfl rfl ?_
   rintro k ⟨hk1,hk2,hk3⟩ ihk
   simp only [List.cons_append,List.nil_append] at hk1 hk2 hk3 ihk ⊢
   by_cases hkn:k<n
   ·have at_u:=hra k hkn
    have at_z:=hre k hkn
    have hru:=hrl k hkn
    by_cases hz0:en L k c=0
    ·rw [hz0] at at_z
     refine wk 8 cz ?_
     intro h3
     refine Bg rfl rfl (Hu 1 1 (k) rfl rfl rfl Ez rfl (by omega) fun z1 hz1 pa1 ca1=>?_)
     obtain rfl:_=z1:=Option.some.inj (at_u.symm.trans hz1)
     refine wk 2 cz ?_
     intro b2 o1 hz2
     refine Bg rfl rfl (Aj 0 rfl rfl Bm fun ⟨r1,r2⟩=>?_)
     refine wk 6 cz ?_
     intro h4
     exact tw (ihk (k+1) (by omega) ⟨by omega,by omega,fun j h1 h2=>by
      rcases Nat.lt_succ_iff_lt_or_eq.1 h2 with h|rfl
      ·exact hk3 j h1 h
      ·exact hz0⟩)
    ·clear ihk
     have hrt:=hra pv.length hpl
     obtain ⟨e0,e1⟩:=hen k hkn
     obtain ⟨⟨v0,v1⟩,hiv⟩:=O.iv _ e0 e1 hz0
     have hSl:(Df L pv.length k).length=n:=by rw [Df,List.length_set,List.length_set,hL]
     have hSW:∀ i,i<n→Wd (p ^ m) W (A7 (Df L pv.length k) i):=fun i hi=>Qr hLM (by omega) (by omega) (by omega)
     have hSra:∀ i,i<n→(Df L pv.length k)[i]?=some (A7 (Df L pv.length k) i):=fun i hi=>by rw [A7,List.getD_eq_getElem?_getD,List.getElem?_eq_getElem (by omega)];rfl
     have hSt:A7 (Df L pv.length k) pv.length=A7 L k:=by
      rw [Gy (by omega) (by omega)]
      split
      ·rename_i e;rw [← e]
      ·rw [if_pos rfl]
     have at_v:=hSra pv.length hpl
     rw [hSt,Df] at at_v
     have hrk:=hrl k hkn
     have ek:(A7 L k).getD c default=en L k c:=Rg at_z
     have key:∀ ch':List Value,J Gg C [It.c (pL 128159),It.blk 1,It.c (pL 2003),It.lp (pL 500),It.blk 0,It.c [1,1,1,1,1]]
       [(2,.int .i64 N),(3,.pointer (some ⟨b1,0,none⟩)),(6,.slice none 0 0),(7,.slice none 0 0),(8,.slice (ad (some bh)) n caph),(9,.slice (ad rp.bo) pv.length rp.cap),(10,.int .i64 (pv.length:Int)),(11,.int .i64 (c:Int))]
       [(rp.bo,3,rp.cs),(some bh,22,ch'),(some b1,24,[.int .i64 p,.int .i64 m,.slice pm nm cm])]
       [Aw Ak rp pv.length (Bz pv),Aw (Ar Ak) ⟨some bh,caph,ch'⟩ n ((Df L pv.length k).set pv.length (B3 (Aq (fM p (Cc m md))) (Hr p m md (en L k c)) (A7 L k))),A2 Ak pm nm cm md] (Ga C (ElR n EE)):=by
      intro ch'
      clear at_v at_u at_z hrt hrk ek
      have hprW:Wd (p ^ m) W (B3 (Aq (fM p (Cc m md))) (Hr p m md (en L k c)) (A7 L k)):=O.scl_wd v0 v1 (hLM.row (by omega))
      have hpiv:Ny (Aq (fA p m)) (Aq (fM p (Cc m md))) (Gx p m) (Hr p m md) pv.length k c L=(List.range n).map fun i=>if i=pv.length then B3 (Aq (fM p (Cc m md))) (Hr p m md (en L k c)) (A7 L k) else Gw (Aq (fA p m)) (Aq (fM p (Cc m md))) (Gx p m (en (Df L pv.length k) i c)) (B3 (Aq (fM p (Cc m md))) (Hr p m md (en L k c)) (A7 L k)) (A7 (Df L pv.length k) i):=by rw [Ny,hL]
      have hpM:=O.piv_wd hLM (show pv.length<L.length by omega) (show k<L.length by omega) hz0
      have hf:Jg L pv.length c=some k:=AC7 hk1 (by omega) hz0 fun j h1 h2=>hk3 j h1 h2
      rw [Sg,show N-c=(N-(c+1))+1 by omega,Ea,hf] at hE1 hE2
      have hE1':(Sg p m md (N-(c+1)) (c+1) (pv.length+1) (Ny (Aq (fA p m)) (Aq (fM p (Cc m md))) (Gx p m) (Hr p m md) pv.length k c L)).1=EE.1:=hE1
      have hE2':pv++c::(Sg p m md (N-(c+1)) (c+1) (pv.length+1) (Ny (Aq (fA p m)) (Aq (fM p (Cc m md))) (Gx p m) (Hr p m md) pv.length k c L)).2=EE.2:=hE2
      have hpM':Fc (p ^ m) W (Ny (Aq (fA p m)) (Aq (fM p (Cc m md))) (Gx p m) (Hr p m md) pv.length k c L):=hpM
      have hplen:(Ny (Aq (fA p m)) (Aq (fM p (Cc m md))) (Gx p m) (Hr p m md) pv.length k c L).length=n:=by rw [J1,hL]
      clear hE1 hE2 hpM
      generalize Ny (Aq (fA p m)) (Aq (fM p (Cc m md))) (Gx p m) (Hr p m md) pv.length k c L=PV at *
      generalize B3 (Aq (fM p (Cc m md))) (Hr p m md (en L k c)) (A7 L k)=pr at *
      have hSen:∀ i,i<n→0≤en (Df L pv.length k) i c∧en (Df L pv.length k) i c<((p ^ m:Nat):Int):=fun i hi=>Bo (by omega) (hSW i hi) c
      have hSre:∀ i,i<n→(A7 (Df L pv.length k) i)[c]?=some (en (Df L pv.length k) i c):=fun i hi=>by
       rw [en,An,List.getD_eq_getElem?_getD,List.getElem?_eq_getElem (by rw [(hSW i hi).1];omega)];rfl
      clear hSt hre hen hra hrl hf hz0 e0 e1 hiv v0 v1 hk3 hLM
      generalize Df L pv.length k=S at *
      let CL:Nat→List (List Int):=fun i=>(List.range n).map fun j=>if j=pv.length then pr else if j<i then Gw (Aq (fA p m)) (Aq (fM p (Cc m md))) (Gx p m (en S j c)) pr (A7 S j) else A7 S j
      have hCl:∀ i,(CL i).length=n:=fun i=>by simp [CL]
      have hCa:∀ i j,j<n→(CL i)[j]?=some (if j=pv.length then pr else if j<i then Gw (Aq (fA p m)) (Aq (fM p (Cc m md))) (Gx p m (en S j c)) pr (A7 S j) else A7 S j):=fun i j hj=>by
       show ((List.range n).map _)[j]?=_
       rw [List.getElem?_map,List.getElem?_range hj];rfl
      have hC0:S.set pv.length pr=CL 0:=by
       refine List.ext_getElem? fun j=>?_
       by_cases hj:j<n
       ·rw [hCa 0 j hj,List.getElem?_set]
        by_cases e:pv.length=j
        ·rw [if_pos e,if_pos (by omega),if_pos e.symm]
        ·rw [if_neg e,if_neg (fun h=>e h.symm),if_neg (by omega),hSra j hj]
       ·rw [List.getElem?_eq_none (by rw [List.length_set];omega),List.getElem?_eq_none (by rw [hCl];omega)]
      have hCn:CL n=PV:=by
       rw [hpiv]
       refine List.map_congr_left fun j hj=>?_
       have:=List.mem_range.1 hj
       by_cases e:j=pv.length
       ·rw [if_pos e,if_pos e]
       ·rw [if_neg e,if_neg e,if_pos this]
      have hCt:∀ i,(CL i)[pv.length]?=some pr:=fun i=>by rw [hCa i _ hpl,if_pos rfl]
      have hCi:∀ i,i<n→i≠pv.length→(CL i)[i]?=some (A7 S i):=fun i hi e=>by rw [hCa i i hi,if_neg e,if_neg (Nat.lt_irrefl i)]
      have hCsame:∀ i,i<n→(i=pv.length∨en S i c=0)→CL (i+1)=CL i:=fun i hi h=>by
       refine List.map_congr_left fun j hj=>?_
       have hjn:=List.mem_range.1 hj
       by_cases e:j=pv.length
       ·rw [if_pos e,if_pos e]
       ·rw [if_neg e,if_neg e]
        by_cases e2:j<i
        ·rw [if_pos e2,if_pos (by omega)]
        ·rw [if_neg e2]
         by_cases e3:j=i
         ·subst e3
          rcases h with h|h
          ·exact absurd h e
          ·have n0:Gx p m 0=0:=O.n0
           rw [if_pos (by omega),h,n0,AGC O.fi hprW (hSW j hjn)]
         ·rw [if_neg (by omega)]
      have hCset:∀ i,i<n→i≠pv.length→CL (i+1)=(CL i).set i (Gw (Aq (fA p m)) (Aq (fM p (Cc m md))) (Gx p m (en S i c)) pr (A7 S i)):=fun i hi e=>by
       refine List.ext_getElem? fun j=>?_
       by_cases hj:j<n
       ·rw [hCa _ j hj,List.getElem?_set]
        by_cases e2:i=j
        ·subst e2
         rw [if_neg e,if_pos (Nat.lt_succ_self i),if_pos rfl,if_pos (by rw [hCl];exact hi)]
        ·rw [if_neg e2,hCa i j hj]
         by_cases e3:j=pv.length
         ·rw [if_pos e3,if_pos e3]
         ·rw [if_neg e3,if_neg e3]
          by_cases e4:j<i
          ·rw [if_pos e4,if_pos (by omega)]
          ·rw [if_neg e4,if_neg (by omega)]
       ·rw [List.getElem?_eq_none (by rw [hCl];omega),List.getElem?_eq_none (by rw [List.length_set,hCl];omega)]
      clear_value CL
      rw [hC0]
      refine wk 3 cz ?_
      refine Ag (X:=Nat×List Value) [2,3,6,7,8,9,10,11] [0,1,2] (fun x=>[(13,.int .i64 (x.1:Int))]) (fun x=>(rp.bo,3,rp.cs)::(some bh,22,x.2)::_) (fun x=>[Aw (Ar Ak) ⟨some bh,caph,x.2⟩ n (CL x.1)]) (fun x=>x.1≤n) (fun x=>n-x.1) (0,ch') [1] rfl rfl rfl (Nat.zero_le _) (by repeat (first|exact Fr.sub_nil _|refine Fr.sub_cons rfl ?_)) rfl rfl ?_
      rintro ⟨i,ch2⟩ hi ihi
      simp only [List.cons_append,List.nil_append] at hi ihi ⊢
      by_cases hin:i<n
      ·by_cases hit:i=pv.length
       ·have ih':=fun ch=>ihi (i+1,ch) (by dsimp only;omega) (by dsimp only;omega)
        simp only [hCsame i hin (.inl hit)] at ih'
        refine wk 18 cz ?_
        intro h3 h4
        exact tw (ih' ch2)
       ·have at_w:=hCi i hin hit
        have at_x:=hSre i hin
        have hwl:=(hSW i hin).1
        by_cases hx0:en S i c=0
        ·have ih':=fun ch=>ihi (i+1,ch) (by dsimp only;omega) (by dsimp only;omega)
         simp only [hCsame i hin (.inr hx0)] at ih'
         refine wk 14 cz ?_
         intro h3 h4
         refine Bg rfl rfl (Hu 1 0 (i) rfl rfl rfl Ez rfl (by omega) fun z1 hz1 pa1 ca1=>?_)
         obtain rfl:_=z1:=Option.some.inj (at_w.symm.trans hz1)
         refine wk 2 cz ?_
         intro b2 o1 hz2
         refine Bg rfl rfl (Aj 0 rfl rfl Bm fun ⟨r1,r2⟩=>?_)
         refine wk 6 cz ?_
         intro h5
         exact tw (ih' ch2)
        ·have ih':=fun ch=>ihi (i+1,ch) (by dsimp only;omega) (by dsimp only;omega)
         simp only [hCset i hin hit] at ih'
         have at_p:=hCt i
         have ex:(A7 S i).getD c default=en S i c:=Rg at_x
         obtain ⟨x0,x1⟩:=hSen i hin
         obtain ⟨⟨g0,g1⟩,-⟩:=O.ng _ x0 x1
         have hneg:0≤((nP p m ((A7 S i).getD c default).toNat:Nat):Int)∧((nP p m ((A7 S i).getD c default).toNat:Nat):Int)<((p ^ m:Nat):Int):=by rw [ex];exact ⟨g0,g1⟩
         have R6:=fun {nm cm:Nat}{pm:Option Addr}{x:Int}=>Rs (nm:=nm) (cm:=cm) (pm:=pm) (x:=x) K
         have Oz:=fun {nm cm nu cu nv cv:Nat}{pm pu pv:Option Addr}{a:Int}(a0:0≤a) (a1:a<((p ^ m:Nat):Int))=>(P7 (nm:=nm) (cm:=cm) (pm:=pm) (pu:=pu) (nu:=nu) (cu:=cu) (pv:=pv) (nv:=nv) (cv:=cv) (a:=a) K a0 a1 hprW (hSW i hin)).pubR (by show W*8≤140737488355328;omega)
         refine wk 14 cz ?_
         intro h3 h4
         refine Bg rfl rfl (Hu 1 0 (i) rfl rfl rfl Ez rfl (by omega) fun z1 hz1 pa1 ca1=>?_)
         obtain rfl:_=z1:=Option.some.inj (at_w.symm.trans hz1)
         refine wk 2 cz ?_
         intro b2 o1 hz2
         refine Bg rfl rfl (Aj 0 rfl rfl Bm fun ⟨r1,r2⟩=>?_)
         refine wk 5 (ct @R6 (ct @Oz cz)) ?_
         intro h5 pa2 ca2 pa3 ca3 b3 o2 pa4 ca4 pa5 ca5
         refine Ab rfl (Cb (vs:=[Value.slice pa5 W ca5]) (z:=Gw (Aq (fA p m)) (Aq (fM p (Cc m md))) (↑(nP p m ((A7 S i).getD c default).toNat)) pr (A7 S i)) 1 7 (i) rfl rfl rfl rfl rfl Ez (Nat.mul_one _).symm (by omega) (fun w A hG=>(Ew (hG _ (Al (n:=0) rfl)))) fun cs1=>?_)
         refine wk 3 cz ?_
         rw [ex]
         exact tw (ih' cs1)
      ·obtain rfl:i=n:=by omega
       rw [hCn]
       clear ihi hC0 hCn hCt hCi hCsame hCset hCa hCl
       refine wk 9 cz ?_
       intro h3 b2
       refine Ab rfl (Ik (z:=(↑c:Int)) 1 0 1 rfl rfl rfl rfl rfl Bj Hb rfl (fun w A hG=>(Bh (by first|(simp only [Bf];omega)|(simp [Bf];done)))) (by omega) _ Iy (by omega) fun r1=>?_)
       refine wk 6 cz ?_
       have ih':=fun ch rp=>ih (c+1,ch,rp,PV,pv++[c]) (by dsimp only;omega) ⟨by dsimp only;omega,hplen,hpM',by rw [List.length_append,List.length_singleton];omega,by rw [List.length_append,List.length_singleton];exact hE1',by rw [List.length_append,List.length_singleton,List.append_assoc];exact hE2'⟩
       have et:Bz (pv++[c])=Bz pv++[(c:Int)]:=by simp [Bz]
       simp only [et,List.length_append,List.length_singleton] at ih'
       refine S2 [true,false,true,true] [0,1,4] (by exact Zr rfl) rfl rfl (ih' ch2 r1)
     by_cases h1:en L k c=1
     ·have hV:Hr p m md (en L k c)=1:=by
       rw [h1] at hiv v0 v1 ⊢
       have v0':0≤Hr p m md 1:=v0
       have v1':Hr p m md 1<((p ^ m:Nat):Int):=v1
       have h2:Aq (fM p (Cc m md)) 1 (Hr p m md 1)=1:=hiv
       rw [O.fi.mc 1 _ (by omega) (by omega) v0' v1',O.fi.m1 _ v0' v1'] at h2
       exact h2
      have hs1:(Df L pv.length k).set pv.length (B3 (Aq (fM p (Cc m md))) (Hr p m md (en L k c)) (A7 L k))=(L.set pv.length (A7 L k)).set k (A7 L pv.length):=by
       rw [hV,AEV O.fi (hLM.row (by omega))]
       obtain ⟨h2,h3⟩:=List.getElem?_eq_some_iff.1 at_v
       refine List.ext_getElem? fun j=>?_
       rw [List.getElem?_set]
       by_cases e:pv.length=j
       ·subst e
        rw [if_pos rfl,if_pos (by rw [hSl];exact hpl),at_v]
       ·rw [if_neg e];rfl
      rw [hs1] at key
      refine wk 8 cz ?_
      intro h3
      refine Bg rfl rfl (Hu 1 1 (k) rfl rfl rfl Ez rfl (by omega) fun z1 hz1 pa1 ca1=>?_)
      obtain rfl:_=z1:=Option.some.inj (at_u.symm.trans hz1)
      refine wk 2 cz ?_
      intro b2 o1 hz2
      refine Bg rfl rfl (Aj 0 rfl rfl Bm fun ⟨r1,r2⟩=>?_)
      refine wk 10 cz ?_
      intro h4 h5
      (apply Cy (x0:=none) it mx 0 13 [2,3] 1;(· rfl);(· rfl);(· rfl);(· decide))
      simp only [List.drop_zero]
      (apply Ae 6;(· rfl);(· simp))
      (apply Ac;(· rfl);(· exact Bi fun _=>Ah (k) (k) rfl rfl Fo rfl (by omega) (Nat.mul_one _) Af))
      (apply Dl;(· rfl);(· exact Sk 1 3 (k) rfl rfl rfl Ez rfl (by assumption));intro pa2 ca2)
      (apply Ae 2;(· rfl);(· simp))
      (apply Ac;(· rfl);(· exact Bi fun _=>Ah (pv.length) (pv.length) rfl rfl Fo rfl (by omega) (Nat.mul_one _) Af))
      (apply Dl;(· rfl);(· exact Sk 1 3 (pv.length) rfl rfl rfl Ez rfl (by assumption));intro pa3 ca3)
      (apply Ac;(· rfl);(· exact Bi fun _=>Ah (pv.length) (pv.length) rfl rfl Fo rfl (by omega) (Nat.mul_one _) Af))
      refine Cz rfl ?_
      (rotate_left;rfl;rotate_right)
      simp only [List.map_cons,List.map_nil,List.cons_append,List.nil_append]
      refine C4 it rfl rfl ⟨⟨_,_,_,_,rfl,rfl,rfl,rfl,rfl,rfl,(by first|trivial|(repeat' first|exact trivial|apply And.intro|omega))⟩,⟨⟨_,_,_,_,rfl,rfl,rfl,rfl,rfl,rfl,(by first|trivial|(repeat' first|exact trivial|apply And.intro|omega))⟩,trivial⟩⟩ (Cb (vs:=[Value.slice pa2 (A7 L k).length ca2]) (z:=A7 L k) 1 5 (pv.length) rfl rfl rfl rfl rfl Ez (Nat.mul_one _).symm (by omega) (fun w A hG=>(Ew (hG _ (Al (n:=1) rfl)))) fun cs1=>?_)
      refine Dw it ⟨⟨_,_,_,_,rfl,rfl,rfl,rfl,rfl,rfl,(by first|trivial|(repeat' first|exact trivial|apply And.intro|omega))⟩,⟨⟨_,_,_,_,rfl,rfl,rfl,rfl,rfl,rfl,(by first|trivial|(repeat' first|exact trivial|apply And.intro|omega))⟩,trivial⟩⟩ ?_
      refine wk 1 cz ?_
      refine Ab rfl (Cb (vs:=[Value.slice pa3 (A7 L pv.length).length ca3]) (z:=A7 L pv.length) 1 0 (k) rfl rfl rfl rfl rfl Ez (Nat.mul_one _).symm (by omega) (fun w A hG=>(Ew (hG _ (Al (n:=1) rfl)))) fun cs2=>?_)
      refine wk 3 cz ?_
      refine Ab rfl (Hu 1 0 (pv.length) rfl rfl rfl Ez rfl (by omega) fun z1 hz3 pa4 ca4=>?_)
      obtain rfl:_=z1:=Option.some.inj (at_v.symm.trans hz3)
      refine wk 2 cz ?_
      intro b3 o2 hz4
      refine Ab rfl (Aj 0 rfl rfl Bm fun ⟨r3,r4⟩=>?_)
      refine wk 3 cz ?_
      intro h6
      refine Mj 1 [.c (pL 128159),.blk 1,.c (pL 2003),.lp (pL 500),.blk 0,.c [1,1,1,1,1]] rfl ?_
      exact tw (key cs2)
     ·have Rw:=fun {nm cm:Nat}{pm:Option Addr}{x:Int}=>R9 (nm:=nm) (cm:=cm) (pm:=pm) (x:=x) K
      have Pp:=fun {nm cm cu:Nat}{pm pu:Option Addr}{a:Int}(a0:0≤a) (a1:a<((p ^ m:Nat):Int))=>(Pn (nm:=nm) (cm:=cm) (pm:=pm) (pu:=pu) (nu:=(A7 L k).length) (cu:=cu) (a:=a) (u:=A7 L k) K a0 a1 (hLM.row (by omega)).2).pubR (by show (A7 L k).length*8≤140737488355328;omega)
      have hiv2:0≤((iF (p ^ m) (fM p (Cc m md)) ((A7 L k).getD c default).toNat:Nat):Int)∧((iF (p ^ m) (fM p (Cc m md)) ((A7 L k).getD c default).toNat:Nat):Int)<((p ^ m:Nat):Int):=by rw [ek];exact ⟨v0,v1⟩
      rw [show (Df L pv.length k).set pv.length (B3 (Aq (fM p (Cc m md))) (Hr p m md (en L k c)) (A7 L k))=((L.set pv.length (A7 L k)).set k (A7 L pv.length)).set pv.length (B3 (Aq (fM p (Cc m md))) ((iF (p ^ m) (fM p (Cc m md)) (en L k c).toNat:Nat):Int) (A7 L k)) from rfl] at key
      refine wk 8 cz ?_
      intro h3
      refine Bg rfl rfl (Hu 1 1 (k) rfl rfl rfl Ez rfl (by omega) fun z1 hz1 pa1 ca1=>?_)
      obtain rfl:_=z1:=Option.some.inj (at_u.symm.trans hz1)
      refine wk 2 cz ?_
      intro b2 o1 hz2
      refine Bg rfl rfl (Aj 0 rfl rfl Bm fun ⟨r1,r2⟩=>?_)
      refine wk 10 cz ?_
      intro h4 h5
      (apply Cy (x0:=none) it mx 0 13 [2,3] 1;(· rfl);(· rfl);(· rfl);(· decide))
      simp only [List.drop_zero]
      (apply Ae 6;(· rfl);(· simp))
      (apply Ac;(· rfl);(· exact Bi fun _=>Ah (k) (k) rfl rfl Fo rfl (by omega) (Nat.mul_one _) Af))
      (apply Dl;(· rfl);(· exact Sk 1 3 (k) rfl rfl rfl Ez rfl (by assumption));intro pa2 ca2)
      (apply Ae 2;(· rfl);(· simp))
      (apply Ac;(· rfl);(· exact Bi fun _=>Ah (pv.length) (pv.length) rfl rfl Fo rfl (by omega) (Nat.mul_one _) Af))
      (apply Dl;(· rfl);(· exact Sk 1 3 (pv.length) rfl rfl rfl Ez rfl (by assumption));intro pa3 ca3)
      (apply Ac;(· rfl);(· exact Bi fun _=>Ah (pv.length) (pv.length) rfl rfl Fo rfl (by omega) (Nat.mul_one _) Af))
      refine Cz rfl ?_
      (rotate_left;rfl;rotate_right)
      simp only [List.map_cons,List.map_nil,List.cons_append,List.nil_append]
      refine C4 it rfl rfl ⟨⟨_,_,_,_,rfl,rfl,rfl,rfl,rfl,rfl,(by first|trivial|(repeat' first|exact trivial|apply And.intro|omega))⟩,⟨⟨_,_,_,_,rfl,rfl,rfl,rfl,rfl,rfl,(by first|trivial|(repeat' first|exact trivial|apply And.intro|omega))⟩,trivial⟩⟩ (Cb (vs:=[Value.slice pa2 (A7 L k).length ca2]) (z:=A7 L k) 1 5 (pv.length) rfl rfl rfl rfl rfl Ez (Nat.mul_one _).symm (by omega) (fun w A hG=>(Ew (hG _ (Al (n:=1) rfl)))) fun cs1=>?_)
      refine Dw it ⟨⟨_,_,_,_,rfl,rfl,rfl,rfl,rfl,rfl,(by first|trivial|(repeat' first|exact trivial|apply And.intro|omega))⟩,⟨⟨_,_,_,_,rfl,rfl,rfl,rfl,rfl,rfl,(by first|trivial|(repeat' first|exact trivial|apply And.intro|omega))⟩,trivial⟩⟩ ?_
      refine wk 1 cz ?_
      refine Ab rfl (Cb (vs:=[Value.slice pa3 (A7 L pv.length).length ca3]) (z:=A7 L pv.length) 1 0 (k) rfl rfl rfl rfl rfl Ez (Nat.mul_one _).symm (by omega) (fun w A hG=>(Ew (hG _ (Al (n:=1) rfl)))) fun cs2=>?_)
      refine wk 3 cz ?_
      refine Ab rfl (Hu 1 0 (pv.length) rfl rfl rfl Ez rfl (by omega) fun z1 hz3 pa4 ca4=>?_)
      obtain rfl:_=z1:=Option.some.inj (at_v.symm.trans hz3)
      refine wk 2 cz ?_
      intro b3 o2 hz4
      refine Ab rfl (Aj 0 rfl rfl Bm fun ⟨r3,r4⟩=>?_)
      refine wk 5 (ct @Rw (ct @Pp cz)) ?_
      intro h6 pa5 ca5 b4 o3 pa6 ca6 pa7 ca7
      refine Ab rfl (Cb (vs:=[Value.slice pa7 (A7 L k).length ca7]) (z:=B3 (Aq (fM p (Cc m md))) (↑(iF (p ^ m) (fM p (Cc m md)) ((A7 L k).getD c default).toNat)) (A7 L k)) 1 6 (pv.length) rfl rfl rfl rfl rfl Ez (Nat.mul_one _).symm (by omega) (fun w A hG=>(Ew (hG _ (Al (n:=0) rfl)))) fun cs3=>?_)
      refine Mj 1 [.c (pL 128159),.blk 1,.c (pL 2003),.lp (pL 500),.blk 0,.c [1,1,1,1,1]] rfl ?_
      rw [ek]
      exact tw (key cs3)
   ·clear ihk
    obtain rfl:n=k:=by omega
    have hf:Jg L pv.length c=none:=ACv fun j h1 h2=>hk3 j h1 (by omega)
    rw [Sg,show N-c=(N-(c+1))+1 by omega,Ea,hf] at hE1 hE2
    refine wk 18 cz ?_
    intro h3 h4
    exact tw (ih (c+1,ch,rp,L,pv) (by dsimp only;omega) ⟨by dsimp only;omega,hL,hLM,hpv,hE1,hE2⟩)
  ·rw [Sg,Ln _ _ _ _ (by omega)] at hE1 hE2
   rw [List.append_nil] at hE2
   obtain ⟨E1,E2⟩:=EE
   obtain rfl:L=E1:=hE1
   obtain rfl:pv=E2:=hE2
   clear ih
   refine Ev 0 0 rfl rfl (by show pv.length*8≤140737488355328;omega) ?_
   refine Ev 0 2 rfl rfl (by show n*24≤140737488355328;omega) ?_
   refine wk 14 cz ?_
   intro h1 h2
   refine Gl [0,1] rfl rfl rfl ⟨_,_,_,_,rfl,rfl,rfl⟩
 ·obtain rfl:c=N:=by omega
  rw [Nat.sub_self,Sg,Ea] at hE1 hE2
  rw [List.append_nil] at hE2
  obtain ⟨E1,E2⟩:=EE
  obtain rfl:L=E1:=hE1
  obtain rfl:pv=E2:=hE2
  clear ih
  refine Ev 0 0 rfl rfl (by show pv.length*8≤140737488355328;omega) ?_
  refine Ev 0 2 rfl rfl (by show n*24≤140737488355328;omega) ?_
  refine wk 12 cz ?_
  intro h1
  refine Gl [0,1] rfl rfl rfl ⟨_,_,_,_,rfl,rfl,rfl⟩
theorem H6 {p m n N nm cm c:Nat}{pm ps:Option Addr}{Aa:List (List Int)}{md:List Int}(K:Fok p m md) (hn:n≤1000000) (hN:N≤1000000) (hl:Aa.length=n) (hM:Fc (p ^ m) N Aa) :
  Br Tryz.prog 97 [.agg #[.int .i64 p,.int .i64 m,.slice pm nm cm],.slice ps n c,.int .i64 N] [] [A2 Ak pm nm cm md,A2 (Ar Ak) ps n c Aa] (CnR (Ry p m md N Aa)):=by
 refine Ad (F:=Pj) rfl fun C=>?_
 have Lk:=fun {nm cm c:Nat}{pm ps:Option Addr}=>Ld (nm:=nm) (cm:=cm) (pm:=pm) (ps:=ps) (c:=c) K hn (Nat.le_refl N) hN hl hM
 have hEk:(Sg p m md N 0 0 Aa).2.length≤n:=by
  have:=Yo (A:=Aq (fA p m)) (M:=Aq (fM p (Cc m md))) (N:=Gx p m) (V:=Hr p m md) N 0 0 Aa (Nat.zero_le _)
  rw [Nat.zero_add,hl] at this;exact this
 show J _ _ _ _ _ _ (Ga C (CnR ((Sg p m md N 0 0 Aa).1.take (Sg p m md N 0 0 Aa).2.length,(Sg p m md N 0 0 Aa).2)))
 generalize Sg p m md N 0 0 Aa=E at *
 refine wk 11 (ct @Lk cz) ?_
 intro b1 pb1 pp1 cb1 cp1
 refine Ab rfl (T6 0 (E.snd.length) rfl rfl rfl Fo (by omega) (by omega) ?_)
 refine wk 2 cz ?_
 refine Gl [0,2] rfl rfl rfl ⟨_,_,_,_,rfl,rfl,rfl⟩
open Classical in
noncomputable def sfE (P M:Int) (md:List Int) (N:Int) (Aa:List (List Int)):Int:=if ¬ Vs P M md then 1 else spE P.toNat M.toNat md N Aa
theorem O0 {P M N e:Int}{nm cm n c:Nat}{pm ps:Option Addr}{md:List Int}{Aa:List (List Int)}(hN:Bf .i64 N) (he:sfE P M md N Aa=e) :
  Br Tryz.prog 63 [.agg #[.int .i64 P,.int .i64 M,.slice pm nm cm],.agg #[.int .i64 N,.slice ps n c]] [] [A2 Ak pm nm cm md,A2 (Ar Ak) ps n c Aa] (Rv (.int .i64 e) []):=by
 refine Ad (F:=P0) rfl fun C=>?_
 refine Bd 1 rfl fun hn hb _=>?_
 subst hn
 have hb':Aa.length*24≤140737488355328:=hb
 have Bv:=fun {nm cm n c:Nat}{pm ps:Option Addr}=>Ox (P:=P) (M:=M) (N:=N) (md:=md) (Aa:=Aa) (nm:=nm) (cm:=cm) (n:=n) (c:=c) (pm:=pm) (ps:=ps) hN rfl
 rw [sfE] at he
 by_cases hc:Vs P M md
 ·rw [if_neg (fun h=>h hc)] at he
  have hk:mkE P M md N Aa=Wq N Aa (P.toNat ^ M.toNat):=by rw [mkE,if_neg (fun h=>h hc)]
  rw [hk] at Bv
  obtain ⟨p,m,rfl,rfl,K⟩:=Zf hc
  rw [Int.toNat_natCast,Int.toNat_natCast] at he Bv
  have hr:=T7 N Aa (p ^ m)
  rw [spE] at he
  by_cases h0:Wq N Aa (p ^ m)=0
  ·rw [if_neg (by omega)] at he
   rw [h0] at Bv
   obtain ⟨k,rfl,hk,hl,hM⟩:=ADI h0
   rw [Int.toNat_natCast] at he
   have D7:=fun {nm cm c:Nat}{pm ps:Option Addr}=>H6 (nm:=nm) (cm:=cm) (pm:=pm) (ps:=ps) (c:=c) (n:=Aa.length) K (by omega) (show k≤1000000 by omega) rfl hM
   by_cases hcn:(Ry p m md k Aa).1=Aa
   ·rw [if_pos hcn] at he
    subst he
    have hd:decide ((Ry p m md k Aa).1=Aa)=true:=decide_eq_true hcn
    refine wk 32 (ct @Bv (ct @D7 (ct @Gv cz))) ?_
    intro b1 b2 h1 pb1 pp1 cb1 cp1
    exact ge
   ·rw [if_neg hcn] at he
    subst he
    have hd:decide ((Ry p m md k Aa).1=Aa)=false:=decide_eq_false hcn
    refine wk 32 (ct @Bv (ct @D7 (ct @Gv cz))) ?_
    intro b1 b2 h1 pb1 pp1 cb1 cp1
    exact ge
  ·rw [if_pos h0] at he
   subst he
   refine wk 16 (ct @Bv cz) ?_
   intro b1 b2 h1
   exact ge
 ·rw [if_pos hc] at he
  subst he
  have hk:mkE P M md N Aa=1:=by rw [mkE,if_pos hc]
  rw [hk] at Bv
  refine wk 16 (ct @Bv cz) ?_
  intro b1 b2 h1
  exact ge
theorem Fk {P M N e:Int}{pm ps:Option Addr}{nm cm n c:Nat}{md:List Int}{Aa:List (List Int)}(hN:Bf .i64 N) (h:Xw P M md N Aa=e) :
  Br Tryz.prog 30 [.agg #[.int .i64 P,.int .i64 M,.slice pm nm cm,.int .i64 N,.slice ps n c]] [] [A2 Ak pm nm cm md,A2 (Ar Ak) ps n c Aa] (Rv (.int .i64 e) []):=by
 refine Ad (F:=Pe) rfl fun C=>?_
 rw [Xw] at h
 by_cases hc:Vs P M md
 ·rw [if_neg (fun h=>h hc)] at h
  have A9:=fun {pm:Option Addr}{nm cm:Nat}=>D4 (P:=P) (M:=M) (md:=md) (pm:=pm) (nm:=nm) (cm:=cm) (if_pos hc).symm
  have hs:sfE P M md N Aa=spE P.toNat M.toNat md N Aa:=by rw [sfE,if_neg (fun h=>h hc)]
  by_cases h1:N<1
  ·rw [if_pos (.inl h1)] at h
   subst h
   refine wk 24 (ct @A9 cz) ?_
   intro b1 h2 h3
   exact ge
  ·by_cases h2:64<N
   ·rw [if_pos (.inr h2)] at h
    subst h
    refine wk 26 (ct @A9 cz) ?_
    intro b1 h3 h4 h5
    exact ge
   ·rw [if_neg (by omega),← hs] at h
    have Oj:=fun {nm cm n c:Nat}{pm ps:Option Addr}=>O0 (nm:=nm) (cm:=cm) (n:=n) (c:=c) (pm:=pm) (ps:=ps) hN h
    refine wk 34 (ct @A9 (ct @Oj cz)) ?_
    intro b1 h3 h4 h5
    exact ge
 ·rw [if_pos hc] at h
  subst h
  have A9:=fun {pm:Option Addr}{nm cm:Nat}=>D4 (P:=P) (M:=M) (md:=md) (pm:=pm) (nm:=nm) (cm:=cm) (if_neg hc).symm
  refine wk 15 (ct @A9 cz) ?_
  intro b1 h1
  exact ge
section
variable {q:Nat}{A M:Int→Int→Int}{N V:Int→Int}(O:FO q A M N V)
include O
end
open Go Go.Fw
set_option maxRecDepth 100000
set_option linter.unusedVariables false
set_option linter.unusedSimpArgs false
set_option maxHeartbeats 0
theorem dot_snoc {q:Nat}{A M:Int→Int→Int}(F:FI q A M):∀ {n:Nat}{u v:List Int}{x y:Int},Wd q n u→Wd q n v→0≤x→x<q→0≤y→y<q→Dn A M (u++[x]) (v++[y])=A (Dn A M u v) (M x y)
 | 0,u,v,x,y,hu,hv,x0,x1,y0,y1=>by
  rw [List.length_eq_zero_iff.1 hu.1,List.length_eq_zero_iff.1 hv.1]
  obtain ⟨m0,m1⟩:=F.ml x y x0 x1 y0 y1
  show A (M x y) 0=A 0 (M x y)
  exact F.ac _ _ m0 m1 (Int.le_refl 0) F.z
 | n+1,[],_,_,_,h,_,_,_,_,_=>by have:=h.1;simp at this
 | n+1,_::_,[],_,_,_,h,_,_,_,_=>by have:=h.1;simp at this
 | n+1,a::u,b::v,x,y,hu,hv,x0,x1,y0,y1=>by
  obtain ⟨a0,a1⟩:=hu.2 a (.head _)
  obtain ⟨b0,b1⟩:=hv.2 b (.head _)
  have hu':Wd q n u:=⟨by simpa using hu.1,fun z hz=>hu.2 z (.tail _ hz)⟩
  have hv':Wd q n v:=⟨by simpa using hv.1,fun z hz=>hv.2 z (.tail _ hz)⟩
  obtain ⟨m0,m1⟩:=F.ml a b a0 a1 b0 b1
  obtain ⟨k0,k1⟩:=F.ml x y x0 x1 y0 y1
  obtain ⟨d0,d1⟩:=F.dlt hu' hv'
  show A (M a b) (Dn A M (u++[x]) (v++[y]))=A (A (M a b) (Dn A M u v)) (M x y)
  rw [dot_snoc F hu' hv' x0 x1 y0 y1,F.aa _ _ _ m0 m1 d0 d1 k0 k1]
abbrev Xs (w hs:List Int):List Int:=hs.map fun j=>An w j.toNat
theorem Q7 {q N nw cw nh ch:Nat}{pw ph:Option Addr}{w hs:List Int}(hq:q≤256) (h0:0<q) (hw:Wd q N w) (hN:N≤1000000) (hl:hs.length≤1000000) (hst:∀ x∈hs,0≤x∧x<(N:Int)) :
  Br Tryz.prog 85 [.slice pw nw cw,.slice ph nh ch] [] [A2 Ak pw nw cw w,A2 Ak ph nh ch hs] (fun v Φ β=>∃ (pb:Option Addr) (cb:Nat),v = .slice pb hs.length cb∧Φ=[A2 Ak pb hs.length cb (Xs w hs)]∧β=[]):=by
 refine Ad (F:=Q5) rfl fun C=>?_
 refine Bd 0 rfl fun hn hb _=>?_
 subst hn
 refine Bd 1 rfl fun hn hb2 _=>?_
 subst hn
 have hwl:=hw.1
 have hTl:(Xs w hs).length=hs.length:=List.length_map _
 have hTr:∀ z∈Xs w hs,Bf .i64 z:=fun z hz=>by
  obtain ⟨j,_,rfl⟩:=List.mem_map.1 hz
  have:=Bo h0 hw j.toNat
  simp only [Bf];omega
 refine wk 10 cz ?_
 intro b1
 rw [show Ap .i64 (List.replicate hs.length 0)=Az .i64 ((Xs w hs).take 0++List.replicate (hs.length-0) 0) by simp [Ap,Az]]
 refine Ag (X:=Nat) [0,1,4,5] [0,1] (fun k=>[(6,.int .i64 (k:Int))]) (fun k=>(some b1,3,Az .i64 ((Xs w hs).take k++List.replicate (hs.length-k) 0))::_) (fun _=>[]) (fun k=>k≤hs.length) (fun k=>hs.length-k) 0 [] rfl rfl rfl (Nat.zero_le _) (by repeat (first|exact Fr.sub_nil _|refine Fr.sub_cons rfl ?_)) rfl rfl ?_
 rintro k hk ihk
 simp only [List.cons_append,List.nil_append] at hk ihk ⊢
 by_cases h8:k<hs.length
 ·obtain ⟨x,at_x⟩:∃ x,hs[k]?=some x:=⟨_,List.getElem?_eq_getElem h8⟩
  obtain ⟨x0,x1⟩:=hst x (List.mem_of_getElem? at_x)
  have hT:(Xs w hs)[k]?=some (An w x.toNat):=by rw [Xs,List.getElem?_map,at_x];rfl
  obtain ⟨x,rfl⟩:=Int.eq_ofNat_of_zero_le x0
  rw [Int.toNat_natCast] at hT
  have at_y:w[x]?=some (An w x):=by
   rw [An,List.getD_eq_getElem?_getD,List.getElem?_eq_getElem (by omega)];rfl
  have ih':=ihk (k+1) (by omega) (by omega)
  rw [← take_set hT h8] at ih'
  have hln:((Xs w hs).take k++List.replicate (hs.length-k) 0).length=hs.length:=by rw [List.length_append,List.length_take,List.length_replicate];omega
  generalize (Xs w hs).take k++List.replicate (hs.length-k) 0=L at *
  refine wk 9 cz ?_
  intro h1 b2 o1 hz1
  refine Ab rfl (Aj 0 rfl rfl Bm fun ⟨r1,r2⟩=>?_)
  refine wk 1 cz ?_
  intro b3 o2 hz2
  refine Ab rfl (Aj 0 rfl rfl Bm fun ⟨r3,r4⟩=>?_)
  refine wk 5 cz ?_
  exact tw (ih')
 ·obtain rfl:k=hs.length:=by omega
  rw [Nat.sub_self,List.replicate_zero,List.append_nil,List.take_of_length_le (by omega)]
  clear ihk
  refine wk 9 cz ?_
  intro h1
  refine Ow 0 rfl hTl.symm hTr (by omega) ?_
  refine Ev 0 0 rfl rfl (by show hs.length*8≤140737488355328;omega) ?_
  simp only [List.eraseIdx_cons_zero,List.eraseIdx_cons_succ]
  refine Gl [0] rfl rfl rfl ⟨_,_,rfl,rfl,rfl⟩
theorem E3 {ps:Option Addr}{n c:Nat}{x:Int}{l:List Int}{res:Bool}(hr:decide (x∈l)=res):Br Tryz.prog 175 [.slice ps n c,.int .i64 x] [] [A2 Ak ps n c l] (Rv (.bool res) []):=by
 refine Ad (F:=Sw) rfl fun C=>?_
 subst hr
 refine Bd 0 rfl fun hn hb _=>?_
 subst hn
 have hb':l.length*8≤140737488355328:=hb
 refine wk 5 cz ?_
 refine Ag (X:=Nat) [0,1] [0] (fun i=>[(5,.int .i64 (i:Int))]) (fun _=>[]) (fun _=>[]) (fun i=>i≤l.length∧∀ y∈l.take i,x≠y) (fun i=>l.length-i) 0 [] rfl rfl rfl ⟨Nat.zero_le _,fun j h=>by simp at h⟩ (by repeat (first|exact Fr.sub_nil _|refine Fr.sub_cons rfl ?_)) rfl rfl ?_
 rintro i ⟨hi,hno⟩ ih
 simp only [List.cons_append,List.nil_append] at hi ih ⊢
 by_cases h9:i<l.length
 ·obtain ⟨y,at_y⟩:∃ y,l[i]?=some y:=⟨_,List.getElem?_eq_getElem h9⟩
  by_cases h8:y=x
  ·subst h8
   rw [decide_eq_true (List.mem_of_getElem? at_y)]
   refine wk 9 cz ?_
   intro h1 b1 o1 hz1
   refine Ab rfl (Aj 0 rfl rfl Bm fun ⟨r1,r2⟩=>?_)
   refine wk 6 cz ?_
   intro h2
   exact ge
  ·refine wk 9 cz ?_
   intro h1 b1 o1 hz1
   refine Ab rfl (Aj 0 rfl rfl Bm fun ⟨r1,r2⟩=>?_)
   refine wk 6 cz ?_
   intro h2
   exact tw (ih (i+1) (by omega) ⟨by omega,Y8 at_y hno fun e=>h8 e.symm⟩)
 ·rw [decide_eq_false fun hm=>hno x (by rwa [List.take_of_length_le (by omega)]) rfl]
  refine wk 9 cz ?_
  intro h1
  exact ge
theorem Hi {ps:Option Addr}{nn c:Nat}{n:Int}{l:List Int}{res:Bool}(hr:decide (stP n l)=res):Br Tryz.prog 174 [.slice ps nn c,.int .i64 n] [] [A2 Ak ps nn c l] (Rv (.bool res) []):=by
 refine Ad (F:=Og) rfl fun C=>?_
 subst hr
 refine Bd 0 rfl fun hn hb _=>?_
 subst hn
 have hb':l.length*8≤140737488355328:=hb
 refine wk 5 cz ?_
 refine Ag (X:=Nat) [0,1] [0] (fun i=>[(5,.int .i64 (i:Int))]) (fun _=>[]) (fun _=>[]) (fun i=>i≤l.length∧∀ j,j<i→stA n l j) (fun i=>l.length-i) 0 [] rfl rfl rfl ⟨Nat.zero_le _,fun j h=>by omega⟩ (by repeat (first|exact Fr.sub_nil _|refine Fr.sub_cons rfl ?_)) rfl rfl ?_
 rintro i ⟨hi,hno⟩ ih
 simp only [List.cons_append,List.nil_append] at hi ih ⊢
 by_cases h9:i<l.length
 ·obtain ⟨x,at_x⟩:∃ x,l[i]?=some x:=⟨_,List.getElem?_eq_getElem h9⟩
  have ex:=Rg at_x
  have bad:∀ P:Prop,¬ stA n l i→decide (stP n l)=false:=fun _ h=>decide_eq_false (AF8 h9 h)
  have good:stA n l i→∀ j,j<i+1→stA n l j:=fun h j hj=>by
   rcases Nat.lt_succ_iff_lt_or_eq.1 hj with h1|rfl
   ·exact hno j h1
   ·exact h
  by_cases a0:x<0
  ·rw [bad True fun h=>by have:=(h x at_x).1;omega]
   refine wk 13 cz ?_
   intro h1 b1 o1
   exact ge
  ·by_cases a1:n≤x
   ·rw [bad True fun h=>by have:=(h x at_x).1;omega]
    refine wk 13 cz ?_
    intro h1 b1 o1 b2 o2
    exact ge
   ·rcases Nat.eq_zero_or_pos i with hi0|hi0
    ·subst hi0
     refine wk 13 cz ?_
     intro h1 b1 o1 b2 o2
     exact tw (ih 1 (by omega) ⟨by omega,good fun z hz=>by
      rw [at_x] at hz;obtain rfl:=Option.some.inj hz
      exact ⟨by omega,fun y h=>by omega⟩⟩)
    ·obtain ⟨k,rfl⟩:∃ k,i=k+1:=⟨i-1,by omega⟩
     obtain ⟨y,at_y⟩:∃ y,l[k]?=some y:=⟨_,List.getElem?_eq_getElem (by omega)⟩
     have ey:=Rg at_y
     have ey':l.getD (k+1-1) default=y:=ey
     by_cases a2:x≤y
     ·rw [bad True fun h=>by have:=(h x at_x).2 y (by omega) at_y;omega]
      refine wk 13 cz ?_
      intro h1 b1 o1 b2 o2 b3 o3 b4 o4
      exact ge
     ·refine wk 13 cz ?_
      intro h1 b1 o1 b2 o2 b3 o3 b4 o4
      exact tw (ih (k+2) (by omega) ⟨by omega,good fun z hz=>by
       rw [at_x] at hz;obtain rfl:=Option.some.inj hz
       exact ⟨by omega,fun z h hz=>by
        rw [show k+1-1=k by omega,at_y] at hz;obtain rfl:=Option.some.inj hz;omega⟩⟩)
 ·rw [decide_eq_true (ABw.2 fun j hj=>hno j (by omega))]
  refine wk 9 cz ?_
  intro h1
  exact ge
theorem Rb {q N n c nh ch:Nat}{ps ph:Option Addr}{Aa:List (List Int)}{hs:List Int}(hq:q≤256) (h0:0<q) (hM:Fc q N Aa) (hN:N≤1000000) (hl:hs.length≤1000000) (hst:∀ x∈hs,0≤x∧x<(N:Int)) :
  Br Tryz.prog 187 [.slice ps n c,.slice ph nh ch] [] [A2 (Ar Ak) ps n c Aa,A2 Ak ph nh ch hs] (fun v Φ β=>∃ (pb:Option Addr) (cb:Nat),v = .slice pb Aa.length cb∧Φ=[A2 (Ar Ak) pb Aa.length cb (Aa.map fun r=>Xs r hs)]∧β=[]):=by
 refine Ad (F:=P9) rfl fun C=>?_
 refine Bd 0 rfl fun hn hb _=>?_
 subst hn
 have hb':Aa.length*24≤140737488355328:=hb
 refine wk 7 cz ?_
 refine Jj (Ar Ak) 22 ?_
 refine Ag (X:=Nat×Row) [0,1,4] [0,1,2] (fun z=>[(6,.int .i64 (z.1:Int)),(5,.slice (ad z.2.bo) z.1 z.2.cap)]) (fun z=>(z.2.bo,22,z.2.cs)::_) (fun z=>[Aw (Ar Ak) z.2 z.1 ((Aa.take z.1).map fun r=>Xs r hs)]) (fun z=>z.1≤Aa.length) (fun z=>Aa.length-z.1) (0,⟨none,0,[]⟩) [0] rfl rfl rfl (Nat.zero_le _) (by repeat (first|exact Fr.sub_nil _|refine Fr.sub_cons rfl ?_)) rfl rfl ?_
 rintro ⟨k,r⟩ hk ih
 simp only [List.cons_append,List.nil_append] at hk ih ⊢
 by_cases h9:k<Aa.length
 ·obtain ⟨u,at_u⟩:∃ u,Aa[k]?=some u:=⟨_,List.getElem?_eq_getElem h9⟩
  have hu:=hM u (List.mem_of_getElem? at_u)
  have Qe:=fun {nw cw nh ch:Nat}{pw ph:Option Addr}=>Q7 (nw:=nw) (cw:=cw) (nh:=nh) (ch:=ch) (pw:=pw) (ph:=ph) hq h0 hu hN hl hst
  have ih':=fun r=>ih (k+1,r) (by dsimp only;omega) (by dsimp only;omega)
  dsimp only at ih'
  rw [List.take_add_one,at_u,Option.toList_some,List.map_append,List.map_cons,List.map_nil] at ih'
  refine wk 13 (ct @Qe cz) ?_
  intro h1 b1 o1 hz1 pa1 ca1 pb1 cb1 b2
  refine Ab rfl (Ik (z:=Xs u hs) 1 0 3 rfl rfl rfl rfl rfl Fo ACP rfl (fun w A hG=>(Ew (hG _ (Al (n:=0) rfl)))) (by omega) _ AEA (by omega) fun r1=>?_)
  refine wk 4 cz ?_
  refine S2 [true,false] [0,5,6,7] (by exact Zr rfl) rfl rfl (ih' r1)
 ·obtain rfl:k=Aa.length:=by omega
  rw [List.take_length]
  refine wk 9 cz ?_
  intro h1
  refine Ev 0 0 rfl rfl (by show Aa.length*24≤140737488355328;omega) ?_
  simp only [List.eraseIdx_cons_zero,List.eraseIdx_cons_succ]
  refine Gl [0] rfl rfl rfl ⟨_,_,rfl,rfl,rfl⟩
theorem S6 {p m N n c nm cm nh ch:Nat}{pm ps ph:Option Addr}{md hs:List Int}{Aa:List (List Int)}(K:Fok p m md) (hM:Fc (p ^ m) N Aa) (hr:Aa.length≤1000000) (hN:N≤1000000) (hl:hs.length≤1000000) (hst:∀ x∈hs,0≤x∧x<(N:Int)) :
  Br Tryz.prog 176 [.agg #[.int .i64 p,.int .i64 m,.slice pm nm cm],.slice ps n c,.slice ph nh ch] [] [A2 Ak pm nm cm md,A2 (Ar Ak) ps n c Aa,A2 Ak ph nh ch hs] (Rv (.int .i64 ((Ry p m md hs.length (Aa.map fun r=>Xs r hs)).2.length:Nat)) []):=by
 refine Ad (F:=S1) rfl fun C=>?_
 refine Bd 2 rfl fun hn hb _=>?_
 subst hn
 have hq:=K.q
 have hq2:=(Xe K).q2
 have Qy:=fun {n c nh ch:Nat}{ps ph:Option Addr}=>Rb (n:=n) (c:=c) (nh:=nh) (ch:=ch) (ps:=ps) (ph:=ph) hq (show 0<p ^ m by omega) hM hN hl hst
 have D7:=fun {nm cm c:Nat}{pm ps:Option Addr}=>H6 (nm:=nm) (cm:=cm) (c:=c) (pm:=pm) (ps:=ps) (n:=Aa.length) (N:=hs.length) (Aa:=Aa.map fun r=>Xs r hs) K hr hl (List.length_map _) (fun r hr=>by
  obtain ⟨u,hu,rfl⟩:=List.mem_map.1 hr
  refine ⟨List.length_map _,fun x hx=>?_⟩
  obtain ⟨j,_,rfl⟩:=List.mem_map.1 hx
  exact Bo (by omega) (hM u hu) _)
 refine wk 4 cz ?_
 intro b1
 (apply Ch it mx 11;(· rfl);(· rfl))
 (apply Ac;(· rfl);(· exact B2 0 rfl rfl AAm rfl))
 (apply Ae 2;(· rfl);(· simp))
 (apply Dl;(· rfl);(· exact Bi fun _=>Ai [1,2] rfl (Qy) rfl (by rintro _ _ _ ⟨pb1,cb1,rfl,rfl,rfl⟩;exact (E7 0 rfl)));intro pa1 ca1)
 (apply Ae 1;(· rfl);(· simp))
 (apply Ac;(· rfl);(· exact Bi fun _=>P1 Bj rfl Af))
 (apply Sy (val:=(fun g=>Value.tuple #[Value.slice (g 0).fst (Ry p m md hs.length (List.map (fun r=>Xs r hs) Aa)).snd.length (g 2).snd.fst,Value.slice (g 1).fst (Ry p m md hs.length (List.map (fun r=>Xs r hs) Aa)).snd.length (g 3).snd.fst])) (f:=(fun g=>[A2 (Ar Ak) (g 0).fst (Ry p m md hs.length (List.map (fun r=>Xs r hs) Aa)).snd.length (g 2).snd.fst (Ry p m md hs.length (List.map (fun r=>Xs r hs) Aa)).fst,A2 Ak (g 1).fst (Ry p m md hs.length (List.map (fun r=>Xs r hs) Aa)).snd.length (g 3).snd.fst (Bz (Ry p m md hs.length (List.map (fun r=>Xs r hs) Aa)).snd)]));(· rfl);(· exact Bi fun _=>Ai [1,0] rfl (D7) rfl (by rintro _ _ _ ⟨pbg0,ppg1,cbg2,cpg3,rfl,rfl,rfl⟩;exact fun _ _ _ hG=>⟨(fun|0=>(pbg0,0,0,[])|1=>(ppg1,0,0,[])|2=>(none,cbg2,0,[])|3=>(none,cpg3,0,[])|_=>default),rfl,fun g hg=>Ip (hG _ (List.mem_append_left _ hg))⟩));intro g1;dsimp only [List.map_cons,List.map_nil])
 (apply Kp [16] (fun vs=>vs.getD 0 undef) (v:=Value.tuple #[Value.slice (g1 0).fst (Ry p m md hs.length (List.map (fun r=>Xs r hs) Aa)).snd.length (g1 2).snd.fst,Value.slice (g1 1).fst (Ry p m md hs.length (List.map (fun r=>Xs r hs) Aa)).snd.length (g1 3).snd.fst]);(· rfl);(· rfl);(· rfl);(· rfl);(· exact Bi fun _=>Sx it rfl (by trivial) Af))
 (apply Kp [9] (fun vs=>match vs.getD 0 undef with | .tuple a=>a.getD 0 undef|_=>undef) (v:=Value.slice (g1 0).fst (Ry p m md hs.length (List.map (fun r=>Xs r hs) Aa)).snd.length (g1 2).snd.fst);(· rfl);(· rfl);(· rfl);(· rfl);(· exact Bi fun _=>Sx it rfl (by trivial) Af))
 (apply Kp [9] (fun vs=>match vs.getD 0 undef with | .tuple a=>a.getD 1 undef|_=>undef) (v:=Value.slice (g1 1).fst (Ry p m md hs.length (List.map (fun r=>Xs r hs) Aa)).snd.length (g1 3).snd.fst);(· rfl);(· rfl);(· rfl);(· rfl);(· exact Bi fun _=>Sx it rfl (by trivial) Af))
 (apply Kp [17] (fun vs=>vs.getD 0 undef) (v:=Value.slice (g1 0).fst (Ry p m md hs.length (List.map (fun r=>Xs r hs) Aa)).snd.length (g1 2).snd.fst);(· rfl);(· rfl);(· rfl);(· rfl);(· exact Bi fun _=>Sx it rfl (by trivial) Af))
 refine B7 rfl ?_
 simp only [List.map_cons,List.map_nil,List.cons_append,List.nil_append]
 refine wk 6 cz ?_
 exact ge
theorem Qi {ps px:Option Addr}{n c k d:Nat}{l x:List Int}(hl:(l++x).length≤1000000):Br Tryz.prog 158 [.slice ps n c,.slice px k d] [] [A2 Ak ps n c l,A2 Ak px k d x] (RwI (l++x).length (l++x)):=by
 refine Ad (F:=Qw) rfl fun C=>?_
 rw [List.length_append] at hl
 refine Bd 0 rfl fun hn hb _=>?_
 subst hn
 refine Bd 1 rfl fun hn hb _=>?_
 subst hn
 refine wk 5 cz ?_
 intro b1
 (apply He (E:=Ca IntKind.i64 8) (n:=0) (cs:=[]) [] [] 0 (fun w A hG=>D5);(· rfl);(· rfl);(· rfl);(· rfl);(· decide))
 refine Ab rfl (AAg 0 0 1 rfl rfl rfl rfl rfl Bj Hb rfl (by omega) _ Iy (by omega) fun r1=>?_)
 refine wk 1 cz ?_
 refine Ab rfl (AAg 0 0 3 rfl rfl rfl rfl rfl Bj Hb rfl (by omega) _ Iy (by omega) fun r2=>?_)
 refine wk 2 cz ?_
 simp only [List.nil_append,Nat.zero_add]
 refine B0 1 [0] [0] rfl (.tmp rfl .nil) rfl rfl rfl ⟨r2,by rw [List.length_append];rfl,by rw [List.length_append],rfl⟩
section
variable {p m N n c nm cm ny cy k:Nat}{pm ps py:Option Addr}{Mo w:Int}{md:List Int}{Aa:List (List Int)}
theorem Jw {n1 c1 n2 c2:Nat}{p1 p2:Option Addr}{s set:List Int}{res:Bool}(K:Fok p m md) (hM:Fc (p ^ m) N Aa) (hr:Aa.length≤1000000) (hN:N≤1000) (h:Tz p m md N Aa Mo s set=res) :
  Br Tryz.prog 156 [.agg #[.int .i64 p,.int .i64 m,.slice pm nm cm,.int .i64 N,.slice ps n c,.int .i64 Mo,.int .i64 w,.slice py ny cy,.bool false],.slice p1 n1 c1,.slice p2 n2 c2] [] [A2 Ak pm nm cm md,A2 (Ar Ak) ps n c Aa,A2 Ak p1 n1 c1 s,A2 Ak p2 n2 c2 set] (Rv (.bool res) []):=by
 refine Ad (F:=Jk) rfl fun C=>?_
 refine Bd 3 rfl fun hn hb _=>?_
 subst hn
 have hb':set.length*8≤140737488355328:=hb
 rw [Tz] at h
 cases hst:decide (stP (N:Int) set) with
 | false =>
  rw [hst] at h
  simp only [Bool.false_and] at h
  subst h
  refine wk 15 (ct @Hi cz) ?_
  intro b1
  exact ge
 | true =>
 have hst':=of_decide_eq_true hst
 rw [hst,Bool.true_and] at h
 have hl:=AD0 hst'
 refine wk 15 (ct @Hi cz) ?_
 intro b1
 refine Ag (X:=Nat) [1,2,3] [0,1,2,3] (fun i=>[(7,.int .i64 (i:Int))]) (fun _=>_) (fun _=>[]) (fun i=>i≤set.length∧∀ x∈set.take i,x∉s) (fun i=>set.length-i) 0 [] rfl rfl rfl ⟨Nat.zero_le _,fun x h=>absurd h List.not_mem_nil⟩ (by repeat (first|exact Fr.sub_nil _|refine Fr.sub_cons rfl ?_)) rfl rfl ?_
 rintro i ⟨hi,hno⟩ ih
 simp only [List.cons_append,List.nil_append] at hi ih ⊢
 by_cases h9:i<set.length
 ·obtain ⟨x,at_x⟩:∃ x,set[i]?=some x:=⟨_,List.getElem?_eq_getElem h9⟩
  by_cases a3:x∈s
  ·have hin:=decide_eq_true a3
   rw [List.any_eq_true.2 ⟨x,List.mem_of_getElem? at_x,hin⟩] at h
   simp only [Bool.not_true,Bool.false_and] at h
   subst h
   refine wk 8 cz ?_
   intro h1
   refine Ab rfl (E0 3 (i) rfl rfl rfl Bj rfl (by omega) fun z1 hz1 b2 o1=>?_)
   obtain rfl:_=z1:=Option.some.inj (at_x.symm.trans hz1)
   refine Ab rfl (Aj 0 rfl rfl Bm fun ⟨r1,r2⟩=>?_)
   refine wk 6 (ct @E3 cz) ?_
   exact ge
  ·have hin:=decide_eq_false a3
   refine wk 8 cz ?_
   intro h1
   refine Ab rfl (E0 3 (i) rfl rfl rfl Bj rfl (by omega) fun z1 hz1 b2 o1=>?_)
   obtain rfl:_=z1:=Option.some.inj (at_x.symm.trans hz1)
   refine Ab rfl (Aj 0 rfl rfl Bm fun ⟨r1,r2⟩=>?_)
   refine wk 6 (ct @E3 cz) ?_
   exact tw (ih (i+1) (by omega) ⟨by omega,Y8 at_x hno a3⟩)
 ·obtain rfl:i=set.length:=by omega
  rw [List.take_length] at hno
  rw [show (set.any fun x=>decide (x∈s))=false from List.any_eq_false.2 fun x hx=>by rw [decide_eq_true_eq];exact hno x hx] at h
  simp only [Bool.not_false,Bool.true_and] at h
  have J7:=fun {n c nm cm nh ch:Nat}{pm ps ph:Option Addr}=>S6 (n:=n) (c:=c) (nm:=nm) (cm:=cm) (nh:=nh) (ch:=ch) (pm:=pm) (ps:=ps) (ph:=ph) K hM hr (by omega) (show set.length≤1000000 by omega) hst'.1
  by_cases hg:(Ry p m md set.length (Aa.map fun r=>Xs r set)).2.length=set.length
  ·rw [decide_eq_true hg,Bool.true_and] at h
   subst h
   refine wk 33 (ct @J7 cz) ?_
   intro h1 h2
   exact ge
  ·rw [decide_eq_false hg,Bool.false_and] at h
   subst h
   refine wk 23 (ct @J7 cz) ?_
   intro h1 h2
   exact ge
theorem Ke {n1 c1 n2 c2 n3 c3:Nat}{p1 p2 p3:Option Addr}{s z set L:List Int}(hl:set.length≤1000000) (h:(if (s.length:Int)<w then Mr z set else [])=L) :
  Br Tryz.prog 157 [.agg #[.int .i64 p,.int .i64 m,.slice pm nm cm,.int .i64 N,.slice ps n c,.int .i64 Mo,.int .i64 w,.slice py ny cy,.bool false],.slice p1 n1 c1,.slice p2 n2 c2,.slice p3 n3 c3] [] [A2 Ak p1 n1 c1 s,A2 Ak p2 n2 c2 z,A2 Ak p3 n3 c3 set] (RwI L.length L):=by
 refine Ad (F:=J6) rfl fun C=>?_
 refine Bd 0 rfl fun hn hb _=>?_
 subst hn
 refine Bd 2 rfl fun hn hb2 _=>?_
 subst hn
 refine wk 8 cz ?_
 intro b1
 refine Jj Ak 3 ?_
 refine Ag (X:=Nat×Row×List Int) [1,2,3,4,8] [0,1,2,3] (fun x=>[(10,.int .i64 (x.1:Int)),(9,.slice (ad x.2.1.bo) x.2.2.length x.2.1.cap)])
  (fun x=>(x.2.1.bo,3,x.2.1.cs)::_) (fun x=>[Aw Ak x.2.1 x.2.2.length x.2.2])
  (fun x=>x.1≤set.length∧x.2.2.length≤x.1∧x.2.2++(if (s.length:Int)<w then Mr z (set.drop x.1) else [])=L) (fun x=>set.length-x.1) (0,⟨none,0,[]⟩,[]) [0] rfl rfl rfl ⟨Nat.zero_le _,Nat.le_refl _,h⟩ (by repeat (first|exact Fr.sub_nil _|refine Fr.sub_cons rfl ?_)) rfl rfl ?_
 rintro ⟨i,r,y⟩ ⟨hi,hy,hg⟩ ih
 simp only [List.cons_append,List.nil_append] at hi hy hg ih ⊢
 by_cases hil:i<set.length
 ·by_cases hw:(s.length:Int)<w
  ·obtain ⟨x,at_x⟩:∃ x,set[i]?=some x:=⟨_,List.getElem?_eq_getElem hil⟩
   have e3:set.drop i=x::set.drop (i+1):=by
    rw [List.drop_eq_getElem_cons hil];rw [List.getElem?_eq_getElem hil] at at_x;rw [Option.some.inj at_x]
   rw [e3] at hg
   by_cases hx:x∈z
   ·have hin:=decide_eq_true hx
    rw [AD5 hx] at hg
    have ih':=ih (i+1,r,y) (by dsimp only;omega) (by dsimp only;exact ⟨by omega,by omega,hg⟩)
    refine wk 16 cz ?_
    intro h1 h2 b2 o1 hz1
    refine Ab rfl (Aj 0 rfl rfl Bm fun ⟨r1,r2⟩=>?_)
    refine wk 7 (ct @E3 cz) ?_
    exact tw (ih')
   ·have hin:=decide_eq_false hx
    rw [AB9 hx,if_pos hw] at hg
    have ih':=fun r=>ih (i+1,r,y++[x]) (by dsimp only;omega) (by dsimp only;refine ⟨by omega,by rw [List.length_append,List.length_singleton];omega,?_⟩;rw [if_pos hw,List.append_assoc];exact hg)
    dsimp only at ih'
    simp only [List.length_append,List.length_singleton] at ih'
    refine wk 16 cz ?_
    intro h1 h2 b2 o1 hz1
    refine Ab rfl (Aj 0 rfl rfl Bm fun ⟨r1,r2⟩=>?_)
    refine wk 7 (ct @E3 cz) ?_
    intro b3 o2 hz2
    refine Ab rfl (Aj 0 rfl rfl Bm fun ⟨r3,r4⟩=>?_)
    refine wk 1 cz ?_
    intro b4
    refine Ab rfl (Ik (z:=(x:Int)) 1 0 2 rfl rfl rfl rfl rfl Bj Hb rfl (fun w A hG=>(Bh (by first|(simp only [Bf];omega)|(simp [Bf];done)))) (by omega) _ Iy (by omega) fun r5=>?_)
    refine wk 4 cz ?_
    refine S2 [true,false,true] [0,4,5,6,7] (by exact Zr rfl) rfl rfl (ih' r5)
  ·rw [if_neg hw,List.append_nil] at hg
   subst hg
   refine wk 16 cz ?_
   intro h1 h2
   refine B0 2 [0] [0] rfl (.tmp rfl .nil) rfl rfl rfl ⟨r,rfl,rfl,rfl⟩
 ·obtain rfl:i=set.length:=by omega
  rw [List.drop_length,show Mr z []=[] from rfl,ite_self,List.append_nil] at hg
  subst hg
  refine wk 12 cz ?_
  intro h1
  refine B0 2 [0] [0] rfl (.tmp rfl .nil) rfl rfl rfl ⟨r,rfl,rfl,rfl⟩
end
open Go Go.Fw
set_option maxRecDepth 100000
set_option linter.unusedVariables false
set_option linter.unusedSimpArgs false
set_option maxHeartbeats 0
abbrev ReB (b:Bool) (t:List (List Int)):Value→List Fact→List Bb→Prop:=fun v Φ β=>∃ (pa:Option Addr) (k ca:Nat),v = .tuple #[.slice pa k ca,.bool b]∧Φ=[A2 (Ar Ak) pa k ca t]∧β=[]
abbrev ReO (o:Option (List (List Int))):Value→List Fact→List Bb→Prop:=ReB o.isSome (o.getD [])
theorem AJy {rt:List Int→List Int→Bool}{d:Nat}{s z x:List Int}{T:List (List Int)}(h:rt s x=true):Sp rt d s z (x::T)=V6 (Sp rt (d-1)) s z [] (if 0<d then Mr z x else []) T:=by
 cases d with
 | zero=>rw [Sp,if_pos h];rfl
 | succ d=>rw [Sp,if_pos h,if_pos (Nat.succ_pos d)];rfl
section
variable {p m N:Nat}{Mo w:Int}{md:List Int}{Aa:List (List Int)}
theorem I7 (K:Fok p m md) (hM:Fc (p ^ m) N Aa) (hr:Aa.length≤1000000) (hN:N≤1000):∀ (d:Nat) {n c nm cm ny cy n1 c1 n2 c2 nt ct:Nat}{pm ps py p1 p2 pt:Option Addr}{s z:List Int}{T:List (List Int)},
  ((s.length+d:Nat):Int)=w→s.length+d≤1000→z.length+1000*d≤100000 →
  Br Tryz.prog 133 [.agg #[.int .i64 p,.int .i64 m,.slice pm nm cm,.int .i64 N,.slice ps n c,.int .i64 Mo,.int .i64 w,.slice py ny cy,.bool false],.slice p1 n1 c1,.slice p2 n2 c2,.slice pt nt ct] []
   [A2 Ak pm nm cm md,A2 (Ar Ak) ps n c Aa,A2 Ak p1 n1 c1 s,A2 Ak p2 n2 c2 z,A2 (Ar Ak) pt nt ct T] (ReO (Sp (Tz p m md N Aa Mo) d s z T)):=by
 intro d
 induction d using Nat.strongRecOn with
 | ind d ihd =>
 intro n c nm cm ny cy n1 c1 n2 c2 nt ct pm ps py p1 p2 pt s z T hs hs2 hz
 refine Ad (F:=Ja) rfl fun C=>?_
 refine Bd 3 rfl fun hn hb2 _=>?_
 subst hn
 refine Bd 4 rfl fun hn hb _=>?_
 subst hn
 refine Jh (A2 (Ar Ak) none 0 0 []) (fun w A _=>Wl _ w A none 0) ?_
 cases T with
 | nil =>
  have e0:([]:List (List Int)).length=0:=rfl
  rw [ABR]
  refine wk 10 cz ?_
  intro b1
  refine Gl [0] rfl rfl rfl ⟨_,_,_,rfl,rfl,rfl⟩
 | cons x T =>
  have e0:(x::T).length=T.length+1:=rfl
  have at_x:(x::T)[0]?=some x:=rfl
  have Fl:=fun {n c nm cm ny cy n1 c1 n2 c2:Nat}{pm ps py p1 p2:Option Addr}{s set:List Int}{res:Bool}(h:Tz p m md N Aa Mo s set=res)=>Jw (n:=n) (c:=c) (nm:=nm) (cm:=cm) (ny:=ny) (cy:=cy) (n1:=n1) (c1:=c1) (n2:=n2) (c2:=c2) (pm:=pm) (ps:=ps) (py:=py) (p1:=p1) (p2:=p2) (w:=w) K hM hr hN h
  cases hrt:Tz p m md N Aa Mo s x with
  | false =>
   rw [AIB hrt]
   refine wk 4 cz ?_
   intro b1
   (apply Ch it mx 12;(· rfl);(· rfl))
   (apply Ae 1;(· rfl);(· simp))
   (apply Ac;(· rfl);(· exact Bi fun _=>P1 Fo rfl Af))
   (apply Ac;(· rfl);(· exact Bi fun _=>Tm it rfl (by trivial) (by omega) Af))
   (apply Ae 1;(· rfl);(· simp))
   (apply Ac;(· rfl);(· exact B2 0 rfl rfl ADb rfl))
   (apply Ae 2;(· rfl);(· simp))
   (apply Ku;(· rfl);(· exact Bi fun _=>E0 5 0 rfl rfl rfl Fo (by omega) (by omega) fun z1 hz1 b2 o1=>(Ky default hz1 0 rfl));intro b2 o1)
   (apply Dl;(· rfl);(· exact Bi fun _=>Jz 0 rfl rfl Ez fun pa1 ca1=>(E7 0 rfl));intro pa1 ca1)
   (apply Ac;(· rfl);(· exact Bi fun _=>Ai [3,4,5,0] rfl (Fl (by assumption)) rfl (by rintro _ _ _ ⟨rfl,rfl,rfl⟩;exact Af)))
   (apply Ae 2;(· rfl);(· simp))
   refine B7 rfl ?_
   simp only [List.map_cons,List.map_nil,List.cons_append,List.nil_append]
   refine wk 5 cz ?_
   refine Gl [2] rfl rfl rfl ⟨_,_,_,rfl,rfl,rfl⟩
  | true =>
   rw [AJy hrt]
   have hlx:=AD0 (AGw hrt)
   have hkl:(Mr z x).length≤x.length:=List.length_filter_le _ _
   obtain ⟨L,hL⟩:∃ L,(if 0<d then Mr z x else [])=L:=⟨_,rfl⟩
   rw [hL]
   have hL2:(if (s.length:Int)<w then Mr z x else [])=L:=by
    rw [← hL]
    by_cases h0:0<d
    ·rw [if_pos h0,if_pos (by omega)]
    ·rw [if_neg h0,if_neg (by omega)]
   have hd0:0<d∨L.length=0:=by
    by_cases h0:0<d
    ·exact .inl h0
    ·rw [if_neg h0] at hL;subst hL;exact .inr rfl
   have hLx:∀ y∈L,y∈x:=fun y hy=>by
    by_cases h0:0<d
    ·rw [if_pos h0] at hL;rw [← hL] at hy;exact (List.mem_filter.1 hy).1
    ·rw [if_neg h0] at hL;rw [← hL] at hy;cases hy
   have hLl:L.length≤1000:=by
    by_cases h0:0<d
    ·rw [if_pos h0] at hL;rw [← hL];omega
    ·rcases hd0 with h|h <;> omega
   have Kf:=fun {n c nm cm ny cy n1 c1 n2 c2 n3 c3:Nat}{pm ps py p1 p2 p3:Option Addr}=>(Ke (p:=p) (m:=m) (N:=N) (Mo:=Mo) (n:=n) (c:=c) (nm:=nm) (cm:=cm) (ny:=ny) (cy:=cy) (n1:=n1) (c1:=c1) (n2:=n2) (c2:=c2) (n3:=n3) (c3:=c3) (pm:=pm) (ps:=ps) (py:=py) (p1:=p1) (p2:=p2) (p3:=p3) (w:=w) (s:=s) (z:=z) (set:=(x::T).getD 0 default) (L:=L) (show x.length≤1000000 by omega) hL2).pubR (by show _*8≤140737488355328;omega)
   obtain ⟨G,hG⟩:∃ G,V6 (Sp (Tz p m md N Aa Mo) (d-1)) s z [] L T=G:=⟨_,rfl⟩
   rw [hG]
   refine wk 4 cz ?_
   intro b1
   (apply Ch it mx 12;(· rfl);(· rfl))
   (apply Ae 1;(· rfl);(· simp))
   (apply Ac;(· rfl);(· exact Bi fun _=>P1 Fo rfl Af))
   (apply Ac;(· rfl);(· exact Bi fun _=>Tm it rfl (by trivial) (by omega) Af))
   (apply Ae 1;(· rfl);(· simp))
   (apply Ac;(· rfl);(· exact B2 0 rfl rfl ADb rfl))
   (apply Ae 2;(· rfl);(· simp))
   (apply Ku;(· rfl);(· exact Bi fun _=>E0 5 0 rfl rfl rfl Fo (by omega) (by omega) fun z1 hz1 b2 o1=>(Ky default hz1 0 rfl));intro b2 o1)
   (apply Dl;(· rfl);(· exact Bi fun _=>Jz 0 rfl rfl Ez fun pa1 ca1=>(E7 0 rfl));intro pa1 ca1)
   (apply Ac;(· rfl);(· exact Bi fun _=>Ai [3,4,5,0] rfl (Fl (by assumption)) rfl (by rintro _ _ _ ⟨rfl,rfl,rfl⟩;exact Af)))
   (apply Ae 2;(· rfl);(· simp))
   refine B7 rfl ?_
   simp only [List.map_cons,List.map_nil,List.cons_append,List.nil_append]
   refine wk 3 cz ?_
   (apply Ch it mx 7;(· rfl);(· rfl))
   (apply Ac;(· rfl);(· exact B2 0 rfl rfl ADb rfl))
   (apply Ae 3;(· rfl);(· simp))
   (apply Ku;(· rfl);(· exact Bi fun _=>E0 7 0 rfl rfl rfl Fo (by omega) (by omega) fun z1 hz1 b3 o2=>(Ky default hz1 0 rfl));intro b3 o2)
   (apply Dl;(· rfl);(· exact Bi fun _=>Jz 0 rfl rfl Ez fun pa2 ca2=>(E7 0 rfl));intro pa2 ca2)
   (apply Dl;(· rfl);(· exact Bi fun _=>Ai [7,8,0] rfl (Kf) rfl (by rintro _ _ _ ⟨pa3,ca3,rfl,rfl,rfl⟩;exact (E7 0 rfl)));intro pa3 ca3)
   refine B7 rfl ?_
   simp only [List.map_cons,List.map_nil,List.cons_append,List.nil_append]
   refine wk 3 cz ?_
   refine Ab rfl (AFp 10 1 rfl rfl rfl Fo (by omega) (by omega) fun pa4=>?_)
   refine wk 6 cz ?_
   refine Ag (X:=Nat×Option Addr×Nat×Nat×List (List Int)×Bool) [1,2,4,8,9,10] [0,1,2,3,4,5,6,7,8,9,10,11] (fun v=>[(13,.int .i64 (v.1:Int)),(11,.slice v.2.1 v.2.2.1 v.2.2.2.1),(12,.bool v.2.2.2.2.2)]) (fun _=>_) (fun v=>[A2 (Ar Ak) v.2.1 v.2.2.1 v.2.2.2.1 v.2.2.2.2.1])
    (fun v=>v.1≤L.length∧(v.2.2.2.2.2=true→V6 (Sp (Tz p m md N Aa Mo) (d-1)) s z (L.take v.1) (L.drop v.1) v.2.2.2.2.1=G)∧(v.2.2.2.2.2=false→G=none∧v.2.2.2.2.1=[])) (fun v=>L.length-v.1) (0,pa4,(x::T).length-1,ct-1,T,true) [0] rfl rfl rfl ⟨Nat.zero_le _,fun _=>hG,fun h=>Bool.noConfusion h⟩ (by repeat (first|exact Fr.sub_nil _|refine Fr.sub_cons rfl ?_)) rfl rfl ?_
   rintro ⟨i,pu,ku,cu,tr,ok⟩ ⟨hi,hg,hg2⟩ ih
   simp only [List.cons_append,List.nil_append] at hi hg hg2 ih ⊢
   cases ok with
   | false =>
    obtain ⟨rfl,rfl⟩:=hg2 rfl
    clear hg hg2 ih
    by_cases hil:i<L.length
    ·refine wk 12 cz ?_
     intro h1
     refine Gl [0] rfl rfl rfl ⟨_,_,_,rfl,rfl,rfl⟩
    ·refine wk 12 cz ?_
     intro h1
     refine Gl [0] rfl rfl rfl ⟨_,_,_,rfl,rfl,rfl⟩
   | true =>
   have hg:=hg rfl
   clear hg2
   by_cases hil:i<L.length
   ·have hd1:0<d:=by omega
    have e3:L.drop i=L.getD i default::L.drop (i+1):=by
     rw [List.drop_eq_getElem_cons hil,List.getD_eq_getElem?_getD,List.getElem?_eq_getElem hil];rfl
    have e4:L.take (i+1)=L.take i++[L.getD i default]:=by rw [List.take_add_one,List.getD_eq_getElem?_getD,List.getElem?_eq_getElem hil];rfl
    have e1:(s++[L.getD i default]).length=s.length+1:=by simp
    have e2:(z++L.take i).length=z.length+i:=by rw [List.length_append,List.length_take];omega
    have hz3:z.length≤200000:=by omega
    have hy:0≤L.getD i default∧L.getD i default<(N:Int):=by
     have h1:L.getD i default∈L:=by rw [List.getD_eq_getElem?_getD,List.getElem?_eq_getElem hil];exact List.getElem_mem hil
     exact (AGw hrt).1 _ (hLx _ h1)
    obtain ⟨hy0,hy1⟩:=hy
    have Ef:=fun {ps px:Option Addr}{n c k d:Nat}{l x:List Int}(hl:(l++x).length≤1000000)=>(Qi (ps:=ps) (px:=px) (n:=n) (c:=c) (k:=k) (d:=d) hl).pubR (by show _*8≤140737488355328;omega)
    rw [e3,V6] at hg
    have A5:=fun {n c nm cm ny cy n1 c1 n2 c2 nt ct:Nat}{pm ps py p1 p2 pt:Option Addr}=>ihd (d-1) (by omega) (n:=n) (c:=c) (nm:=nm) (cm:=cm) (ny:=ny) (cy:=cy) (n1:=n1) (c1:=c1) (n2:=n2) (c2:=c2) (nt:=nt) (ct:=ct) (pm:=pm) (ps:=ps) (py:=py) (p1:=p1) (p2:=p2) (pt:=pt) (s:=s++[L.getD i default]) (z:=z++L.take i) (T:=tr) (by omega) (by omega) (by omega)
    cases ho:Sp (Tz p m md N Aa Mo) (d-1) (s++[L.getD i default]) (z++L.take i) tr with
    | none =>
     rw [ho] at hg
     have hh:ReO (Sp (Tz p m md N Aa Mo) (d-1) (s++[L.getD i default]) (z++L.take i) tr)=ReB false []:=by rw [ho];rfl
     rw [hh] at A5
     refine wk 10 cz ?_
     intro h1
     (apply Ch it mx 19;(· rfl);(· rfl))
     (apply Ac;(· rfl);(· exact B2 0 rfl rfl ADb rfl))
     (apply Ae 3;(· rfl);(· simp))
     (apply Ku;(· rfl);(· exact Bi fun _=>E0 2 (i) rfl rfl rfl Bj rfl (by omega) fun z1 hz1 b4 o3=>(Ky default hz1 0 rfl));intro b4 o3)
     (apply Ac;(· rfl);(· exact Bi fun _=>Aj 0 rfl rfl Bm fun ⟨r1,r2⟩=>Af))
     (apply Dl;(· rfl);(· exact Bi fun _=>ACX Bj Hb rfl rfl rfl rfl (by decide) (by decide) rfl fun b5=>AD1 (E:=Ak) [[Value.int IntKind.i64 (L.getD i default)]] [L.getD i default] (fun w A hG=>(Ji ⟨rfl,by first|assumption|(simp only [Bf];omega)⟩ D5)) rfl rfl rfl (by first|decide|exact Nat.le_of_ble_eq_true rfl));intro pa5 ca4)
     (apply Dl;(· rfl);(· exact Bi fun _=>Ai [12,0] rfl (Ef (by omega)) rfl (by rintro _ _ _ ⟨pa6,ca5,rfl,rfl,rfl⟩;exact (E7 0 rfl)));intro pa6 ca5)
     (apply Ae 3;(· rfl);(· simp))
     (apply Dl;(· rfl);(· exact Bi fun _=>T6 2 (i) rfl rfl rfl Bj (by omega) (by omega) (E7 0 rfl));intro pa7 ca6)
     (apply Dl;(· rfl);(· exact Bi fun _=>Ai [15,0] rfl (Ef (by omega)) rfl (by rintro _ _ _ ⟨pa8,ca7,rfl,rfl,rfl⟩;exact (E7 0 rfl)));intro pa8 ca7)
     (apply Ae 1;(· rfl);(· simp))
     (apply Sy (val:=(fun g=>Value.tuple #[Value.slice (g 0).fst (g 1).snd.fst (g 2).snd.fst,Value.bool false])) (f:=(fun g=>[A2 (Ar Ak) (g 0).fst (g 1).snd.fst (g 2).snd.fst []]));(· rfl);(· exact Bi fun _=>Ai [13,14,2,0,5] rfl (A5) rfl (by rintro _ _ _ ⟨pag0,kg1,cag2,rfl,rfl,rfl⟩;exact fun _ _ _ hG=>⟨(fun|0=>(pag0,0,0,[])|1=>(none,kg1,0,[])|2=>(none,cag2,0,[])|_=>default),rfl,fun g hg=>Ip (hG _ (List.mem_append_left _ hg))⟩));intro g1;dsimp only [List.map_cons,List.map_nil])
     (apply Kp [59] (fun vs=>vs.getD 0 undef) (v:=Value.tuple #[Value.slice (g1 0).fst (g1 1).snd.fst (g1 2).snd.fst,Value.bool false]);(· rfl);(· rfl);(· rfl);(· rfl);(· exact Bi fun _=>Sx it rfl (by trivial) Af))
     (apply Kp [44] (fun vs=>match vs.getD 0 undef with | .tuple a=>a.getD 0 undef|_=>undef) (v:=Value.slice (g1 0).fst (g1 1).snd.fst (g1 2).snd.fst);(· rfl);(· rfl);(· rfl);(· rfl);(· exact Bi fun _=>Sx it rfl (by trivial) Af))
     (apply Ac;(· rfl);(· exact Bi fun _=>Sx it rfl (by trivial) Af))
     (apply Kp [60] (fun vs=>vs.getD 0 undef) (v:=Value.slice (g1 0).fst (g1 1).snd.fst (g1 2).snd.fst);(· rfl);(· rfl);(· rfl);(· rfl);(· exact Bi fun _=>Sx it rfl (by trivial) Af))
     refine B7 rfl ?_
     simp only [List.map_cons,List.map_nil,List.cons_append,List.nil_append]
     refine wk 4 cz ?_
     exact tw (ih (i+1,(g1 0).1,(g1 1).2.1,(g1 2).2.1,[],false) (by dsimp only;omega) ⟨by dsimp only;omega,fun h=>Bool.noConfusion h,fun _=>⟨hg.symm,rfl⟩⟩)
    | some t' =>
     rw [ho] at hg
     have hh:ReO (Sp (Tz p m md N Aa Mo) (d-1) (s++[L.getD i default]) (z++L.take i) tr)=ReB true t':=by rw [ho];rfl
     rw [hh] at A5
     refine wk 10 cz ?_
     intro h1
     (apply Ch it mx 19;(· rfl);(· rfl))
     (apply Ac;(· rfl);(· exact B2 0 rfl rfl ADb rfl))
     (apply Ae 3;(· rfl);(· simp))
     (apply Ku;(· rfl);(· exact Bi fun _=>E0 2 (i) rfl rfl rfl Bj rfl (by omega) fun z1 hz1 b4 o3=>(Ky default hz1 0 rfl));intro b4 o3)
     (apply Ac;(· rfl);(· exact Bi fun _=>Aj 0 rfl rfl Bm fun ⟨r1,r2⟩=>Af))
     (apply Dl;(· rfl);(· exact Bi fun _=>ACX Bj Hb rfl rfl rfl rfl (by decide) (by decide) rfl fun b5=>AD1 (E:=Ak) [[Value.int IntKind.i64 (L.getD i default)]] [L.getD i default] (fun w A hG=>(Ji ⟨rfl,by first|assumption|(simp only [Bf];omega)⟩ D5)) rfl rfl rfl (by first|decide|exact Nat.le_of_ble_eq_true rfl));intro pa5 ca4)
     (apply Dl;(· rfl);(· exact Bi fun _=>Ai [12,0] rfl (Ef (by omega)) rfl (by rintro _ _ _ ⟨pa6,ca5,rfl,rfl,rfl⟩;exact (E7 0 rfl)));intro pa6 ca5)
     (apply Ae 3;(· rfl);(· simp))
     (apply Dl;(· rfl);(· exact Bi fun _=>T6 2 (i) rfl rfl rfl Bj (by omega) (by omega) (E7 0 rfl));intro pa7 ca6)
     (apply Dl;(· rfl);(· exact Bi fun _=>Ai [15,0] rfl (Ef (by omega)) rfl (by rintro _ _ _ ⟨pa8,ca7,rfl,rfl,rfl⟩;exact (E7 0 rfl)));intro pa8 ca7)
     (apply Ae 1;(· rfl);(· simp))
     (apply Sy (val:=(fun g=>Value.tuple #[Value.slice (g 0).fst (g 1).snd.fst (g 2).snd.fst,Value.bool true])) (f:=(fun g=>[A2 (Ar Ak) (g 0).fst (g 1).snd.fst (g 2).snd.fst t']));(· rfl);(· exact Bi fun _=>Ai [13,14,2,0,5] rfl (A5) rfl (by rintro _ _ _ ⟨pag0,kg1,cag2,rfl,rfl,rfl⟩;exact fun _ _ _ hG=>⟨(fun|0=>(pag0,0,0,[])|1=>(none,kg1,0,[])|2=>(none,cag2,0,[])|_=>default),rfl,fun g hg=>Ip (hG _ (List.mem_append_left _ hg))⟩));intro g1;dsimp only [List.map_cons,List.map_nil])
     (apply Kp [59] (fun vs=>vs.getD 0 undef) (v:=Value.tuple #[Value.slice (g1 0).fst (g1 1).snd.fst (g1 2).snd.fst,Value.bool true]);(· rfl);(· rfl);(· rfl);(· rfl);(· exact Bi fun _=>Sx it rfl (by trivial) Af))
     (apply Kp [44] (fun vs=>match vs.getD 0 undef with | .tuple a=>a.getD 0 undef|_=>undef) (v:=Value.slice (g1 0).fst (g1 1).snd.fst (g1 2).snd.fst);(· rfl);(· rfl);(· rfl);(· rfl);(· exact Bi fun _=>Sx it rfl (by trivial) Af))
     (apply Ac;(· rfl);(· exact Bi fun _=>Sx it rfl (by trivial) Af))
     (apply Kp [60] (fun vs=>vs.getD 0 undef) (v:=Value.slice (g1 0).fst (g1 1).snd.fst (g1 2).snd.fst);(· rfl);(· rfl);(· rfl);(· rfl);(· exact Bi fun _=>Sx it rfl (by trivial) Af))
     refine B7 rfl ?_
     simp only [List.map_cons,List.map_nil,List.cons_append,List.nil_append]
     refine wk 4 cz ?_
     exact tw (ih (i+1,(g1 0).1,(g1 1).2.1,(g1 2).2.1,t',true) (by dsimp only;omega) ⟨by dsimp only;omega,fun _=>by dsimp only;rw [e4];exact hg,fun h=>Bool.noConfusion h⟩)
   ·obtain rfl:i=L.length:=by omega
    rw [List.take_length,List.drop_length,V6] at hg
    subst hg
    refine wk 12 cz ?_
    intro h1
    refine Gl [0] rfl rfl rfl ⟨_,_,_,rfl,rfl,rfl⟩
end
section
variable {p m N n c nm cm nt ct ny cy:Nat}{pm ps pt py:Option Addr}{Mo:Int}{d:Nat}{md:List Int}{Aa sets:List (List Int)}
abbrev ReL (b:Bool) (t:List (List Int)):Value→List Fact→List Bb→Prop:=fun v Φ β=>∃ (pa:Option Addr) (ca:Nat),v = .tuple #[.slice pa t.length ca,.bool b]∧Φ=[A2 (Ar Ak) pa t.length ca t]∧β=[]
theorem reL {b:Bool}{t:List (List Int)}(C:Cx) (w:World) (v:Value) (Φ:List Fact) (β':List Bb) (hQ:ReB b t v Φ β') (hO:Own C w β') (hf:∀ g∈Φ,g.holds w (ok C w β')):∃ Φ2 β2,ReL b t v Φ2 β2∧Own C w β2∧∀ g∈Φ2,g.holds w (ok C w β2):=by
 obtain ⟨pa,k,ca,rfl,rfl,rfl⟩:=hQ
 have:=(hf _ (.head _)).1
 subst this
 exact ⟨_,_,⟨pa,ca,rfl,rfl,rfl⟩,hO,hf⟩
theorem Jc {bo:Bool}(K:Fok p m md) (hM:Fc (p ^ m) N Aa) (hr:Aa.length≤1000000) (hN:N≤1000) (hd:d≤64) (hbo:decide (Sp (Tz p m md N Aa Mo) d [] [] sets=some [])=bo) :
  Br Tryz.prog 100 [.agg #[.int .i64 p,.int .i64 m,.slice pm nm cm,.int .i64 N,.slice ps n c,.int .i64 Mo,.int .i64 d,.slice py ny cy,.bool false],.agg #[.slice pt nt ct]] [] [A2 Ak pm nm cm md,A2 (Ar Ak) ps n c Aa,A2 (Ar Ak) pt nt ct sets]
   (Rv (.int .i64 (if bo=true then 0 else 13)) []):=by
 refine Ad (F:=I4) rfl fun C=>?_
 refine Jh (A2 Ak none 0 0 []) (fun w A _=>Wl _ w A none 0) ?_
 have e0:([]:List Int).length=0:=rfl
 have h:=fun {n c nm cm ny cy nt ct:Nat}{pm ps py pt:Option Addr}=>I7 (p:=p) (m:=m) (N:=N) (Mo:=Mo) (w:=d) (Aa:=Aa) K hM hr hN d (n:=n) (c:=c) (nm:=nm) (cm:=cm) (ny:=ny) (cy:=cy) (n1:=0) (c1:=0) (n2:=0) (c2:=0) (nt:=nt) (ct:=ct) (pm:=pm) (ps:=ps) (py:=py) (p1:=none) (p2:=none) (pt:=pt) (s:=[]) (z:=[]) (T:=sets) (by rw [e0,Nat.zero_add]) (by rw [e0];omega) (by rw [e0];omega)
 cases hE:Sp (Tz p m md N Aa Mo) d [] [] sets with
 | none =>
  have hh:ReO (Sp (Tz p m md N Aa Mo) d [] [] sets)=ReB false []:=by rw [hE];rfl
  rw [hh] at h
  rw [hE] at hbo
  simp only [reduceCtorEq,decide_false] at hbo
  subst hbo
  have A5:=@h
  refine wk 8 cz ?_
  intro b1 b2
  refine Ab rfl (Ai [1,2,0,0,3] rfl (A5) rfl ?_)
  rintro _ _ _ ⟨pa1,k1,ca1,rfl,rfl,rfl⟩
  simp only [List.cons_append,List.nil_append]
  refine wk 8 cz ?_
  exact ge
 | some T =>
  have hh:ReO (Sp (Tz p m md N Aa Mo) d [] [] sets)=ReB true T:=by rw [hE];rfl
  rw [hh] at h
  rw [hE] at hbo
  have A5:=fun {n c nm cm ny cy nt ct:Nat}{pm ps py pt:Option Addr}=>(h (n:=n) (c:=c) (nm:=nm) (cm:=cm) (ny:=ny) (cy:=cy) (nt:=nt) (ct:=ct) (pm:=pm) (ps:=ps) (py:=py) (pt:=pt)).mono reL
  cases T with
  | nil =>
   have e1:([]:List (List Int)).length=0:=rfl
   simp only [decide_true] at hbo
   subst hbo
   refine wk 8 cz ?_
   intro b1 b2
   refine Ab rfl (Ai [1,2,0,0,3] rfl (A5) rfl ?_)
   rintro _ _ _ ⟨pa1,ca1,rfl,rfl,rfl⟩
   simp only [List.cons_append,List.nil_append]
   refine wk 10 cz ?_
   intro h1
   exact ge
  | cons x T =>
   have e1:(x::T).length=T.length+1:=rfl
   simp only [Option.some.injEq,reduceCtorEq,decide_false] at hbo
   subst hbo
   refine wk 8 cz ?_
   intro b1 b2
   refine Ab rfl (Ai [1,2,0,0,3] rfl (A5) rfl ?_)
   rintro _ _ _ ⟨pa1,ca1,rfl,rfl,rfl⟩
   simp only [List.cons_append,List.nil_append]
   refine wk 10 cz ?_
   intro h1
   exact ge
theorem Q8 (CC:Cok p m md N Aa) (hM:0≤Mo) (hM2:Mo≤Aa.length) (hd:d≤N):Br Tryz.prog 99 [.agg #[.int .i64 p,.int .i64 m,.slice pm nm cm,.int .i64 N,.slice ps n c],.int .i64 Mo,.int .i64 d] [] [A2 Ak pm nm cm md,A2 (Ar Ak) ps n c Aa] (Rv (.int .i64 0) []):=by
 refine Ad (F:=Qb) rfl fun C=>?_
 refine Bd 1 rfl fun hn hb _=>?_
 subst hn
 have h64:=CC.n64
 have Ao:=fun {pm ps:Option Addr}{nm cm n c:Nat}=>Fk (P:=p) (M:=m) (N:=N) (pm:=pm) (ps:=ps) (nm:=nm) (cm:=cm) (n:=n) (c:=c) (md:=md) (Aa:=Aa) (by simp only [Bf];omega) CC.ck
 refine wk 25 (ct @Ao cz) ?_
 intro b1 h1 h2 h3
 refine Bg rfl rfl (A3 rfl S9 ?_)
 refine Bg rfl rfl (Dt 0 rfl rfl Bm rfl ?_)
 refine Au it 3 rfl (by simp) ?_
 refine wk 5 cz ?_
 intro h4
 exact ge
theorem K8 {e:Int}(CC:Cok p m md N Aa) (hM:0≤Mo) (hM2:Mo≤Aa.length) (hd:d≤N) (h:(if exB p m md N Aa Mo d sets=true then 0 else 13)=e):Br Tryz.prog 64 [.agg #[.int .i64 p,.int .i64 m,.slice pm nm cm,.int .i64 N,.slice ps n c],.int .i64 Mo,.int .i64 d,.agg #[.slice pt nt ct]] [] [A2 Ak pm nm cm md,A2 (Ar Ak) ps n c Aa,A2 (Ar Ak) pt nt ct sets] (Rv (.int .i64 e) []):=by
 refine Ad (F:=Le) rfl fun C=>?_
 have h64:=CC.n64
 have hln:=CC.len
 have Qo:=fun {n c nm cm:Nat}{pm ps:Option Addr}=>Q8 (n:=n) (c:=c) (nm:=nm) (cm:=cm) (pm:=pm) (ps:=ps) CC hM hM2 hd
 have Fe:=fun {n c nm cm nt ct ny cy:Nat}{pm ps pt py:Option Addr}=>Jc (n:=n) (c:=c) (nm:=nm) (cm:=cm) (nt:=nt) (ct:=ct) (ny:=ny) (cy:=cy) (pm:=pm) (ps:=ps) (pt:=pt) (py:=py) (Mo:=Mo) (d:=d) (sets:=sets) CC.K CC.mat (by omega) (by omega) (by omega) rfl
 rw [show (decide (Sp (Tz p m md N Aa Mo) d [] [] sets=some []))=exB p m md N Aa Mo d sets from rfl,h] at Fe
 refine wk 7 cz ?_
 intro b1 b2
 refine Ab rfl (Ai [0,1] rfl (Qo) rfl ?_)
 rintro _ _ _ ⟨rfl,rfl,rfl⟩
 simp only [List.cons_append,List.nil_append]
 refine wk 10 cz ?_
 intro h1
 refine Ab rfl (Ai [0,1,2] rfl (Fe) rfl ?_)
 rintro _ _ _ ⟨rfl,rfl,rfl⟩
 simp only [List.cons_append,List.nil_append]
 simp only [decide_true]
 refine wk 2 cz ?_
 exact ge
theorem I5 {P M N dd e:Int}(hN:Bf .i64 N) (hd:Bf .i64 dd) (h:cdE P M md N Aa dd sets=e):Br Tryz.prog 31 [.agg #[.int .i64 P,.int .i64 M,.slice pm nm cm,.int .i64 N,.slice ps n c],.int .i64 dd,.agg #[.slice pt nt ct]] [] [A2 Ak pm nm cm md,A2 (Ar Ak) ps n c Aa,A2 (Ar Ak) pt nt ct sets]
   (Rv (.int .i64 e) []):=by
 refine Ad (F:=I6) rfl fun C=>?_
 refine Bd 1 rfl fun hn hb _=>?_
 subst hn
 have hr:=Nl P M md N Aa
 have Ao:=fun {pm ps:Option Addr}{nm cm n c:Nat}=>Fk (P:=P) (M:=M) (N:=N) (pm:=pm) (ps:=ps) (nm:=nm) (cm:=cm) (n:=n) (c:=c) (md:=md) (Aa:=Aa) hN rfl
 rw [cdE] at h
 by_cases hc:Xw P M md N Aa=0
 ·rw [if_neg (fun e=>e hc)] at h
  rw [hc] at Ao
  obtain ⟨p,m,N,rfl,rfl,rfl,CC⟩:=ACs hc
  have h64:=CC.n64
  have hln:=CC.len
  rw [Int.toNat_natCast,Int.toNat_natCast,Int.toNat_natCast] at h
  by_cases h1:dd<1
  ·rw [if_pos (.inl h1)] at h
   subst h
   refine wk 6 cz ?_
   intro b1 b2
   refine Ab rfl (Ai [0,1] rfl (Ao) rfl ?_)
   rintro _ _ _ ⟨rfl,rfl,rfl⟩
   simp only [List.cons_append,List.nil_append]
   refine wk 16 cz ?_
   intro h2 h3
   exact ge
  ·by_cases h2:N+1<dd
   ·rw [if_pos (.inr h2)] at h
    subst h
    refine wk 6 cz ?_
    intro b1 b2
    refine Ab rfl (Ai [0,1] rfl (Ao) rfl ?_)
    rintro _ _ _ ⟨rfl,rfl,rfl⟩
    simp only [List.cons_append,List.nil_append]
    refine wk 19 cz ?_
    intro h3 h4 h5
    exact ge
   ·rw [if_neg (by omega)] at h
    have Gk:=fun {n c nm cm nt ct:Nat}{pm ps pt:Option Addr}=>K8 (n:=n) (c:=c) (nm:=nm) (cm:=cm) (nt:=nt) (ct:=ct) (pm:=pm) (ps:=ps) (pt:=pt) (sets:=sets) (Mo:=Aa.length) (d:=(dd-1).toNat) CC (by omega) (by omega) (by omega) h
    rw [show (((dd-1).toNat:Nat):Int)=dd-1 by omega] at Gk
    refine wk 6 cz ?_
    intro b1 b2
    refine Ab rfl (Ai [0,1] rfl (Ao) rfl ?_)
    rintro _ _ _ ⟨rfl,rfl,rfl⟩
    simp only [List.cons_append,List.nil_append]
    refine wk 23 cz ?_
    intro h3 h4 h5
    refine Ab rfl (Ai [0,1,2] rfl (Gk) rfl ?_)
    rintro _ _ _ ⟨rfl,rfl,rfl⟩
    simp only [List.cons_append,List.nil_append]
    simp only [decide_true]
    refine wk 2 cz ?_
    exact ge
 ·rw [if_pos hc] at h
  subst h
  refine wk 6 cz ?_
  intro b1 b2
  refine Ab rfl (Ai [0,1] rfl (Ao) rfl ?_)
  rintro _ _ _ ⟨rfl,rfl,rfl⟩
  simp only [List.cons_append,List.nil_append]
  refine wk 8 cz ?_
  intro h1
  exact ge
end
open Go Go.Fw
set_option maxRecDepth 100000
set_option linter.unusedVariables false
set_option linter.unusedSimpArgs false
set_option maxHeartbeats 0
theorem AHf {P:Program}{F:Fun P}{C:Cx}{S:List It}{σ:Fr}{β:List Bb}{Γ:List Fact}{R:Value→World→Prop}{pa:Option Addr}{m ca:Nat}{l:List Int}(n:Nat) (hn:A8 Γ n=some (A2 Ak pa m ca l)) (h:(∀ x∈l,Bf .i64 x)→J F C S σ β Γ R):J F C S σ β Γ R :=
 Zp (fun w A hG x hx=>by
  obtain ⟨_,_,_,hs⟩:=hG _ (Al hn)
  rcases hs with rfl|⟨b,o,_,_,hel⟩
  ·cases hx
  ·obtain ⟨i,hi⟩:=List.getElem?_of_mem hx
   obtain ⟨vs,_,_,h2⟩:=hel i x hi
   exact h2) h
noncomputable def cfE (P M:Int) (md:List Int) (N:Int) (Aa:List (List Int)) (dd:Int) (sets:List (List Int)) (racks:List Int) (W:Int):Int :=
 if Xw P M md N Aa≠0 then Xw P M md N Aa else if Aa.length=0 then 9 else if cdE P M md N Aa dd sets≠0 then cdE P M md N Aa dd sets
 else if 65536<O3 N.toNat (((dd-1) / 2).toNat+1) then 8 else if W<1∨16<W∨racks.length<1∨64<racks.length∨(∃ x∈racks,x<1) then 6
 else if 256<Bq racks then 8 else if Bq racks<N then 10 else 0
theorem AB1 {P M N dd:Int}{md:List Int}{Aa sets:List (List Int)}:0≤cdE P M md N Aa dd sets∧cdE P M md N Aa dd sets≤13:=by
 have:=Nl P M md N Aa
 rw [cdE]
 split
 ·omega
 ·split
  ·omega
  ·split <;> omega
theorem AIV {p m N:Nat}{dd:Int}{md:List Int}{Aa sets:List (List Int)}(CC:Cok p m md N Aa) (h:cdE p m md N Aa dd sets=0):1≤dd∧dd≤N+1:=by
 rw [cdE,CC.ck,if_neg (by simp)] at h
 split at h
 ·cases h
 ·omega
section
variable {P M N dd W e:Int}{n c nm cm nt ct nr cr:Nat}{pm ps pt pr:Option Addr}{md racks:List Int}{Aa sets:List (List Int)}
theorem D6 (h0:∀ x∈racks,0≤x) (hs:Bq racks≤1000000):Br Tryz.prog 33 [.agg #[.int .i64 P,.int .i64 M,.slice pm nm cm,.int .i64 N,.slice ps n c,.int .i64 dd,.slice pt nt ct,.slice pr nr cr,.int .i64 W]] [] [A2 Ak pr nr cr racks] (Rv (.int .i64 (Bq racks)) []):=by
 refine Ad (F:=Pv) rfl fun C=>?_
 refine Bd 0 rfl fun hn hb _=>?_
 subst hn
 have hb':racks.length*8≤140737488355328:=hb
 refine wk 8 cz ?_
 intro b1
 refine Ag (X:=Nat) [1,2] [0] (fun i=>[(4,.int .i64 (i:Int)),(3,.int .i64 (Bq (racks.take i)))]) (fun _=>_) (fun _=>[]) (fun i=>i≤racks.length) (fun i=>racks.length-i) 0 [] rfl rfl rfl (Nat.zero_le _) (by repeat (first|exact Fr.sub_nil _|refine Fr.sub_cons rfl ?_)) rfl rfl ?_
 rintro i hi ih
 simp only [List.cons_append,List.nil_append] at hi ih ⊢
 have hst:=Cv h0 i
 by_cases h9:i<racks.length
 ·obtain ⟨x,at_x⟩:∃ x,racks[i]?=some x:=⟨_,List.getElem?_eq_getElem h9⟩
  have hx:=h0 x (List.mem_of_getElem? at_x)
  have hst2:=Cv h0 (i+1)
  rw [Cw at_x] at hst2
  have ih':=ih (i+1) (by omega) (by omega)
  rw [Cw at_x] at ih'
  refine wk 14 cz ?_
  intro h1 b2 o1 hz1
  refine Ab rfl (Aj 0 rfl rfl Bm fun ⟨r1,r2⟩=>?_)
  refine wk 4 cz ?_
  exact tw (ih')
 ·obtain rfl:i=racks.length:=by omega
  rw [List.take_length]
  clear ih
  refine wk 11 cz ?_
  intro h1
  exact ge
theorem Kz (hN:Bf .i64 N) (hd:Bf .i64 dd) (h:cfE P M md N Aa dd sets racks W=e):Br Tryz.prog 10 [.agg #[.int .i64 P,.int .i64 M,.slice pm nm cm,.int .i64 N,.slice ps n c,.int .i64 dd,.slice pt nt ct,.slice pr nr cr,.int .i64 W]] [] [A2 Ak pm nm cm md,A2 (Ar Ak) ps n c Aa,A2 (Ar Ak) pt nt ct sets,A2 Ak pr nr cr racks] (Rv (.int .i64 e) []):=by
 refine Ad (F:=Uh) rfl fun C=>?_
 refine Bd 1 rfl fun hn hb _=>?_
 subst hn
 refine Bd 3 rfl fun hn hb2 _=>?_
 subst hn
 have hb2':racks.length*8≤140737488355328:=hb2
 refine AHf 3 rfl fun hrr=>?_
 have Eb:=fun {pm ps:Option Addr}{nm cm n c:Nat}=>Q3 (P:=P) (M:=M) (pm:=pm) (ps:=ps) (nm:=nm) (cm:=cm) (n:=n) (c:=c) (md:=md) (Aa:=Aa) hN rfl
 have hr:=Nl P M md N Aa
 rw [cfE] at h
 by_cases hc:Xw P M md N Aa=0
 ·rw [if_neg (fun e=>e hc)] at h
  rw [hc] at Eb
  obtain ⟨p,m,N,rfl,rfl,rfl,CC⟩:=ACs hc
  have h64:=CC.n64
  by_cases h0:Aa.length=0
  ·rw [if_pos h0] at h
   subst h
   refine wk 6 cz ?_
   intro b1
   refine Ab rfl (Ai [0,1] rfl (Eb) rfl ?_)
   rintro _ _ _ ⟨rfl,rfl,rfl⟩
   simp only [List.cons_append,List.nil_append]
   refine wk 16 cz ?_
   intro h1 h2
   exact ge
  ·rw [if_neg h0] at h
   have hcr:=AB1 (P:=p) (M:=m) (N:=N) (dd:=dd) (md:=md) (Aa:=Aa) (sets:=sets)
   have Es:=fun {pm ps pt:Option Addr}{nm cm n c nt ct:Nat}=>Nh (pm:=pm) (ps:=ps) (pt:=pt) (nm:=nm) (cm:=cm) (n:=n) (c:=c) (nt:=nt) (ct:=ct) (sets:=sets) (e:=cdE p m md N Aa dd sets) CC hd (by omega) rfl
   by_cases h1:cdE p m md N Aa dd sets=0
   ·rw [if_neg (fun e=>e h1),Int.toNat_natCast] at h
    rw [h1] at Es
    obtain ⟨d1,d2⟩:=AIV CC h1
    obtain ⟨D,hD⟩:=Int.eq_ofNat_of_zero_le (show 0≤(dd-1) / 2 by omega)
    rw [hD,Int.toNat_natCast] at h
    have hDN:D≤N:=by omega
    refine wk 6 cz ?_
    intro b1
    refine Ab rfl (Ai [0,1] rfl (Eb) rfl ?_)
    rintro _ _ _ ⟨rfl,rfl,rfl⟩
    simp only [List.cons_append,List.nil_append]
    refine wk 20 cz ?_
    intro h2 h3
    refine Ab rfl (Ai [0,1,2] rfl (Es) rfl ?_)
    rintro _ _ _ ⟨rfl,rfl,rfl⟩
    simp only [List.cons_append,List.nil_append]
    simp only [decide_true]
    refine wk 10 cz ?_
    intro h4
    refine Ag (X:=Nat) [1] [0,1,2,3] (fun k=>[(6,.int .i64 (k:Int)),(5,.int .i64 (O3 N k:Nat))]) (fun _=>_) (fun _=>[]) (fun k=>k≤D+1∧O3 N k≤65536) (fun k=>D+1-k) 0 [] rfl rfl rfl ⟨Nat.zero_le _,by rw [O3];omega⟩ (by repeat (first|exact Fr.sub_nil _|refine Fr.sub_cons rfl ?_)) rfl rfl ?_
    rintro k ⟨hk,hcm⟩ ih
    simp only [List.cons_append,List.nil_append] at hk hcm ih ⊢
    by_cases hkD:k≤D
    ·have hb:=Sj (n:=N) (k:=k) h64
     have Rp:=X7 (n:=N) (k:=k) h64
     have hle:=AEg (n:=N) (k:=k+1) (d:=D-k)
     rw [show k+1+(D-k)=D+1 by omega] at hle
     by_cases h8:65536<O3 N (k+1)
     ·rw [if_pos (by omega)] at h
      subst h
      rw [O3] at h8
      generalize O3 N k=s at *
      generalize Ci N k=b at *
      clear ih
      refine wk 12 cz ?_
      intro h5
      refine Ab rfl (Ai [] rfl (Rp) rfl ?_)
      rintro _ _ _ ⟨rfl,rfl,rfl⟩
      simp only [List.cons_append,List.nil_append]
      refine wk 8 cz ?_
      intro h6
      exact ge
     ·have ih':=ih (k+1) (by omega) ⟨by omega,by omega⟩
      rw [O3] at ih' h8
      generalize O3 N k=s at *
      generalize Ci N k=b at *
      clear ih
      refine wk 12 cz ?_
      intro h5
      refine Ab rfl (Ai [] rfl (Rp) rfl ?_)
      rintro _ _ _ ⟨rfl,rfl,rfl⟩
      simp only [List.cons_append,List.nil_append]
      refine wk 10 cz ?_
      intro h6
      exact tw (ih')
    ·obtain rfl:k=D+1:=by omega
     clear ih
     rw [if_neg (by omega)] at h
     generalize O3 N (D+1)=s at *
     by_cases w1:W<1
     ·rw [if_pos (.inl w1)] at h
      subst h
      refine wk 19 cz ?_
      intro h5 h6
      exact ge
     by_cases w2:16<W
     ·rw [if_pos (.inr (.inl w2))] at h
      subst h
      refine wk 25 cz ?_
      intro h5 h6 h7
      exact ge
     by_cases w3:racks.length<1
     ·rw [if_pos (.inr (.inr (.inl w3)))] at h
      subst h
      refine wk 32 cz ?_
      intro h5 h6 h7 h8
      exact ge
     by_cases w4:64<racks.length
     ·rw [if_pos (.inr (.inr (.inr (.inl w4))))] at h
      subst h
      refine wk 39 cz ?_
      intro h5 h6 h7 h8 h9
      exact ge
     obtain ⟨x,l,rfl⟩:∃ x l,racks=x::l:=by
      cases racks with
      | nil=>exact absurd (Nat.lt_succ_self 0) w3
      | cons x l=>exact ⟨x,l,rfl⟩
     have H9:=fun {pl:Option Addr}{k c:Nat}=>Oy (pl:=pl) (k:=k) (c:=c) hrr
     by_cases w5:∃ y∈x::l,y<1
     ·rw [if_pos (.inr (.inr (.inr (.inr w5))))] at h
      subst h
      have hmin:AAb x l<1:=ABq.2 (by
       obtain ⟨y,hy,h⟩:=w5
       rcases List.mem_cons.1 hy with rfl|hy
       ·exact .inl h
       ·exact .inr ⟨y,hy,h⟩)
      refine wk 33 cz ?_
      intro h5 h6 h7 h8 h9
      refine Bg rfl rfl (Ai [3] rfl (H9) rfl ?_)
      rintro _ _ _ ⟨rfl,rfl,rfl⟩
      simp only [List.cons_append,List.nil_append]
      refine wk 6 cz ?_
      intro h10
      exact ge
     ·have hmin:¬ AAb x l<1:=fun hm=>w5 (by
       rcases ABq.1 hm with h|⟨y,hy,h⟩
       ·exact ⟨x,.head _,h⟩
       ·exact ⟨y,.tail _ hy,h⟩)
      rw [if_neg (by rintro (h|h|h|h|h) <;> first|omega|exact w5 h)] at h
      have hp:∀ y∈x::l,0≤y:=fun y hy=>by have:¬ y<1:=fun h=>w5 ⟨y,hy,h⟩;omega
      refine wk 33 cz ?_
      intro h5 h6 h7 h8 h9
      refine Bg rfl rfl (Ai [3] rfl (H9) rfl ?_)
      rintro _ _ _ ⟨rfl,rfl,rfl⟩
      simp only [List.cons_append,List.nil_append]
      refine wk 11 cz ?_
      intro h10
      refine Ag (X:=Nat) [1,83,84] [0,1,2,3] (fun i=>[(85,.int .i64 (i:Int)),(9,.int .i64 (Bq ((x::l).take i)))]) (fun _=>_) (fun _=>[]) (fun i=>i≤(x::l).length∧Bq ((x::l).take i)≤256) (fun i=>(x::l).length-i) 0 [] rfl rfl rfl ⟨Nat.zero_le _,by rw [List.take_zero,Bq];omega⟩ (by repeat (first|exact Fr.sub_nil _|refine Fr.sub_cons rfl ?_)) rfl rfl ?_
      rintro i ⟨hi,hs⟩ ih
      simp only [List.cons_append,List.nil_append] at hi hs ih ⊢
      have hst:=Cv hp i
      by_cases h9:i<(x::l).length
      ·obtain ⟨y,at_y⟩:∃ y,(x::l)[i]?=some y:=⟨_,List.getElem?_eq_getElem h9⟩
       have hy:=hp y (List.mem_of_getElem? at_y)
       have hst2:=Cv hp (i+1)
       by_cases h8:256<Bq ((x::l).take (i+1))
       ·rw [if_pos (by omega)] at h
        subst h
        rw [Cw at_y] at h8
        clear ih
        generalize Bq ((x::l).take i)=s2 at *
        refine wk 6 cz ?_
        intro h11 b2 o1 hz1
        refine Ab rfl (Aj 0 rfl rfl Bm fun ⟨r1,r2⟩=>?_)
        refine wk 8 cz ?_
        intro h12
        exact ge
       ·have ih':=ih (i+1) (by omega) ⟨by omega,by omega⟩
        rw [Cw at_y] at ih' h8
        clear ih
        generalize Bq ((x::l).take i)=s2 at *
        refine wk 6 cz ?_
        intro h11 b2 o1 hz1
        refine Ab rfl (Aj 0 rfl rfl Bm fun ⟨r1,r2⟩=>?_)
        refine wk 10 cz ?_
        intro h12
        exact tw (ih')
      ·obtain rfl:i=(x::l).length:=by omega
       clear ih
       rw [List.take_length] at hs hst ⊢
       rw [if_neg (by omega)] at h
       generalize Bq (x::l)=s2 at *
       by_cases h7:s2<N
       ·rw [if_pos h7] at h
        subst h
        refine wk 15 cz ?_
        intro h11 h12
        exact ge
       ·rw [if_neg h7] at h
        subst h
        refine wk 15 cz ?_
        intro h11 h12
        exact ge
   ·rw [if_pos h1] at h
    subst h
    refine wk 6 cz ?_
    intro b1
    refine Ab rfl (Ai [0,1] rfl (Eb) rfl ?_)
    rintro _ _ _ ⟨rfl,rfl,rfl⟩
    simp only [List.cons_append,List.nil_append]
    refine wk 20 cz ?_
    intro h2 h3
    refine Ab rfl (Ai [0,1,2] rfl (Es) rfl ?_)
    rintro _ _ _ ⟨rfl,rfl,rfl⟩
    simp only [List.cons_append,List.nil_append]
    simp only [decide_true]
    refine wk 8 cz ?_
    intro h4
    exact ge
 ·rw [if_pos hc] at h
  subst h
  refine wk 6 cz ?_
  intro b1
  refine Ab rfl (Ai [0,1] rfl (Eb) rfl ?_)
  rintro _ _ _ ⟨rfl,rfl,rfl⟩
  simp only [List.cons_append,List.nil_append]
  refine wk 8 cz ?_
  intro h1
  exact ge
theorem J5 (hN:Bf .i64 N) (hd:Bf .i64 dd) (h:cfE P M md N Aa dd sets racks W=e):Br Tryz.prog 11 [.agg #[.int .i64 P,.int .i64 M,.slice pm nm cm,.int .i64 N,.slice ps n c,.int .i64 dd,.slice pt nt ct,.slice pr nr cr,.int .i64 W]] [] [A2 Ak pm nm cm md,A2 (Ar Ak) ps n c Aa,A2 (Ar Ak) pt nt ct sets,A2 Ak pr nr cr racks] (Rv (.int .i64 e) []):=by
 refine Ad (F:=J8) rfl fun C=>?_
 refine Bd 1 rfl fun hn hb _=>?_
 subst hn
 refine Bd 3 rfl fun hn hb2 _=>?_
 subst hn
 have hb2':racks.length*8≤140737488355328:=hb2
 have Ao:=fun {pm ps:Option Addr}{nm cm n c:Nat}=>Fk (P:=P) (M:=M) (pm:=pm) (ps:=ps) (nm:=nm) (cm:=cm) (n:=n) (c:=c) (md:=md) (Aa:=Aa) hN rfl
 have hr:=Nl P M md N Aa
 rw [cfE] at h
 by_cases hc:Xw P M md N Aa=0
 ·rw [if_neg (fun e=>e hc)] at h
  rw [hc] at Ao
  obtain ⟨p,m,N,rfl,rfl,rfl,CC⟩:=ACs hc
  have h64:=CC.n64
  by_cases h0:Aa.length=0
  ·rw [if_pos h0] at h
   subst h
   refine wk 6 cz ?_
   intro b1
   refine Ab rfl (Ai [0,1] rfl (Ao) rfl ?_)
   rintro _ _ _ ⟨rfl,rfl,rfl⟩
   simp only [List.cons_append,List.nil_append]
   refine wk 16 cz ?_
   intro h1 h2
   exact ge
  ·rw [if_neg h0] at h
   have hcr:=AB1 (P:=p) (M:=m) (N:=N) (dd:=dd) (md:=md) (Aa:=Aa) (sets:=sets)
   have Ba:=fun {pm ps pt:Option Addr}{nm cm n c nt ct:Nat}=>I5 (pm:=pm) (ps:=ps) (pt:=pt) (nm:=nm) (cm:=cm) (n:=n) (c:=c) (nt:=nt) (ct:=ct) (sets:=sets) (e:=cdE p m md N Aa dd sets) hN hd rfl
   by_cases h1:cdE p m md N Aa dd sets=0
   ·rw [if_neg (fun e=>e h1),Int.toNat_natCast] at h
    rw [h1] at Ba
    obtain ⟨d1,d2⟩:=AIV CC h1
    obtain ⟨D,hD⟩:=Int.eq_ofNat_of_zero_le (show 0≤(dd-1) / 2 by omega)
    rw [hD,Int.toNat_natCast] at h
    have hDN:D≤N:=by omega
    have B9:=Ra (n:=N) (t:=D) h64 hDN
    rw [← hD,ACq] at B9
    generalize O3 N (D+1)=s at *
    by_cases h8:65536<s
    ·rw [if_pos h8] at h
     subst h
     refine wk 6 cz ?_
     intro b1
     refine Ab rfl (Ai [0,1] rfl (Ao) rfl ?_)
     rintro _ _ _ ⟨rfl,rfl,rfl⟩
     simp only [List.cons_append,List.nil_append]
     refine wk 20 cz ?_
     intro h2 h3
     refine Ab rfl (Ai [0,1,2] rfl (Ba) rfl ?_)
     rintro _ _ _ ⟨rfl,rfl,rfl⟩
     simp only [List.cons_append,List.nil_append]
     simp only [decide_true]
     refine wk 12 cz ?_
     intro h4
     refine Ab rfl (Ai [] rfl (B9) rfl ?_)
     rintro _ _ _ ⟨rfl,rfl,rfl⟩
     simp only [List.cons_append,List.nil_append]
     simp only [decide_true]
     refine wk 6 cz ?_
     intro h5
     exact ge
    ·rw [if_neg h8] at h
     by_cases w1:W<1
     ·rw [if_pos (.inl w1)] at h
      subst h
      refine wk 6 cz ?_
      intro b1
      refine Ab rfl (Ai [0,1] rfl (Ao) rfl ?_)
      rintro _ _ _ ⟨rfl,rfl,rfl⟩
      simp only [List.cons_append,List.nil_append]
      refine wk 20 cz ?_
      intro h2 h3
      refine Ab rfl (Ai [0,1,2] rfl (Ba) rfl ?_)
      rintro _ _ _ ⟨rfl,rfl,rfl⟩
      simp only [List.cons_append,List.nil_append]
      simp only [decide_true]
      refine wk 12 cz ?_
      intro h4
      refine Ab rfl (Ai [] rfl (B9) rfl ?_)
      rintro _ _ _ ⟨rfl,rfl,rfl⟩
      simp only [List.cons_append,List.nil_append]
      simp only [decide_true]
      refine wk 15 cz ?_
      intro h5 h6
      exact ge
     by_cases w2:16<W
     ·rw [if_pos (.inr (.inl w2))] at h
      subst h
      refine wk 6 cz ?_
      intro b1
      refine Ab rfl (Ai [0,1] rfl (Ao) rfl ?_)
      rintro _ _ _ ⟨rfl,rfl,rfl⟩
      simp only [List.cons_append,List.nil_append]
      refine wk 20 cz ?_
      intro h2 h3
      refine Ab rfl (Ai [0,1,2] rfl (Ba) rfl ?_)
      rintro _ _ _ ⟨rfl,rfl,rfl⟩
      simp only [List.cons_append,List.nil_append]
      simp only [decide_true]
      refine wk 12 cz ?_
      intro h4
      refine Ab rfl (Ai [] rfl (B9) rfl ?_)
      rintro _ _ _ ⟨rfl,rfl,rfl⟩
      simp only [List.cons_append,List.nil_append]
      simp only [decide_true]
      refine wk 21 cz ?_
      intro h5 h6 h7
      exact ge
     by_cases w3:racks.length<1
     ·rw [if_pos (.inr (.inr (.inl w3)))] at h
      subst h
      refine wk 6 cz ?_
      intro b1
      refine Ab rfl (Ai [0,1] rfl (Ao) rfl ?_)
      rintro _ _ _ ⟨rfl,rfl,rfl⟩
      simp only [List.cons_append,List.nil_append]
      refine wk 20 cz ?_
      intro h2 h3
      refine Ab rfl (Ai [0,1,2] rfl (Ba) rfl ?_)
      rintro _ _ _ ⟨rfl,rfl,rfl⟩
      simp only [List.cons_append,List.nil_append]
      simp only [decide_true]
      refine wk 12 cz ?_
      intro h4
      refine Ab rfl (Ai [] rfl (B9) rfl ?_)
      rintro _ _ _ ⟨rfl,rfl,rfl⟩
      simp only [List.cons_append,List.nil_append]
      simp only [decide_true]
      refine wk 28 cz ?_
      intro h5 h6 h7 h9
      exact ge
     by_cases w4:64<racks.length
     ·rw [if_pos (.inr (.inr (.inr (.inl w4))))] at h
      subst h
      refine wk 6 cz ?_
      intro b1
      refine Ab rfl (Ai [0,1] rfl (Ao) rfl ?_)
      rintro _ _ _ ⟨rfl,rfl,rfl⟩
      simp only [List.cons_append,List.nil_append]
      refine wk 20 cz ?_
      intro h2 h3
      refine Ab rfl (Ai [0,1,2] rfl (Ba) rfl ?_)
      rintro _ _ _ ⟨rfl,rfl,rfl⟩
      simp only [List.cons_append,List.nil_append]
      simp only [decide_true]
      refine wk 12 cz ?_
      intro h4
      refine Ab rfl (Ai [] rfl (B9) rfl ?_)
      rintro _ _ _ ⟨rfl,rfl,rfl⟩
      simp only [List.cons_append,List.nil_append]
      simp only [decide_true]
      refine wk 31 cz ?_
      intro h5 h6 h7 h9 h10
      exact ge
     refine wk 6 cz ?_
     intro b1
     refine Ab rfl (Ai [0,1] rfl (Ao) rfl ?_)
     rintro _ _ _ ⟨rfl,rfl,rfl⟩
     simp only [List.cons_append,List.nil_append]
     refine wk 20 cz ?_
     intro h2 h3
     refine Ab rfl (Ai [0,1,2] rfl (Ba) rfl ?_)
     rintro _ _ _ ⟨rfl,rfl,rfl⟩
     simp only [List.cons_append,List.nil_append]
     simp only [decide_true]
     refine wk 12 cz ?_
     intro h4
     refine Ab rfl (Ai [] rfl (B9) rfl ?_)
     rintro _ _ _ ⟨rfl,rfl,rfl⟩
     simp only [List.cons_append,List.nil_append]
     simp only [decide_true]
     refine wk 31 cz ?_
     intro h5 h6 h7 h9 h10
     refine Ag (X:=Nat) [1] [0,1,2,3] (fun i=>[(4,.int .i64 (i:Int))]) (fun _=>_) (fun _=>[]) (fun i=>i≤racks.length∧∀ x∈racks.take i,¬ x<1) (fun i=>racks.length-i) 0 [] rfl rfl rfl ⟨Nat.zero_le _,fun x h=>absurd h List.not_mem_nil⟩ (by repeat (first|exact Fr.sub_nil _|refine Fr.sub_cons rfl ?_)) rfl rfl ?_
     rintro i ⟨hi,hs⟩ ih
     simp only [List.cons_append,List.nil_append] at hi ih ⊢
     by_cases h9:i<racks.length
     ·obtain ⟨y,at_y⟩:∃ y,racks[i]?=some y:=⟨_,List.getElem?_eq_getElem h9⟩
      by_cases hy:y<1
      ·rw [if_pos (.inr (.inr (.inr (.inr ⟨y,List.mem_of_getElem? at_y,hy⟩))))] at h
       subst h
       clear ih
       refine wk 13 cz ?_
       intro h11 b2 o1 hz1
       refine Ab rfl (Aj 0 rfl rfl Bm fun ⟨r1,r2⟩=>?_)
       refine wk 6 cz ?_
       intro h12
       exact ge
      ·refine wk 13 cz ?_
       intro h11 b2 o1 hz1
       refine Ab rfl (Aj 0 rfl rfl Bm fun ⟨r1,r2⟩=>?_)
       refine wk 6 cz ?_
       intro h12
       exact tw (ih (i+1) (by omega) ⟨by omega,Y8 at_y hs hy⟩)
     ·obtain rfl:i=racks.length:=by omega
      rw [List.take_length] at hs
      rw [if_neg (by rintro (h|h|h|h|⟨y,hy,h⟩) <;> first|omega|exact hs y hy h)] at h
      clear ih
      have hp:∀ y∈racks,0≤y:=fun y hy=>by have:=hs y hy;omega
      refine wk 13 cz ?_
      intro h11
      refine Ag (X:=Nat) [1] [0,1,2,3] (fun i=>[(6,.int .i64 (i:Int)),(5,.int .i64 (256-Bq (racks.take i)))]) (fun _=>_) (fun _=>[]) (fun i=>i≤racks.length∧Bq (racks.take i)≤256) (fun i=>racks.length-i) 0 [] rfl rfl rfl ⟨Nat.zero_le _,by rw [List.take_zero,Bq];omega⟩ (by repeat (first|exact Fr.sub_nil _|refine Fr.sub_cons rfl ?_)) rfl rfl ?_
      rintro i ⟨hi,hs⟩ ih
      simp only [List.cons_append,List.nil_append] at hi hs ih ⊢
      have hst:=Cv hp i
      by_cases h9:i<racks.length
      ·obtain ⟨y,at_y⟩:∃ y,racks[i]?=some y:=⟨_,List.getElem?_eq_getElem h9⟩
       have hy:=hp y (List.mem_of_getElem? at_y)
       have hst2:=Cv hp (i+1)
       by_cases h8:256<Bq (racks.take (i+1))
       ·rw [if_pos (by omega)] at h
        subst h
        rw [Cw at_y] at h8
        clear ih
        generalize Bq (racks.take i)=s2 at *
        refine wk 13 cz ?_
        intro h12 b2 o1 hz1
        refine Ab rfl (Aj 0 rfl rfl Bm fun ⟨r1,r2⟩=>?_)
        refine wk 6 cz ?_
        intro h13
        exact ge
       ·have ih':=ih (i+1) (by omega) ⟨by omega,by omega⟩
        rw [Cw at_y] at ih' h8
        rw [show (256-(Bq (racks.take i)+y):Int)=256-Bq (racks.take i)-y by omega] at ih'
        clear ih
        generalize Bq (racks.take i)=s2 at *
        refine wk 13 cz ?_
        intro h12 b2 o1 hz1
        refine Ab rfl (Aj 0 rfl rfl Bm fun ⟨r1,r2⟩=>?_)
        refine wk 9 cz ?_
        intro h13 b3 o2 hz2
        refine Ab rfl (Aj 0 rfl rfl Bm fun ⟨r3,r4⟩=>?_)
        refine wk 4 cz ?_
        exact tw (ih')
      ·obtain rfl:i=racks.length:=by omega
       clear ih
       rw [List.take_length] at hs hst ⊢
       rw [if_neg (by omega)] at h
       have A4:=fun {P M N dd W:Int}{n c nm cm nt ct nr cr:Nat}{pm ps pt pr:Option Addr}=>D6 (P:=P) (M:=M) (N:=N) (dd:=dd) (W:=W) (n:=n) (c:=c) (nm:=nm) (cm:=cm) (nt:=nt) (ct:=ct) (nr:=nr) (cr:=cr) (pm:=pm) (ps:=ps) (pt:=pt) (pr:=pr) hp (by omega)
       generalize Bq racks=s2 at *
       by_cases h7:s2<N
       ·rw [if_pos h7] at h
        subst h
        refine wk 9 cz ?_
        intro h12
        (apply Ch it mx 6;(· rfl);(· rfl))
        (apply Ac;(· rfl);(· exact B2 0 rfl rfl AF4 rfl))
        (apply Ac;(· rfl);(· exact Bi fun _=>Ai [3] rfl (A4) rfl (by rintro _ _ _ ⟨rfl,rfl,rfl⟩;exact Af)))
        (apply Ac;(· rfl);(· exact Bi fun _=>A3 rfl AGA Af))
        (apply Ac;(· rfl);(· exact Bi fun _=>A3 rfl S9 Af))
        (apply Ac;(· rfl);(· exact Bn 0 rfl rfl Bm rfl))
        (apply Ae 1;(· rfl);(· simp))
        refine B7 rfl ?_
        simp only [List.map_cons,List.map_nil,List.cons_append,List.nil_append]
        refine wk 5 cz ?_
        intro h13
        exact ge
       ·rw [if_neg h7] at h
        subst h
        refine wk 9 cz ?_
        intro h12
        (apply Ch it mx 6;(· rfl);(· rfl))
        (apply Ac;(· rfl);(· exact B2 0 rfl rfl AF4 rfl))
        (apply Ac;(· rfl);(· exact Bi fun _=>Ai [3] rfl (A4) rfl (by rintro _ _ _ ⟨rfl,rfl,rfl⟩;exact Af)))
        (apply Ac;(· rfl);(· exact Bi fun _=>A3 rfl AGA Af))
        (apply Ac;(· rfl);(· exact Bi fun _=>A3 rfl S9 Af))
        (apply Ac;(· rfl);(· exact Bn 0 rfl rfl Bm rfl))
        (apply Ae 1;(· rfl);(· simp))
        refine B7 rfl ?_
        simp only [List.map_cons,List.map_nil,List.cons_append,List.nil_append]
        refine wk 5 cz ?_
        intro h13
        exact ge
   ·rw [if_pos h1] at h
    subst h
    refine wk 6 cz ?_
    intro b1
    refine Ab rfl (Ai [0,1] rfl (Ao) rfl ?_)
    rintro _ _ _ ⟨rfl,rfl,rfl⟩
    simp only [List.cons_append,List.nil_append]
    refine wk 20 cz ?_
    intro h2 h3
    refine Ab rfl (Ai [0,1,2] rfl (Ba) rfl ?_)
    rintro _ _ _ ⟨rfl,rfl,rfl⟩
    simp only [List.cons_append,List.nil_append]
    simp only [decide_true]
    refine wk 8 cz ?_
    intro h4
    exact ge
 ·rw [if_pos hc] at h
  subst h
  refine wk 6 cz ?_
  intro b1
  refine Ab rfl (Ai [0,1] rfl (Ao) rfl ?_)
  rintro _ _ _ ⟨rfl,rfl,rfl⟩
  simp only [List.cons_append,List.nil_append]
  refine wk 8 cz ?_
  intro h1
  exact ge
end
open Go Go.Fw
set_option maxRecDepth 100000
set_option linter.unusedVariables false
set_option linter.unusedSimpArgs false
set_option maxHeartbeats 0
theorem Ol:Br Tryz.prog 9 [] [] [] (Rv (.bool true) []):=by
 refine Ad (F:=Pt) rfl fun C=>?_
 refine Jh (A2 Ak none 0 0 []) (fun w A _=>Wl _ w A none 0) ?_
 refine Jh (A2 (Ar Ak) none 0 0 []) (fun w A _=>Wl _ w A none 0) ?_
 have h0:cfE 0 0 [] 0 [] 0 [] [] 0=1:=by
  have hc:Xw 0 0 [] 0 []=1:=by
   rw [Xw,if_pos]
   intro h
   obtain ⟨p,m,hp,hm,K⟩:=Zf h
   have:=K.p2
   omega
  rw [cfE,hc,if_pos (by omega)]
 have D9:=fun {n c nm cm nt ct nr cr:Nat}{pm ps pt pr:Option Addr}=>Kz (n:=n) (c:=c) (nm:=nm) (cm:=cm) (nt:=nt) (ct:=ct) (nr:=nr) (cr:=cr) (pm:=pm) (ps:=ps) (pt:=pt) (pr:=pr) (by simp only [Bf];omega) (by simp only [Bf];omega) h0
 refine wk 7 (ct @D9 cz) ?_
 exact ge
section
variable {P M N dd W:Int}{n c nm cm nt ct nr cr:Nat}{pm ps pt pr:Option Addr}{md racks:List Int}{Aa sets:List (List Int)}
theorem R4 {res:Bool}(hr:(decide ((sets.length:Int)≤300) && decide (N≤8))=res):Br Tryz.prog 12 [.agg #[.int .i64 P,.int .i64 M,.slice pm nm cm,.int .i64 N,.slice ps n c,.int .i64 dd,.slice pt nt ct,.slice pr nr cr,.int .i64 W]] [] [A2 (Ar Ak) pt nt ct sets] (Rv (.bool res) []):=by
 refine Ad (F:=R7) rfl fun C=>?_
 refine Bd 0 rfl fun hn hb _=>?_
 subst hn
 by_cases h1:(sets.length:Int)≤300
 ·rw [decide_eq_true h1,Bool.true_and] at hr
  subst hr
  refine wk 16 cz ?_
  intro b1 h2
  exact ge
 ·rw [decide_eq_false h1,Bool.false_and] at hr
  subst hr
  refine wk 13 cz ?_
  intro b1 h2
  exact ge
theorem AEG:0≤cfE P M md N Aa dd sets racks W∧cfE P M md N Aa dd sets racks W≤13:=by
 have h1:=Nl P M md N Aa
 have h2:=AB1 (P:=P) (M:=M) (N:=N) (dd:=dd) (md:=md) (Aa:=Aa) (sets:=sets)
 rw [cfE]
 (repeat' split) <;> omega
end
end Go.Proofs.YteadncphjconmaaGreat
