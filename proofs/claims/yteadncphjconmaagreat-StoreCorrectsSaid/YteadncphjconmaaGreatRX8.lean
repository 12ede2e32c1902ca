/-
The law's function StoreCorrects.
-/
import Derived.Test.YteadncphjconmaaGreatRX7
set_option linter.unusedVariables false
set_option linter.unusedSimpArgs false
namespace Go.Proofs.YteadncphjconmaaGreat
open Go Go.Fw
set_option maxRecDepth 100000
set_option linter.unusedVariables false
set_option linter.unusedSimpArgs false
set_option maxHeartbeats 0
section
variable {p m N w:Nat}{dd:Int}{md racks full:List Int}{Aa sets blocks:List (List Int)}
theorem AKr (CC:Cok p m md N Aa) (hf:∀ x∈full,0≤x∧x<((p ^ m:Nat):Int)):∀ r∈Wn p m md N Aa w full,Wd (p ^ m) w r:=fun r hr=>by
 obtain ⟨b,hb,rfl⟩:=List.mem_map.1 hr
 refine ⟨ABW,fun x hx=>?_⟩
 obtain ⟨j,hj,rfl⟩:=List.mem_map.1 hx
 have hq2:=(Is CC.K).q2
 exact A6 (by omega) ((Hq CC.K).cmb_wd (fun a ha=>hf a (List.mem_of_mem_drop (List.mem_of_mem_take ha))) CC.mat) _
theorem AIz (h0:Zq p m md N Aa dd sets racks w=0) (hBl:blocks.length=N) (hB:∀ r∈blocks,r=[]∨Wd (p ^ m) w r):stE p m md N Aa dd sets racks w blocks=0:=by
 have h1:(blocks.length:Int)=N∧∀ r∈blocks,r.length=0∨(r.length:Int)=w:=⟨by omega,fun r hr=>(hB r hr).imp (fun h=>by rw [h];rfl) fun h=>by rw [h.1]⟩
 have h2:∀ r∈blocks,∀ x∈r,0≤x∧x<((((p:Int).toNat ^ (m:Int).toNat:Nat)):Int):=fun r hr x hx=>(hB r hr).elim (fun h=>by rw [h] at hx;cases hx) fun h=>h.2 x hx
 rw [stE,if_neg (fun e=>e h0),if_neg (fun e=>e h1),if_neg (fun e=>e h2)]
theorem AKV (h0:Zq p m md N Aa dd sets racks w=0) (K:CfOk p m md N Aa dd sets racks w) (hf:∀ x∈full,0≤x∧x<((p ^ m:Nat):Int)) (hfl:full.length=Aa.length*w) (hBl:blocks.length=N)
  (hB:∀ r∈blocks,r=[]∨Wd (p ^ m) w r) (hl:2*(wrC (Wn p m md N Aa w full) blocks:Int)+(lsC (Wn p m md N Aa w full) blocks:Nat)<dd) :
  ∃ o:List Nat,deQ p m md N Aa dd sets racks w blocks=DeQ (Wn p m md N Aa w full) (A7 o) 0∧o.length=wrC (Wn p m md N Aa w full) blocks ∧
   ∀ b∈o,b<N∧Aj blocks b≠[]∧Aj blocks b≠Aj (Wn p m md N Aa w full) b:=by
 have h1:=AIz h0 hBl hB
 obtain ⟨o,h2,h3⟩:=AG4 K hf hfl hBl (fun b hb=>hB _ (Om (by omega))) hl
 refine ⟨o,?_,h3⟩
 rw [deQ,if_neg (fun e=>e h1)]
 simp only [Int.toNat_natCast]
 exact h2
end
section
variable {P M N dd W:Int}{n c nm cm nt ct nr cr nb cb nk ck:Nat}{pm ps pt pr pb pk:Option Addr}{md racks data:List Int}{Aa sets:List (List Int)}{sp:List (Int×Bool×List Int)}
theorem Jf (hN:Ca .i64 N) (hd:Ca .i64 dd):Bk Tryz.prog 8 [.agg (ADN P M pm nm cm N ps n c dd pt nt ct pr nr cr W).toArray,.slice pb nb cb,.slice pk nk ck] [] [Aw Ao pm nm cm md,Aw (Ai Ao) ps n c Aa,Aw (Ai Ao) pt nt ct sets,Aw Ao pr nr cr racks,Aw Ao pb nb cb data,Aw ALm pk nk ck sp] (Rv (.bool true) []):=by
 refine Ad (F:=Jj) rfl fun C=>?_
 refine Ay 4 rfl fun hn hb _=>?_
 subst hn
 refine Ay 5 rfl fun hn hb2 _=>?_
 subst hn
 have Cl:=Pc
 have C1:=fun {P M N dd W:Int}{n c nm cm nt ct nr cr:Nat}{pm ps pt pr:Option Addr}{res:Bool}(hr:(decide ((sets.length:Int)≤300) && decide (N≤8))=res)=>Rd (P:=P) (M:=M) (N:=N) (dd:=dd) (W:=W) (n:=n) (c:=c) (nm:=nm) (cm:=cm) (nt:=nt) (ct:=ct) (nr:=nr) (cr:=cr) (pm:=pm) (ps:=ps) (pt:=pt) (pr:=pr) hr
 cases hf:(decide ((sets.length:Int)≤300) && decide (N≤8)) with
 | false =>
  refine wk 4 cz ?_
  intro b1
  refine Ab rfl (Ae [] rfl (Cl) rfl ?_)
  rintro _ _ _ ⟨rfl,rfl,rfl⟩
  simp only [List.cons_append,List.nil_append]
  refine wk 5 cz ?_
  refine Ab rfl (Ae [2] rfl (C1 (by omega)) rfl ?_)
  rintro _ _ _ ⟨rfl,rfl,rfl⟩
  simp only [List.cons_append,List.nil_append]
  refine wk 6 cz ?_
  exact ge
 | true =>
  by_cases hl:(200:Int)<data.length
  ·refine wk 4 cz ?_
   intro b1
   refine Ab rfl (Ae [] rfl (Cl) rfl ?_)
   rintro _ _ _ ⟨rfl,rfl,rfl⟩
   simp only [List.cons_append,List.nil_append]
   refine wk 5 cz ?_
   refine Ab rfl (Ae [2] rfl (C1 (by omega)) rfl ?_)
   rintro _ _ _ ⟨rfl,rfl,rfl⟩
   simp only [List.cons_append,List.nil_append]
   refine wk 12 cz ?_
   intro h1
   exact ge
  ·by_cases hl2:(40:Int)<sp.length
   ·refine wk 4 cz ?_
    intro b1
    refine Ab rfl (Ae [] rfl (Cl) rfl ?_)
    rintro _ _ _ ⟨rfl,rfl,rfl⟩
    simp only [List.cons_append,List.nil_append]
    refine wk 5 cz ?_
    refine Ab rfl (Ae [2] rfl (C1 (by omega)) rfl ?_)
    rintro _ _ _ ⟨rfl,rfl,rfl⟩
    simp only [List.cons_append,List.nil_append]
    refine wk 14 cz ?_
    intro h1 h2
    exact ge
   ·by_cases he:enE P M md N Aa dd sets racks W data=0
    ·have h0:Zq P M md N Aa dd sets racks W=0:=Classical.byContradiction fun h=>by rw [enE,if_pos h] at he;exact h he
     rw [enE,if_neg (fun e=>e h0)] at he
     obtain ⟨p,m,N,rfl,rfl,rfl,K⟩:=AEY h0
     have hw1:=K.w1
     have hw2:=K.w2
     obtain ⟨w,rfl⟩:=Int.eq_ofNat_of_zero_le (show 0≤W by omega)
     rw [Int.toNat_natCast,Int.toNat_natCast] at he
     by_cases h1:64*((Aa.length:Int)*w)<data.length
     ·rw [if_pos h1] at he;cases he
     ·rw [if_neg h1] at he
      by_cases hr:∀ x∈data,0≤x∧x<((p ^ m:Nat):Int)
      ·clear he
       have hmul:((Aa.length:Int)*(w:Int))=((Aa.length*w:Nat):Int):=(Int.natCast_mul _ _).symm
       rw [hmul] at h1
       have C3:=fun {n c nm cm nt ct nr cr nb cb:Nat}{pm ps pt pr pb:Option Addr}=>Le (n:=n) (c:=c) (nm:=nm) (cm:=cm) (nt:=nt) (ct:=ct) (nr:=nr) (cr:=cr) (nb:=nb) (cb:=cb) (pm:=pm) (ps:=ps) (pt:=pt) (pr:=pr) (pb:=pb) (data:=data) hd h0 K (by omega) hr
       have hfl:(Np data (Aa.length*w) 0).length=Aa.length*w:=Zo
       have hq2:=(Is K.CC.K).q2
       have hfw:=AE4 (data:=data) (size:=Aa.length*w) (t:=0) (show 0<p ^ m by omega) hr
       obtain ⟨S,hS⟩:∃ S,enK p m md N Aa w data (cnL data.length (Aa.length*w))=S:=⟨_,rfl⟩
       have hSl:S.length=cnL data.length (Aa.length*w):=by rw [← hS,enK,List.length_map,List.length_range]
       have hS0:S.length≠0→S[0]?=some (Wn p m md N Aa w (Np data (Aa.length*w) 0)):=fun h=>by
        rw [← hS,enK,List.getElem?_map,List.getElem?_range (by omega)];rfl
       rw [hS] at C3
       clear hS hSl
       have hde:=fun {blocks}=>AKV (blocks:=blocks) h0 K hfw hfl
       have hRl:(Wn p m md N Aa w (Np data (Aa.length*w) 0)).length=N:=AE9
       have hRw:=AKr (w:=w) K.CC hfw
       generalize Wn p m md N Aa w (Np data (Aa.length*w) 0)=R at *
       clear hfw hfl
       have h64:=K.CC.n64
       by_cases hs0:S.length=0
       ·refine wk 4 cz ?_
        intro b1
        refine Ab rfl (Ae [] rfl (Cl) rfl ?_)
        rintro _ _ _ ⟨rfl,rfl,rfl⟩
        simp only [List.cons_append,List.nil_append]
        refine wk 5 cz ?_
        refine Ab rfl (Ae [2] rfl (C1 (by omega)) rfl ?_)
        rintro _ _ _ ⟨rfl,rfl,rfl⟩
        simp only [List.cons_append,List.nil_append]
        refine wk 14 cz ?_
        intro h2 h3
        refine Ab rfl (Ae [0,1,2,3,4] rfl (C3) rfl ?_)
        rintro _ _ _ ⟨pb1,cb1,rfl,rfl,rfl⟩
        simp only [List.cons_append,List.nil_append]
        refine wk 11 cz ?_
        intro h4 h5
        exact ge
       ·have at_R:=hS0 hs0
        refine wk 4 cz ?_
        intro b1
        refine Ab rfl (Ae [] rfl (Cl) rfl ?_)
        rintro _ _ _ ⟨rfl,rfl,rfl⟩
        simp only [List.cons_append,List.nil_append]
        refine wk 5 cz ?_
        refine Ab rfl (Ae [2] rfl (C1 (by omega)) rfl ?_)
        rintro _ _ _ ⟨rfl,rfl,rfl⟩
        simp only [List.cons_append,List.nil_append]
        refine wk 14 cz ?_
        intro h2 h3
        refine Ab rfl (Ae [0,1,2,3,4] rfl (C3) rfl ?_)
        rintro _ _ _ ⟨pb1,cb1,rfl,rfl,rfl⟩
        simp only [List.cons_append,List.nil_append]
        refine wk 16 cz ?_
        intro h4 h5 b2 o1 hz1 pa1 ca1 b3
        (apply Hw (E:=Ai (Bt IntKind.i64 8)) (n:=0) (cs:=[]) [] [] 0 (fun w A hG=>Cp);(· rfl);(· rfl);(· rfl);(· rfl);(· decide))
        refine Ab rfl (Uf 0 0 1 rfl rfl rfl rfl rfl Du Vi rfl (by omega) _ W1 (by omega) fun r1=>?_)
        refine wk 4 cz ?_ --ok
        rw [Nat.zero_add,List.nil_append]
        simp only [List.eraseIdx_cons_zero]
        have hn1:=K.CC.n1
        refine Dh 0 rfl (by omega) fun bb rcap rcs hr1=>?_
        subst hr1
        dsimp only [ad]
        refine Af (X:=Nat×List Value×List (List Int)) [2,3,6,9,10] [0,1,2,3,4,5,6,7,8,9,10] (fun x=>[(11,.int .i64 (x.1:Int))]) (fun x=>(some bb,22,x.2.1)::_) (fun x=>[A3 (Ai Ao) ⟨some bb,rcap,x.2.1⟩ R.length x.2.2]) (fun x=>x.1≤sp.length∧x.2.2.length=R.length∧∀ r∈x.2.2,r=[]∨Wd (p ^ m) w r) (fun x=>sp.length-x.1) (0,rcs,R) [0] rfl rfl rfl ⟨Nat.zero_le _,rfl,fun r hr=>.inr (hRw r hr)⟩ (by repeat (first|exact Fr.sub_nil _|refine Fr.sub_cons rfl ?_)) rfl rfl ?_
        rintro ⟨i,cs,l⟩ ⟨hi,hll,hlw⟩ ih
        simp only [List.cons_append,List.nil_append] at hi hll hlw ih ⊢
        by_cases hil:i<sp.length
        ·obtain ⟨⟨sb,slost,sby⟩,at_s⟩:∃ s,sp[i]?=some s:=⟨_,List.getElem?_eq_getElem hil⟩
         have ihs:=fun cs l h1 h2=>ih (i+1,cs,l) (by dsimp only;omega) ⟨by dsimp only;omega,h1,h2⟩
         dsimp only at ihs
         clear ih
         by_cases hb0:sb<0
         ·refine wk 24 cz ?_
          intro h6 b4 o2 hz2 g1 b5 h7
          refine Jr [false,true,true] [2,3,4,5,6,7,8,9,10,11,12,13] (by exact Tx rfl) rfl rfl (ihs cs l hll hlw)
         ·obtain ⟨b,rfl⟩:=Int.eq_ofNat_of_zero_le (show 0≤sb by omega)
          by_cases hbN:b<R.length
          ·have at_u:l[b]?=some (Aj l b):=by rw [Aj,List.getD_eq_getElem?_getD,List.getElem?_eq_getElem (by omega)];rfl
           by_cases hu0:(Aj l b).length=0
           ·refine wk 29 cz ?_
            intro h6 b4 o2 hz2 g1 b5 h7 h8
            refine A2 rfl rfl (E6 1 2 (b) rfl rfl rfl C8 rfl (by omega) fun z1 hz3 pa2 ca2=>?_)
            obtain rfl:_=z1:=Option.some.inj (at_u.symm.trans hz3)
            refine wk 7 cz ?_
            intro h9
            refine Jr [false,true,true] [3,4,5,6,7,8,9,10,11,12,13,14] (by exact Tx rfl) rfl rfl (ihs cs l hll hlw)
           ·have hset:=fun (v:List Int) (hv:v=[]∨Wd (p ^ m) w v)=>show (l.set b v).length=R.length∧∀ r∈l.set b v,r=[]∨Wd (p ^ m) w r from ⟨by rw [List.length_set];exact hll,fun r hr=>(List.mem_or_eq_of_mem_set hr).elim (hlw r) fun e=>e▸hv⟩
            cases slost with
            | true =>
             have ihn:=fun cs=>ihs cs _ (hset [] (.inl rfl)).1 (hset [] (.inl rfl)).2
             refine wk 29 cz ?_
             intro h6 b4 o2 hz2 g1 b5 h7 h8
             refine A2 rfl rfl (E6 1 2 (b) rfl rfl rfl C8 rfl (by omega) fun z1 hz3 pa2 ca2=>?_)
             obtain rfl:_=z1:=Option.some.inj (at_u.symm.trans hz3)
             refine wk 14 cz ?_
             intro h9
             refine Ab rfl (Hv (vs:=[Value.slice none 0 0]) (z:=[]) 1 3 (b) rfl rfl rfl rfl rfl C8 (Nat.mul_one _).symm (by omega) (fun w A hG=>AGT) fun cs1=>?_)
             refine wk 3 cz ?_
             refine Jr [false,true,true] [0,5,6,7,8,9,10,11,12,13,14,15] (by exact Tx rfl) rfl rfl (ihn _)
            | false =>
             have huw:(Aj l b).length=w:=(hlw _ (Om (by omega))).elim (fun h=>absurd (by rw [h];rfl) hu0) fun h=>h.1
             by_cases hlen:sby.length=(Aj l b).length
             ·have hsw:=AHm K.CC.K huw (hlen.trans huw)
              have ihn:=fun cs=>ihs cs _ (hset _ (.inr hsw)).1 (hset _ (.inr hsw)).2
              have Gm:=fun {nm cm na ca nb cb:Nat}{pm pa pb:Option Addr}{a b:List Int}(h:nb=na)=>AFt (nm:=nm) (cm:=cm) (na:=na) (ca:=ca) (nb:=nb) (cb:=cb) (pm:=pm) (pa:=pa) (pb:=pb) (a:=a) (b:=b) K.CC.K h
              refine wk 29 cz ?_
              intro h6 b4 o2 hz2 g1 b5 h7 h8
              refine A2 rfl rfl (E6 1 2 (b) rfl rfl rfl C8 rfl (by omega) fun z1 hz3 pa2 ca2=>?_)
              obtain rfl:_=z1:=Option.some.inj (at_u.symm.trans hz3)
              refine wk 10 cz ?_
              intro h9
              (apply B9 it mx 15;(· rfl);(· rfl))
              (apply Ac;(· rfl);(· exact Bc fun _=>As rfl Sm Ag))
              (apply Ac;(· rfl);(· exact Bc fun _=>As rfl ABb Ag))
              (apply Ac;(· rfl);(· exact L0 2 rfl rfl T4 rfl rfl))
              (apply Am 1;(· rfl);(· simp))
              (apply Ac;(· rfl);(· exact Bc fun _=>As rfl AGi Ag))
              (apply Ac;(· rfl);(· exact Be 0 rfl rfl Bz rfl))
              (apply Ac;(· rfl);(· exact Bc fun _=>Bi (b) (b) rfl rfl Du rfl (by omega) (Nat.mul_one _) Ag))
              (apply Co;(· rfl);(· exact Mn 1 3 (b) rfl rfl rfl C8 rfl (by assumption));intro pa3 ca3)
              (apply Ac;(· rfl);(· exact Bc fun _=>As rfl AHj Ag))
              (apply Ac;(· rfl);(· exact Be 0 rfl rfl C8 rfl))
              (apply Nw (val:=(fun g=>Value.tuple #[Value.slice (g 0).fst (Aj l b).length (g 1).snd.fst,Value.int IntKind.i64 0])) (f:=(fun g=>[Aw Ao (g 0).fst (Aj l b).length (g 1).snd.fst (adL (p ^ m) (Ah (fA p m)) (Aj l b) sby)]));(· rfl);(· exact Bc fun _=>Ae [10,0,2] rfl (Gm (by omega)) rfl (by rintro _ _ _ ⟨pbg0,cbg1,rfl,rfl,rfl⟩;exact fun _ _ _ hG=>⟨(fun|0=>(pbg0,0,0,[])|1=>(none,cbg1,0,[])|_=>default),rfl,fun g hg=>G3 (hG _ (List.mem_append_left _ hg))⟩));intro g2;dsimp only [List.map_cons,List.map_nil])
              (apply Ho [101] (fun vs=>vs.getD 0 undef) (v:=Value.tuple #[Value.slice (g2 0).fst (Aj l b).length (g2 1).snd.fst,Value.int IntKind.i64 0]);(· rfl);(· rfl);(· rfl);(· rfl);(· exact Bc fun _=>Mg it rfl (by trivial) Ag))
              (apply Ho [90] (fun vs=>match vs.getD 0 undef with | .tuple a=>a.getD 0 undef|_=>undef) (v:=Value.slice (g2 0).fst (Aj l b).length (g2 1).snd.fst);(· rfl);(· rfl);(· rfl);(· rfl);(· exact Bc fun _=>Mg it rfl (by trivial) Ag))
              (apply Ac;(· rfl);(· exact Bc fun _=>Mg it rfl (by trivial) Ag))
              (apply Ho [102] (fun vs=>vs.getD 0 undef) (v:=Value.slice (g2 0).fst (Aj l b).length (g2 1).snd.fst);(· rfl);(· rfl);(· rfl);(· rfl);(· exact Bc fun _=>Mg it rfl (by trivial) Ag))
              refine Bx rfl ?_
              simp only [List.map_cons,List.map_nil,List.cons_append,List.nil_append]
              refine wk 11 cz ?_
              intro h10
              refine Ab rfl (Hv (vs:=[Value.slice (g2 0).fst (Aj l b).length (g2 1).snd.fst]) (z:=adL (p ^ m) (Ah (fA p m)) (Aj l b) sby) 1 5 (b) rfl rfl rfl rfl rfl C8 (Nat.mul_one _).symm (by omega) (fun w A hG=>(C0 (hG _ (Ap (n:=0) rfl)))) fun cs1=>?_)
              refine wk 3 cz ?_
              refine Jr [false,true,true] [0,7,8,9,10,11,12,13,14,15,16,17] (by exact Tx rfl) rfl rfl (ihn _)
             ·have Gm:=fun {nm cm na ca nb cb:Nat}{pm pa pb:Option Addr}{a b:List Int}(h:nb≠na)=>ABP (p:=p) (m:=m) (md:=md) (nm:=nm) (cm:=cm) (na:=na) (ca:=ca) (nb:=nb) (cb:=cb) (pm:=pm) (pa:=pa) (pb:=pb) (a:=a) (b:=b) h
              refine wk 29 cz ?_
              intro h6 b4 o2 hz2 g1 b5 h7 h8
              refine A2 rfl rfl (E6 1 2 (b) rfl rfl rfl C8 rfl (by omega) fun z1 hz3 pa2 ca2=>?_)
              obtain rfl:_=z1:=Option.some.inj (at_u.symm.trans hz3)
              refine wk 10 cz ?_
              intro h9
              (apply B9 it mx 15;(· rfl);(· rfl))
              (apply Ac;(· rfl);(· exact Bc fun _=>As rfl Sm Ag))
              (apply Ac;(· rfl);(· exact Bc fun _=>As rfl ABb Ag))
              (apply Ac;(· rfl);(· exact L0 2 rfl rfl T4 rfl rfl))
              (apply Am 1;(· rfl);(· simp))
              (apply Ac;(· rfl);(· exact Bc fun _=>As rfl AGi Ag))
              (apply Ac;(· rfl);(· exact Be 0 rfl rfl Bz rfl))
              (apply Ac;(· rfl);(· exact Bc fun _=>Bi (b) (b) rfl rfl Du rfl (by omega) (Nat.mul_one _) Ag))
              (apply Co;(· rfl);(· exact Mn 1 3 (b) rfl rfl rfl C8 rfl (by assumption));intro pa3 ca3)
              (apply Ac;(· rfl);(· exact Bc fun _=>As rfl AHj Ag))
              (apply Ac;(· rfl);(· exact Be 0 rfl rfl C8 rfl))
              (apply Ac;(· rfl);(· exact Bc fun _=>Ae [10,0,2] rfl (Gm (by omega)) rfl (by rintro _ _ _ ⟨rfl,rfl,rfl⟩;exact Ag)))
              (apply Am 4;(· rfl);(· simp))
              refine Bx rfl ?_
              simp only [List.map_cons,List.map_nil,List.cons_append,List.nil_append]
              refine wk 8 cz ?_
              intro h10
              refine Jr [false,true,true] [4,5,6,7,8,9,10,11,12,13,14,15] (by exact Tx rfl) rfl rfl (ihs cs l hll hlw)
          ·refine wk 31 cz ?_
           intro h6 b4 o2 hz2 g1 b5 h7 h8
           refine Jr [false,true,true] [2,3,4,5,6,7,8,9,10,11,12,13] (by exact Tx rfl) rfl rfl (ihs cs l hll hlw)
        ·obtain rfl:i=sp.length:=by omega
         clear ih
         refine Dc 0 0 rfl rfl (by show R.length*24≤140737488355328;omega) ?_
         simp only [List.eraseIdx_cons_zero,ad]
         refine ADJ [0,4,7,8,9,10,11,12] rfl ?_
         have hWr:=AHC R l
         have hLs:=AHU R l
         have Ja:=fun {pa pb:Option Addr}{na ca nb cb:Nat}=>AEp (pa:=pa) (pb:=pb) (na:=na) (ca:=ca) (nb:=nb) (cb:=cb) (a:=R) (b:=l)
         have hde':=hde (hll.trans hRl) hlw
         generalize wrC R l=wr at *
         generalize lsC R l=ls at *
         by_cases hbig:dd≤2*(wr:Int)+ls
         ·refine wk 8 cz ?_
          intro h6
          refine Ab rfl (Ae [1,0] rfl (Ja) rfl ?_)
          rintro _ _ _ ⟨rfl,rfl,rfl⟩
          simp only [List.cons_append,List.nil_append]
          refine wk 11 cz ?_
          intro h7
          exact ge
         ·obtain ⟨o,hq,hol,ho⟩:=hde' (by omega)
          have Sc:=fun {n c nm cm nt ct nr cr nb cb:Nat}{pm ps pt pr pb:Option Addr}=>Zi (n:=n) (c:=c) (nm:=nm) (cm:=cm) (nt:=nt) (ct:=ct) (nr:=nr) (cr:=cr) (nb:=nb) (cb:=cb) (pm:=pm) (ps:=ps) (pt:=pt) (pr:=pr) (pb:=pb) (P:=p) (M:=m) (md:=md) (Aa:=Aa) (sets:=sets) (racks:=racks) (W:=w) (blocks:=l) hN hd
          rw [hq] at Sc
          have Kt:=fun {pl pk:Option Addr}{nl cl nk ck:Nat}=>Ky (pl:=pl) (pk:=pk) (nl:=nl) (cl:=cl) (nk:=nk) (ck:=ck) (l:=R)
          have hoI:(A7 o).length=wr:=by rw [Bn,hol]
          clear hq hde hde'
          refine wk 8 cz ?_
          intro h6
          refine Ab rfl (Ae [1,0] rfl (Ja) rfl ?_)
          rintro _ _ _ ⟨rfl,rfl,rfl⟩
          simp only [List.cons_append,List.nil_append]
          refine wk 11 cz ?_
          intro h7
          refine Ab rfl (Ae [2,3,4,5,0] rfl (Sc) rfl ?_)
          rintro _ _ _ ⟨pb2,cb2,pw1,cw1,rfl,rfl,rfl⟩
          simp only [List.cons_append,List.nil_append]
          refine wk 4 cz ?_
          intro h8
          refine A2 rfl rfl (Ae [0,3] rfl (Kt) rfl ?_)
          rintro _ _ _ ⟨rfl,rfl,rfl⟩
          simp only [List.cons_append,List.nil_append]
          simp only [decide_true]
          refine wk 8 cz ?_
          intro h9 --ok
          refine Af (X:=Nat) [9,10,18] [0,1,2,3,4,5,6,7,8,9] (fun i=>[(20,.int .i64 (i:Int))]) (fun _=>_) (fun _=>[]) (fun i=>i≤wr) (fun i=>wr-i) 0 [] rfl rfl rfl (Nat.zero_le _) (by repeat (first|exact Fr.sub_nil _|refine Fr.sub_cons rfl ?_)) rfl rfl ?_
          rintro i hi ih
          simp only [List.cons_append,List.nil_append] at hi ih ⊢
          by_cases hiw:i<wr
          ·obtain ⟨b,at_b⟩:∃ b,o[i]?=some b:=⟨_,List.getElem?_eq_getElem (by omega)⟩
           have at_bi:=Fo at_b
           obtain ⟨hb1,hb2,hb3⟩:=ho b (List.mem_of_getElem? at_b)
           have ih':=ih (i+1) (by omega) (by omega)
           clear ih
           have gb:=Ix at_bi
           have ge:∀ {k:List (List Int)},k.getD ((A7 o).getD i default).toNat default=Aj k b:=fun {k}=>by rw [gb,Int.toNat_natCast];rfl
           have hz:(l.getD ((A7 o).getD i default).toNat default).length≠0:=fun h=>hb2 (List.length_eq_zero_iff.1 (by rw [← ge];exact h))
           have hd:decide (l.getD ((A7 o).getD i default).toNat default=R.getD ((A7 o).getD i default).toNat default)=false:=decide_eq_false (by rw [ge,ge];exact hb3)
           have Ea:=fun {pl pk:Option Addr}{nl cl nk ck:Nat}{l k:List Int}{res:Bool}(h:decide (l=k)=res)=>W6 (pl:=pl) (pk:=pk) (nl:=nl) (cl:=cl) (nk:=nk) (ck:=ck) (l:=l) (k:=k) h
           clear ge hb2 hb3
           refine wk 7 cz ?_
           intro h10
           (apply B9 it mx 42;(· rfl);(· rfl))
           (apply Am 2;(· rfl);(· simp))
           (apply Fl;(· rfl);(· exact Bc fun _=>Ds 1 (i) rfl rfl rfl B6 rfl (by omega) fun z1 hz2 b4 o2=>(Fg default hz2 0 rfl));intro b4 o2)
           (apply Ac;(· rfl);(· exact Bc fun _=>Ak 0 rfl rfl Bz fun ⟨r1,r2⟩=>Ag))
           (apply Ac;(· rfl);(· exact Bc fun _=>Ll it rfl (by trivial) (by omega) Ag))
           (apply Am 3;(· rfl);(· simp))
           (apply Fl;(· rfl);(· exact Bc fun _=>Ds 2 (i) rfl rfl rfl B6 rfl (by omega) fun z1 hz2 b5 o3=>(Fg default hz2 0 rfl));intro b5 o3)
           (apply Ac;(· rfl);(· exact Bc fun _=>Ak 0 rfl rfl Bz fun ⟨r1,r2⟩=>Ag))
           (apply Am 1;(· rfl);(· simp))
           (apply Ac;(· rfl);(· exact Bc fun _=>Jq Du rfl Ag))
           (apply Ac;(· rfl);(· exact Bc fun _=>Ll it rfl (by trivial) (by omega) Ag))
           (apply Am 5;(· rfl);(· simp))
           (apply Fl;(· rfl);(· exact Bc fun _=>Ds 3 (i) rfl rfl rfl B6 rfl (by omega) fun z1 hz2 b6 o4=>(Fg default hz2 0 rfl));intro b6 o4)
           (apply Ac;(· rfl);(· exact Bc fun _=>Ak 0 rfl rfl Bz fun ⟨r1,r2⟩=>Ag))
           (apply Fl;(· rfl);(· exact Bc fun _=>Ds 5 (((A7 o).getD i default:Int).toNat) rfl rfl rfl Du (by omega) (by omega) fun z1 hz2 b7 o5=>(Fg default hz2 0 rfl));intro b7 o5)
           (apply Co;(· rfl);(· exact Bc fun _=>Gp 0 rfl rfl C8 fun pa2 ca2=>(D6 0 rfl));intro pa2 ca2)
           (apply Ac;(· rfl);(· exact Bc fun _=>Jq B6 rfl Ag))
           (apply Ac;(· rfl);(· exact Bc fun _=>Ll it rfl (by trivial) (by omega) Ag))
           (apply Am 5;(· rfl);(· simp))
           (apply Fl;(· rfl);(· exact Bc fun _=>Ds 6 (i) rfl rfl rfl B6 rfl (by omega) fun z1 hz2 b8 o6=>(Fg default hz2 0 rfl));intro b8 o6)
           (apply Ac;(· rfl);(· exact Bc fun _=>Ak 0 rfl rfl Bz fun ⟨r1,r2⟩=>Ag))
           (apply Fl;(· rfl);(· exact Bc fun _=>Ds 8 (((A7 o).getD i default:Int).toNat) rfl rfl rfl Du (by omega) (by omega) fun z1 hz2 b9 o7=>(Fg default hz2 0 rfl));intro b9 o7)
           (apply Co;(· rfl);(· exact Bc fun _=>Gp 0 rfl rfl C8 fun pa3 ca3=>(D6 0 rfl));intro pa3 ca3)
           (apply Am 3;(· rfl);(· simp))
           (apply Fl;(· rfl);(· exact Bc fun _=>Ds 6 (i) rfl rfl rfl B6 rfl (by omega) fun z1 hz2 b10 o8=>(Fg default hz2 0 rfl));intro b10 o8)
           (apply Ac;(· rfl);(· exact Bc fun _=>Ak 0 rfl rfl Bz fun ⟨r1,r2⟩=>Ag))
           (apply Fl;(· rfl);(· exact Bc fun _=>Ds 9 (((A7 o).getD i default:Int).toNat) rfl rfl rfl Du (by omega) (by omega) fun z1 hz2 b11 o9=>(Fg default hz2 0 rfl));intro b11 o9)
           (apply Co;(· rfl);(· exact Bc fun _=>Gp 0 rfl rfl C8 fun pa4 ca4=>(D6 0 rfl));intro pa4 ca4)
           (apply Ac;(· rfl);(· exact Bc fun _=>Ae [3,0] rfl (Ea (by omega)) rfl (by rintro _ _ _ ⟨rfl,rfl,rfl⟩;exact Ag)))
           (apply Am 1;(· rfl);(· simp))
           refine Bx rfl ?_
           simp only [List.map_cons,List.map_nil,List.cons_append,List.nil_append]
           refine wk 5 cz ?_
           exact tw (ih')
          ·obtain rfl:i=wr:=by omega
           clear ih
           refine wk 9 cz ?_
           intro h10
           exact ge
      ·rw [if_pos hr] at he;cases he
    ·have C3:=fun {n c nm cm nt ct nr cr nb cb:Nat}{pm ps pt pr pb:Option Addr}=>Ku (n:=n) (c:=c) (nm:=nm) (cm:=cm) (nt:=nt) (ct:=ct) (nr:=nr) (cr:=cr) (nb:=nb) (cb:=cb) (pm:=pm) (ps:=ps) (pt:=pt) (pr:=pr) (pb:=pb) (data:=data) hN hd rfl he
     refine wk 4 cz ?_
     intro b1
     refine Ab rfl (Ae [] rfl (Cl) rfl ?_)
     rintro _ _ _ ⟨rfl,rfl,rfl⟩
     simp only [List.cons_append,List.nil_append]
     refine wk 5 cz ?_
     refine Ab rfl (Ae [2] rfl (C1 (by omega)) rfl ?_)
     rintro _ _ _ ⟨rfl,rfl,rfl⟩
     simp only [List.cons_append,List.nil_append]
     refine wk 14 cz ?_
     intro h1 h2
     refine Ab rfl (Ae [0,1,2,3,4] rfl (C3) rfl ?_)
     rintro _ _ _ ⟨pb1,cb1,rfl,rfl,rfl⟩
     simp only [List.cons_append,List.nil_append]
     refine wk 12 cz ?_
     intro h3
     exact ge
end
end Go.Proofs.YteadncphjconmaaGreat
