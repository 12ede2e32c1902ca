/-
The tests of a store's configuration. The law's function StoreConfigs. The ring of nodes of a store in plain words. The ring of a store, in the program. Places of blocks. Equations with their right hand sides, and their solution by places. Equations solved, in the program. The program's test whether a word is in a code. Words of a code from messages, in the program. A stripe completed from some of its blocks, in the program. Subsets in the order of their entries. Subsets in order, in the document. A stripe decoded, in the program. The tests of a stripe. Coefficients of repairs, in the program. Equations solved, in the document. A stripe completed from some of its blocks, in the document. A stripe decoded, in the document. Decode. Lists compared, in the document. The law's function StoreDecodes. Encode, in the document. The document's Add for what need not be an element, and codes' Add. What is wrong and what is away. Systems of equations: what a solution does. What is orthogonal to a base is zero. What an accepted exclusion tree says. Completed stripes: one and only one. Decoding searched in plain words. A spoiled stripe is put right. What Decode finds. What is away and wrong, counted. A spoiled stripe put right, for the law.
-/
import Derived.Test.YteadncphjconmaaGreatRX6
set_option linter.unusedVariables false
set_option linter.unusedSimpArgs false
namespace Go.Proofs.YteadncphjconmaaGreat
open Go Go.Fw
set_option maxRecDepth 100000
set_option linter.unusedVariables false
set_option linter.unusedSimpArgs false
set_option maxHeartbeats 0
theorem AGp {P:Program}{F:Fun P}{C:Cx}{S:List It}{σ:Fr}{β:List Ba}{Γ:List Fact}{R:Value→World→Prop}{pa:Option Addr}{m ca:Nat}{l:List Int}(n:Nat) (hn:A4 Γ n=some (Aw Ao pa m ca l)) (h:(∀ x∈l,Ca .i64 x)→J F C S σ β Γ R):J F C S σ β Γ R :=
 Y2 (fun w A hG x hx=>by
  obtain ⟨_,_,_,hs⟩:=hG _ (Ap hn)
  rcases hs with rfl|⟨b,o,_,_,hel⟩
  ·cases hx
  ·obtain ⟨i,hi⟩:=List.getElem?_of_mem hx
   obtain ⟨vs,_,_,h2⟩:=hel i x hi
   exact h2) h
noncomputable def Zq (P M:Int) (md:List Int) (N:Int) (Aa:List (List Int)) (dd:Int) (sets:List (List Int)) (racks:List Int) (W:Int):Int :=
 if W9 P M md N Aa≠0 then W9 P M md N Aa else if Aa.length=0 then 9 else if cdE P M md N Aa dd sets≠0 then cdE P M md N Aa dd sets
 else if 65536<O2 N.toNat (((dd-1) / 2).toNat+1) then 8 else if W<1∨16<W∨racks.length<1∨64<racks.length∨(∃ x∈racks,x<1) then 6
 else if 256<De racks then 8 else if De racks<N then 10 else 0
theorem ACa {P M N dd:Int}{md:List Int}{Aa sets:List (List Int)}:0≤cdE P M md N Aa dd sets∧cdE P M md N Aa dd sets≤13:=by
 have:=Ns P M md N Aa
 rw [cdE]
 split
 ·omega
 ·split
  ·omega
  ·split <;> omega
theorem AGd {p m N:Nat}{dd:Int}{md:List Int}{Aa sets:List (List Int)}(CC:Cok p m md N Aa) (h:cdE p m md N Aa dd sets=0):1≤dd∧dd≤N+1:=by
 rw [cdE,CC.ck,if_neg (by simp)] at h
 split at h
 ·cases h
 ·omega
section
variable {P M N dd W e:Int}{n c nm cm nt ct nr cr:Nat}{pm ps pt pr:Option Addr}{md racks:List Int}{Aa sets:List (List Int)}
theorem Oo (h0:∀ x∈racks,0≤x) (hs:De racks≤1000000):Bk Tryz.prog 33 [.agg #[.int .i64 P,.int .i64 M,.slice pm nm cm,.int .i64 N,.slice ps n c,.int .i64 dd,.slice pt nt ct,.slice pr nr cr,.int .i64 W]] [] [Aw Ao pr nr cr racks] (Rv (.int .i64 (De racks)) []):=by
 refine Ad (F:=Ph) rfl fun C=>?_
 refine Ay 0 rfl fun hn hb _=>?_
 subst hn
 have hb':racks.length*8≤140737488355328:=hb
 refine wk 8 cz ?_
 intro b1
 refine Af (X:=Nat) [1,2] [0] (fun i=>[(4,.int .i64 (i:Int)),(3,.int .i64 (De (racks.take i)))]) (fun _=>_) (fun _=>[]) (fun i=>i≤racks.length) (fun i=>racks.length-i) 0 [] rfl rfl rfl (Nat.zero_le _) (by repeat (first|exact Fr.sub_nil _|refine Fr.sub_cons rfl ?_)) rfl rfl ?_
 rintro i hi ih
 simp only [List.cons_append,List.nil_append] at hi ih ⊢
 have hst:=Ih h0 i
 by_cases h9:i<racks.length
 ·obtain ⟨x,at_x⟩:∃ x,racks[i]?=some x:=⟨_,List.getElem?_eq_getElem h9⟩
  have hx:=h0 x (List.mem_of_getElem? at_x)
  have hst2:=Ih h0 (i+1)
  rw [Ik at_x] at hst2
  have ih':=ih (i+1) (by omega) (by omega)
  rw [Ik at_x] at ih'
  refine wk 14 cz ?_
  intro h1 b2 o1 hz1
  refine Ab rfl (Ak 0 rfl rfl Bz fun ⟨r1,r2⟩=>?_)
  refine wk 4 cz ?_
  exact tw (ih')
 ·obtain rfl:i=racks.length:=by omega
  rw [List.take_length]
  clear ih
  refine wk 11 cz ?_
  intro h1
  exact ge
theorem K3 (hN:Ca .i64 N) (hd:Ca .i64 dd) (h:Zq P M md N Aa dd sets racks W=e):Bk Tryz.prog 10 [.agg #[.int .i64 P,.int .i64 M,.slice pm nm cm,.int .i64 N,.slice ps n c,.int .i64 dd,.slice pt nt ct,.slice pr nr cr,.int .i64 W]] [] [Aw Ao pm nm cm md,Aw (Ai Ao) ps n c Aa,Aw (Ai Ao) pt nt ct sets,Aw Ao pr nr cr racks] (Rv (.int .i64 e) []):=by
 refine Ad (F:=Tf) rfl fun C=>?_
 refine Ay 1 rfl fun hn hb _=>?_
 subst hn
 refine Ay 3 rfl fun hn hb2 _=>?_
 subst hn
 have hb2':racks.length*8≤140737488355328:=hb2
 refine AGp 3 rfl fun hrr=>?_
 have Di:=fun {pm ps:Option Addr}{nm cm n c:Nat}=>Lo (P:=P) (M:=M) (pm:=pm) (ps:=ps) (nm:=nm) (cm:=cm) (n:=n) (c:=c) (md:=md) (Aa:=Aa) hN rfl
 have hr:=Ns P M md N Aa
 rw [Zq] at h
 by_cases hc:W9 P M md N Aa=0
 ·rw [if_neg (fun e=>e hc)] at h
  rw [hc] at Di
  obtain ⟨p,m,N,rfl,rfl,rfl,CC⟩:=ACr hc
  have h64:=CC.n64
  by_cases h0:Aa.length=0
  ·rw [if_pos h0] at h
   subst h
   refine wk 6 cz ?_
   intro b1
   refine Ab rfl (Ae [0,1] rfl (Di) rfl ?_)
   rintro _ _ _ ⟨rfl,rfl,rfl⟩
   simp only [List.cons_append,List.nil_append]
   refine wk 16 cz ?_
   intro h1 h2
   exact ge
  ·rw [if_neg h0] at h
   have hcr:=ACa (P:=p) (M:=m) (N:=N) (dd:=dd) (md:=md) (Aa:=Aa) (sets:=sets)
   have Es:=fun {pm ps pt:Option Addr}{nm cm n c nt ct:Nat}=>M4 (pm:=pm) (ps:=ps) (pt:=pt) (nm:=nm) (cm:=cm) (n:=n) (c:=c) (nt:=nt) (ct:=ct) (sets:=sets) (e:=cdE p m md N Aa dd sets) CC hd (by omega) rfl
   by_cases h1:cdE p m md N Aa dd sets=0
   ·rw [if_neg (fun e=>e h1),Int.toNat_natCast] at h
    rw [h1] at Es
    obtain ⟨d1,d2⟩:=AGd CC h1
    obtain ⟨D,hD⟩:=Int.eq_ofNat_of_zero_le (show 0≤(dd-1) / 2 by omega)
    rw [hD,Int.toNat_natCast] at h
    have hDN:D≤N:=by omega
    refine wk 6 cz ?_
    intro b1
    refine Ab rfl (Ae [0,1] rfl (Di) rfl ?_)
    rintro _ _ _ ⟨rfl,rfl,rfl⟩
    simp only [List.cons_append,List.nil_append]
    refine wk 20 cz ?_
    intro h2 h3
    refine Ab rfl (Ae [0,1,2] rfl (Es) rfl ?_)
    rintro _ _ _ ⟨rfl,rfl,rfl⟩
    simp only [List.cons_append,List.nil_append]
    simp only [decide_true]
    refine wk 10 cz ?_
    intro h4
    refine Af (X:=Nat) [1] [0,1,2,3] (fun k=>[(6,.int .i64 (k:Int)),(5,.int .i64 (O2 N k:Nat))]) (fun _=>_) (fun _=>[]) (fun k=>k≤D+1∧O2 N k≤65536) (fun k=>D+1-k) 0 [] rfl rfl rfl ⟨Nat.zero_le _,by rw [O2];omega⟩ (by repeat (first|exact Fr.sub_nil _|refine Fr.sub_cons rfl ?_)) rfl rfl ?_
    rintro k ⟨hk,hcm⟩ ih
    simp only [List.cons_append,List.nil_append] at hk hcm ih ⊢
    by_cases hkD:k≤D
    ·have hb:=Sb (n:=N) (k:=k) h64
     have Qv:=Xh (n:=N) (k:=k) h64
     have hle:=AEr (n:=N) (k:=k+1) (d:=D-k)
     rw [show k+1+(D-k)=D+1 by omega] at hle
     by_cases h8:65536<O2 N (k+1)
     ·rw [if_pos (by omega)] at h
      subst h
      rw [O2] at h8
      generalize O2 N k=s at *
      generalize Bs N k=b at *
      clear ih
      refine wk 12 cz ?_
      intro h5
      refine Ab rfl (Ae [] rfl (Qv) rfl ?_)
      rintro _ _ _ ⟨rfl,rfl,rfl⟩
      simp only [List.cons_append,List.nil_append]
      refine wk 8 cz ?_
      intro h6
      exact ge
     ·have ih':=ih (k+1) (by omega) ⟨by omega,by omega⟩
      rw [O2] at ih' h8
      generalize O2 N k=s at *
      generalize Bs N k=b at *
      clear ih
      refine wk 12 cz ?_
      intro h5
      refine Ab rfl (Ae [] rfl (Qv) rfl ?_)
      rintro _ _ _ ⟨rfl,rfl,rfl⟩
      simp only [List.cons_append,List.nil_append]
      refine wk 10 cz ?_
      intro h6
      exact tw (ih')
    ·obtain rfl:k=D+1:=by omega
     clear ih
     rw [if_neg (by omega)] at h
     generalize O2 N (D+1)=s at *
     by_cases w1:W<1
     ·rw [if_pos (.inl w1)] at h
      subst h
      refine wk 19 cz ?_
      intro h5 h6
      exact ge
     by_cases w2:16<W
     ·rw [if_pos (.inr (.inl w2))] at h
      subst h
      refine wk 25 cz ?_
      intro h5 h6 h7
      exact ge
     by_cases w3:racks.length<1
     ·rw [if_pos (.inr (.inr (.inl w3)))] at h
      subst h
      refine wk 32 cz ?_
      intro h5 h6 h7 h8
      exact ge
     by_cases w4:64<racks.length
     ·rw [if_pos (.inr (.inr (.inr (.inl w4))))] at h
      subst h
      refine wk 39 cz ?_
      intro h5 h6 h7 h8 h9
      exact ge
     obtain ⟨x,l,rfl⟩:∃ x l,racks=x::l:=by
      cases racks with
      | nil=>exact absurd (Nat.lt_succ_self 0) w3
      | cons x l=>exact ⟨x,l,rfl⟩
     have Ip:=fun {pl:Option Addr}{k c:Nat}=>Ox (pl:=pl) (k:=k) (c:=c) hrr
     by_cases w5:∃ y∈x::l,y<1
     ·rw [if_pos (.inr (.inr (.inr (.inr w5))))] at h
      subst h
      have hmin:Zk x l<1:=ABL.2 (by
       obtain ⟨y,hy,h⟩:=w5
       rcases List.mem_cons.1 hy with rfl|hy
       ·exact .inl h
       ·exact .inr ⟨y,hy,h⟩)
      refine wk 33 cz ?_
      intro h5 h6 h7 h8 h9
      refine A2 rfl rfl (Ae [3] rfl (Ip) rfl ?_)
      rintro _ _ _ ⟨rfl,rfl,rfl⟩
      simp only [List.cons_append,List.nil_append]
      refine wk 6 cz ?_
      intro h10
      exact ge
     ·have hmin:¬ Zk x l<1:=fun hm=>w5 (by
       rcases ABL.1 hm with h|⟨y,hy,h⟩
       ·exact ⟨x,.head _,h⟩
       ·exact ⟨y,.tail _ hy,h⟩)
      rw [if_neg (by rintro (h|h|h|h|h) <;> first|omega|exact w5 h)] at h
      have hp:∀ y∈x::l,0≤y:=fun y hy=>by have:¬ y<1:=fun h=>w5 ⟨y,hy,h⟩;omega
      refine wk 33 cz ?_
      intro h5 h6 h7 h8 h9
      refine A2 rfl rfl (Ae [3] rfl (Ip) rfl ?_)
      rintro _ _ _ ⟨rfl,rfl,rfl⟩
      simp only [List.cons_append,List.nil_append]
      refine wk 11 cz ?_
      intro h10
      refine Af (X:=Nat) [1,83,84] [0,1,2,3] (fun i=>[(85,.int .i64 (i:Int)),(9,.int .i64 (De ((x::l).take i)))]) (fun _=>_) (fun _=>[]) (fun i=>i≤(x::l).length∧De ((x::l).take i)≤256) (fun i=>(x::l).length-i) 0 [] rfl rfl rfl ⟨Nat.zero_le _,by rw [List.take_zero,De];omega⟩ (by repeat (first|exact Fr.sub_nil _|refine Fr.sub_cons rfl ?_)) rfl rfl ?_
      rintro i ⟨hi,hs⟩ ih
      simp only [List.cons_append,List.nil_append] at hi hs ih ⊢
      have hst:=Ih hp i
      by_cases h9:i<(x::l).length
      ·obtain ⟨y,at_y⟩:∃ y,(x::l)[i]?=some y:=⟨_,List.getElem?_eq_getElem h9⟩
       have hy:=hp y (List.mem_of_getElem? at_y)
       have hst2:=Ih hp (i+1)
       by_cases h8:256<De ((x::l).take (i+1))
       ·rw [if_pos (by omega)] at h
        subst h
        rw [Ik at_y] at h8
        clear ih
        generalize De ((x::l).take i)=s2 at *
        refine wk 6 cz ?_
        intro h11 b2 o1 hz1
        refine Ab rfl (Ak 0 rfl rfl Bz fun ⟨r1,r2⟩=>?_)
        refine wk 8 cz ?_
        intro h12
        exact ge
       ·have ih':=ih (i+1) (by omega) ⟨by omega,by omega⟩
        rw [Ik at_y] at ih' h8
        clear ih
        generalize De ((x::l).take i)=s2 at *
        refine wk 6 cz ?_
        intro h11 b2 o1 hz1
        refine Ab rfl (Ak 0 rfl rfl Bz fun ⟨r1,r2⟩=>?_)
        refine wk 10 cz ?_
        intro h12
        exact tw (ih')
      ·obtain rfl:i=(x::l).length:=by omega
       clear ih
       rw [List.take_length] at hs hst ⊢
       rw [if_neg (by omega)] at h
       generalize De (x::l)=s2 at *
       by_cases h7:s2<N
       ·rw [if_pos h7] at h
        subst h
        refine wk 15 cz ?_
        intro h11 h12
        exact ge
       ·rw [if_neg h7] at h
        subst h
        refine wk 15 cz ?_
        intro h11 h12
        exact ge
   ·rw [if_pos h1] at h
    subst h
    refine wk 6 cz ?_
    intro b1
    refine Ab rfl (Ae [0,1] rfl (Di) rfl ?_)
    rintro _ _ _ ⟨rfl,rfl,rfl⟩
    simp only [List.cons_append,List.nil_append]
    refine wk 20 cz ?_
    intro h2 h3
    refine Ab rfl (Ae [0,1,2] rfl (Es) rfl ?_)
    rintro _ _ _ ⟨rfl,rfl,rfl⟩
    simp only [List.cons_append,List.nil_append]
    simp only [decide_true]
    refine wk 8 cz ?_
    intro h4
    exact ge
 ·rw [if_pos hc] at h
  subst h
  refine wk 6 cz ?_
  intro b1
  refine Ab rfl (Ae [0,1] rfl (Di) rfl ?_)
  rintro _ _ _ ⟨rfl,rfl,rfl⟩
  simp only [List.cons_append,List.nil_append]
  refine wk 8 cz ?_
  intro h1
  exact ge
theorem F2 (hN:Ca .i64 N) (hd:Ca .i64 dd) (h:Zq P M md N Aa dd sets racks W=e):Bk Tryz.prog 11 [.agg #[.int .i64 P,.int .i64 M,.slice pm nm cm,.int .i64 N,.slice ps n c,.int .i64 dd,.slice pt nt ct,.slice pr nr cr,.int .i64 W]] [] [Aw Ao pm nm cm md,Aw (Ai Ao) ps n c Aa,Aw (Ai Ao) pt nt ct sets,Aw Ao pr nr cr racks] (Rv (.int .i64 e) []):=by
 refine Ad (F:=Ki) rfl fun C=>?_
 refine Ay 1 rfl fun hn hb _=>?_
 subst hn
 refine Ay 3 rfl fun hn hb2 _=>?_
 subst hn
 have hb2':racks.length*8≤140737488355328:=hb2
 have Au:=fun {pm ps:Option Addr}{nm cm n c:Nat}=>Fu (P:=P) (M:=M) (pm:=pm) (ps:=ps) (nm:=nm) (cm:=cm) (n:=n) (c:=c) (md:=md) (Aa:=Aa) hN rfl
 have hr:=Ns P M md N Aa
 rw [Zq] at h
 by_cases hc:W9 P M md N Aa=0
 ·rw [if_neg (fun e=>e hc)] at h
  rw [hc] at Au
  obtain ⟨p,m,N,rfl,rfl,rfl,CC⟩:=ACr hc
  have h64:=CC.n64
  by_cases h0:Aa.length=0
  ·rw [if_pos h0] at h
   subst h
   refine wk 6 cz ?_
   intro b1
   refine Ab rfl (Ae [0,1] rfl (Au) rfl ?_)
   rintro _ _ _ ⟨rfl,rfl,rfl⟩
   simp only [List.cons_append,List.nil_append]
   refine wk 16 cz ?_
   intro h1 h2
   exact ge
  ·rw [if_neg h0] at h
   have hcr:=ACa (P:=p) (M:=m) (N:=N) (dd:=dd) (md:=md) (Aa:=Aa) (sets:=sets)
   have A8:=fun {pm ps pt:Option Addr}{nm cm n c nt ct:Nat}=>Je (pm:=pm) (ps:=ps) (pt:=pt) (nm:=nm) (cm:=cm) (n:=n) (c:=c) (nt:=nt) (ct:=ct) (sets:=sets) (e:=cdE p m md N Aa dd sets) hN hd rfl
   by_cases h1:cdE p m md N Aa dd sets=0
   ·rw [if_neg (fun e=>e h1),Int.toNat_natCast] at h
    rw [h1] at A8
    obtain ⟨d1,d2⟩:=AGd CC h1
    obtain ⟨D,hD⟩:=Int.eq_ofNat_of_zero_le (show 0≤(dd-1) / 2 by omega)
    rw [hD,Int.toNat_natCast] at h
    have hDN:D≤N:=by omega
    have B8:=Py (n:=N) (t:=D) h64 hDN
    rw [← hD,ACw] at B8
    generalize O2 N (D+1)=s at *
    by_cases h8:65536<s
    ·rw [if_pos h8] at h
     subst h
     refine wk 6 cz ?_
     intro b1
     refine Ab rfl (Ae [0,1] rfl (Au) rfl ?_)
     rintro _ _ _ ⟨rfl,rfl,rfl⟩
     simp only [List.cons_append,List.nil_append]
     refine wk 20 cz ?_
     intro h2 h3
     refine Ab rfl (Ae [0,1,2] rfl (A8) rfl ?_)
     rintro _ _ _ ⟨rfl,rfl,rfl⟩
     simp only [List.cons_append,List.nil_append]
     simp only [decide_true]
     refine wk 12 cz ?_
     intro h4
     refine Ab rfl (Ae [] rfl (B8) rfl ?_)
     rintro _ _ _ ⟨rfl,rfl,rfl⟩
     simp only [List.cons_append,List.nil_append]
     simp only [decide_true]
     refine wk 6 cz ?_
     intro h5
     exact ge
    ·rw [if_neg h8] at h
     by_cases w1:W<1
     ·rw [if_pos (.inl w1)] at h
      subst h
      refine wk 6 cz ?_
      intro b1
      refine Ab rfl (Ae [0,1] rfl (Au) rfl ?_)
      rintro _ _ _ ⟨rfl,rfl,rfl⟩
      simp only [List.cons_append,List.nil_append]
      refine wk 20 cz ?_
      intro h2 h3
      refine Ab rfl (Ae [0,1,2] rfl (A8) rfl ?_)
      rintro _ _ _ ⟨rfl,rfl,rfl⟩
      simp only [List.cons_append,List.nil_append]
      simp only [decide_true]
      refine wk 12 cz ?_
      intro h4
      refine Ab rfl (Ae [] rfl (B8) rfl ?_)
      rintro _ _ _ ⟨rfl,rfl,rfl⟩
      simp only [List.cons_append,List.nil_append]
      simp only [decide_true]
      refine wk 15 cz ?_
      intro h5 h6
      exact ge
     by_cases w2:16<W
     ·rw [if_pos (.inr (.inl w2))] at h
      subst h
      refine wk 6 cz ?_
      intro b1
      refine Ab rfl (Ae [0,1] rfl (Au) rfl ?_)
      rintro _ _ _ ⟨rfl,rfl,rfl⟩
      simp only [List.cons_append,List.nil_append]
      refine wk 20 cz ?_
      intro h2 h3
      refine Ab rfl (Ae [0,1,2] rfl (A8) rfl ?_)
      rintro _ _ _ ⟨rfl,rfl,rfl⟩
      simp only [List.cons_append,List.nil_append]
      simp only [decide_true]
      refine wk 12 cz ?_
      intro h4
      refine Ab rfl (Ae [] rfl (B8) rfl ?_)
      rintro _ _ _ ⟨rfl,rfl,rfl⟩
      simp only [List.cons_append,List.nil_append]
      simp only [decide_true]
      refine wk 21 cz ?_
      intro h5 h6 h7
      exact ge
     by_cases w3:racks.length<1
     ·rw [if_pos (.inr (.inr (.inl w3)))] at h
      subst h
      refine wk 6 cz ?_
      intro b1
      refine Ab rfl (Ae [0,1] rfl (Au) rfl ?_)
      rintro _ _ _ ⟨rfl,rfl,rfl⟩
      simp only [List.cons_append,List.nil_append]
      refine wk 20 cz ?_
      intro h2 h3
      refine Ab rfl (Ae [0,1,2] rfl (A8) rfl ?_)
      rintro _ _ _ ⟨rfl,rfl,rfl⟩
      simp only [List.cons_append,List.nil_append]
      simp only [decide_true]
      refine wk 12 cz ?_
      intro h4
      refine Ab rfl (Ae [] rfl (B8) rfl ?_)
      rintro _ _ _ ⟨rfl,rfl,rfl⟩
      simp only [List.cons_append,List.nil_append]
      simp only [decide_true]
      refine wk 28 cz ?_
      intro h5 h6 h7 h9
      exact ge
     by_cases w4:64<racks.length
     ·rw [if_pos (.inr (.inr (.inr (.inl w4))))] at h
      subst h
      refine wk 6 cz ?_
      intro b1
      refine Ab rfl (Ae [0,1] rfl (Au) rfl ?_)
      rintro _ _ _ ⟨rfl,rfl,rfl⟩
      simp only [List.cons_append,List.nil_append]
      refine wk 20 cz ?_
      intro h2 h3
      refine Ab rfl (Ae [0,1,2] rfl (A8) rfl ?_)
      rintro _ _ _ ⟨rfl,rfl,rfl⟩
      simp only [List.cons_append,List.nil_append]
      simp only [decide_true]
      refine wk 12 cz ?_
      intro h4
      refine Ab rfl (Ae [] rfl (B8) rfl ?_)
      rintro _ _ _ ⟨rfl,rfl,rfl⟩
      simp only [List.cons_append,List.nil_append]
      simp only [decide_true]
      refine wk 31 cz ?_
      intro h5 h6 h7 h9 h10
      exact ge
     refine wk 6 cz ?_
     intro b1
     refine Ab rfl (Ae [0,1] rfl (Au) rfl ?_)
     rintro _ _ _ ⟨rfl,rfl,rfl⟩
     simp only [List.cons_append,List.nil_append]
     refine wk 20 cz ?_
     intro h2 h3
     refine Ab rfl (Ae [0,1,2] rfl (A8) rfl ?_)
     rintro _ _ _ ⟨rfl,rfl,rfl⟩
     simp only [List.cons_append,List.nil_append]
     simp only [decide_true]
     refine wk 12 cz ?_
     intro h4
     refine Ab rfl (Ae [] rfl (B8) rfl ?_)
     rintro _ _ _ ⟨rfl,rfl,rfl⟩
     simp only [List.cons_append,List.nil_append]
     simp only [decide_true]
     refine wk 31 cz ?_
     intro h5 h6 h7 h9 h10
     refine Af (X:=Nat) [1] [0,1,2,3] (fun i=>[(4,.int .i64 (i:Int))]) (fun _=>_) (fun _=>[]) (fun i=>i≤racks.length∧∀ x∈racks.take i,¬ x<1) (fun i=>racks.length-i) 0 [] rfl rfl rfl ⟨Nat.zero_le _,fun x h=>absurd h List.not_mem_nil⟩ (by repeat (first|exact Fr.sub_nil _|refine Fr.sub_cons rfl ?_)) rfl rfl ?_
     rintro i ⟨hi,hs⟩ ih
     simp only [List.cons_append,List.nil_append] at hi ih ⊢
     by_cases h9:i<racks.length
     ·obtain ⟨y,at_y⟩:∃ y,racks[i]?=some y:=⟨_,List.getElem?_eq_getElem h9⟩
      by_cases hy:y<1
      ·rw [if_pos (.inr (.inr (.inr (.inr ⟨y,List.mem_of_getElem? at_y,hy⟩))))] at h
       subst h
       clear ih
       refine wk 13 cz ?_
       intro h11 b2 o1 hz1
       refine Ab rfl (Ak 0 rfl rfl Bz fun ⟨r1,r2⟩=>?_)
       refine wk 6 cz ?_
       intro h12
       exact ge
      ·refine wk 13 cz ?_
       intro h11 b2 o1 hz1
       refine Ab rfl (Ak 0 rfl rfl Bz fun ⟨r1,r2⟩=>?_)
       refine wk 6 cz ?_
       intro h12
       exact tw (ih (i+1) (by omega) ⟨by omega,T9 at_y hs hy⟩)
     ·obtain rfl:i=racks.length:=by omega
      rw [List.take_length] at hs
      rw [if_neg (by rintro (h|h|h|h|⟨y,hy,h⟩) <;> first|omega|exact hs y hy h)] at h
      clear ih
      have hp:∀ y∈racks,0≤y:=fun y hy=>by have:=hs y hy;omega
      refine wk 13 cz ?_
      intro h11
      refine Af (X:=Nat) [1] [0,1,2,3] (fun i=>[(6,.int .i64 (i:Int)),(5,.int .i64 (256-De (racks.take i)))]) (fun _=>_) (fun _=>[]) (fun i=>i≤racks.length∧De (racks.take i)≤256) (fun i=>racks.length-i) 0 [] rfl rfl rfl ⟨Nat.zero_le _,by rw [List.take_zero,De];omega⟩ (by repeat (first|exact Fr.sub_nil _|refine Fr.sub_cons rfl ?_)) rfl rfl ?_
      rintro i ⟨hi,hs⟩ ih
      simp only [List.cons_append,List.nil_append] at hi hs ih ⊢
      have hst:=Ih hp i
      by_cases h9:i<racks.length
      ·obtain ⟨y,at_y⟩:∃ y,racks[i]?=some y:=⟨_,List.getElem?_eq_getElem h9⟩
       have hy:=hp y (List.mem_of_getElem? at_y)
       have hst2:=Ih hp (i+1)
       by_cases h8:256<De (racks.take (i+1))
       ·rw [if_pos (by omega)] at h
        subst h
        rw [Ik at_y] at h8
        clear ih
        generalize De (racks.take i)=s2 at *
        refine wk 13 cz ?_
        intro h12 b2 o1 hz1
        refine Ab rfl (Ak 0 rfl rfl Bz fun ⟨r1,r2⟩=>?_)
        refine wk 6 cz ?_
        intro h13
        exact ge
       ·have ih':=ih (i+1) (by omega) ⟨by omega,by omega⟩
        rw [Ik at_y] at ih' h8
        rw [show (256-(De (racks.take i)+y):Int)=256-De (racks.take i)-y by omega] at ih'
        clear ih
        generalize De (racks.take i)=s2 at *
        refine wk 13 cz ?_
        intro h12 b2 o1 hz1
        refine Ab rfl (Ak 0 rfl rfl Bz fun ⟨r1,r2⟩=>?_)
        refine wk 9 cz ?_
        intro h13 b3 o2 hz2
        refine Ab rfl (Ak 0 rfl rfl Bz fun ⟨r3,r4⟩=>?_)
        refine wk 4 cz ?_
        exact tw (ih')
      ·obtain rfl:i=racks.length:=by omega
       clear ih
       rw [List.take_length] at hs hst ⊢
       rw [if_neg (by omega)] at h
       have Im:=fun {P M N dd W:Int}{n c nm cm nt ct nr cr:Nat}{pm ps pt pr:Option Addr}=>Oo (P:=P) (M:=M) (N:=N) (dd:=dd) (W:=W) (n:=n) (c:=c) (nm:=nm) (cm:=cm) (nt:=nt) (ct:=ct) (nr:=nr) (cr:=cr) (pm:=pm) (ps:=ps) (pt:=pt) (pr:=pr) hp (by omega)
       generalize De racks=s2 at *
       by_cases h7:s2<N
       ·rw [if_pos h7] at h
        subst h
        refine wk 9 cz ?_
        intro h12
        (apply B9 it mx 6;(· rfl);(· rfl))
        (apply Ac;(· rfl);(· exact B4 0 rfl rfl AKP rfl))
        (apply Ac;(· rfl);(· exact Bc fun _=>Ae [3] rfl (Im) rfl (by rintro _ _ _ ⟨rfl,rfl,rfl⟩;exact Ag)))
        (apply Ac;(· rfl);(· exact Bc fun _=>As rfl Sm Ag))
        (apply Ac;(· rfl);(· exact Bc fun _=>As rfl P5 Ag))
        (apply Ac;(· rfl);(· exact Be 0 rfl rfl Bz rfl))
        (apply Am 1;(· rfl);(· simp))
        refine Bx rfl ?_
        simp only [List.map_cons,List.map_nil,List.cons_append,List.nil_append]
        refine wk 5 cz ?_
        intro h13
        exact ge
       ·rw [if_neg h7] at h
        subst h
        refine wk 9 cz ?_
        intro h12
        (apply B9 it mx 6;(· rfl);(· rfl))
        (apply Ac;(· rfl);(· exact B4 0 rfl rfl AKP rfl))
        (apply Ac;(· rfl);(· exact Bc fun _=>Ae [3] rfl (Im) rfl (by rintro _ _ _ ⟨rfl,rfl,rfl⟩;exact Ag)))
        (apply Ac;(· rfl);(· exact Bc fun _=>As rfl Sm Ag))
        (apply Ac;(· rfl);(· exact Bc fun _=>As rfl P5 Ag))
        (apply Ac;(· rfl);(· exact Be 0 rfl rfl Bz rfl))
        (apply Am 1;(· rfl);(· simp))
        refine Bx rfl ?_
        simp only [List.map_cons,List.map_nil,List.cons_append,List.nil_append]
        refine wk 5 cz ?_
        intro h13
        exact ge
   ·rw [if_pos h1] at h
    subst h
    refine wk 6 cz ?_
    intro b1
    refine Ab rfl (Ae [0,1] rfl (Au) rfl ?_)
    rintro _ _ _ ⟨rfl,rfl,rfl⟩
    simp only [List.cons_append,List.nil_append]
    refine wk 20 cz ?_
    intro h2 h3
    refine Ab rfl (Ae [0,1,2] rfl (A8) rfl ?_)
    rintro _ _ _ ⟨rfl,rfl,rfl⟩
    simp only [List.cons_append,List.nil_append]
    simp only [decide_true]
    refine wk 8 cz ?_
    intro h4
    exact ge
 ·rw [if_pos hc] at h
  subst h
  refine wk 6 cz ?_
  intro b1
  refine Ab rfl (Ae [0,1] rfl (Au) rfl ?_)
  rintro _ _ _ ⟨rfl,rfl,rfl⟩
  simp only [List.cons_append,List.nil_append]
  refine wk 8 cz ?_
  intro h1
  exact ge
end
open Go Go.Fw
set_option maxRecDepth 100000
set_option linter.unusedVariables false
set_option linter.unusedSimpArgs false
set_option maxHeartbeats 0
theorem Pc:Bk Tryz.prog 9 [] [] [] (Rv (.bool true) []):=by
 refine Ad (F:=Ow) rfl fun C=>?_
 refine Ff (Aw Ao none 0 0 []) (fun w A _=>F7 _ w A none 0) ?_
 refine Ff (Aw (Ai Ao) none 0 0 []) (fun w A _=>F7 _ w A none 0) ?_
 have h0:Zq 0 0 [] 0 [] 0 [] [] 0=1:=by
  have hc:W9 0 0 [] 0 []=1:=by
   rw [W9,if_pos]
   intro h
   obtain ⟨p,m,hp,hm,K⟩:=Zx h
   have:=K.p2
   omega
  rw [Zq,hc,if_pos (by omega)]
 have Cv:=fun {n c nm cm nt ct nr cr:Nat}{pm ps pt pr:Option Addr}=>K3 (n:=n) (c:=c) (nm:=nm) (cm:=cm) (nt:=nt) (ct:=ct) (nr:=nr) (cr:=cr) (pm:=pm) (ps:=ps) (pt:=pt) (pr:=pr) (by simp only [Ca];omega) (by simp only [Ca];omega) h0
 refine wk 7 (ct @Cv cz) ?_
 exact ge
section
variable {P M N dd W:Int}{n c nm cm nt ct nr cr:Nat}{pm ps pt pr:Option Addr}{md racks:List Int}{Aa sets:List (List Int)}
theorem Rd {res:Bool}(hr:(decide ((sets.length:Int)≤300) && decide (N≤8))=res):Bk Tryz.prog 12 [.agg #[.int .i64 P,.int .i64 M,.slice pm nm cm,.int .i64 N,.slice ps n c,.int .i64 dd,.slice pt nt ct,.slice pr nr cr,.int .i64 W]] [] [Aw (Ai Ao) pt nt ct sets] (Rv (.bool res) []):=by
 refine Ad (F:=Rj) rfl fun C=>?_
 refine Ay 0 rfl fun hn hb _=>?_
 subst hn
 by_cases h1:(sets.length:Int)≤300
 ·rw [decide_eq_true h1,Bool.true_and] at hr
  subst hr
  refine wk 16 cz ?_
  intro b1 h2
  exact ge
 ·rw [decide_eq_false h1,Bool.false_and] at hr
  subst hr
  refine wk 13 cz ?_
  intro b1 h2
  exact ge
theorem AE0:0≤Zq P M md N Aa dd sets racks W∧Zq P M md N Aa dd sets racks W≤13:=by
 have h1:=Ns P M md N Aa
 have h2:=ACa (P:=P) (M:=M) (N:=N) (dd:=dd) (md:=md) (Aa:=Aa) (sets:=sets)
 rw [Zq]
 (repeat' split) <;> omega
end
open Go Go.Fw
set_option maxRecDepth 100000
set_option linter.unusedVariables false
set_option linter.unusedSimpArgs false
set_option maxHeartbeats 0
def ACt (k:Int):Int→Int→List Int→List (Int×Int)
 | _,_,[]=>[]
 | f,r,n::l=>(if k<n then [(f+k,r)] else [])++ACt k (f+n) (r+1) l
def U8 (racks:List Int):Nat→List (Int×Int)
 | 0=>[]
 | K+1=>U8 racks K++ACt K 0 0 racks
theorem Vc {k:Int}{z:Int×Int}:∀ {f r:Int}{l:List Int},z∈ACt k f r l→∃ (j:Nat) (n:Int),l[j]?=some n∧k<n∧z.1=f+De (l.take j)+k∧z.2=r+j
 | _,_,[],h=>by cases h
 | f,r,n::l,h=>by
  rw [ACt] at h
  rcases List.mem_append.1 h with h|h
  ·split at h
   ·rename_i hk
    rw [List.mem_singleton.1 h]
    exact ⟨0,n,rfl,hk,by rw [List.take_zero,De];omega,by omega⟩
   ·cases h
  ·obtain ⟨j,m,h1,h2,h3,h4⟩:=Vc h
   refine ⟨j+1,m,by rw [List.getElem?_cons_succ];exact h1,h2,?_,?_⟩
   ·rw [List.take_succ_cons,De,h3];omega
   ·rw [h4];omega
theorem AAV {l:List Int}(h:∀ x∈l,0≤x) {i j:Nat}(hij:i≤j):De (l.take i)≤De (l.take j):=by
 have:=(Ih (l:=l.take j) (fun x hx=>h x (List.mem_of_mem_take hx)) i).2
 rwa [List.take_take,Nat.min_eq_left hij] at this
theorem AHh {l:List Int}(h0:∀ x∈l,0≤x) {i j:Nat}{n m k k':Int}(hi:l[i]?=some n) (hj:l[j]?=some m) (h1:0≤k) (h2:k<n) (h3:0≤k') (h4:k'<m) (he:De (l.take i)+k=De (l.take j)+k'):i=j∧k=k':=by
 rcases Nat.lt_trichotomy i j with h|h|h
 ·have:=AAV h0 (show i+1≤j by omega)
  rw [Ik hi] at this;omega
 ·subst h;exact ⟨rfl,by omega⟩
 ·have:=AAV h0 (show j+1≤i by omega)
  rw [Ik hj] at this;omega
theorem W5 {k:Int}(hk:0≤k):∀ {f r:Int}{l:List Int},(∀ x∈l,0≤x)→(ACt k f r l).Pairwise fun a b=>a.1<b.1
 | _,_,[],_=>.nil
 | f,r,n::l,h=>by
  have hl:∀ x∈l,0≤x:=fun x hx=>h x (.tail _ hx)
  rw [ACt,List.pairwise_append]
  refine ⟨by split <;> simp,W5 hk hl,fun a ha b hb=>?_⟩
  split at ha
  ·rename_i hkn
   rw [List.mem_singleton.1 ha]
   obtain ⟨j,m,h1,h2,h3,h4⟩:=Vc hb
   have:=(Ih hl j).1
   rw [h3];show f+k<_;omega
  ·cases ha
theorem AC7 {racks:List Int}{z:Int×Int}:∀ {K:Nat},z∈U8 racks K→∃ (k j:Nat) (n:Int),k<K∧racks[j]?=some n∧(k:Int)<n∧z.1=De (racks.take j)+k∧z.2=j
 | 0,h=>by cases h
 | K+1,h=>by
  rw [U8] at h
  rcases List.mem_append.1 h with h|h
  ·obtain ⟨k,j,n,h1,h2,h3,h4,h5⟩:=AC7 h
   exact ⟨k,j,n,by omega,h2,h3,h4,h5⟩
  ·obtain ⟨j,n,h1,h2,h3,h4⟩:=Vc h
   exact ⟨K,j,n,by omega,h1,h2,by rw [h3];omega,by rw [h4];omega⟩
theorem Yx {racks:List Int}(h0:∀ x∈racks,0≤x):∀ {K:Nat},((U8 racks K).map Prod.fst).Nodup
 | 0=>List.nodup_nil
 | K+1=>by
  rw [U8,List.map_append,List.nodup_append]
  refine ⟨Yx h0,?_,?_⟩
  ·rw [List.Nodup,List.pairwise_map]
   exact (W5 (by omega) h0).imp fun {a b} h e=>by omega
  ·intro a ha b hb e
   subst e
   obtain ⟨u,hu,rfl⟩:=List.mem_map.1 ha
   obtain ⟨v,hv,he⟩:=List.mem_map.1 hb
   obtain ⟨k,j,n,h1,h2,h3,h4,h5⟩:=AC7 hu
   obtain ⟨i,m,g1,g2,g3,g4⟩:=Vc hv
   have:=AHh h0 h2 g1 (by omega) h3 (by omega) g2 (by omega)
   omega
theorem AC8 {k:Nat}:∀ {f r:Int}{l:List Int},((ACt k f r l).length:Int)=De (l.map fun n=>min n ((k+1:Nat):Int))-De (l.map fun n=>min n (k:Int))
 | _,_,[]=>rfl
 | f,r,n::l=>by
  have ih:=AC8 (k:=k) (f:=f+n) (r:=r+1) (l:=l)
  rw [ACt,List.length_append,List.map_cons,List.map_cons,De,De]
  split
  ·rw [List.length_singleton];omega
  ·rw [List.length_nil];omega
theorem AA1:∀ {l:List Int},(∀ x∈l,0≤x)→De (l.map fun n=>min n ((0:Nat):Int))=0
 | [],_=>rfl
 | n::l,h=>by
  rw [List.map_cons,De,AA1 fun x hx=>h x (.tail _ hx)]
  have:=h n (.head _);omega
theorem ACs {racks:List Int}(h0:∀ x∈racks,0≤x):∀ {K:Nat},((U8 racks K).length:Int)=De (racks.map fun n=>min n (K:Int))
 | 0=>(AA1 h0).symm
 | K+1=>by
  rw [U8,List.length_append]
  have:=ACs h0 (K:=K)
  have h2:=AC8 (k:=K) (f:=0) (r:=0) (l:=racks)
  omega
theorem Y6 {K:Int}:∀ {l:List Int},(∀ x∈l,x≤K)→De (l.map fun n=>min n K)=De l
 | [],_=>rfl
 | n::l,h=>by
  have h1:=Y6 (K:=K) (l:=l) fun x hx=>h x (.tail _ hx)
  have:=h n (.head _)
  rw [List.map_cons,De,De];omega
def K1 (racks:List Int):List (Int×Int):=U8 racks (V5 0 racks).toNat
theorem AIG {m:Int}{l:List Int}:m≤V5 m l∧∀ x∈l,x≤V5 m l:=by
 refine ⟨?_,fun x hx=>?_⟩
 ·by_cases h:V5 m l<m
  ·have:=(ABC (c:=V5 m l) (m:=m) (l:=l)).2 (.inl h);omega
  ·omega
 ·by_cases h:V5 m l<x
  ·have:=(ABC (c:=V5 m l) (m:=m) (l:=l)).2 (.inr ⟨x,hx,h⟩);omega
  ·omega
theorem AAB {racks:List Int}(h0:∀ x∈racks,0≤x):((K1 racks).length:Int)=De racks:=by
 have h1:=AIG (m:=0) (l:=racks)
 rw [K1,ACs h0]
 exact Y6 fun x hx=>by have:=h1.2 x hx;omega
abbrev plI (t s b:Nat):Nat:=(s % t+b) % t
theorem AJ4 {t s b c:Nat}(hb:b<t) (hc:c<t) (h:plI t s b=plI t s c):b=c:=by
 have hs:s % t<t:=Nat.mod_lt _ (by omega)
 have e:∀ x,x<t→plI t s x=if s % t+x<t then s % t+x else s % t+x-t:=fun x hx=>by
  show (s % t+x) % t=_
  split
  ·exact Nat.mod_eq_of_lt ‹_›
  ·rw [Nat.mod_eq_sub_mod (by omega)];exact Nat.mod_eq_of_lt (by omega)
 rw [e b hb,e c hc] at h
 split at h <;> split at h <;> omega
section
variable {P M N dd W:Int}{n c nm cm nt ct nr cr:Nat}{pm ps pt pr:Option Addr}{md racks:List Int}{Aa sets:List (List Int)}
end
open Go Go.Fw
set_option maxRecDepth 100000
set_option linter.unusedVariables false
set_option linter.unusedSimpArgs false
set_option maxHeartbeats 0
section
variable {P M N dd W:Int}{n c nm cm nt ct nr cr:Nat}{pm ps pt pr:Option Addr}{md racks:List Int}{Aa sets:List (List Int)}
end
structure CfOk (p m:Nat) (md:List Int) (N:Nat) (Aa:List (List Int)) (dd:Int) (sets:List (List Int)) (racks:List Int) (W:Int):Prop where
 CC:Cok p m md N Aa
 k1:1≤Aa.length
 cd:cdE p m md N Aa dd sets=0
 cum:O2 N (((dd-1) / 2).toNat+1)≤65536
 w1:1≤W
 w2:W≤16
 r1:1≤racks.length
 r2:racks.length≤64
 rp:∀ x∈racks,1≤x
 r3:De racks≤256
 r4:(N:Int)≤De racks
theorem AEY {P M N dd W:Int}{md racks:List Int}{Aa sets:List (List Int)}(h:Zq P M md N Aa dd sets racks W=0):∃ p m n:Nat,P=p∧M=m∧N=n∧CfOk p m md n Aa dd sets racks W:=by
 rw [Zq] at h
 by_cases hc:W9 P M md N Aa=0
 ·rw [if_neg (fun e=>e hc)] at h
  obtain ⟨p,m,n,rfl,rfl,rfl,CC⟩:=ACr hc
  refine ⟨p,m,n,rfl,rfl,rfl,?_⟩
  by_cases h0:Aa.length=0
  ·rw [if_pos h0] at h;cases h
  rw [if_neg h0] at h
  by_cases h1:cdE p m md n Aa dd sets=0
  ·rw [if_neg (fun e=>e h1),Int.toNat_natCast] at h
   by_cases h2:65536<O2 n (((dd-1) / 2).toNat+1)
   ·rw [if_pos h2] at h;cases h
   rw [if_neg h2] at h
   by_cases h3:W<1∨16<W∨racks.length<1∨64<racks.length∨∃ x∈racks,x<1
   ·rw [if_pos h3] at h;cases h
   rw [if_neg h3] at h
   by_cases h4:256<De racks
   ·rw [if_pos h4] at h;cases h
   rw [if_neg h4] at h
   by_cases h5:De racks<n
   ·rw [if_pos h5] at h;cases h
   refine ⟨CC,by omega,h1,by omega,?_,?_,?_,?_,fun x hx=>?_,by omega,by omega⟩
   ·by_cases h6:W<1
    ·exact absurd (.inl h6) h3
    ·omega
   ·by_cases h6:16<W
    ·exact absurd (.inr (.inl h6)) h3
    ·omega
   ·by_cases h6:racks.length<1
    ·exact absurd (.inr (.inr (.inl h6))) h3
    ·omega
   ·by_cases h6:64<racks.length
    ·exact absurd (.inr (.inr (.inr (.inl h6)))) h3
    ·omega
   ·by_cases h6:x<1
    ·exact absurd (.inr (.inr (.inr (.inr ⟨x,hx,h6⟩)))) h3
    ·omega
  ·rw [if_pos h1] at h;exact absurd h h1
 ·rw [if_pos hc] at h;exact absurd h hc
theorem CfOk.r0 {p m n:Nat}{dd W:Int}{md racks:List Int}{Aa sets:List (List Int)}(h:CfOk p m md n Aa dd sets racks W):∀ x∈racks,0≤x:=fun x hx=>by have:=h.rp x hx;omega
def AAG (racks:List Int) (s b:Nat):Int×Int:=(K1 racks).getD (plI (K1 racks).length s b) default
theorem CfOk.at {p m n:Nat}{dd W:Int}{md racks:List Int}{Aa sets:List (List Int)}(h:CfOk p m md n Aa dd sets racks W) (s b:Nat):(K1 racks)[plI (K1 racks).length s b]?=some (AAG racks s b):=by
 have h1:=AAB h.r0
 have h2:=h.r4
 have h3:=h.CC.n1
 have h4:plI (K1 racks).length s b<(K1 racks).length:=Nat.mod_lt _ (by omega)
 rw [AAG,List.getD_eq_getElem?_getD,List.getElem?_eq_getElem h4];rfl
theorem CfOk.inj {p m n:Nat}{dd W:Int}{md racks:List Int}{Aa sets:List (List Int)}(h:CfOk p m md n Aa dd sets racks W) {s b c:Nat}(hb:b<n) (hc:c<n) (he:(AAG racks s b).1=(AAG racks s c).1):b=c:=by
 have h1:=AAB h.r0
 have h2:=h.r4
 have hn:=Yx h.r0 (K:=(V5 0 racks).toNat)
 rw [show U8 racks (V5 0 racks).toNat=K1 racks from rfl] at hn
 have a1:=h.at s b
 have a2:=h.at s c
 have b1:((K1 racks).map Prod.fst)[plI (K1 racks).length s b]?=some (AAG racks s b).1:=by rw [List.getElem?_map,a1];rfl
 have b2:((K1 racks).map Prod.fst)[plI (K1 racks).length s c]?=some (AAG racks s c).1:=by rw [List.getElem?_map,a2];rfl
 rw [he,← b2] at b1
 have l1:plI (K1 racks).length s b<((K1 racks).map Prod.fst).length:=by rw [List.length_map];exact Nat.mod_lt _ (by omega)
 exact AJ4 (t:=(K1 racks).length) (s:=s) (by omega) (by omega) ((List.getElem?_inj l1 hn).1 b1)
section
variable {P M N dd W s b x e:Int}{n c nm cm nt ct nr cr:Nat}{pm ps pt pr:Option Addr}{md racks:List Int}{Aa sets:List (List Int)}
end
set_option maxRecDepth 100000
set_option linter.unusedVariables false
set_option linter.unusedSimpArgs false
def Wx (Aa:List (List Int)) (b:List Int):List (List Int):=List.zipWith (fun r x=>r++[x]) Aa b
theorem AIC {Aa:List (List Int)}{b:List Int}(h:b.length=Aa.length):(Wx Aa b).length=Aa.length:=by rw [Wx,List.length_zipWith];omega
theorem AGW {Aa:List (List Int)}{b:List Int}{i:Nat}{r:List Int}{x:Int}(hr:Aa[i]?=some r) (hx:b[i]?=some x):(Wx Aa b)[i]?=some (r++[x]):=by
 rw [Wx,List.getElem?_zipWith,hr,hx]
theorem Xx {q n:Nat}{Aa:List (List Int)}{b:List Int}(hM:Dy q n Aa) (hb:∀ x∈b,0≤x∧x<(q:Int)):Dy q (n+1) (Wx Aa b):=fun s hs=>by
 obtain ⟨i,h1,rfl⟩:=List.getElem_of_mem hs
 rw [Wx,List.length_zipWith] at h1
 have h2:i<Aa.length:=by omega
 have h3:i<b.length:=by omega
 obtain ⟨l1,l2⟩:=hM _ (List.getElem_mem h2)
 simp only [Wx,List.getElem_zipWith]
 refine ⟨by rw [List.length_append,l1];rfl,fun x hx=>?_⟩
 rcases List.mem_append.1 hx with hx|hx
 ·exact l2 x hx
 ·rw [List.mem_singleton.1 hx];exact hb _ (List.getElem_mem h3)
def slK (n:Nat) (E:List (List Int)×List Nat) (k:Nat):List Int:=(List.range n).map fun e=>if e∈E.2.take k then en E.1 (E.2.idxOf e) n else 0
theorem AIE {n k:Nat}{E:List (List Int)×List Nat}:(slK n E k).length=n:=by simp [slK]
theorem AGx {n:Nat}{E:List (List Int)×List Nat}:slK n E 0=zW n:=by
 refine List.ext_getElem (by simp [slK,zW]) fun j h1 h2=>?_
 simp only [slK,zW,List.getElem_map,List.getElem_range,List.take_zero,List.getElem_replicate]
 exact if_neg (by simp)
theorem AH7 {n:Nat}{E:List (List Int)×List Nat}:slK n E E.2.length=Vr n E:=by rw [slK,List.take_length];rfl
theorem AIx {n k a:Nat}{E:List (List Int)×List Nat}(h:Ech E.1 n E.2) (hk:E.2[k]?=some a):(slK n E k).set a (en E.1 k n)=slK n E (k+1):=by
 refine List.ext_getElem (by simp [slK]) fun j h1 h2=>?_
 rw [List.getElem_set]
 simp only [slK,List.getElem_map,List.getElem_range]
 by_cases e:a=j
 ·subst e
  rw [if_pos rfl,if_pos (List.mem_of_getElem? (i:=k) (by rw [List.getElem?_take,if_pos (by omega),hk])),ABU h hk]
 ·rw [if_neg e,List.take_add_one,hk]
  by_cases hm:j∈E.2.take k
  ·rw [if_pos hm,if_pos (List.mem_append_left _ hm)]
  ·rw [if_neg hm,if_neg]
   intro hm2
   rcases List.mem_append.1 hm2 with h3|h3
   ·exact hm h3
   ·rw [Option.toList_some,List.mem_singleton] at h3;exact e h3.symm
open Go Go.Fw
set_option maxHeartbeats 0
abbrev SoQ (N:Nat) (E:List (List Int)×List Nat):Value→List Fact→List Ba→Prop:=fun v Φ β=>∃ (pb:Option Addr) (cb:Nat),v = .tuple #[.slice pb (if slB N E then Vr N E else []).length cb,.int .i64 (if slB N E then 0 else 11)]∧Φ=[Aw Ao pb (if slB N E then Vr N E else []).length cb (if slB N E then Vr N E else [])]∧β=[]
theorem Y7 {p m n c nm cm N nb cb:Nat}{pm ps pb:Option Addr}{md b:List Int}{Aa:List (List Int)}(K:Fok p m md) (hN:N≤256) (hl:Aa.length≤256) (hM:Dy (p ^ m) N Aa) (hb:Wd (p ^ m) Aa.length b) :
  Bk Tryz.prog 120 [.agg #[.int .i64 p,.int .i64 m,.slice pm nm cm],.agg #[.int .i64 N,.slice ps n c],.slice pb nb cb] [] [Aw Ao pm nm cm md,Aw (Ai Ao) ps n c Aa,Aw Ao pb nb cb b]
   (SoQ N (Nk p m md N 0 0 (Wx Aa b))):=by
 refine Ad (F:=Ys) rfl fun C=>?_
 have O:=Hq K
 have hq:=K.q
 refine Ay 1 rfl fun hn hbs _=>?_
 subst hn
 refine Ay 2 rfl fun hn hbb _=>?_
 have hbl:=hb.1
 rw [hbl] at hn
 subst hn
 have hbs':Aa.length*24≤140737488355328:=hbs
 have Fa:=fun {pm ps:Option Addr}{nm cm n c:Nat}=>J3 (pm:=pm) (nm:=nm) (cm:=cm) (ps:=ps) (n:=n) (c:=c) (Ms:=[((N:Int),Aa)]) K (fun z hz=>by rw [List.mem_singleton.1 hz];simp only [Ca];omega) (ABB (ABe hN hl hM))
 have Fj:=fun {b0 ng cg ne ce nl cl n c:Nat}{pg pe pl ps:Option Addr}=>G8 (b:=b0) (p:=p) (m:=m) (q:=p ^ m) (ng:=ng) (cg:=cg) (ne:=ne) (ce:=ce) (nl:=nl) (cl:=cl) (n:=n) (c:=c) (pg:=pg) (pe:=pe) (pl:=pl) (ps:=ps) (l:=b) hq
 rw [N2,if_pos hb.2] at Fj
 have Zt:=fun {ps:Option Addr}{c:Nat}=>Sn (ps:=ps) (m:=Aa.length) (c:=c) (Aa:=Aa) (by omega)
 refine wk 8 cz ?_
 intro b1 b2 b3
 refine Su (E:=ADv) (n:=1) [[Value.int IntKind.i64 ↑N,Value.slice ps Aa.length c]] [((↑N:Int),Aa)] 0 (fun w A hG=>(F8 (Xy (v1:=[Value.int IntKind.i64 ↑N]) (Dv (by first|(simp only [Ca];omega)|(simp [Ca];done)|assumption)) (C0 (hG _ (Ap (n:=1) rfl)))) Cp)) rfl rfl rfl rfl (by first|decide|exact Nat.le_of_ble_eq_true rfl) (by first|decide|exact Nat.le_of_ble_eq_true rfl) ?_
 refine wk 33 (ct @Fa (ct @Fj (ct @Zt cz))) ?_
 intro b4 pg1 cg1 pe1 ce1 pl1 cl1 h1 h2 h3 r1 hd1 cs1
 obtain ⟨ro,rcap,rcs⟩:=r1
 dsimp only
 refine ADC (List.Perm.cons _ List.perm_append_comm) ?_
 simp only [List.eraseIdx_cons_zero,List.cons_append,List.nil_append]
 refine Ml 3 [1,2,0] rfl rfl ?_
 simp only [List.cons_append,List.nil_append,List.drop_succ_cons,List.drop_zero]
 have hau:(Wx Aa b).length=Aa.length:=AIC hbl
 let ls:Nat→Nat→List Int:=fun i k=>if k<i then Aj (Wx Aa b) k else Aj Aa k
 refine Cf (ls 0) 1 rfl (fun g hg=>(if_neg (Nat.not_lt_zero g)).symm) ?_
 refine Af (X:=Nat×List Value×(Nat→Hd)×(Nat→List Value)) [2,4,6,7,8,11,46] [3,5,6,8,9,10] (fun x=>[(47,.int .i64 (x.1:Int))]) (fun x=>(some b2,88,[.int .i64 N,.slice ps Aa.length c])::(some b1,24,[.int .i64 p,.int .i64 m,.slice pm nm cm])::(ro,22,x.2.1)::Dg 3 x.2.2.1 x.2.2.2 Aa.length [])
  (fun x=>[A3 Rp ⟨ro,rcap,x.2.1⟩ Aa.length (J4 x.2.2.1 Aa.length),Ee Ao x.2.2.1 x.2.2.2 (ls x.1) Aa.length []]) (fun x=>x.1≤Aa.length) (fun x=>Aa.length-x.1) (0,rcs,hd1,cs1) [1,0] rfl rfl rfl (Nat.zero_le _) (by repeat (first|exact Fr.sub_nil _|refine Fr.sub_cons rfl ?_)) rfl rfl ?_
 rintro ⟨i,hc,hd,cs⟩ hi ih
 simp only [List.cons_append,List.nil_append] at hi ih ⊢
 by_cases h9:i<Aa.length
 ·obtain ⟨x,at_x⟩:∃ x,b[i]?=some x:=⟨_,List.getElem?_eq_getElem (by omega)⟩
  have ex:=Ix at_x
  obtain ⟨x0,x1⟩:=hb.2 x (List.mem_of_getElem? at_x)
  have hli:ls i i=Aj Aa i:=if_neg (Nat.lt_irrefl i)
  refine G9 1 rfl fun hlen=>?_
  have hdi:(hd i).2.1=N:=by rw [hlen i h9 rfl,hli];exact (hM.row h9).1
  refine Dh 0 rfl (by omega) fun b9 cap9 cs9 h9'=>?_
  obtain ⟨rfl,rfl,rfl⟩:=Row.mk.inj h9'
  refine Fi 3 (i) 1 (N) rfl rfl (by first|assumption|omega) (by first|rfl|assumption|(simp [Av,Br];done)|(simp [Av,Br];omega)) (by first|assumption|omega) fun r1 hr1=>?_
  simp only [List.take_succ_cons,List.take_zero,List.cons_append,List.nil_append]
  refine wk 7 cz ?_
  intro h4
  (refine Ml 4 [0,1,2,3] rfl rfl ?_;apply Us it mx 1 12;(· rfl);(· rfl);(· rfl))
  (apply Am 4;(· rfl);(· simp))
  (apply Ac;(· rfl);(· exact Bc fun _=>Bi (i) (i) rfl rfl Du rfl (by omega) (Nat.mul_one _) Ag))
  (apply Ac;(· rfl);(· exact G6 2 2 (i) rfl rfl rfl C8 rfl (by assumption)))
  dsimp only
  (apply Am 2;(· rfl);(· simp))
  (apply Fl;(· rfl);(· exact Bc fun _=>Ds 9 (i) rfl rfl rfl B6 rfl (by omega) fun z1 hz1 b5 o1=>(Fg default hz1 0 rfl));intro b5 o1)
  (apply Ac;(· rfl);(· exact Bc fun _=>Ak 0 rfl rfl Bz fun ⟨r2,r3⟩=>Ag))
  (apply Co;(· rfl);(· exact Bc fun _=>AAT B6 E3 rfl rfl rfl rfl (by decide) (by decide) rfl fun b6=>ABg (E:=Ao) [[Value.int IntKind.i64 (b.getD i default)]] [b.getD i default] (fun w A hG=>(F8 ⟨rfl,by first|assumption|(simp only [Ca];omega)⟩ Cp)) rfl rfl rfl (by first|decide|exact Nat.le_of_ble_eq_true rfl));intro pa1 ca1)
  (apply AEV (m:=1) 2 0;(· rfl);(· rfl);(· rfl);(· rfl);(· rfl);(· exact B6);(· exact E3);(· rfl);(· (first|omega|(simp;done)));(· (first|omega|(simp only [List.length_cons,List.length_nil];omega)));(· exact F4);(· (first|omega|(simp only [List.length_cons,List.length_nil];omega)));intro b6 cap1 cs2)
  refine Bx rfl ?_
  simp only [List.map_cons,List.map_nil,List.cons_append,List.nil_append]
  refine wk 1 cz ?_
  refine Ab rfl (Hv (vs:=[Value.slice (some { block:=b6,off:=0 }) (N+1) cap1]) (z:=(some b6,N+1,cap1)) 3 5 (i) rfl rfl rfl rfl rfl C8 (Nat.mul_one _).symm (by omega) (fun w A hG=>(Wz (some _) _ _)) fun cs3=>?_)
  refine wk 3 cz ?_
  simp only [List.drop_succ_cons,List.drop_zero,setB,List.set_cons_succ,List.set_cons_zero]
  rw [Qf,ex]
  refine Cu 3 i 0 1 5 rfl rfl rfl rfl h9 rfl ?_
  simp only [List.eraseIdx_cons_zero,List.eraseIdx_cons_succ,List.take_succ_cons,List.take_zero,List.cons_append,List.nil_append]
  refine Cf (ls (i+1)) 0 rfl (fun g hg=>by
   show Gb (ls i) i _ g=if _ then _ else _
   by_cases e:g=i
   ·subst e
    rw [Cs,if_pos (Nat.lt_succ_self g),hli]
    have h1:Aa[g]?=some (Aj Aa g):=by rw [Aj,List.getD_eq_getElem?_getD,List.getElem?_eq_getElem h9];rfl
    conv=>rhs;rw [Aj,List.getD_eq_getElem?_getD,AGW h1 at_x]
    rfl
   ·rw [D9 e]
    show (if _ then _ else _)=_
    by_cases h:g<i
    ·rw [if_pos h,if_pos (by omega)]
    ·rw [if_neg h,if_neg (by omega)]) ?_
  exact tw (ih (i+1,cs3,Gb hd i (some b6,N+1,cap1),Gb cs i cs2) (by dsimp only;omega) (by dsimp only;omega))
 ·have hi0:i=Aa.length:=by omega
  subst hi0
  clear ih
  have hM2:=Xx hM hb.2
  refine Cf (Aj (Wx Aa b)) 1 rfl (fun g hg=>if_pos hg) ?_
  clear_value ls
  have Ic:=fun {b ng cg ce cl:Nat}{pg pe pl:Option Addr}{rh:Row}{hd:Nat→Hd}{cs:Nat→List Value}=>K4 (b:=b) (ng:=ng) (cg:=cg) (ce:=ce) (cl:=cl) (pg:=pg) (pe:=pe) (pl:=pl) (rh:=rh) (hd:=hd) (cs:=cs) K (n:=Aa.length) (by omega) (Nat.le_succ N) (by omega) hau hM2
  have hEl:(Nk p m md N 0 0 (Wx Aa b)).1.length=Aa.length:=by rw [Nk,S5,hau]
  have hEk:(Nk p m md N 0 0 (Wx Aa b)).2.length≤Aa.length:=by
   have:=Up (A:=Ah (fA p m)) (M:=Ah (fM p (By m md))) (N:=Gu p m) (V:=He p m md) N 0 0 (Wx Aa b) (Nat.zero_le _)
   rw [Nat.zero_add,hau] at this;exact this
  have hEM:Dy (p ^ m) (N+1) (Nk p m md N 0 0 (Wx Aa b)).1:=((Hq K).elim (m:=N) hM2).1
  have hEe:Ech (Nk p m md N 0 0 (Wx Aa b)).1 N (Nk p m md N 0 0 (Wx Aa b)).2:=((Hq K).elim (m:=N) hM2).2.1
  generalize Nk p m md N 0 0 (Wx Aa b)=E at *
  refine Bd [_,_,_,_,_] rfl ?_
  refine Ax it 1 rfl (by simp) ?_
  refine Bd [_,_,_,_,_] rfl ?_
  refine Xc rfl rfl (fun h4=>by exfalso;omega) (fun h4=>?_)
  refine Bd [_,_] rfl ?_
  refine Ax it 2 rfl (by simp) ?_
  refine Ab rfl (As rfl AD8 ?_)
  refine Ab rfl (Do 0 rfl rfl Bz rfl ?_)
  refine Ab rfl (S0 2 [3,4,5,1,0] rfl rfl (Ic (rh:=⟨ro,rcap,hc⟩)) rfl ?_)
  rintro _ _ _ ⟨r1,ch'1,hd'1,cs'1,d1,rfl,rfl,rfl⟩
  simp only [List.cons_append,List.nil_append]
  refine Ax it 5 rfl (by simp) ?_
  refine Bd [_,_,_] rfl ?_
  refine Ax it 2 rfl (by simp) ?_
  refine Ab rfl (Jq B6 rfl ?_) --ok
  simp only [List.take_succ_cons,List.take_zero,List.cons_append,List.nil_append]
  refine G9 2 rfl fun hlen=>?_
  refine S8 4 3 1 2 rfl rfl rfl rfl (fun i hi=>by rw [hlen i hi rfl,(hEM.row (by omega)).1];show (N+1)*8≤_;omega) ?_
  simp only [List.take_succ_cons,List.take_zero]
  rw [show (List.range Aa.length).map (Aj E.1)=E.1 from by
   refine List.ext_getElem (by rw [List.length_map,List.length_range,hEl]) fun i h1 h2=>?_
   rw [List.getElem_map,List.getElem_range,Aj,List.getD_eq_getElem?_getD,List.getElem?_eq_getElem h2];rfl]
  refine Dc 3 0 rfl rfl (by show Aa.length*24≤140737488355328;omega) ?_
  simp only [List.eraseIdx_cons_zero,List.eraseIdx_cons_succ]
  refine Dc 2 2 rfl rfl (by show E.2.length*8≤140737488355328;omega) ?_
  simp only [List.eraseIdx_cons_zero,List.eraseIdx_cons_succ]
  refine Ay 1 rfl fun _ _ hcap=>?_
  refine Ab rfl (AA3 1 (E.snd.length) rfl rfl rfl Du (by omega) (by omega) fun pa1=>?_)
  refine wk 3 cz ?_
  have hDl:(E.1.drop E.2.length).length=Aa.length-E.2.length:=by rw [List.length_drop,hEl]
  have hDM:∀ r∈E.1.drop E.2.length,Wd (p ^ m) (N+1) r:=fun r hr=>hEM r (List.mem_of_mem_drop hr)
  have hsl:slB N E=(E.1.drop E.2.length).all fun r=>decide (Bm r N=0):=rfl
  generalize E.1.drop E.2.length=D at *
  refine Af (X:=Nat) [4,11,13,75,76] [0,1,2,3,4,5,6,7,8,9,10,11,12,13,14,15] (fun i=>[(77,.int .i64 (i:Int))]) (fun _=>_) (fun _=>[]) (fun i=>i≤D.length∧∀ r∈D.take i,Bm r N=0) (fun i=>D.length-i) 0 [] rfl rfl rfl ⟨Nat.zero_le _,fun x h=>by simp at h⟩ (by repeat (first|exact Fr.sub_nil _|refine Fr.sub_cons rfl ?_)) rfl rfl ?_
  rintro i ⟨hi,hno⟩ ih
  simp only [List.cons_append,List.nil_append] at hi ih ⊢
  by_cases h9:i<D.length
  ·obtain ⟨r,at_r⟩:∃ r,D[i]?=some r:=⟨_,List.getElem?_eq_getElem h9⟩
   have hrl:=(hDM r (List.mem_of_getElem? at_r)).1
   have at_y:r[N]?=some (Bm r N):=by
    rw [Bm,List.getD_eq_getElem?_getD,List.getElem?_eq_getElem (by omega)];rfl
   by_cases h8:Bm r N=0
   ·refine wk 13 cz ?_
    intro h5 b5 o1 hz1 pa2 ca1 b6 o2 hz2
    refine Ab rfl (Ak 0 rfl rfl Bz fun ⟨r2,r3⟩=>?_)
    refine wk 6 cz ?_
    intro h6
    exact tw (ih (i+1) (by omega) ⟨by omega,T9 at_r hno h8⟩)
   ·have hs:slB N E=false:=by
     rw [hsl,List.all_eq_false]
     exact ⟨r,List.mem_of_getElem? at_r,by rw [decide_eq_false h8];exact Bool.false_ne_true⟩
    rw [show SoQ N E=fun v Φ β=>∃ (pb:Option Addr) (cb:Nat),v = .tuple #[.slice pb 0 cb,.int .i64 11]∧Φ=[Aw Ao pb 0 cb []]∧β=[] from by funext v Φ β;show (∃ _ _,_)=_;rw [hs];rfl]
    clear ih
    refine wk 13 cz ?_
    intro h5 b5 o1 hz1 pa2 ca1 b6 o2 hz2
    refine Ab rfl (Ak 0 rfl rfl Bz fun ⟨r2,r3⟩=>?_)
    refine wk 6 cz ?_
    intro h6
    refine Ff (Aw Ao none 0 0 []) (fun w A _=>F7 Ao w A none 0) ?_
    refine Cn [0] rfl rfl rfl ⟨_,_,rfl,rfl,rfl⟩
  ·have hs:slB N E=true:=by
    rw [hsl,List.all_eq_true]
    exact fun r hr=>decide_eq_true (hno r (by rwa [List.take_of_length_le (by omega)]))
   rw [show SoQ N E=fun v Φ β=>∃ (pb:Option Addr) (cb:Nat),v = .tuple #[.slice pb (Vr N E).length cb,.int .i64 0]∧Φ=[Aw Ao pb (Vr N E).length cb (Vr N E)]∧β=[] from by funext v Φ β;show (∃ _ _,_)=_;rw [hs];rfl]
   clear ih
   refine wk 14 cz ?_
   intro h5 b5
   rw [show An .i64 (List.replicate N 0)=Al .i64 (slK N E 0) by rw [AGx];simp [An,Al,zW]]
   refine Af (X:=Nat) [4,11,17,91,92] [0,1,2,3,4,5,6,7,8,9,10,11,12,13,14,15] (fun i=>[(93,.int .i64 (i:Int))]) (fun i=>(some b5,3,Al .i64 (slK N E i))::_) (fun _=>[]) (fun i=>i≤E.2.length) (fun i=>E.2.length-i) 0 [] rfl rfl rfl (Nat.zero_le _) (by repeat (first|exact Fr.sub_nil _|refine Fr.sub_cons rfl ?_)) rfl rfl ?_
   rintro i hi ih
   simp only [List.cons_append,List.nil_append] at hi ih ⊢
   by_cases h9:i<E.2.length
   ·obtain ⟨a,hpa⟩:∃ a,E.2[i]?=some a:=⟨_,List.getElem?_eq_getElem h9⟩
    have at_p:(A7 E.2)[i]?=some (a:Int):=by rw [A7,List.getElem?_map,hpa];rfl
    have haN:=hEe.lt a (List.mem_of_getElem? hpa)
    have hr:E.1[i]?=some (Aj E.1 i):=by rw [Aj,List.getD_eq_getElem?_getD,List.getElem?_eq_getElem (by omega)];rfl
    have er:=Ix hr
    have hrl:(E.1.getD i default).length=N+1:=by rw [er];exact (hEM.row (by omega)).1
    have ih':=ih (i+1) (by omega) (by omega)
    rw [← AIx hEe hpa,en,← er,show Bm (E.1.getD i default) N=(E.1.getD i default).getD N default from rfl] at ih'
    have hln:=AIE (n:=N) (k:=i) (E:=E)
    generalize slK N E i=L at *
    refine wk 6 cz ?_
    intro h6
    refine Dh 4 rfl (by omega) fun b6 cap1 cs2 hr1=>?_
    subst hr1
    dsimp only
    refine wk 1 cz ?_
    intro b7 o1 hz1
    refine Ab rfl (Ak 0 rfl rfl Bz fun ⟨r1,r2⟩=>?_)
    refine wk 8 cz ?_
    intro b8 o2 pa2 ca1 b9 o3
    exact tw (ih')
   ·obtain rfl:i=E.2.length:=by omega
    rw [AH7]
    clear ih
    have hX:=(Hq K).slX_wd hEM hEe
    have hXl:=hX.1
    generalize Vr N E=X at *
    refine wk 7 cz ?_
    intro h6
    refine G5 0 rfl hXl.symm (fun y hy=>by have:=hX.2 y hy;simp only [Ca];omega) (by omega) ?_
    refine Dc 0 0 rfl rfl (by show N*8≤140737488355328;omega) ?_
    simp only [List.eraseIdx_cons_zero,List.eraseIdx_cons_succ]
    rw [← hXl]
    refine Cn [0] rfl rfl rfl ⟨_,_,rfl,rfl,rfl⟩
section
variable {p m N n c nm cm nx cx:Nat}{pm ps px:Option Addr}{md x:List Int}{Aa:List (List Int)}
theorem AJZ {q k:Nat}{l:List Int}(h:Wd q k l):liE l k q=0:=by
 rw [liE,if_neg (by have:=h.1;omega),N2,if_pos h.2]
end
open Go Go.Fw
set_option maxRecDepth 100000
set_option linter.unusedVariables false
set_option linter.unusedSimpArgs false
set_option maxHeartbeats 0
section
variable {p m n c nm cm N nx cx:Nat}{pm ps px:Option Addr}{md x:List Int}{Aa:List (List Int)}
abbrev WdQ (N:Nat) (l:List Int):Value→List Fact→List Ba→Prop:=fun v Φ β=>∃ (pb:Option Addr) (cb:Nat),v = .tuple #[.slice pb N cb,.int .i64 0]∧Φ=[Aw Ao pb N cb l]∧β=[]
theorem AB0 (K:Fok p m md) (hN:N≤256) (hl:Aa.length≤256) (hM:Dy (p ^ m) N Aa) (hx:Wd (p ^ m) Aa.length x) :
  Bk Tryz.prog 114 [.agg #[.int .i64 p,.int .i64 m,.slice pm nm cm],.slice px nx cx,.agg #[.int .i64 N,.slice ps n c]] [] [Aw Ao pm nm cm md,Aw Ao px nx cx x,Aw (Ai Ao) ps n c Aa] (WdQ N (cbP p m md N x Aa)):=by
 refine Ad (F:=ABw) rfl fun C=>?_
 have hq:=K.q
 have hxl:=hx.1
 refine Ay 1 rfl fun hn _ _=>?_
 subst hn
 refine Ay 2 rfl fun hn _ _=>?_
 subst hn
 have Fa:=fun {pm ps:Option Addr}{nm cm n c:Nat}=>J3 (pm:=pm) (nm:=nm) (cm:=cm) (ps:=ps) (n:=n) (c:=c) (Ms:=[((N:Int),Aa)]) K (fun z hz=>by rw [List.mem_singleton.1 hz];simp only [Ca];omega) (ABB (ABe hN hl hM))
 have Fj:=fun {b0 ng cg ne ce nl cl n c:Nat}{pg pe pl ps:Option Addr}=>G8 (b:=b0) (p:=p) (m:=m) (q:=p ^ m) (ng:=ng) (cg:=cg) (ne:=ne) (ce:=ce) (nl:=nl) (cl:=cl) (n:=n) (c:=c) (pg:=pg) (pe:=pe) (pl:=pl) (ps:=ps) (l:=x) hq
 rw [N2,if_pos hx.2] at Fj
 have ABa:=fun {b ng cg ce cl nx cx n c:Nat}{pg pe pl px ps:Option Addr}=>(ABT (b:=b) (ng:=ng) (cg:=cg) (ce:=ce) (cl:=cl) (nx:=nx) (cx:=cx) (n:=n) (c:=c) (pg:=pg) (pe:=pe) (pl:=pl) (px:=px) (ps:=ps) K (show N≤1000000 by omega) hM hx).pubR (by show N*8≤140737488355328;omega)
 refine wk 8 cz ?_
 intro b1 b2 b3
 refine Su (E:=ADv) (n:=1) [[Value.int IntKind.i64 ↑N,Value.slice ps Aa.length c]] [((↑N:Int),Aa)] 0 (fun w A hG=>(F8 (Xy (v1:=[Value.int IntKind.i64 ↑N]) (Dv (by first|(simp only [Ca];omega)|(simp [Ca];done)|assumption)) (C0 (hG _ (Ap (n:=2) rfl)))) Cp)) rfl rfl rfl rfl (by first|decide|exact Nat.le_of_ble_eq_true rfl) (by first|decide|exact Nat.le_of_ble_eq_true rfl) ?_
 refine wk 32 (ct @Fa (ct @Fj (ct @ABa cz))) ?_
 intro b4 pg1 cg1 pe1 ce1 pl1 cl1 h1 h2 h3 pa1 ca1
 refine Cn [0] rfl rfl rfl ⟨_,_,rfl,rfl,rfl⟩
theorem AAe (CC:Cok p m md N Aa) (hx:Wd (p ^ m) Aa.length x):Bk Tryz.prog 73 [.agg #[.int .i64 p,.int .i64 m,.slice pm nm cm,.int .i64 N,.slice ps n c],.slice px nx cx] [] [Aw Ao pm nm cm md,Aw (Ai Ao) ps n c Aa,Aw Ao px nx cx x] (WdQ N (cbP p m md N x Aa)):=by
 refine Ad (F:=Z7) rfl fun C=>?_
 refine Ay 1 rfl fun hn _ _=>?_
 subst hn
 have h64:=CC.n64
 have hln:=CC.len
 have Di:=fun {pm ps:Option Addr}{nm cm n c:Nat}=>Lo (P:=p) (M:=m) (N:=N) (pm:=pm) (ps:=ps) (nm:=nm) (cm:=cm) (n:=n) (c:=c) (md:=md) (Aa:=Aa) (by simp only [Ca];omega) CC.ck
 have AC3:=fun {pm ps:Option Addr}{nm cm n c:Nat}=>ADi (pm:=pm) (ps:=ps) (nm:=nm) (cm:=cm) (n:=n) (c:=c) CC.K (AJZ hx)
 have ABu:=fun {pm ps px:Option Addr}{nm cm n c nx cx:Nat}=>AB0 (pm:=pm) (ps:=ps) (px:=px) (nm:=nm) (cm:=cm) (n:=n) (c:=c) (nx:=nx) (cx:=cx) CC.K (show N≤256 by omega) (show Aa.length≤256 by omega) CC.mat hx
 refine wk 25 (ct @Di (ct @AC3 cz)) ?_
 intro b1 h1 h2
 (apply B9 it mx 8;(· rfl);(· rfl))
 (apply Ac;(· rfl);(· exact Bc fun _=>As rfl ABb Ag))
 (apply Ac;(· rfl);(· exact L0 0 rfl rfl T4 rfl rfl))
 (apply Am 1;(· rfl);(· simp))
 (apply Ac;(· rfl);(· exact B4 0 rfl rfl AEe rfl))
 (apply Ac;(· rfl);(· exact Bc fun _=>Ae [] rfl (Yc) rfl (by rintro _ _ _ ⟨rfl,rfl,rfl⟩;exact Ag)))
 (apply Nw (val:=(fun g=>Value.tuple #[Value.slice (g 0).fst N (g 1).snd.fst,Value.int IntKind.i64 0])) (f:=(fun g=>[Aw Ao (g 0).fst N (g 1).snd.fst (cbP p m md N x Aa)]));(· rfl);(· exact Bc fun _=>Ae [0,2,1] rfl (ABu) rfl (by rintro _ _ _ ⟨pbg0,cbg1,rfl,rfl,rfl⟩;exact fun _ _ _ hG=>⟨(fun|0=>(pbg0,0,0,[])|1=>(none,cbg1,0,[])|_=>default),rfl,fun g hg=>G3 (hG _ (List.mem_append_left _ hg))⟩));intro g1;dsimp only [List.map_cons,List.map_nil])
 (apply Ho [26] (fun vs=>match vs.getD 0 undef with | .tuple a=>a.getD 0 undef|_=>undef) (v:=Value.slice (g1 0).fst N (g1 1).snd.fst);(· rfl);(· rfl);(· rfl);(· rfl);(· exact Bc fun _=>Mg it rfl (by trivial) Ag))
 (apply Ac;(· rfl);(· exact Bc fun _=>Mg it rfl (by trivial) Ag))
 refine Bx rfl ?_
 simp only [List.map_cons,List.map_nil,List.cons_append,List.nil_append]
 refine wk 2 cz ?_
 refine Cn [0] rfl rfl rfl ⟨_,_,rfl,rfl,rfl⟩
end
open Go Go.Fw
set_option maxRecDepth 100000
set_option linter.unusedVariables false
set_option linter.unusedSimpArgs false
set_option maxHeartbeats 0
theorem AJk {n:Nat}{E:List (List Int)×List Nat}:(Vr n E).length=n:=by simp [Vr]
abbrev NoQ:Value→List Fact→List Ba→Prop:=fun v Φ β=>∃ (pb:Option Addr) (cb:Nat),v = .tuple #[.slice pb 0 cb,.int .i64 11]∧Φ=[Aw Ao pb 0 cb []]∧β=[]
theorem AKQ {N:Nat}{E:List (List Int)×List Nat}(h:slB N E=true):SoQ N E=WdQ N (Vr N E):=by
 funext v Φ β
 simp only [SoQ,WdQ,h,if_true,AJk]
theorem ALu {N:Nat}{E:List (List Int)×List Nat}(h:slB N E=false):SoQ N E=NoQ:=by
 funext v Φ β
 simp [SoQ,NoQ,h]
abbrev kcL (Aa:List (List Int)) (P:List Nat):List (List Int):=P.map fun b=>Dm Aa b
abbrev wnL (blocks:List (List Int)) (P:List Nat) (j:Nat):List Int:=P.map fun b=>Bm (Aj blocks b) j
noncomputable abbrev cmE (p m:Nat) (md:List Int) (Aa blocks:List (List Int)) (P:List Nat) (j:Nat):List (List Int)×List Nat:=Nk p m md Aa.length 0 0 (Wx (kcL Aa P) (wnL blocks P j))
noncomputable def cmB (p m:Nat) (md:List Int) (Aa blocks:List (List Int)) (W:Nat) (P:List Nat):Bool:=(List.range W).all fun j=>slB Aa.length (cmE p m md Aa blocks P j)
noncomputable def cmW (p m:Nat) (md:List Int) (N:Nat) (Aa blocks:List (List Int)) (P:List Nat) (j:Nat):List Int:=cbP p m md N (Vr Aa.length (cmE p m md Aa blocks P j)) Aa
noncomputable def cmR (p m:Nat) (md:List Int) (N:Nat) (Aa blocks:List (List Int)) (W:Nat) (P:List Nat):List (List Int):=(List.range N).map fun b=>(List.range W).map fun j=>Bm (cmW p m md N Aa blocks P j) b
noncomputable def cmQ (p m:Nat) (md:List Int) (N:Nat) (Aa blocks:List (List Int)) (P:List Nat) (j b k:Nat):List Int:=(List.range (if k<b then j+1 else j)).map fun t=>Bm (cmW p m md N Aa blocks P t) k
theorem AHI {p m:Nat}{md:List Int}{N:Nat}{Aa blocks:List (List Int)}{P:List Nat}{j k:Nat}:cmQ p m md N Aa blocks P j k k++[Bm (cmW p m md N Aa blocks P j) k]=cmQ p m md N Aa blocks P j (k+1) k:=by
 rw [cmQ,cmQ,if_neg (by omega),if_pos (by omega),List.range_succ,List.map_append];rfl
theorem AIA {p m:Nat}{md:List Int}{N:Nat}{Aa blocks:List (List Int)}{P:List Nat}{j k:Nat}:Gb (cmQ p m md N Aa blocks P j k) k (cmQ p m md N Aa blocks P j (k+1) k)=cmQ p m md N Aa blocks P j (k+1):=by
 funext t
 by_cases h:t=k
 ·subst h;rw [Cs]
 ·rw [D9 h,cmQ,cmQ]
  by_cases h2:t<k
  ·rw [if_pos h2,if_pos (by omega)]
  ·rw [if_neg h2,if_neg (by omega)]
section
variable {p m N n c nm cm nt ct nr cr nb cb nk ck W:Nat}{pm ps pt pr pb pk:Option Addr}{dd:Int}{md:List Int}{Aa blocks:List (List Int)}{P:List Nat}
theorem Wb (CC:Cok p m md N Aa) (hW:W≤16) (hB:∀ b∈P,b<N∧b<blocks.length∧Wd (p ^ m) W (Aj blocks b)) (hP:P.length≤64) :
  Bk Tryz.prog 82 [.agg #[.int .i64 p,.int .i64 m,.slice pm nm cm,.int .i64 N,.slice ps n c,.int .i64 dd,.slice pt nt ct,.slice pr nr cr,.int .i64 W],.slice pb nb cb,.slice pk nk ck] [] [Aw Ao pm nm cm md,Aw (Ai Ao) ps n c Aa,Aw (Ai Ao) pb nb cb blocks,Aw Ao pk nk ck (A7 P)]
   (ReL (cmB p m md Aa blocks W P) (if cmB p m md Aa blocks W P=true then cmR p m md N Aa blocks W P else [])):=by
 refine Ad (F:=V0) rfl fun C=>?_
 refine Ay 1 rfl fun hn hb1 _=>?_
 subst hn
 refine Ay 2 rfl fun hn hb2 _=>?_
 subst hn
 refine Ay 3 rfl fun hn hb3 _=>?_
 subst hn
 have h64:=CC.n64
 have hln:=CC.len
 have hq:=CC.K.q
 have hq2:=(Is CC.K).q2
 have hPl:(A7 P).length=P.length:=List.length_map _
 refine Bd [_,_] rfl ?_
 refine Ab rfl (Jw rfl fun b1=>?_)
 refine Ax it 2 rfl (by simp) ?_
 refine Bd [_,_] rfl ?_
 refine Ab rfl (As rfl Sm ?_)
 refine Ab rfl (V3 0 rfl rfl AEe rfl rfl ?_)
 refine Ab rfl (Lg AL9 fun b2=>?_)
 refine Ab rfl (Jt 0 rfl rfl rfl AEe rfl rfl (by simp [Value.oneCell']) ?_)
 refine Bd [_,_] rfl ?_
 refine Ab rfl (As rfl Y0 ?_)
 refine Ab rfl (Do 0 rfl rfl Lf rfl ?_)
 refine Ab rfl (Jq Du rfl ?_)
 refine Ab rfl (Px (cs:=[Value.int IntKind.i64 ↑Aa.length,Value.slice none 0 0]) AJM ADF rfl rfl ?_)
 refine Ab rfl (Lg ADF fun b3=>?_)
 refine Ab rfl (Jt 0 rfl rfl rfl Z8 rfl rfl (by simp [Value.oneCell']) ?_)
 refine Bd [_,_,_] rfl ?_
 refine Ax it 1 rfl (by simp) ?_
 refine Ab rfl (Jq B6 rfl ?_)
 refine Ax it 1 rfl (by simp) ?_
 refine Bd [_,_,_] rfl ?_
 refine G1 (Ai Ao) 22 ?_
 simp only [C6,Dp,setB,List.take_succ_cons,List.cons_append,List.nil_append,List.take_zero,List.drop_succ_cons,List.drop_zero,List.length_singleton,Nat.zero_add]
 refine Af (X:=Nat×Row) [1,2,3,6,7,8,9,32,33] [0,1,2,3,4] (fun z=>[(34,.int .i64 (z.1:Int))]) (fun z=>(z.2.bo,22,z.2.cs)::(some b3,88,[.int .i64 Aa.length,.slice (ad z.2.bo) z.1 z.2.cap])::_) (fun z=>[A3 (Ai Ao) z.2 z.1 (kcL Aa (P.take z.1))]) (fun z=>z.1≤P.length) (fun z=>P.length-z.1) (0,⟨none,0,[]⟩) [0] rfl rfl rfl (Nat.zero_le _) (by repeat (first|exact Fr.sub_nil _|refine Fr.sub_cons rfl ?_)) rfl rfl ?_
 rintro ⟨i,r⟩ hi ih
 simp only [List.cons_append,List.nil_append] at hi ih ⊢
 by_cases hil:i<P.length
 ·obtain ⟨b,hb⟩:∃ b,P[i]?=some b:=⟨_,List.getElem?_eq_getElem hil⟩
  have at_b:(A7 P)[i]?=some (b:Int):=by rw [A7,List.getElem?_map,hb];rfl
  obtain ⟨hbN,hbl,hbW⟩:=hB b (List.mem_of_getElem? hb)
  have hcl:(Dm Aa b).length=Aa.length:=List.length_map _
  have ih1:=fun r=>ih (i+1,r) (by dsimp only;omega) (by dsimp only;omega)
  dsimp only at ih1
  rw [List.take_add_one (l:=P),hb,Option.toList_some,kcL,List.map_append,List.map_cons,List.map_nil] at ih1
  clear ih
  refine wk 6 cz ?_
  intro h1 b4 o1 hz1
  refine Ab rfl (Ak 0 rfl rfl Bz fun ⟨r1,r2⟩=>?_)
  refine wk 9 cz ?_
  refine G1 Ao 3 ?_
  refine Af (X:=Nat×Row) [1,2,3,6,7,8,9,11,32,33,34,35,36,37,38,39,40] [0,1,2,3,4,5,6,7] (fun z=>[(41,.int .i64 (z.1:Int)),(12,.slice (ad z.2.bo) z.1 z.2.cap)]) (fun z=>(z.2.bo,3,z.2.cs)::_) (fun z=>[A3 Ao z.2 z.1 ((Dm Aa b).take z.1)]) (fun z=>z.1≤Aa.length) (fun z=>Aa.length-z.1) (0,⟨none,0,[]⟩) [0] rfl rfl rfl (Nat.zero_le _) (by repeat (first|exact Fr.sub_nil _|refine Fr.sub_cons rfl ?_)) rfl rfl ?_
  rintro ⟨j,q⟩ hj ih
  simp only [List.cons_append,List.nil_append] at hj ih ⊢
  by_cases hjl:j<Aa.length
  ·obtain ⟨u,at_u⟩:∃ u,Aa[j]?=some u:=⟨_,List.getElem?_eq_getElem hjl⟩
   have hu:=CC.mat u (List.mem_of_getElem? at_u)
   have hul:=hu.1
   have at_y:u[b]?=some (Bm u b):=by rw [Bm,List.getD_eq_getElem?_getD,List.getElem?_eq_getElem (by omega)];rfl
   have hT:(Dm Aa b)[j]?=some (Bm u b):=by rw [Dm,List.getElem?_map,at_u];rfl
   have ih2:=fun q=>ih (j+1,q) (by dsimp only;omega) (by dsimp only;omega)
   dsimp only at ih2
   rw [List.take_add_one (l:=Dm Aa b),hT,Option.toList_some] at ih2
   have hyr:=A6 (show 0<p ^ m by omega) hu b
   clear ih
   refine wk 11 cz ?_
   intro h2 b5 o2 hz2 pa1 ca1 b6 o3 hz3
   refine Ab rfl (Ak 0 rfl rfl Bz fun ⟨r3,r4⟩=>?_)
   refine wk 1 cz ?_
   intro b7
   refine Ab rfl (Fq (z:=(Bm u b:Int)) 1 0 3 rfl rfl rfl rfl rfl B6 E3 rfl (fun w A hG=>(Dv (by first|(simp only [Ca];omega)|(simp [Ca];done)))) (by omega) _ F4 (by omega) fun r5=>?_)
   refine wk 4 cz ?_
   refine Jr [true,false,true,true,true,true] [0,5,6,7,8,9,10,11,12] (by exact Tx rfl) rfl rfl (ih2 r5)
  ·obtain rfl:j=Aa.length:=by omega
   rw [← hcl,List.take_length,hcl]
   clear ih
   refine wk 9 cz ?_
   intro h2 b5
   refine Dc 1 0 rfl rfl (by show (Aa.length)*8≤140737488355328;omega) ?_
   refine Ab rfl (Fq (z:=Dm Aa b) 1 0 4 rfl rfl rfl rfl rfl Du Vi rfl (fun w A hG=>(C0 (hG _ (Ap (n:=0) rfl)))) (by omega) _ W1 (by omega) fun r3=>?_)
   refine wk 5 cz ?_
   refine Jr [true,false,true,true,true] [0,6,7,8,9,10] (by exact Tx rfl) rfl rfl (ih1 r3)
 ·obtain rfl:i=P.length:=by omega
  clear ih
  rw [List.take_length]
  refine Dc 0 0 rfl rfl (by show P.length*24≤140737488355328;omega) ?_
  simp only [List.eraseIdx_cons_zero,List.eraseIdx_cons_succ]
  have hKM:Dy (p ^ m) Aa.length (kcL Aa P):=fun u hu=>by
   obtain ⟨b,_,rfl⟩:=List.mem_map.1 hu
   exact Hp (by omega) CC.mat b
  have hkl:(kcL Aa P).length=P.length:=List.length_map _
  have hwd:∀ j,j<W→Wd (p ^ m) (kcL Aa P).length (wnL blocks P j):=fun j hj=>⟨by rw [hkl];exact List.length_map _,fun x hx=>by
   obtain ⟨b,hb,rfl⟩:=List.mem_map.1 hx
   exact A6 (by omega) (hB b hb).2.2 j⟩
  have hSX:∀ j,j<W→Wd (p ^ m) Aa.length (Vr Aa.length (cmE p m md Aa blocks P j)):=fun j hj=>by
   have h:=(Hq CC.K).elim (m:=Aa.length) (Xx hKM (hwd j hj).2)
   exact (Hq CC.K).slX_wd h.1 h.2.1
  have hcw:∀ j,j<W→Wd (p ^ m) N (cmW p m md N Aa blocks P j):=fun j hj=>(Hq CC.K).cmb_wd (hSX j hj).2 CC.mat
  refine wk 7 cz ?_
  intro h1
  refine Ab rfl (Yh (N) _ rfl rfl Du Vi rfl rfl W1 (by omega) (by omega) (by omega) fun b4=>?_)
  refine wk 6 cz ?_
  refine AHi 0 rfl (by omega) fun csA=>?_
  refine X5 Ao 3 N ?_
  simp only [setB,List.cons_append,List.nil_append]
  rw [show Ee Ao (fun _=>((none,0,0):Hd)) (fun _=>[]) (fun _=>([]:List Int)) N []=Ee Ao (fun _=>((none,0,0):Hd)) (fun _=>[]) (cmQ p m md N Aa blocks P 0 0) N [] from rfl]
  refine Af (X:=Nat×List Value×(Nat→Hd)×(Nat→List Value)) [1,2,8,9,15,64] [0,1,2,3,4,5,6,7,8] (fun x=>[(65,.int .i64 (x.1:Int))])
   (fun x=>(some b4,22,x.2.1)::_::_::_::Dg 3 x.2.2.1 x.2.2.2 N [])
   (fun x=>[A3 Rp ⟨some b4,N,x.2.1⟩ N (J4 x.2.2.1 N),Ee Ao x.2.2.1 x.2.2.2 (cmQ p m md N Aa blocks P x.1 0) N []])
   (fun x=>x.1≤W∧∀ j,j<x.1→slB Aa.length (cmE p m md Aa blocks P j)=true) (fun x=>W-x.1) (0,csA,fun _=>(none,0,0),fun _=>[]) [1,0] rfl rfl rfl ⟨Nat.zero_le _,fun j h=>absurd h (Nat.not_lt_zero j)⟩ (by repeat (first|exact Fr.sub_nil _|refine Fr.sub_cons rfl ?_)) rfl rfl ?_
  rintro ⟨j,cA,hd,cs⟩ ⟨hj,hs⟩ ih
  simp only [List.cons_append,List.nil_append] at hj hs ih ⊢
  by_cases hjW:j<W
  ·have hTl:(wnL blocks P j).length=P.length:=List.length_map _
   have hTr:∀ z∈wnL blocks P j,Ca .i64 z:=fun z hz=>by
    have:=(hwd j hjW).2 z hz
    simp only [Ca];omega
   refine wk 16 cz ?_
   intro h2 b5
   rw [show An .i64 (List.replicate (A7 P).length 0)=Al .i64 ((wnL blocks P j).take 0++List.replicate ((A7 P).length-0) 0) by simp [An,Al]]
   refine Af (X:=Nat) [1,2,8,9,15,16,17,64,65,66,67,68,69,70,71,72] [0,1,2,3,4,5,6,7,8,9,10] (fun k=>[(73,.int .i64 (k:Int))]) (fun k=>(some b5,3,Al .i64 ((wnL blocks P j).take k++List.replicate ((A7 P).length-k) 0))::_) (fun _=>[]) (fun k=>k≤(A7 P).length) (fun k=>(A7 P).length-k) 0 [] rfl rfl rfl (Nat.zero_le _) (by repeat (first|exact Fr.sub_nil _|refine Fr.sub_cons rfl ?_)) rfl rfl ?_
   rintro k hk ihk
   simp only [List.cons_append,List.nil_append] at hk ihk ⊢
   by_cases h8:k<(A7 P).length
   ·obtain ⟨b,hb⟩:∃ b,P[k]?=some b:=⟨_,List.getElem?_eq_getElem (by omega)⟩
    have at_b:(A7 P)[k]?=some (b:Int):=by rw [A7,List.getElem?_map,hb];rfl
    obtain ⟨hbN,hbl,hbW⟩:=hB b (List.mem_of_getElem? hb)
    have hul:=hbW.1
    have at_u:blocks[b]?=some (Aj blocks b):=by rw [Aj,List.getD_eq_getElem?_getD,List.getElem?_eq_getElem hbl];rfl
    have at_y:(Aj blocks b)[j]?=some (Bm (Aj blocks b) j):=by rw [Bm,List.getD_eq_getElem?_getD,List.getElem?_eq_getElem (by omega)];rfl
    have hT:(wnL blocks P j)[k]?=some (Bm (Aj blocks b) j):=by rw [wnL,List.getElem?_map,hb];rfl
    have ih':=ihk (k+1) (by omega) (by omega)
    rw [← take_set hT h8] at ih'
    have hln:((wnL blocks P j).take k++List.replicate ((A7 P).length-k) 0).length=(A7 P).length:=by rw [List.length_append,List.length_take,List.length_replicate];omega
    generalize (wnL blocks P j).take k++List.replicate ((A7 P).length-k) 0=L at *
    clear ih ihk
    refine wk 7 cz ?_
    intro h3 b6 o1 hz1
    refine Ab rfl (Ak 0 rfl rfl Bz fun ⟨r1,r2⟩=>?_)
    refine wk 7 cz ?_
    intro b7 o2 hz2 pa1 ca1 b8 o3 hz3
    refine Ab rfl (Ak 0 rfl rfl Bz fun ⟨r3,r4⟩=>?_)
    refine wk 5 cz ?_
    exact tw (ih')
   ·obtain rfl:k=(A7 P).length:=by omega
    rw [Nat.sub_self,List.replicate_zero,List.append_nil,List.take_of_length_le (by omega)]
    clear ihk
    refine G5 0 rfl (hPl.trans hTl.symm) hTr (by omega) ?_
    refine X2 0 0 rfl rfl (by show (A7 P).length*8≤140737488355328;omega) ?_
    simp only [List.eraseIdx_cons_zero,List.eraseIdx_cons_succ]
    have I5:=fun {pm ps pb:Option Addr}{nm cm n c nb cb:Nat}=>Y7 (pm:=pm) (ps:=ps) (pb:=pb) (nm:=nm) (cm:=cm) (n:=n) (c:=c) (nb:=nb) (cb:=cb) CC.K (show Aa.length≤256 by omega) (show (kcL Aa P).length≤256 by omega) hKM (hwd j hjW)
    cases hsl:slB Aa.length (cmE p m md Aa blocks P j) with
    | false =>
     have hcm:cmB p m md Aa blocks W P=false:=by
      rw [cmB,List.all_eq_false]
      exact ⟨j,List.mem_range.2 hjW,by rw [hsl];simp⟩
     rw [hcm,if_neg (by simp)]
     rw [ALu hsl] at I5
     refine Ff (Aw (Ai Ao) none 0 0 []) (fun w A _=>F7 _ w A none 0) ?_
     clear ih
     refine wk 9 cz ?_
     intro h3
     refine Ab rfl (Ae [10,7,1] rfl (I5) rfl ?_)
     rintro _ _ _ ⟨pb1,cb1,rfl,rfl,rfl⟩
     simp only [List.cons_append,List.nil_append]
     refine wk 8 cz ?_
     intro h4
     refine Cn [1] rfl rfl rfl ⟨_,_,rfl,rfl,rfl⟩
    | true =>
     rw [AKQ hsl] at I5
     have Tn:=fun {pm ps px:Option Addr}{nm cm n c nx cx:Nat}=>AAe (pm:=pm) (ps:=ps) (px:=px) (nm:=nm) (cm:=cm) (n:=n) (c:=c) (nx:=nx) (cx:=cx) CC (hSX j hjW)
     rw [show cbP p m md N (Vr Aa.length (cmE p m md Aa blocks P j)) Aa=cmW p m md N Aa blocks P j from rfl] at Tn
     have hcwl:=(hcw j hjW).1
     have hcwr:=(hcw j hjW).2
     have ih1:=fun cA hd cs=>ih (j+1,cA,hd,cs) (by dsimp only;omega) (by dsimp only;exact ⟨by omega,fun t ht=>by
      by_cases e:t=j
      ·subst e;exact hsl
      ·exact hs t (by omega)⟩)
     dsimp only at ih1
     clear ih
     refine wk 9 cz ?_
     intro h3
     refine Ab rfl (Ae [9,6,0] rfl (I5) rfl ?_)
     rintro _ _ _ ⟨pb1,cb1,rfl,rfl,rfl⟩
     simp only [List.cons_append,List.nil_append]
     refine wk 8 cz ?_
     intro h4
     refine Ab rfl (Ae [10,11,0] rfl (Tn) rfl ?_)
     rintro _ _ _ ⟨pb2,cb2,rfl,rfl,rfl⟩
     simp only [List.cons_append,List.nil_append]
     simp only [decide_true]
     refine wk 6 cz ?_
     refine Af (X:=Nat×List Value×(Nat→Hd)×(Nat→List Value)) [1,2,8,9,15,16,17,20,21,22,64,65,66,67,68,69,70,71,72,73,74,89,90,91,92,93,94,95,96,97,98,99,100,101,102,103,104,105,106] [0,1,2,3,4,5,6,7,8,9,10,11,12,13,14] (fun x=>[(107,.int .i64 (x.1:Int))])
      (fun x=>(some b4,22,x.2.1)::_::_::_::Dg 3 x.2.2.1 x.2.2.2 N [])
      (fun x=>[A3 Rp ⟨some b4,N,x.2.1⟩ N (J4 x.2.2.1 N),Ee Ao x.2.2.1 x.2.2.2 (cmQ p m md N Aa blocks P j x.1) N []])
      (fun x=>x.1≤N) (fun x=>N-x.1) (0,cA,hd,cs) [4,5] rfl rfl rfl (Nat.zero_le _) (by repeat (first|exact Fr.sub_nil _|refine Fr.sub_cons rfl ?_)) rfl rfl ?_
     rintro ⟨k,cA,hd,cs⟩ hk ihk
     simp only [List.cons_append,List.nil_append] at hk ihk ⊢
     by_cases hkN:k<N
     ·refine G9 1 rfl fun hlen=>?_
      have hN':(hd k).2.1=j:=by rw [hlen k hkN rfl];simp [cmQ]
      have at_x:(cmW p m md N Aa blocks P j)[k]?=some (Bm (cmW p m md N Aa blocks P j) k):=by rw [Bm,List.getD_eq_getElem?_getD,List.getElem?_eq_getElem (by omega)];rfl
      have hxr:=A6 (show 0<p ^ m by omega) (hcw j hjW) k
      refine Fi 4 (k) 1 (j) rfl rfl (by first|assumption|omega) (by first|rfl|assumption|(simp [Av,Br];done)|(simp [Av,Br];omega)) (by first|assumption|omega) fun r1 hr1=>?_
      simp only [List.take_succ_cons,List.take_zero,List.cons_append,List.nil_append]
      refine wk 7 cz ?_
      intro h5 b6 o1 hz1
      refine Ab rfl (Ak 0 rfl rfl Bz fun ⟨r2,r3⟩=>?_)
      refine wk 7 cz ?_
      intro b7
      refine Ab rfl (Fq (z:=(Bm (cmW p m md N Aa blocks P j) k:Int)) 1 0 1 rfl rfl rfl rfl rfl B6 E3 rfl (fun w A hG=>(Dv (by first|(simp only [Ca];omega)|(simp [Ca];done)))) (by omega) _ F4 (by omega) fun r4=>?_)
      refine wk 1 cz ?_
      refine Ab rfl (Hv (vs:=[Value.slice (ad r4.bo) (j+1) r4.cap]) (z:=(r4.bo,j+1,r4.cap)) 2 4 (k) rfl rfl rfl rfl rfl C8 (Nat.mul_one _).symm (by omega) (fun w A hG=>(Wz _ _ _)) fun cs1=>?_)
      refine wk 3 cz ?_
      rw [Qf,AHI]
      refine Cu 5 (k) 0 1 4 rfl rfl rfl rfl (by first|assumption|omega) (by first|rfl|assumption|(simp [Av,Br];done)|(simp [Av,Br];omega)) ?_
      simp only [List.eraseIdx_cons_zero,List.eraseIdx_cons_succ,List.take_succ_cons,List.take_zero,List.cons_append,List.nil_append]
      rw [AIA]
      refine Nx 5 [1,2,3,4] [1,0,8,9,10,11,12,13,14,15,16,17,18,19,20,21,22] (by exact Tx rfl) rfl rfl rfl rfl (ihk (k+1,cs1,Gb hd k (r4.bo,j+1,r4.cap),Gb cs k r4.cs) (by dsimp only;omega) (by dsimp only;omega))
     ·obtain rfl:k=N:=by omega
      clear ihk
      refine wk 7 cz ?_
      intro h5
      refine Cf (cmQ p m md k Aa blocks P (j+1) 0) 1 rfl (fun t ht=>by rw [cmQ,cmQ,if_pos ht,if_neg (by omega)]) ?_
      exact tw (ih1 cA hd cs)
  ·obtain rfl:j=W:=by omega
   clear ih
   have hcm:cmB p m md Aa blocks j P=true:=List.all_eq_true.2 fun t ht=>hs t (List.mem_range.1 ht)
   rw [hcm,if_pos rfl]
   refine wk 7 cz ?_
   intro h2
   refine G9 1 rfl fun hlen=>?_
   refine S8 4 0 0 1 rfl rfl rfl rfl (fun i hi=>by rw [hlen i hi rfl];show ((List.range _).map _).length*8≤_;rw [List.length_map,List.length_range];split <;> omega) ?_
   simp only [List.take_succ_cons,List.take_zero]
   refine X2 0 0 rfl rfl (by show N*24≤140737488355328;omega) ?_
   simp only [List.eraseIdx_cons_zero,List.eraseIdx_cons_succ]
   rw [show (List.range N).map (cmQ p m md N Aa blocks P j 0)=cmR p m md N Aa blocks j P from rfl]
   have hcl:(cmR p m md N Aa blocks j P).length=N:=by simp [cmR]
   generalize cmR p m md N Aa blocks j P=R at *
   subst hcl
   refine Cn [0] rfl rfl rfl ⟨_,_,rfl,rfl,rfl⟩
end
set_option maxRecDepth 100000
set_option linter.unusedVariables false
set_option linter.unusedSimpArgs false
set_option maxHeartbeats 0
def W0 (n:Nat):List Nat→Option (List Nat)
 | []=>none
 | a::l=>match W0 n l with
  | some l'=>some (a::l')
  | none=>if a+l.length+1=n then none else some ((List.range (l.length+1)).map fun t=>a+1+t)
def Sx (n:Nat):List Nat→Nat
 | []=>0
 | a::l=>Bs (n-1-a) (l.length+1)+Sx n l
def vdS (n:Nat):List Nat→Prop
 | []=>True
 | a::l=>a+l.length<n∧(∀ b∈l,a<b)∧vdS n l
theorem V7 {n:Nat}:∀ {s s':List Nat},W0 n s=some s'→s'.length=s.length
 | [],_,h=>by cases h
 | a::l,s',h=>by
  rw [W0] at h
  split at h
  ·rename_i l' h1
   obtain rfl:=Option.some.inj h
   rw [List.length_cons,List.length_cons,V7 h1]
  ·split at h
   ·cases h
   ·obtain rfl:=Option.some.inj h
    rw [List.length_map,List.length_range,List.length_cons]
theorem AD0 {n:Nat}:∀ {r b:Nat},b+r≤n→Sx n ((List.range r).map fun t=>b+t)+1=Bs (n-b) r
 | 0,b,h=>by rw [Ie];rfl
 | r+1,b,h=>by
  have ih:=AD0 (n:=n) (r:=r) (b:=b+1) (by omega)
  rw [List.range_succ_eq_map,List.map_cons,List.map_map,Sx,List.length_map,List.length_range,Nat.add_zero]
  have e:((fun t=>b+t)∘Nat.succ)=fun t=>b+1+t:=by funext t;show b+(t+1)=_;omega
  rw [e,show n-b=(n-b-1)+1 by omega,Gy,Nat.add_assoc,ih,show n-1-(b+0)=n-b-1 by omega,show n-(b+1)=n-b-1 by omega,Nat.add_comm]
theorem ADL {n:Nat}:∀ {r b:Nat},b+r≤n→vdS n ((List.range r).map fun t=>b+t)
 | 0,_,_=>trivial
 | r+1,b,h=>by
  have e:((fun t=>b+t)∘Nat.succ)=fun t=>b+1+t:=by funext t;show b+(t+1)=_;omega
  rw [List.range_succ_eq_map,List.map_cons,List.map_map,vdS,e,List.length_map,List.length_range]
  refine ⟨by omega,fun c hc=>?_,ADL (by omega)⟩
  obtain ⟨t,_,rfl⟩:=List.mem_map.1 hc
  omega
theorem Vk {n:Nat}:∀ {s:List Nat},W0 n s=none→Sx n s=0
 | [],_=>rfl
 | a::l,h=>by
  rw [W0] at h
  split at h
  ·cases h
  ·rename_i h1
   split at h
   ·rename_i h2
    rw [Sx,Vk h1,I2 _ _ (by omega)]
   ·cases h
theorem S4 {n:Nat}:∀ {s s':List Nat},vdS n s→W0 n s=some s'→Sx n s'+1=Sx n s∧vdS n s'∧∀ c,(∀ b∈s,c<b)→∀ b∈s',c<b
 | [],_,_,h=>by cases h
 | a::l,s',hv,h=>by
  obtain ⟨v1,v2,v3⟩:=hv
  rw [W0] at h
  split at h
  ·rename_i l' h1
   obtain rfl:=Option.some.inj h
   obtain ⟨i1,i2,i3⟩:=S4 v3 h1
   rw [Sx,Sx,V7 h1]
   refine ⟨by omega,⟨by rw [V7 h1];exact v1,i3 a v2,i2⟩,fun c hc b hb=>?_⟩
   rcases List.mem_cons.1 hb with rfl|hb
   ·exact hc _ (.head _)
   ·exact i3 c (fun b hb=>hc b (.tail _ hb)) b hb
  ·rename_i h1
   split at h
   ·cases h
   ·rename_i h2
    obtain rfl:=Option.some.inj h
    have:=AD0 (n:=n) (r:=l.length+1) (b:=a+1) (by omega)
    rw [Sx,Vk h1,show n-1-a=n-(a+1) by omega]
    refine ⟨by omega,ADL (by omega),fun c hc b hb=>?_⟩
    obtain ⟨t,_,rfl⟩:=List.mem_map.1 hb
    have:=hc a (.head _)
    omega
theorem AGe {n:Nat}{x suf:List Nat}(h:W0 n suf=some x):∀ {pre:List Nat},W0 n (pre++suf)=some (pre++x)
 | []=>h
 | a::pre=>by
  rw [List.cons_append,W0,AGe h (pre:=pre)];rfl
def enL (n:Nat):Nat→List Nat→List (List Nat)
 | 0,s=>[s]
 | r+1,s=>s::(match W0 n s with
  | some s'=>enL n r s'
  | none=>[])
theorem AIo {n r:Nat}{s:List Nat}:(enL n r s)[0]?=some s:=by cases r <;> rfl
theorem AE5 {n:Nat}:∀ {r:Nat}{s:List Nat}{t:Nat}{x:List Nat},vdS n s→Sx n s=r→(enL n r s)[t]?=some x→W0 n x=(enL n r s)[t+1]?∧vdS n x∧x.length=s.length
 | 0,s,t,x,hv,h0,h=>by
  cases t with
  | zero =>
   obtain rfl:s=x:=by simpa [enL] using h
   refine ⟨?_,hv,rfl⟩
   cases hs:W0 n s with
   | none=>rfl
   | some s'=>have:=(S4 hv hs).1;omega
  | succ t=>cases h
 | r+1,s,t,x,hv,h0,h=>by
  rw [enL] at h ⊢
  cases hs:W0 n s with
  | none=>have:=Vk hs;omega
  | some s' =>
   rw [hs] at h
   obtain ⟨h1,h2,_⟩:=S4 hv hs
   cases t with
   | zero =>
    obtain rfl:s=x:=by simpa using h
    exact ⟨by rw [hs];exact AIo.symm,hv,rfl⟩
   | succ t =>
    obtain ⟨i1,i2,i3⟩:=AE5 h2 (by omega) (show (enL n r s')[t]?=some x from h)
    exact ⟨i1,i2,i3.trans (V7 hs)⟩
theorem AId {n:Nat}{s:List Nat}(hv:vdS n s) {s':List Nat}(h:W0 n s=some s'):enL n (Sx n s) s=s::enL n (Sx n s') s':=by
 rw [← (S4 hv h).1,enL,h]
theorem AIl {n:Nat}{s:List Nat}(h:W0 n s=none):enL n (Sx n s) s=[s]:=by
 rw [Vk h];rfl
abbrev AHJ (n k:Nat):List (List Nat):=enL n (Sx n (List.range k)) (List.range k)
theorem AAK {k:Nat}:List.range k=(List.range k).map fun t=>0+t:=by
 rw [show (fun t=>0+t)=id from funext fun t=>Nat.zero_add t,List.map_id]
theorem ADX {n k:Nat}(h:k≤n):vdS n (List.range k):=by rw [AAK];exact ADL (by omega)
theorem AED {n:Nat}:∀ {s:List Nat},vdS n s→(∀ b∈s,b<n)∧s.Pairwise (·<·)
 | [],_=>⟨fun b h=>(List.not_mem_nil h).elim,.nil⟩
 | a::l,h=>by
  obtain ⟨h1,h2,h3⟩:=h
  obtain ⟨i1,i2⟩:=AED h3
  refine ⟨fun b hb=>?_,List.pairwise_cons.2 ⟨h2,i2⟩⟩
  rcases List.mem_cons.1 hb with rfl|hb
  ·omega
  ·exact i1 b hb
theorem ADx {n k:Nat}:Bs n k≤Bs (n+1) k:=by
 cases k with
 | zero=>rw [Ie,Ie];exact Nat.le_refl _
 | succ k=>rw [Gy];omega
theorem Ww {n k:Nat}:∀ {d:Nat},Bs n k≤Bs (n+d) k
 | 0=>Nat.le_refl _
 | d+1=>Nat.le_trans Ww (ADx (n:=n+d))
open Go Go.Fw
theorem AGB {α:Type}{X s:List α}{j:Nat}{x:α}(hX:X[j]?=some x) (hl:X.length=s.length):(X.take j++s.drop j).set j x=X.take (j+1)++s.drop (j+1):=by
 have hj:=(List.getElem?_eq_some_iff.1 hX).1
 rw [List.set_append_right _ _ (by rw [List.length_take];omega),List.length_take,Nat.min_eq_left (by omega),Nat.sub_self,List.drop_eq_getElem_cons (by omega),List.set_cons_zero,List.take_add_one,hX,Option.toList_some,List.append_assoc]
 rfl
theorem AJc {n k v a:Nat}{s:List Nat}(hl:s.length=k) (ha:s[v]?=some a) (hd:W0 n (s.drop (v+1))=none):(a+(k-v)=n→W0 n (s.drop v)=none)∧(a+(k-v)≠n→W0 n s=some (s.take v++(List.range (k-v)).map fun t=>a+1+t)):=by
 have hv:=(List.getElem?_eq_some_iff.1 ha).1
 have e:s.drop v=a::s.drop (v+1):=by
  rw [List.drop_eq_getElem_cons hv];rw [List.getElem?_eq_getElem hv] at ha;rw [Option.some.inj ha]
 have h1:(s.drop (v+1)).length+1=k-v:=by rw [List.length_drop];omega
 refine ⟨fun h=>?_,fun h=>?_⟩
 ·rw [e,W0,hd]
  show (if _ then _ else _)=_
  rw [if_pos (by omega)]
 ·have h2:W0 n (s.drop v)=some ((List.range (k-v)).map fun t=>a+1+t):=by
   rw [e,W0,hd]
   show (if _ then _ else _)=_
   rw [if_neg (by omega),h1]
  have:=AGe h2 (pre:=s.take v)
  rwa [List.take_append_drop] at this
theorem AAZ {l l':List Nat}(h:l.Pairwise (·<·)) (h':l'.Pairwise (·<·)) (he:∀ x,x∈l↔x∈l'):l=l' :=
 ((List.perm_ext_iff_of_nodup (h.imp fun h=>Nat.ne_of_lt h) (h'.imp fun h=>Nat.ne_of_lt h)).2 he).eq_of_pairwise (fun a b _ _ h1 h2=>absurd h1 (by omega)) h h'
theorem AFp {n:Nat}{s:List Nat}(h:s.Pairwise (·<·)) (hn:∀ b∈s,b<n):((List.range n).filter fun i=>decide (i∈s))=s :=
 AAZ (List.pairwise_lt_range.filter _) h fun x=>by
  rw [List.mem_filter,List.mem_range,decide_eq_true_eq]
  exact ⟨fun h=>h.2,fun h=>⟨hn x h,h⟩⟩
def Gl (blocks:List (List Int)):List Nat:=(List.range blocks.length).filter fun b=>decide (0<(Aj blocks b).length)
abbrev AHq (pres s:List Nat):List Nat:=s.map fun i=>pres.getD i 0
abbrev knC (pres s:List Nat):List Nat:=((List.range pres.length).filter fun i=>!decide (i∈s)).map fun i=>pres.getD i 0
noncomputable def deK (p m:Nat) (md:List Int) (Aa blocks:List (List Int)) (W:Nat) (k:Nat):Option (List Nat):=(AHJ (Gl blocks).length k).find? fun s=>cmB p m md Aa blocks W (knC (Gl blocks) s)
def deA (f:Nat→Option (List Nat)):Nat→Nat→Option (List Nat)
 | 0,_=>none
 | c+1,k=>match f k with
  | some s=>some s
  | none=>deA f c (k+1)
noncomputable def deR (p m:Nat) (md:List Int) (N:Nat) (Aa blocks:List (List Int)) (dd:Int) (W:Nat):Option (List Nat) :=
 if dd≤(N:Int)-(Gl blocks).length then none else deA (deK p m md Aa blocks W) (((dd-1-((N:Int)-(Gl blocks).length)) / 2).toNat+1) 0
abbrev DeQ (R:List (List Int)) (w:List Int) (e:Int):Value→List Fact→List Ba→Prop:=fun v Φ β=>∃ (pb:Option Addr) (cb:Nat) (pw:Option Addr) (cw:Nat),v = .tuple #[.slice pb R.length cb,.slice pw w.length cw,.int .i64 e]∧Φ=[Aw (Ai Ao) pb R.length cb R,Aw Ao pw w.length cw w]∧β=[]
noncomputable def deO (p m:Nat) (md:List Int) (N:Nat) (Aa blocks:List (List Int)) (W:Nat):Option (List Nat)→Value→List Fact→List Ba→Prop
 | some s=>DeQ (cmR p m md N Aa blocks W (knC (Gl blocks) s)) (A7 (AHq (Gl blocks) s)) 0
 | none=>DeQ [] [] 19
theorem ACZ {blocks:List (List Int)}{b:Nat}(h:b∈Gl blocks):b<blocks.length∧0<(Aj blocks b).length:=by
 obtain ⟨h1,h2⟩:=List.mem_filter.1 h
 exact ⟨List.mem_range.1 h1,of_decide_eq_true h2⟩
theorem AKt {blocks:List (List Int)}:(Gl blocks).length≤blocks.length:=by
 have:=List.length_filter_le (fun b=>decide (0<(Aj blocks b).length)) (List.range blocks.length)
 rwa [List.length_range] at this
theorem ABO {l k:List Nat}:A7 (l++k)=A7 l++A7 k:=List.map_append
theorem Pu {P:Nat→Bool}{i:Nat}:(List.range (i+1)).filter P=(List.range i).filter P++(if P i=true then [i] else []):=by
 rw [List.range_succ,List.filter_append,List.filter_cons];rfl
section
variable {p m N n c nm cm nt ct nr cr nb cb W:Nat}{pm ps pt pr pb:Option Addr}{dd:Int}{md:List Int}{Aa blocks:List (List Int)}
theorem Zz (CC:Cok p m md N Aa) (hd1:1≤dd) (hd2:dd≤N+1) (hW1:1≤W) (hW:W≤16) (hBl:blocks.length=N) (hB:∀ b,b<N→Aj blocks b=[]∨Wd (p ^ m) W (Aj blocks b)) :
  Bk Tryz.prog 49 [.agg #[.int .i64 p,.int .i64 m,.slice pm nm cm,.int .i64 N,.slice ps n c,.int .i64 dd,.slice pt nt ct,.slice pr nr cr,.int .i64 W],.slice pb nb cb] [] [Aw Ao pm nm cm md,Aw (Ai Ao) ps n c Aa,Aw (Ai Ao) pb nb cb blocks]
   (deO p m md N Aa blocks W (deR p m md N Aa blocks dd W)):=by
 refine Ad (F:=Y8) rfl fun C=>?_
 refine Ay 1 rfl fun hn hb1 _=>?_
 subst hn
 refine Ay 2 rfl fun hn hb2 _=>?_
 subst hn
 subst hBl
 have h64:=CC.n64
 have hpl:=AKt (blocks:=blocks)
 refine wk 10 cz ?_
 intro b1
 refine G1 Ao 3 ?_
 refine Af (X:=Nat×Row×List Nat) [1,2,4,5,6,22,23] [0,1,2,3] (fun z=>[(24,.int .i64 (z.1:Int)),(7,.slice (ad z.2.1.bo) z.2.2.length z.2.1.cap)]) (fun z=>(z.2.1.bo,3,z.2.1.cs)::_) (fun z=>[A3 Ao z.2.1 z.2.2.length (A7 z.2.2)]) (fun z=>z.1≤blocks.length∧z.2.2.length≤z.1∧z.2.2=(List.range z.1).filter fun b=>decide (0<(Aj blocks b).length)) (fun z=>blocks.length-z.1) (0,⟨none,0,[]⟩,[]) [0] rfl rfl rfl ⟨Nat.zero_le _,Nat.le_refl _,rfl⟩ (by repeat (first|exact Fr.sub_nil _|refine Fr.sub_cons rfl ?_)) rfl rfl ?_
 rintro ⟨i,r,y⟩ ⟨hi,hyl,hy⟩ ih
 simp only [List.cons_append,List.nil_append] at hi hyl hy ih ⊢
 by_cases hil:i<blocks.length
 ·have at_u:blocks[i]?=some (Aj blocks i):=by rw [Aj,List.getD_eq_getElem?_getD,List.getElem?_eq_getElem hil];rfl
  by_cases h0:0<(Aj blocks i).length
  ·have ih1:=fun r=>ih (i+1,r,y++[i]) (by dsimp only;omega) (by dsimp only;exact ⟨by omega,by rw [List.length_append];exact Nat.add_le_add_right hyl 1,by rw [Pu,← hy,if_pos (decide_eq_true h0)]⟩)
   dsimp only at ih1
   rw [List.length_append,List.length_singleton,ABO,show A7 [i]=[(i:Int)] from rfl] at ih1
   clear ih
   refine wk 18 cz ?_
   intro h1 b2 o1 hz1 pa1 ca1 h2 b3
   refine Ab rfl (Fq (z:=(↑i:Int)) 1 0 2 rfl rfl rfl rfl rfl B6 E3 rfl (fun w A hG=>(Dv (by first|(simp only [Ca];omega)|(simp [Ca];done)))) (by omega) _ F4 (by omega) fun r1=>?_)
   refine wk 4 cz ?_
   refine Jr [true,false,true] [0,4,5,6,7] (by exact Tx rfl) rfl rfl (ih1 r1)
  ·have ih1:=ih (i+1,r,y) (by dsimp only;omega) (by dsimp only;exact ⟨by omega,by omega,by rw [Pu,← hy,if_neg (by simpa using h0),List.append_nil]⟩)
   dsimp only at ih1
   clear ih
   refine wk 18 cz ?_
   intro h1 b2 o1 hz1 pa1 ca1 h2
   exact tw (ih1)
 ·obtain rfl:i=blocks.length:=by omega
  clear ih
  obtain rfl:y=Gl blocks:=hy
  refine Dc 0 0 rfl rfl (by show (Gl blocks).length*8≤140737488355328;omega) ?_
  simp only [List.eraseIdx_cons_zero,List.eraseIdx_cons_succ]
  have hprs:(Gl blocks).Pairwise (·<·):=List.pairwise_lt_range.filter _
  have hprm:=fun {b}=>ACZ (blocks:=blocks) (b:=b)
  obtain ⟨O,hO⟩:∃ O,deR p m md blocks.length Aa blocks dd W=O:=⟨_,rfl⟩
  rw [hO]
  rw [deR] at hO
  obtain ⟨pres,hpr⟩:∃ q,Gl blocks=q:=⟨_,rfl⟩
  have hdK:∀ k,deK p m md Aa blocks W k=(AHJ pres.length k).find? fun s=>cmB p m md Aa blocks W (knC pres s):=fun k=>by rw [deK,hpr]
  have hO2:∀ s,deO p m md blocks.length Aa blocks W (some s)=DeQ (cmR p m md blocks.length Aa blocks W (knC pres s)) (A7 (AHq pres s)) 0:=fun s=>by rw [deO,hpr]
  rw [hpr] at hO hprs hpl ⊢
  have hpm:∀ b∈pres,b<blocks.length∧Wd (p ^ m) W (Aj blocks b):=fun b hb=>by
   rw [← hpr] at hb
   obtain ⟨h1,h2⟩:=ACZ hb
   rcases hB b h1 with h|h
   ·rw [h] at h2;cases h2
   ·exact ⟨h1,h⟩
  clear hpr hprm hB
  have hpi:(A7 pres).length=pres.length:=Bn _
  by_cases hlo:dd≤(blocks.length:Int)-pres.length
  ·rw [if_pos hlo] at hO
   subst hO
   rw [deO]
   refine Ff (Aw (Ai Ao) none 0 0 []) (fun w A _=>F7 _ w A none 0) ?_
   refine Ff (Aw Ao none 0 0 []) (fun w A _=>F7 _ w A none 0) ?_
   refine wk 21 cz ?_
   intro h1 h2
   refine Cn [1,0] rfl rfl rfl ⟨_,_,_,_,rfl,rfl,rfl⟩
  ·rw [if_neg hlo] at hO
   obtain ⟨K,hK⟩:=Int.eq_ofNat_of_zero_le (show 0≤(dd-1-((blocks.length:Int)-pres.length)) / 2 by omega)
   rw [hK,Int.toNat_natCast] at hO
   have hKn:K≤pres.length:=by omega
   refine wk 21 cz ?_
   intro h1 h2
   refine Af (X:=Nat) [1,2,7,10] [0,1,2,3,4,5] (fun k=>[(11,.int .i64 (k:Int))]) (fun _=>_) (fun _=>[]) (fun k=>k≤K+1∧deA (deK p m md Aa blocks W) (K+1-k) k=O) (fun k=>K+1-k) 0 [] rfl rfl rfl ⟨Nat.zero_le _,hO⟩ (by repeat (first|exact Fr.sub_nil _|refine Fr.sub_cons rfl ?_)) rfl rfl ?_
   rintro k ⟨hk,hg⟩ ihk
   simp only [List.cons_append,List.nil_append] at hk hg ihk ⊢
   by_cases hkK:k≤K
   ·rw [show K+1-k=(K-k)+1 by omega,deA] at hg
    have hkn:k≤pres.length:=by omega
    have hTl:(A7 (List.range k)).length=k:=by rw [A7,List.length_map,List.length_range]
    refine wk 16 cz ?_
    intro h3 b2
    rw [show An .i64 (List.replicate k 0)=Al .i64 ((A7 (List.range k)).take 0++List.replicate (k-0) 0) by simp [An,Al]]
    refine Af (X:=Nat) [1,2,7,10,11,12,47,48,49,50,51,52,53,54,57,58,59,60] [0,1,2,3,4,5] (fun j=>[(61,.int .i64 (j:Int))]) (fun j=>(some b2,3,Al .i64 ((A7 (List.range k)).take j++List.replicate (k-j) 0))::_) (fun _=>[]) (fun j=>j≤k) (fun j=>k-j) 0 [] rfl rfl rfl (Nat.zero_le _) (by repeat (first|exact Fr.sub_nil _|refine Fr.sub_cons rfl ?_)) rfl rfl ?_
    rintro j hj ihj
    simp only [List.cons_append,List.nil_append] at hj ihj ⊢
    by_cases hjk:j<k
    ·have hT:(A7 (List.range k))[j]?=some (j:Int):=Fo (List.getElem?_range hjk)
     have ih':=ihj (j+1) (by omega) (by omega)
     rw [← take_set hT hjk] at ih'
     have hln:((A7 (List.range k)).take j++List.replicate (k-j) 0).length=k:=by rw [List.length_append,List.length_take,List.length_replicate];omega
     generalize (A7 (List.range k)).take j++List.replicate (k-j) 0=L at *
     clear ihj ihk
     refine wk 13 cz ?_
     intro h4
     exact tw (ih')
    ·obtain rfl:j=k:=by omega
     rw [Nat.sub_self,List.replicate_zero,List.append_nil,List.take_of_length_le (by omega)]
     clear ihj
     have ih1:=ihk (j+1) (by omega)
     clear ihk
     rw [hdK] at hg
     refine wk 5 cz ?_
     intro h4
     refine Af (X:=List Nat) [1,2,7,10,11,12,47,48,49,50,51,52,53,54,57,58,59,60,61,62] [0,1,2,3,4,5] (fun _=>[]) (fun s=>(some b2,3,Al .i64 (A7 s))::_) (fun _=>[]) (fun s=>vdS pres.length s∧s.length=j∧(AHJ pres.length j).find? (fun s=>cmB p m md Aa blocks W (knC pres s))=(enL pres.length (Sx pres.length s) s).find? fun s=>cmB p m md Aa blocks W (knC pres s)) (fun s=>Sx pres.length s) (List.range j) [] rfl rfl rfl ⟨ADX hkn,List.length_range,rfl⟩ (by repeat (first|exact Fr.sub_nil _|refine Fr.sub_cons rfl ?_)) rfl rfl ?_
     rintro s ⟨hv,hs,hf⟩ ihs
     simp only [List.cons_append,List.nil_append] at hv hs hf ihs ⊢
     have hsl:(A7 s).length=j:=by rw [Bn,hs]
     obtain ⟨hsb,hsp⟩:=AED hv
     have hsr:∀ u∈A7 s,Ca .i64 u:=fun u hu=>by
      obtain ⟨a,ha,rfl⟩:=List.mem_map.1 hu
      have:=hsb a ha
      simp only [Ca];omega
     refine wk 7 cz ?_
     refine G1 Ao 3 ?_
     refine G1 Ao 3 ?_
     refine G5 2 rfl hsl.symm hsr (by omega) ?_
     refine Af (X:=Nat×Row×Row×List Nat×List Nat) [1,2,7,10,11,12,47,48,49,50,51,52,53,54,57,58,59,60,61,62,69,70] [0,1,2,3,4,5,6,7,8] (fun z=>[(71,.int .i64 (z.1:Int)),(14,.slice (ad z.2.1.bo) z.2.2.2.1.length z.2.1.cap),(15,.slice (ad z.2.2.1.bo) z.2.2.2.2.length z.2.2.1.cap)])
      (fun z=>(z.2.1.bo,3,z.2.1.cs)::(z.2.2.1.bo,3,z.2.2.1.cs)::_) (fun z=>[A3 Ao z.2.1 z.2.2.2.1.length (A7 z.2.2.2.1),A3 Ao z.2.2.1 z.2.2.2.2.length (A7 z.2.2.2.2)])
      (fun z=>z.1≤pres.length∧z.2.2.2.1=((List.range z.1).filter fun i=>!decide (i∈s)).map (fun i=>pres.getD i 0)∧z.2.2.2.2=((List.range z.1).filter fun i=>decide (i∈s)).map fun i=>pres.getD i 0) (fun z=>pres.length-z.1) (0,⟨none,0,[]⟩,⟨none,0,[]⟩,[],[]) [1,2] rfl rfl rfl ⟨Nat.zero_le _,rfl,rfl⟩ (by repeat (first|exact Fr.sub_nil _|refine Fr.sub_cons rfl ?_)) rfl rfl ?_
     rintro ⟨i,rk,ro,y1,y2⟩ ⟨hi,hy1,hy2⟩ ihi
     simp only [List.cons_append,List.nil_append] at hi hy1 hy2 ihi ⊢
     have hl1:y1.length≤i:=by
      have:=List.length_filter_le (fun i=>!decide (i∈s)) (List.range i)
      rw [hy1,List.length_map];rwa [List.length_range] at this
     have hl2:y2.length≤i:=by
      have:=List.length_filter_le (fun i=>decide (i∈s)) (List.range i)
      rw [hy2,List.length_map];rwa [List.length_range] at this
     by_cases hil:i<pres.length
     ·have hb:pres[i]?=some (pres.getD i 0):=by rw [List.getD_eq_getElem?_getD,List.getElem?_eq_getElem hil];rfl
      have at_b:=Fo hb
      have hbN:=(hpm _ (List.mem_of_getElem? hb)).1
      have hmem:((i:Int)∈A7 s)↔i∈s:=by
       rw [A7,List.mem_map]
       exact ⟨fun ⟨a, ha, e⟩ => by have : a = i := by omega
                                   exact this▸ha, fun h => ⟨i, h, rfl⟩⟩
      have hcon:∀ {res:Bool},decide ((i:Int)∈A7 s)=res→Bk Tryz.prog 81 [.slice (some ⟨b2,0,none⟩) j j,.int .i64 i] [(some b2,3,Al .i64 (A7 s))] [A3 Ao ⟨some b2,j,Al .i64 (A7 s)⟩ j (A7 s)] (fun v Φ β=>v = .bool res∧Φ=[A3 Ao ⟨some b2,j,Al .i64 (A7 s)⟩ j (A7 s)]∧β=[(some b2,3,Al .i64 (A7 s))]):=fun h=>(Bf (pl:=some ⟨b2,0,none⟩) (nl:=j) (cl:=j) (l:=A7 s) (x:=(i:Int)) h).lend (e:=3) (r:=⟨some b2,j,Al .i64 (A7 s)⟩) (by show j*8≤140737488355328;omega)
      by_cases his:i∈s
      ·have Aq:=hcon (decide_eq_true (hmem.2 his))
       have ih2:=fun ro=>ihi (i+1,rk,ro,y1,y2++[pres.getD i 0]) (by dsimp only;omega) (by dsimp only;refine ⟨by omega,?_,?_⟩ <;> rw [Pu,List.map_append] <;> simp [his,hy1,hy2])
       dsimp only at ih2
       rw [List.length_append,List.length_singleton,ABO,show A7 [pres.getD i 0]=[((pres.getD i 0:Nat):Int)] from rfl] at ih2
       clear ihi ihs
       refine wk 6 cz ?_
       intro h5
       refine Dh 6 rfl (by omega) fun b3 cap1 cs1 hr1=>?_
       subst hr1
       dsimp only
       refine wk 1 cz ?_
       intro b4 o1 hz1
       refine Ab rfl (Ak 0 rfl rfl Bz fun ⟨r1,r2⟩=>?_)
       refine wk 3 cz ?_
       refine Ab rfl (Dk 2 [3] rfl rfl (Aq) rfl ?_)
       rintro _ _ _ ⟨rfl,rfl,rfl⟩
       simp only [List.cons_append,List.nil_append]
       refine wk 5 cz ?_
       intro b5
       refine Ab rfl (Fq (z:=(↑(pres.getD i 0):Int)) 3 0 3 rfl rfl rfl rfl rfl B6 E3 rfl (fun w A hG=>(Dv (by first|(simp only [Ca];omega)|(simp [Ca];done)))) (by omega) _ F4 (by omega) fun r3=>?_)
       refine wk 4 cz ?_
       refine AGI [3,0,2,4] [3,0,1,6,6,8,9,6,11,12,13] (by exact Tx rfl) rfl rfl rfl (ih2 r3)
      ·have Aq:=hcon (decide_eq_false (mt hmem.1 his))
       have ih2:=fun rk=>ihi (i+1,rk,ro,y1++[pres.getD i 0],y2) (by dsimp only;omega) (by dsimp only;refine ⟨by omega,?_,?_⟩ <;> rw [Pu,List.map_append] <;> simp [his,hy1,hy2])
       dsimp only at ih2
       rw [List.length_append,List.length_singleton,ABO,show A7 [pres.getD i 0]=[((pres.getD i 0:Nat):Int)] from rfl] at ih2
       clear ihi ihs
       refine wk 6 cz ?_
       intro h5
       refine Dh 6 rfl (by omega) fun b3 cap1 cs1 hr1=>?_
       subst hr1
       dsimp only
       refine wk 1 cz ?_
       intro b4 o1 hz1
       refine Ab rfl (Ak 0 rfl rfl Bz fun ⟨r1,r2⟩=>?_)
       refine wk 3 cz ?_
       refine Ab rfl (Dk 2 [3] rfl rfl (Aq) rfl ?_)
       rintro _ _ _ ⟨rfl,rfl,rfl⟩
       simp only [List.cons_append,List.nil_append]
       refine wk 5 cz ?_
       intro b5
       refine Ab rfl (Fq (z:=(↑(pres.getD i 0):Int)) 2 0 2 rfl rfl rfl rfl rfl B6 E3 rfl (fun w A hG=>(Dv (by first|(simp only [Ca];omega)|(simp [Ca];done)))) (by omega) _ F4 (by omega) fun r3=>?_)
       refine wk 4 cz ?_
       refine AGI [0,3,2,4] [0,4,1,6,6,8,9,6,11,12,13] (by exact Tx rfl) rfl rfl rfl (ih2 r3)
     ·obtain rfl:i=pres.length:=by omega
      clear ihi
      rw [AFp hsp hsb] at hy2
      have hy1':y1=knC pres s:=hy1
      have hy2':y2=AHq pres s:=hy2
      have hyB:∀ b∈y1,b<blocks.length∧b<blocks.length∧Wd (p ^ m) W (Aj blocks b):=fun b hb=>by
       rw [hy1] at hb
       obtain ⟨a,ha,rfl⟩:=List.mem_map.1 hb
       have h1:=List.mem_range.1 (List.mem_filter.1 ha).1
       have h2:pres.getD a 0∈pres:=by rw [List.getD_eq_getElem?_getD,List.getElem?_eq_getElem h1];exact List.getElem_mem h1
       exact ⟨(hpm _ h2).1,(hpm _ h2).1,(hpm _ h2).2⟩
      refine Dc 0 0 rfl rfl (by show y1.length*8≤140737488355328;omega) ?_
      simp only [List.eraseIdx_cons_zero,List.eraseIdx_cons_succ]
      refine Dc 0 2 rfl rfl (by show y2.length*8≤140737488355328;omega) ?_
      simp only [List.eraseIdx_cons_zero,List.eraseIdx_cons_succ]
      have Hb:=fun {n c nm cm nt ct nr cr nb cb nk ck:Nat}{pm ps pt pr pb pk:Option Addr}=>Wb (n:=n) (c:=c) (nm:=nm) (cm:=cm) (nt:=nt) (ct:=ct) (nr:=nr) (cr:=cr) (nb:=nb) (cb:=cb) (nk:=nk) (ck:=ck) (pm:=pm) (ps:=ps) (pt:=pt) (pr:=pr) (pb:=pb) (pk:=pk) (dd:=dd) (P:=y1) CC hW hyB (by omega)
      cases hcm:cmB p m md Aa blocks W y1 with
      | true =>
       have hfs:(enL pres.length (Sx pres.length s) s).find? (fun s=>cmB p m md Aa blocks W (knC pres s))=some s:=by
        cases hr:Sx pres.length s with
        | zero=>rw [enL,List.find?_cons,← hy1',hcm]
        | succ r=>rw [enL,List.find?_cons,← hy1',hcm]
       rw [hf,hfs] at hg
       obtain rfl:some s=O:=hg
       rw [hO2,← hy1',← hy2']
       rw [hcm,if_pos rfl] at Hb
       obtain ⟨w,hw⟩:∃ w,A7 y2=w:=⟨_,rfl⟩
       have hwl:y2.length=w.length:=by rw [← hw,Bn]
       rw [hw,hwl]
       clear ihs ih1
       refine wk 7 cz ?_
       intro h5
       refine Ab rfl (Ae [10,11,12,1] rfl (Hb) rfl ?_)
       rintro _ _ _ ⟨pa1,ca1,rfl,rfl,rfl⟩
       simp only [List.cons_append,List.nil_append]
       refine wk 8 cz ?_
       refine Cn [0,1] rfl rfl rfl ⟨_,_,_,_,rfl,rfl,rfl⟩
      | false =>
       rw [hcm,if_neg (by simp)] at Hb
       refine wk 7 cz ?_
       intro h5
       refine Ab rfl (Ae [10,11,12,1] rfl (Hb) rfl ?_)
       rintro _ _ _ ⟨pa1,ca1,rfl,rfl,rfl⟩
       simp only [List.cons_append,List.nil_append]
       refine wk 8 cz ?_
       refine Af (X:=Nat) [1,2,7,10,11,12,14,15,18,19,47,48,49,50,51,52,53,54,57,58,59,60,61,62,69,70,71,72,88,89,90,91,92,93,94,95,98,99] [8,9,10,11,12,13] (fun u=>[(20,.int .i64 ((u:Int)-1))]) (fun _=>_) (fun _=>[]) (fun u=>u≤j∧W0 pres.length (s.drop u)=none) (fun u=>u) j [] rfl rfl rfl ⟨Nat.le_refl _,by rw [List.drop_of_length_le (by omega)];rfl⟩ (by repeat (first|exact Fr.sub_nil _|refine Fr.sub_cons rfl ?_)) rfl rfl ?_
       rintro u ⟨hu,hsu⟩ ihu
       simp only [List.cons_append,List.nil_append] at hu hsu ihu ⊢
       have hfs:(enL pres.length (Sx pres.length s) s).find? (fun s=>cmB p m md Aa blocks W (knC pres s))=match W0 pres.length s with
         | some X=>(enL pres.length (Sx pres.length X) X).find? fun s=>cmB p m md Aa blocks W (knC pres s)
         | none=>none:=by
        cases hX:W0 pres.length s with
        | none=>rw [AIl hX,List.find?_cons,← hy1',hcm];rfl
        | some X=>rw [AId hv hX,List.find?_cons,← hy1',hcm]
       rcases Nat.eq_zero_or_pos u with hu0|hu0
       ·subst hu0
        rw [List.drop_zero] at hsu
        rw [hsu] at hfs
        rw [hf,hfs] at hg
        have ih1':=ih1 ⟨by omega,by rw [show K+1-(j+1)=K-j by omega];exact hg⟩
        clear ihu ihs ih1
        refine wk 11 cz ?_
        intro h6
        refine Jr [false,true] [0,1,2,3,4,5] (by exact Tx rfl) rfl rfl (ih1')
       ·obtain ⟨v,rfl⟩:∃ v,u=v+1:=⟨u-1,by omega⟩
        rw [show (((v+1:Nat):Int)-1)=(v:Int) by omega]
        obtain ⟨a,ha⟩:∃ a,s[v]?=some a:=⟨_,List.getElem?_eq_getElem (by omega)⟩
        have at_a:=Fo ha
        have haN:=hsb a (List.mem_of_getElem? ha)
        obtain ⟨hd1,hd2⟩:=AJc hs ha hsu
        by_cases hav:a+(j-v)=pres.length
        ·have ihu':=ihu v (Nat.lt_succ_self v) ⟨by omega,hd1 hav⟩
         clear ihu ihs ih1
         refine wk 4 cz ?_
         intro h6
         refine A2 rfl rfl (L4 0 rfl rfl Bz (by first|omega|(simp;omega)) fun z1 hz1=>?_)
         obtain rfl:_=z1:=Option.some.inj (at_a.symm.trans hz1)
         refine wk 8 cz ?_
         intro h7
         exact tw (ihu')
        ·have hX:=hd2 hav
         clear ihu ih1
         have hXl:=V7 hX
         obtain ⟨X,hXe⟩:∃ X,s.take v++(List.range (j-v)).map (fun t=>a+1+t)=X:=⟨_,rfl⟩
         have hXa:X[v]?=some (a+1):=by
          rw [← hXe,List.getElem?_append_right (by rw [List.length_take];omega),List.length_take,Nat.min_eq_left (by omega),Nat.sub_self,List.getElem?_map,List.getElem?_range (by omega)];rfl
         have hXs:∀ i b,v≤i→X[i]?=some b→i+1<j→X[i+1]?=some (b+1):=fun i b hi hb hij=>by
          have e:∀ q,v≤q→q<j→X[q]?=some (a+1+(q-v)):=fun q h1 h2=>by
           rw [← hXe,List.getElem?_append_right (by rw [List.length_take];omega),List.length_take,Nat.min_eq_left (by omega),List.getElem?_map,List.getElem?_range (by omega)];rfl
          rw [e i hi (by omega)] at hb
          rw [e (i+1) (by omega) hij,← Option.some.inj hb]
          congr 1;omega
         have hXt:X.take v=s.take v:=by rw [← hXe,List.take_append_of_le_length (by rw [List.length_take];omega),List.take_take,Nat.min_self]
         rw [hXe] at hX hXl
         rw [hX] at hfs
         obtain ⟨hXr,hXv,_⟩:=S4 hv hX
         have ihX:=ihs X (by omega) ⟨hXv,by omega,hf.trans hfs⟩
         clear ihs
         have hXl2:(A7 X).length=(A7 s).length:=by rw [Bn,Bn,hXl]
         have hset:(A7 s).set v ((a:Int)+1)=(A7 X).take (v+1)++(A7 s).drop (v+1):=by
          have h1:=AGB (Fo hXa) hXl2
          rw [show (A7 X).take v=(A7 s).take v by rw [A7,A7,← List.map_take,← List.map_take,hXt],List.take_append_drop] at h1
          exact h1
         refine wk 4 cz ?_
         intro h6
         refine A2 rfl rfl (L4 0 rfl rfl Bz (by first|omega|(simp;omega)) fun z1 hz1=>?_)
         obtain rfl:_=z1:=Option.some.inj (at_a.symm.trans hz1)
         refine wk 12 cz ?_
         intro h7 h8
         refine Ab rfl (L4 0 rfl rfl Bz (by first|omega|(simp;omega)) fun z1 hz2=>?_)
         obtain rfl:_=z1:=Option.some.inj (at_a.symm.trans hz2)
         refine wk 6 cz ?_
         rw [hset]
         simp only [setB,List.eraseIdx_cons_zero,List.eraseIdx_cons_succ,Nat.zero_add]
         refine Af (X:=Nat) [1,2,7,10,11,12,14,15,18,19,20,47,48,49,50,51,52,53,54,57,58,59,60,61,62,69,70,71,72,88,89,90,91,92,93,94,95,98,99,100,101,102,103,104,105,106,107,108,109,110,111,112,113,114,117,118,119,120,121,122,123,124,125,126] [0,1,2,3,4,5] (fun i=>[(21,.int .i64 (i:Int))]) (fun i=>(some b2,3,Al .i64 ((A7 X).take i++(A7 s).drop i))::_) (fun _=>[]) (fun i=>v+1≤i∧i≤j) (fun i=>j-i) (v+1) [] rfl rfl rfl ⟨Nat.le_refl _,by omega⟩ (by repeat (first|exact Fr.sub_nil _|refine Fr.sub_cons rfl ?_)) rfl rfl ?_
         rintro i ⟨hi1,hi2⟩ ihi
         simp only [List.cons_append,List.nil_append] at ihi ⊢
         by_cases hij:i<j
         ·obtain ⟨q,rfl⟩:∃ q,i=q+1:=⟨i-1,by omega⟩
          obtain ⟨b,hb⟩:∃ b,X[q]?=some b:=⟨_,List.getElem?_eq_getElem (by omega)⟩
          have hb2:=hXs q b (by omega) hb hij
          have ihi':=ihi (q+1+1) (by omega) ⟨by omega,by omega⟩
          rw [← AGB (Fo hb2) hXl2] at ihi'
          have at_b:((A7 X).take (q+1)++(A7 s).drop (q+1))[q]?=some (b:Int):=by
           rw [List.getElem?_append_left (by rw [List.length_take];omega),List.getElem?_take,if_pos (by omega)];exact Fo hb
          have hLl:((A7 X).take (q+1)++(A7 s).drop (q+1)).length=j:=by rw [List.length_append,List.length_take,List.length_drop];omega
          have hbN:b<pres.length:=(AED hXv).1 b (List.mem_of_getElem? hb)
          generalize (A7 X).take (q+1)++(A7 s).drop (q+1)=L at *
          clear ihi ihX
          refine wk 7 cz ?_
          intro h9
          refine Ab rfl (L4 0 rfl rfl Bz (by first|omega|(simp;omega)) fun z1 hz3=>?_)
          obtain rfl:_=z1:=Option.some.inj (at_b.symm.trans hz3)
          refine wk 6 cz ?_
          exact tw (ihi')
         ·obtain rfl:i=j:=by omega
          rw [List.take_of_length_le (by omega),List.drop_of_length_le (by omega),List.append_nil]
          clear ihi
          refine wk 5 cz ?_
          intro h9
          exact tw (ihX)
   ·obtain rfl:k=K+1:=by omega
    clear ihk
    rw [Nat.sub_self,deA] at hg
    subst hg
    rw [deO]
    refine Ff (Aw (Ai Ao) none 0 0 []) (fun w A _=>F7 _ w A none 0) ?_
    refine Ff (Aw Ao none 0 0 []) (fun w A _=>F7 _ w A none 0) ?_
    refine wk 10 cz ?_
    intro h3
    refine Cn [1,0] rfl rfl rfl ⟨_,_,_,_,rfl,rfl,rfl⟩
end
open Go Go.Fw
set_option maxRecDepth 100000
set_option linter.unusedVariables false
set_option linter.unusedSimpArgs false
set_option maxHeartbeats 0
noncomputable def stE (P M:Int) (md:List Int) (N:Int) (Aa:List (List Int)) (dd:Int) (sets:List (List Int)) (racks:List Int) (W:Int) (blocks:List (List Int)):Int :=
 if Zq P M md N Aa dd sets racks W≠0 then Zq P M md N Aa dd sets racks W else if ¬ ((blocks.length:Int)=N∧∀ r∈blocks,r.length=0∨(r.length:Int)=W) then 3
 else if ¬ ∀ r∈blocks,∀ x∈r,0≤x∧x<((P.toNat ^ M.toNat:Nat):Int) then 2 else 0
abbrev ADN (P M:Int) (pm:Option Addr) (nm cm:Nat) (N:Int) (ps:Option Addr) (n c:Nat) (dd:Int) (pt:Option Addr) (nt ct:Nat) (pr:Option Addr) (nr cr:Nat) (W:Int):List Value:=[.int .i64 P,.int .i64 M,.slice pm nm cm,.int .i64 N,.slice ps n c,.int .i64 dd,.slice pt nt ct,.slice pr nr cr,.int .i64 W]
section
variable {P M N dd W e:Int}{n c nm cm nt ct nr cr nb cb:Nat}{pm ps pt pr pb:Option Addr}{md racks:List Int}{Aa sets blocks:List (List Int)}
theorem Pr {b1:Nat}{pa:Option Addr}{ca:Nat}{r:List Int}:Bk Tryz.prog 44 [.slice pa r.length ca,.pointer (some ⟨b1,0,none⟩)] [] [Aw Ao pa r.length ca r,Uh b1 (ADN P M pm nm cm N ps n c dd pt nt ct pr nr cr W)] (Rv (.bool (!decide (r.length=0∨(r.length:Int)=W))) []):=by
 refine Ad (F:=Wa) rfl fun C=>?_
 by_cases h0:r.length=0
 ·rw [decide_eq_true (Or.inl h0)]
  refine wk 10 cz ?_
  intro h1
  exact ge
 ·rw [show decide (r.length=0∨(r.length:Int)=W)=decide ((r.length:Int)=W) by simp [h0]]
  refine wk 14 cz ?_
  intro h1
  exact ge
theorem Wl {p m b c0 q ng cg ne ce nl cl:Nat}{pg pe pl:Option Addr}{x:Int}{res:Bool}(hq:q≤256) (hr:(!decide (0≤x∧x<(q:Int)))=res) :
  Bk Tryz.prog 47 [.int .i64 x,.pointer (some ⟨c0,0,none⟩)] [] [Uh c0 [.pointer (some ⟨b,0,none⟩)],P3 b p m q pg ng cg pe ne ce pl nl cl] (Rv (.bool res) []):=by
 refine Ad (F:=Wp) rfl fun C=>?_
 subst hr
 refine wk 8 (ct @Gx cz) ?_
 exact ge
end
open Go Go.Fw
set_option maxRecDepth 100000
set_option linter.unusedVariables false
set_option linter.unusedSimpArgs false
set_option maxHeartbeats 0
section
variable {P:Program}{F:Fun P}{C:Cx}{S:List It}{R:Value→World→Prop}{β:List Ba}{Γ:List Fact}{it:List (TypeId×IntKind)}{L:List Oper}{pt:List (List Nat)}{p:List Nat}{σ κ:Fr}{fs:List (Nat×Fact)}{al:List Ba}{i:Nat}
end
open Go Go.Fw
set_option maxRecDepth 100000
set_option linter.unusedVariables false
set_option linter.unusedSimpArgs false
set_option maxHeartbeats 0
section
variable {p m N n c nm cm nt ct nr cr nb cb nk ck W:Nat}{pm ps pt pr pb pk:Option Addr}{dd:Int}{md:List Int}{Aa blocks:List (List Int)}{P:List Nat}
end
open Go Go.Fw
set_option maxRecDepth 100000
set_option linter.unusedVariables false
set_option linter.unusedSimpArgs false
set_option maxHeartbeats 0
section
variable {p m N n c nm cm nt ct nr cr nb cb W:Nat}{pm ps pt pr pb:Option Addr}{dd:Int}{md:List Int}{Aa blocks:List (List Int)}
end
open Go Go.Fw
set_option maxRecDepth 100000
set_option linter.unusedVariables false
set_option linter.unusedSimpArgs false
set_option maxHeartbeats 0
theorem AHf {W:Int}{blocks:List (List Int)}:(blocks.any fun r=>!decide (r.length=0∨(r.length:Int)=W))=false↔∀ r∈blocks,r.length=0∨(r.length:Int)=W:=by
 rw [List.any_eq_false]
 exact forall_congr' fun r=>imp_congr_right fun _=>by rw [Bool.not_eq_true,Bool.not_eq_false',decide_eq_true_eq]
section
variable {P M N dd W:Int}{n c nm cm nt ct nr cr nb cb:Nat}{pm ps pt pr pb:Option Addr}{md racks:List Int}{Aa sets blocks:List (List Int)}
noncomputable def deQ (P M:Int) (md:List Int) (N:Int) (Aa:List (List Int)) (dd:Int) (sets:List (List Int)) (racks:List Int) (W:Int) (blocks:List (List Int)):Value→List Fact→List Ba→Prop :=
 if stE P M md N Aa dd sets racks W blocks≠0 then DeQ [] [] (stE P M md N Aa dd sets racks W blocks) else deO P.toNat M.toNat md N.toNat Aa blocks W.toNat (deR P.toNat M.toNat md N.toNat Aa blocks dd W.toNat)
theorem AK0 (h:stE P M md N Aa dd sets racks W blocks=0):∃ p m n w:Nat,P=p∧M=m∧N=n∧W=w∧CfOk p m md n Aa dd sets racks W∧blocks.length=n∧(∀ r∈blocks,r.length=0∨r.length=w)∧(∀ r∈blocks,∀ x∈r,0≤x∧x<((p ^ m:Nat):Int))∧∀ b,b<n→Aj blocks b=[]∨Wd (p ^ m) w (Aj blocks b):=by
 rw [stE] at h
 by_cases h0:Zq P M md N Aa dd sets racks W=0
 ·rw [if_neg (fun e=>e h0)] at h
  obtain ⟨p,m,n,rfl,rfl,rfl,K⟩:=AEY h0
  obtain ⟨w,rfl⟩:=Int.eq_ofNat_of_zero_le (show 0≤W by have:=K.w1;omega)
  rw [Int.toNat_natCast,Int.toNat_natCast] at h
  by_cases h1:(blocks.length:Int)=n∧∀ r∈blocks,r.length=0∨(r.length:Int)=w
  ·rw [if_neg (fun e=>e h1)] at h
   by_cases h2:∀ r∈blocks,∀ x∈r,0≤x∧x<((p ^ m:Nat):Int)
   ·obtain ⟨a1,a2⟩:=h1
    refine ⟨p,m,n,w,rfl,rfl,rfl,rfl,K,by omega,fun r hr=>(a2 r hr).imp id fun h=>by omega,h2,fun b hb=>?_⟩
    have hm:Aj blocks b∈blocks:=Om (by omega)
    rcases a2 _ hm with h|h
    ·exact .inl (List.length_eq_zero_iff.1 h)
    ·exact .inr ⟨by omega,h2 _ hm⟩
   ·rw [if_pos h2] at h;cases h
  ·rw [if_pos h1] at h;cases h
 ·rw [if_pos h0] at h;exact absurd h h0
theorem Zi (hN:Ca .i64 N) (hd:Ca .i64 dd):Bk Tryz.prog 20 [.agg (ADN P M pm nm cm N ps n c dd pt nt ct pr nr cr W).toArray,.slice pb nb cb] [] [Aw Ao pm nm cm md,Aw (Ai Ao) ps n c Aa,Aw (Ai Ao) pt nt ct sets,Aw Ao pr nr cr racks,Aw (Ai Ao) pb nb cb blocks] (deQ P M md N Aa dd sets racks W blocks):=by
 refine Ad (F:=Yu) rfl fun C=>?_
 refine Ay 4 rfl fun hn hb _=>?_
 subst hn
 have hb':blocks.length*24≤140737488355328:=hb
 have hcr:=AE0 (P:=P) (M:=M) (N:=N) (dd:=dd) (md:=md) (Aa:=Aa) (sets:=sets) (racks:=racks) (W:=W)
 have Cv:=fun {n c nm cm nt ct nr cr:Nat}{pm ps pt pr:Option Addr}=>K3 (P:=P) (M:=M) (N:=N) (dd:=dd) (md:=md) (Aa:=Aa) (sets:=sets) (racks:=racks) (W:=W) (n:=n) (c:=c) (nm:=nm) (cm:=cm) (nt:=nt) (ct:=ct) (nr:=nr) (cr:=cr) (pm:=pm) (ps:=ps) (pt:=pt) (pr:=pr) hN hd rfl
 refine Ff (Aw (Ai Ao) none 0 0 []) (fun w A _=>F7 _ w A none 0) ?_
 refine Ff (Aw Ao none 0 0 []) (fun w A _=>F7 _ w A none 0) ?_
 refine wk 4 cz ?_
 intro b1
 refine ACb 0 rfl ?_
 simp only [List.eraseIdx_cons_zero]
 rw [deQ]
 have hst:stE P M md N Aa dd sets racks W blocks=stE P M md N Aa dd sets racks W blocks:=rfl
 by_cases h0:Zq P M md N Aa dd sets racks W=0
 ·rw [h0] at Cv
  by_cases hl:(blocks.length:Int)=N
  ·by_cases hsh:∀ r∈blocks,r.length=0∨(r.length:Int)=W
   ·have hany:=AHf.2 hsh
    have Bh:=fun {ps':Option Addr}{n' c':Nat}=>D7 (f:=44) (caps:=[.pointer (some ⟨b1,0,none⟩)]) (ps:=ps') (n:=n') (c:=c') (l:=blocks) (g:=Uh b1 (ADN P M pm nm cm N ps n c dd pt nt ct pr nr cr W)) fun r _ pa ca=>Pr
    rw [hany] at Bh
    obtain ⟨p,m,n',rfl,rfl,rfl,K⟩:=AEY h0
    have hcd:=AGd K.CC K.cd
    have hw1:=K.w1
    have hw2:=K.w2
    have h64:=K.CC.n64
    have hq:=K.CC.K.q
    obtain ⟨w,rfl⟩:=Int.eq_ofNat_of_zero_le (show 0≤W by omega)
    have Ey:=fun {pm:Option Addr}{nm cm:Nat}=>Fx (pm:=pm) (nm:=nm) (cm:=cm) K.CC.K
    simp only [Int.toNat_natCast]
    refine wk 1 cz ?_
    refine Ab rfl (Ae [3,4,5,6] rfl (Cv) rfl ?_)
    rintro _ _ _ ⟨rfl,rfl,rfl⟩
    simp only [List.cons_append,List.nil_append]
    refine wk 15 cz ?_
    intro h1 h2
    refine A2 rfl rfl (Ae [7,0] rfl (Bh) rfl ?_)
    rintro _ _ _ ⟨rfl,rfl,rfl⟩
    simp only [List.cons_append,List.nil_append]
    simp only [decide_true]
    refine wk 7 cz ?_
    refine Ab rfl (Ae [3] rfl (Ey) rfl ?_)
    rintro _ _ _ ⟨b2,pg1,cg1,pe1,ce1,pl1,cl1,rfl,rfl,rfl⟩
    simp only [List.cons_append,List.nil_append]
    refine wk 9 cz ?_
    intro b3
    refine ACb 0 rfl ?_
    simp only [setB,List.set_cons_zero,List.eraseIdx_cons_zero]
    refine ADu [0,1] rfl ?_
    refine Af (X:=Nat) [1,2,8,35,36] [0,1,2,3,4,5,6,7,8,9,10,11,12,13] (fun i=>[(37,.int .i64 (i:Int))]) (fun _=>_) (fun _=>[]) (fun i=>i≤blocks.length∧∀ r∈blocks.take i,∀ x∈r,0≤x∧x<((p ^ m:Nat):Int)) (fun i=>blocks.length-i) 0 [] rfl rfl rfl ⟨Nat.zero_le _,fun r h=>absurd h List.not_mem_nil⟩ (by repeat (first|exact Fr.sub_nil _|refine Fr.sub_cons rfl ?_)) rfl rfl ?_
    rintro i ⟨hi,hs2⟩ ih
    simp only [List.cons_append,List.nil_append] at hi ih ⊢
    by_cases h9:i<blocks.length
    ·obtain ⟨r,at_r⟩:∃ r,blocks[i]?=some r:=⟨_,List.getElem?_eq_getElem h9⟩
     have Cg:=fun {ps':Option Addr}{n' c':Nat}=>Dl (f:=47) (caps:=[.pointer (some ⟨b3,0,none⟩)]) (ps:=ps') (n:=n') (c:=c') (l:=r) (g:=AAO [Uh b3 [.pointer (some ⟨b2,0,none⟩)],P3 b2 p m (p ^ m) pg1 md.length cg1 pe1 (p ^ m-1) ce1 pl1 (p ^ m) cl1]) fun x _=>(Wl hq rfl).conj
     by_cases hr:∀ x∈r,0≤x∧x<((p ^ m:Nat):Int)
     ·rw [Xv.2 hr] at Cg
      have ih':=ih (i+1) (by omega) ⟨by omega,T9 at_r hs2 hr⟩
      clear ih
      refine wk 10 cz ?_
      intro h3 b4 o1 hz1 pa1 ca1
      refine Ab rfl (Ae [0,2] rfl (Cg) rfl ?_)
      rintro _ _ _ ⟨rfl,rfl,rfl⟩
      simp only [List.cons_append,List.nil_append]
      refine wk 5 cz ?_
      exact tw (ih')
     ·rw [show (r.any fun x=>!decide (0≤x∧x<((p ^ m:Nat):Int)))=true from (Bool.not_eq_false _).mp (mt Xv.1 hr)] at Cg
      have h3:stE p m md n' Aa dd sets racks w blocks=2:=by rw [stE,if_neg (fun e=>e h0),if_neg (fun hh=>hh ⟨hl,hsh⟩),Int.toNat_natCast,Int.toNat_natCast,if_pos (fun hh=>hr (hh r (List.mem_of_getElem? at_r)))]
      rw [if_pos (by omega),h3]
      clear ih
      refine wk 10 cz ?_
      intro h4 b4 o1 hz1 pa1 ca1
      refine Ab rfl (Ae [0,2] rfl (Cg) rfl ?_)
      rintro _ _ _ ⟨rfl,rfl,rfl⟩
      simp only [List.cons_append,List.nil_append]
      refine wk 5 cz ?_
      refine Cn [10,9] rfl rfl rfl ⟨_,_,_,_,rfl,rfl,rfl⟩
    ·obtain rfl:i=blocks.length:=by omega
     rw [List.take_length] at hs2
     have h3:stE p m md n' Aa dd sets racks w blocks=0:=by rw [stE,if_neg (fun e=>e h0),if_neg (fun hh=>hh ⟨hl,hsh⟩),Int.toNat_natCast,Int.toNat_natCast,if_neg (fun hh=>hh hs2)]
     rw [if_neg (by omega)]
     clear ih
     obtain ⟨_,_,_,_,e1,e2,e3,e4,_,_,_,_,hB⟩:=AK0 h3
     obtain rfl:=Int.ofNat_inj.1 e1
     obtain rfl:=Int.ofNat_inj.1 e2
     obtain rfl:=Int.ofNat_inj.1 e3
     obtain rfl:=Int.ofNat_inj.1 e4
     have Fy:=fun {n c nm cm nt ct nr cr nb cb:Nat}{pm ps pt pr pb:Option Addr}=>Zz (n:=n) (c:=c) (nm:=nm) (cm:=cm) (nt:=nt) (ct:=ct) (nr:=nr) (cr:=cr) (nb:=nb) (cb:=cb) (pm:=pm) (ps:=ps) (pt:=pt) (pr:=pr) (pb:=pb) (dd:=dd) (W:=w) K.CC hcd.1 hcd.2 (by omega) (by omega) (by omega) hB
     cases hO:deR p m md n' Aa blocks dd w with
     | none =>
      rw [hO] at Fy
      simp only [deO] at Fy ⊢
      refine wk 7 cz ?_
      intro h4
      refine Ab rfl (Ae [9,10,13] rfl (Fy) rfl ?_)
      rintro _ _ _ ⟨pb1,cb1,pw1,cw1,rfl,rfl,rfl⟩
      simp only [List.cons_append,List.nil_append]
      refine wk 2 cz ?_
      refine Cn [0,1] rfl rfl rfl ⟨_,_,_,_,rfl,rfl,rfl⟩
     | some s =>
      rw [hO] at Fy
      simp only [deO] at Fy ⊢
      generalize cmR p m md n' Aa blocks w (knC (Gl blocks) s)=R at *
      generalize A7 (AHq (Gl blocks) s)=O at *
      refine wk 7 cz ?_
      intro h4
      refine Ab rfl (Ae [9,10,13] rfl (Fy) rfl ?_)
      rintro _ _ _ ⟨pb1,cb1,pw1,cw1,rfl,rfl,rfl⟩
      simp only [List.cons_append,List.nil_append]
      refine wk 2 cz ?_
      refine Cn [0,1] rfl rfl rfl ⟨_,_,_,_,rfl,rfl,rfl⟩
   ·have hany:(blocks.any fun r=>!decide (r.length=0∨(r.length:Int)=W))=true:=(Bool.not_eq_false _).mp (mt AHf.1 hsh)
    have Bh:=fun {ps':Option Addr}{n' c':Nat}=>D7 (f:=44) (caps:=[.pointer (some ⟨b1,0,none⟩)]) (ps:=ps') (n:=n') (c:=c') (l:=blocks) (g:=Uh b1 (ADN P M pm nm cm N ps n c dd pt nt ct pr nr cr W)) fun r _ pa ca=>Pr
    rw [hany] at Bh
    have h3:stE P M md N Aa dd sets racks W blocks=3:=by rw [stE,if_neg (fun e=>e h0),if_pos (fun hh=>hsh hh.2)]
    rw [if_pos (by omega),h3]
    refine wk 1 cz ?_
    refine Ab rfl (Ae [3,4,5,6] rfl (Cv) rfl ?_)
    rintro _ _ _ ⟨rfl,rfl,rfl⟩
    simp only [List.cons_append,List.nil_append]
    refine wk 15 cz ?_
    intro h1 h2
    refine A2 rfl rfl (Ae [7,0] rfl (Bh) rfl ?_)
    rintro _ _ _ ⟨rfl,rfl,rfl⟩
    simp only [List.cons_append,List.nil_append]
    simp only [decide_true]
    refine wk 6 cz ?_
    refine Cn [2,1] rfl rfl rfl ⟨_,_,_,_,rfl,rfl,rfl⟩
  ·have h3:stE P M md N Aa dd sets racks W blocks=3:=by rw [stE,if_neg (fun e=>e h0),if_pos (fun hh=>hl hh.1)]
   rw [if_pos (by omega),h3]
   refine wk 1 cz ?_
   refine Ab rfl (Ae [3,4,5,6] rfl (Cv) rfl ?_)
   rintro _ _ _ ⟨rfl,rfl,rfl⟩
   simp only [List.cons_append,List.nil_append]
   refine wk 20 cz ?_
   intro h1 h2
   refine Cn [2,1] rfl rfl rfl ⟨_,_,_,_,rfl,rfl,rfl⟩
 ·have h3:stE P M md N Aa dd sets racks W blocks=Zq P M md N Aa dd sets racks W:=by rw [stE,if_pos h0]
  rw [if_pos (by omega),h3]
  refine wk 1 cz ?_
  refine Ab rfl (Ae [3,4,5,6] rfl (Cv) rfl ?_)
  rintro _ _ _ ⟨rfl,rfl,rfl⟩
  simp only [List.cons_append,List.nil_append]
  refine wk 8 cz ?_
  intro h1
  refine Cn [2,1] rfl rfl rfl ⟨_,_,_,_,rfl,rfl,rfl⟩
end
open Go Go.Fw
set_option maxRecDepth 100000
set_option linter.unusedVariables false
set_option linter.unusedSimpArgs false
set_option maxHeartbeats 0
theorem Hh {pl pk:Option Addr}{nl cl nk ck:Nat}{l k:List Int} :
  Bk Tryz.prog 53 [.slice pl nl cl,.slice pk nk ck] [] [Aw Ao pl nl cl l,Aw Ao pk nk ck k] (fun v Φ β=>∃ e:Int,v = .int .i64 e∧Φ=[]∧β=[]∧(e=0↔l=k)):=by
 refine Ad (F:=M0) rfl fun C=>?_
 refine Ay 0 rfl fun hn hb _=>?_
 refine Ay 1 rfl fun hn2 hb2 _=>?_
 subst hn
 subst hn2
 have hb':l.length*8≤140737488355328:=hb
 have hb2':k.length*8≤140737488355328:=hb2
 refine wk 5 cz ?_
 refine Af (X:=Nat) [0,1] [0,1] (fun i=>[(5,.int .i64 (i:Int))]) (fun _=>[]) (fun _=>[]) (fun i=>i≤l.length∧i≤k.length∧∀ j,j<i→l[j]?=k[j]?) (fun i=>l.length-i) 0 [] rfl rfl rfl ⟨Nat.zero_le _,Nat.zero_le _,fun j h=>by omega⟩ (by repeat (first|exact Fr.sub_nil _|refine Fr.sub_cons rfl ?_)) rfl rfl ?_
 rintro i ⟨hi,hi2,hno⟩ ih
 simp only [List.cons_append,List.nil_append] at hi hi2 ih ⊢
 by_cases h9:i<l.length
 ·by_cases h8:i<k.length
  ·obtain ⟨y,hy⟩:∃ y,l[i]?=some y:=⟨_,List.getElem?_eq_getElem h9⟩
   obtain ⟨z,hz⟩:∃ z,k[i]?=some z:=⟨_,List.getElem?_eq_getElem h8⟩
   have ey:=Ix hy
   have ez:=Ix hz
   have hne:y≠z→l≠k:=fun h e=>by rw [e,hz] at hy;exact h (Option.some.inj hy).symm
   by_cases h7:y<z
   ·refine wk 18 cz ?_
    intro h1 h2 b1 o1 b2 o2 h3
    refine Cn [] rfl rfl rfl ⟨_,rfl,rfl,rfl,⟨fun h=>by omega,fun h=>absurd h (hne (by omega))⟩⟩
   ·by_cases h6:z<y
    ·refine wk 22 cz ?_
     intro h1 h2 b1 o1 b2 o2 h3 b3 o3 b4 o4 h4
     refine Cn [] rfl rfl rfl ⟨_,rfl,rfl,rfl,⟨fun h=>by omega,fun h=>absurd h (hne (by omega))⟩⟩
    ·obtain rfl:y=z:=by omega
     refine wk 22 cz ?_
     intro h1 h2 b1 o1 b2 o2 h3 b3 o3 b4 o4 h4
     exact tw (ih (i+1) (by omega) ⟨by omega,by omega,fun j hj=>by
      rcases Nat.lt_succ_iff_lt_or_eq.1 hj with h|rfl
      ·exact hno j h
      ·rw [hy,hz]⟩)
  ·clear ih
   refine wk 30 cz ?_
   intro h1 h2 h3 h4
   refine Cn [] rfl rfl rfl ⟨_,rfl,rfl,rfl,⟨fun h=>by omega,fun h=>by rw [h] at h9;exact absurd h9 h8⟩⟩
 ·clear ih
  by_cases h8:i<k.length
  ·refine wk 20 cz ?_
   intro h1 h2
   refine Cn [] rfl rfl rfl ⟨_,rfl,rfl,rfl,⟨fun h=>by omega,fun h=>by rw [h] at h9;exact absurd h8 h9⟩⟩
  ·refine wk 28 cz ?_
   intro h1 h2 h3
   refine Cn [] rfl rfl rfl ⟨_,rfl,rfl,rfl,⟨fun _=>List.ext_getElem? fun j=>?_,fun _=>rfl⟩⟩
   by_cases h:j<i
   ·exact hno j h
   ·rw [List.getElem?_eq_none (by omega),List.getElem?_eq_none (by omega)]
theorem Mm {pl pk:Option Addr}{nl cl nk ck:Nat}{l:List Int}{z:Int}(hz:z=0) :
  Bk Tryz.prog 53 [.slice pl nl cl,.slice pk nk ck] [] [Aw Ao pl nl cl l,Aw Ao pk nk ck l] (Rv (.int .i64 z) []) :=
 (Hh (l:=l) (k:=l)).mono fun C w v Φ β' ⟨e,h1,h2,h3,h4⟩ hO hG=>⟨Φ,β',⟨by rw [h1,h4.2 rfl,hz],h2,h3⟩,hO,hG⟩
theorem Lc {pl pk:Option Addr}{nl cl nk ck:Nat}{l:List (List Int)}:Bk Tryz.prog 52 [.slice pl nl cl,.slice pk nk ck] [] [Aw (Ai Ao) pl nl cl l,Aw (Ai Ao) pk nk ck l] (Rv (.bool true) []):=by
 refine Ad (F:=Lh) rfl fun C=>?_
 obtain ⟨z,hz⟩:∃ z:Int,z=0:=⟨0,rfl⟩
 have Eo:=fun {pl pk:Option Addr}{nl cl nk ck:Nat}{l:List Int}=>Mm (pl:=pl) (pk:=pk) (nl:=nl) (cl:=cl) (nk:=nk) (ck:=ck) (l:=l) hz
 refine Ay 0 rfl fun hn hb _=>?_
 refine Ay 1 rfl fun hn2 hb2 _=>?_
 subst hn
 subst hn2
 have hb':l.length*24≤140737488355328:=hb
 refine wk 13 cz ?_
 intro h1
 refine Af (X:=Nat) [0,1] [0,1] (fun i=>[(5,.int .i64 (i:Int))]) (fun _=>[]) (fun _=>[]) (fun i=>i≤l.length) (fun i=>l.length-i) 0 [] rfl rfl rfl (Nat.zero_le _) (by repeat (first|exact Fr.sub_nil _|refine Fr.sub_cons rfl ?_)) rfl rfl ?_
 rintro i hi ih
 simp only [List.cons_append,List.nil_append] at hi ih ⊢
 by_cases h9:i<l.length
 ·refine wk 13 (ct @Eo cz) ?_
  intro h2 b1 o1 pa1 ca1 b2 o2 pa2 ca2 h3
  exact tw (ih (i+1) (by omega) (by omega))
 ·clear ih
  refine wk 9 cz ?_
  intro h2
  exact ge
theorem Ky {pl pk:Option Addr}{nl cl nk ck:Nat}{l:List (List Int)}:Bk Tryz.prog 22 [.slice pl nl cl,.slice pk nk ck] [] [Aw (Ai Ao) pl nl cl l,Aw (Ai Ao) pk nk ck l] (Rv (.bool true) []):=by
 refine Ad (F:=Ks) rfl fun C=>?_
 have K6:=fun {pl pk:Option Addr}{nl cl nk ck:Nat}=>Lc (pl:=pl) (pk:=pk) (nl:=nl) (cl:=cl) (nk:=nk) (ck:=ck) (l:=l)
 refine wk 7 (ct @K6 cz) ?_
 exact ge
section
variable {P M N dd W:Int}{n c nm cm nt ct nr cr nb cb:Nat}{pm ps pt pr pb:Option Addr}{md racks:List Int}{Aa sets blocks:List (List Int)}
end
open Go Go.Fw
set_option maxRecDepth 100000
set_option linter.unusedVariables false
set_option linter.unusedSimpArgs false
set_option maxHeartbeats 0
def Np (data:List Int) (size t:Nat):List Int:=((data.drop (t*size)).take size)++List.replicate (size-((data.drop (t*size)).take size).length) 0
abbrev enW (p m:Nat) (md:List Int) (N:Nat) (Aa:List (List Int)) (full:List Int) (j:Nat):List Int:=cbP p m md N ((full.drop (j*Aa.length)).take Aa.length) Aa
def enT (p m:Nat) (md:List Int) (N:Nat) (Aa:List (List Int)) (W:Nat) (full:List Int) (b:Nat):List Int:=(List.range W).map fun j=>Bm (enW p m md N Aa full j) b
def Wn (p m:Nat) (md:List Int) (N:Nat) (Aa:List (List Int)) (W:Nat) (full:List Int):List (List Int):=(List.range N).map (enT p m md N Aa W full)
def enK (p m:Nat) (md:List Int) (N:Nat) (Aa:List (List Int)) (W:Nat) (data:List Int) (t:Nat):List (List (List Int)):=(List.range t).map fun i=>Wn p m md N Aa W (Np data (Aa.length*W) i)
def enU (p m:Nat) (md:List Int) (N:Nat) (Aa:List (List Int)) (W:Nat) (full:List Int) (j b k:Nat):List Int:=(enT p m md N Aa W full k).take (if k<b then j+1 else j)++List.replicate (W-(if k<b then j+1 else j)) 0
section
variable {p m N W j k b:Nat}{md full:List Int}{Aa:List (List Int)}
theorem ABW:(enT p m md N Aa W full k).length=W:=by rw [enT,List.length_map,List.length_range]
theorem AEF (hj:j+1≤W∨k ≥ b∧j≤W):(enU p m md N Aa W full j b k).length=W:=by
 rw [enU,List.length_append,List.length_take,List.length_replicate,ABW]
 split <;> omega
theorem AJm (hj:j<W):(enU p m md N Aa W full j k k).set j (Bm (enW p m md N Aa full j) k)=enU p m md N Aa W full j (k+1) k:=by
 rw [enU,enU,if_neg (by omega),if_pos (by omega)]
 exact take_set (by rw [enT,List.getElem?_map,List.getElem?_range hj];rfl) hj
theorem AIj:Gb (enU p m md N Aa W full j k) k (enU p m md N Aa W full j (k+1) k)=enU p m md N Aa W full j (k+1):=by
 funext t
 by_cases h:t=k
 ·subst h;rw [Cs]
 ·rw [D9 h,enU,enU]
  by_cases h2:t<k
  ·rw [if_pos h2,if_pos (by omega)]
  ·rw [if_neg h2,if_neg (by omega)]
theorem Zo {data:List Int}{size t:Nat}:(Np data size t).length=size:=by
 rw [Np,List.length_append,List.length_replicate,List.length_take];omega
theorem AE4 {data:List Int}{size t q:Nat}(hq:0<q) (h:∀ x∈data,0≤x∧x<(q:Int)):∀ x∈Np data size t,0≤x∧x<(q:Int):=fun x hx=>by
 rcases List.mem_append.1 hx with hx|hx
 ·exact h x (List.mem_of_mem_drop (List.mem_of_mem_take hx))
 ·rw [(List.mem_replicate.1 hx).2];omega
theorem AHa {data:List Int}{t:Nat}:enK p m md N Aa W data (t+1)=enK p m md N Aa W data t++[Wn p m md N Aa W (Np data (Aa.length*W) t)]:=by
 rw [enK,List.range_succ,List.map_append];rfl
end
noncomputable def enE (P M:Int) (md:List Int) (N:Int) (Aa:List (List Int)) (dd:Int) (sets:List (List Int)) (racks:List Int) (W:Int) (data:List Int):Int :=
 if Zq P M md N Aa dd sets racks W≠0 then Zq P M md N Aa dd sets racks W else if 64*(Aa.length*W)<data.length then 8 else if ¬ ∀ x∈data,0≤x∧x<((P.toNat ^ M.toNat:Nat):Int) then 2 else 0
def cnL (len size:Nat):Nat:=(len+size-1) / size
theorem AKc {len size t:Nat}(h0:0<size) (h1:len≤t*size) (h2:t=0∨(t-1)*size<len):t=cnL len size:=by
 rw [cnL]
 symm
 refine Nat.div_eq_of_lt_le ?_ ?_
 ·cases t with
  | zero=>rw [Nat.zero_mul];omega
  | succ u =>
   rcases h2 with h2|h2
   ·cases h2
   ·rw [Nat.add_sub_cancel] at h2
    rw [Nat.add_mul,Nat.one_mul];omega
 ·rw [Nat.add_mul,Nat.one_mul];omega
section
variable {P M N dd W e:Int}{n c nm cm nt ct nr cr nb cb:Nat}{pm ps pt pr pb:Option Addr}{md racks data:List Int}{Aa sets:List (List Int)}
abbrev EnQ (S:List (List (List Int))) (e:Int):Value→List Fact→List Ba→Prop:=fun v Φ β=>∃ (pb:Option Addr) (cb:Nat),v = .tuple #[.slice pb S.length cb,.int .i64 e]∧Φ=[Aw (Ai (Ai Ao)) pb S.length cb S]∧β=[]
theorem Ku (hN:Ca .i64 N) (hd:Ca .i64 dd) (h:enE P M md N Aa dd sets racks W data=e) (he:e≠0):Bk Tryz.prog 18 [.agg (ADN P M pm nm cm N ps n c dd pt nt ct pr nr cr W).toArray,.slice pb nb cb] [] [Aw Ao pm nm cm md,Aw (Ai Ao) ps n c Aa,Aw (Ai Ao) pt nt ct sets,Aw Ao pr nr cr racks,Aw Ao pb nb cb data] (EnQ [] e):=by
 refine Ad (F:=Hz) rfl fun C=>?_
 refine Ay 1 rfl fun hn hb1 _=>?_
 subst hn
 refine Ay 4 rfl fun hn hb _=>?_
 subst hn
 refine Ff (Aw (Ai (Ai Ao)) none 0 0 []) (fun w A _=>F7 _ w A none 0) ?_
 have hb':data.length*8≤140737488355328:=hb
 have hcr:=AE0 (P:=P) (M:=M) (N:=N) (dd:=dd) (md:=md) (Aa:=Aa) (sets:=sets) (racks:=racks) (W:=W)
 have Bo:=fun {n c nm cm nt ct nr cr:Nat}{pm ps pt pr:Option Addr}=>F2 (P:=P) (M:=M) (N:=N) (dd:=dd) (md:=md) (Aa:=Aa) (sets:=sets) (racks:=racks) (W:=W) (n:=n) (c:=c) (nm:=nm) (cm:=cm) (nt:=nt) (ct:=ct) (nr:=nr) (cr:=cr) (pm:=pm) (ps:=ps) (pt:=pt) (pr:=pr) hN hd rfl
 rw [enE] at h
 by_cases h0:Zq P M md N Aa dd sets racks W=0
 ·rw [if_neg (fun e=>e h0)] at h
  rw [h0] at Bo
  obtain ⟨p,m,n',rfl,rfl,rfl,K⟩:=AEY h0
  have hln:=K.CC.len
  have hw1:=K.w1
  have hw2:=K.w2
  obtain ⟨w,rfl⟩:=Int.eq_ofNat_of_zero_le (show 0≤W by omega)
  rw [Int.toNat_natCast,Int.toNat_natCast] at h
  obtain ⟨sz,hsz⟩:∃ sz,Aa.length*w=sz:=⟨_,rfl⟩
  have hsz2:sz≤64*16:=by rw [← hsz];exact Nat.mul_le_mul hln (by omega)
  have hszi:(Aa.length:Int)*(w:Int)=(sz:Int):=by rw [← hsz,Int.natCast_mul]
  rw [hszi] at h
  by_cases h1:64*(sz:Int)<data.length
  ·rw [if_pos h1] at h
   subst h
   refine wk 5 cz ?_
   intro b1
   refine Ab rfl (Ae [1,2,3,4] rfl (Bo) rfl ?_)
   rintro _ _ _ ⟨rfl,rfl,rfl⟩
   simp only [List.cons_append,List.nil_append]
   refine wk 25 cz ?_
   intro h2 h3
   refine Cn [0] rfl rfl rfl ⟨_,_,rfl,rfl,rfl⟩
  ·rw [if_neg h1] at h
   have Bg:=fun {nm cm n c:Nat}{pm ps:Option Addr}=>Ep (nm:=nm) (cm:=cm) (n:=n) (c:=c) (pm:=pm) (ps:=ps) (l:=data) K.CC.K
   by_cases hr:∀ x∈data,0≤x∧x<((p ^ m:Nat):Int)
   ·rw [if_neg (fun hh=>hh hr)] at h
    exact absurd h.symm he
   ·rw [N2,if_neg hr] at Bg
    rw [if_pos hr] at h
    subst h
    refine wk 5 cz ?_
    intro b1
    refine Ab rfl (Ae [1,2,3,4] rfl (Bo) rfl ?_)
    rintro _ _ _ ⟨rfl,rfl,rfl⟩
    simp only [List.cons_append,List.nil_append]
    refine wk 27 cz ?_
    intro h2 h3
    refine Ab rfl (Ae [5] rfl (Bg) rfl ?_)
    rintro _ _ _ ⟨rfl,rfl,rfl⟩
    simp only [List.cons_append,List.nil_append]
    simp only [decide_true]
    refine wk 8 cz ?_
    intro h4
    refine Cn [0] rfl rfl rfl ⟨_,_,rfl,rfl,rfl⟩
 ·rw [if_pos h0] at h
  subst h
  refine wk 5 cz ?_
  intro b1
  refine Ab rfl (Ae [1,2,3,4] rfl (Bo) rfl ?_)
  rintro _ _ _ ⟨rfl,rfl,rfl⟩
  simp only [List.cons_append,List.nil_append]
  refine wk 8 cz ?_
  intro h1
  refine Cn [0] rfl rfl rfl ⟨_,_,rfl,rfl,rfl⟩
end
section
variable {p m N w n c nm cm nt ct nr cr nb cb:Nat}{dd:Int}{pm ps pt pr pb:Option Addr}{md racks data:List Int}{Aa sets:List (List Int)}
theorem Le (hd:Ca .i64 dd) (h0:Zq p m md N Aa dd sets racks w=0) (K:CfOk p m md N Aa dd sets racks w) (h1:data.length≤64*(Aa.length*w)) (hr:∀ x∈data,0≤x∧x<((p ^ m:Nat):Int)):Bk Tryz.prog 18 [.agg (ADN p m pm nm cm N ps n c dd pt nt ct pr nr cr w).toArray,.slice pb nb cb] [] [Aw Ao pm nm cm md,Aw (Ai Ao) ps n c Aa,Aw (Ai Ao) pt nt ct sets,Aw Ao pr nr cr racks,Aw Ao pb nb cb data] (EnQ (enK p m md N Aa w data (cnL data.length (Aa.length*w))) 0):=by
 refine Ad (F:=Hz) rfl fun C=>?_
 refine Ay 1 rfl fun hn hb1 _=>?_
 subst hn
 refine Ay 4 rfl fun hn hb _=>?_
 subst hn
 have h64:=K.CC.n64
 have hln:=K.CC.len
 have hw1:=K.w1
 have hw2:=K.w2
 have hk1:=K.k1
 have hq2:=(Is K.CC.K).q2
 have hq:=K.CC.K.q
 have Bo:=fun {n c nm cm nt ct nr cr:Nat}{pm ps pt pr:Option Addr}=>F2 (P:=p) (M:=m) (N:=N) (dd:=dd) (md:=md) (Aa:=Aa) (sets:=sets) (racks:=racks) (W:=w) (n:=n) (c:=c) (nm:=nm) (cm:=cm) (nt:=nt) (ct:=ct) (nr:=nr) (cr:=cr) (pm:=pm) (ps:=ps) (pt:=pt) (pr:=pr) (by simp only [Ca];omega) hd h0
 have Bg:=fun {nm cm n c:Nat}{pm ps:Option Addr}=>Ep (nm:=nm) (cm:=cm) (n:=n) (c:=c) (pm:=pm) (ps:=ps) (l:=data) K.CC.K
 rw [N2,if_pos hr] at Bg
 obtain ⟨sz,hsz⟩:∃ sz,Aa.length*w=sz:=⟨_,rfl⟩
 have hsz2:sz≤64*16:=by rw [← hsz];exact Nat.mul_le_mul hln (by omega)
 have hsz1:1≤sz:=by rw [← hsz];exact Nat.mul_pos (by omega) (by omega)
 have hszi:(Aa.length:Int)*(w:Int)=(sz:Int):=by rw [← hsz,Int.natCast_mul]
 rw [hsz] at h1 ⊢
 have hKs:∀ t,enK p m md N Aa w data (t+1)=enK p m md N Aa w data t++[Wn p m md N Aa w (Np data sz t)]:=fun t=>by rw [AHa,hsz]
 have hKl:∀ t,(enK p m md N Aa w data t).length=t:=fun t=>by rw [enK,List.length_map,List.length_range]
 refine wk 5 cz ?_
 intro b1
 refine Ab rfl (Ae [0,1,2,3] rfl (Bo) rfl ?_)
 rintro _ _ _ ⟨rfl,rfl,rfl⟩
 simp only [List.cons_append,List.nil_append]
 refine wk 27 cz ?_
 intro h2 h3
 refine Ab rfl (Ae [4] rfl (Bg) rfl ?_)
 rintro _ _ _ ⟨rfl,rfl,rfl⟩
 simp only [List.cons_append,List.nil_append]
 simp only [decide_true]
 refine wk 11 cz ?_
 intro h4 b2
 (apply Hw (E:=Ai (Ai Ao)) (n:=0) (cs:=[]) [] [] 0 (fun w A hG=>Cp);(· rfl);(· rfl);(· rfl);(· rfl);(· decide))
 rw [hszi]
 have hN1:=K.CC.n1
 refine Af (X:=Nat×Row) [1,2,4,5,7,8] [0,1,2,3,4,5] (fun z=>[(10,.int .i64 ((sz*z.1:Nat):Int)),(9,.slice (ad z.2.bo) z.1 z.2.cap)]) (fun z=>(z.2.bo,25,z.2.cs)::_) (fun z=>[A3 (Ai (Ai Ao)) z.2 z.1 (enK p m md N Aa w data z.1)]) (fun z=>z.1=0∨(z.1-1)*sz<data.length) (fun z=>data.length-z.1*sz) (0,⟨some b2,0,[]⟩) [0] rfl rfl rfl (.inl rfl) (by repeat (first|exact Fr.sub_nil _|refine Fr.sub_cons rfl ?_)) rfl rfl ?_
 rintro ⟨t,r⟩ ht ih
 simp only [List.cons_append,List.nil_append] at ht ih ⊢
 obtain ⟨fr,hfr⟩:∃ fr,t*sz=fr:=⟨_,rfl⟩
 have hfr2:sz*t=fr:=by rw [Nat.mul_comm,hfr]
 have htf:t≤fr:=by rw [← hfr];exact Nat.le_mul_of_pos_right t (by omega)
 by_cases htl:fr<data.length
 ·have hs1:(t+1)*sz=fr+sz:=by rw [Nat.add_mul,Nat.one_mul,hfr]
  have ih1:=fun r=>ih (t+1,r) (by dsimp only;rw [hs1,hfr];omega) (.inr (by dsimp only;rw [Nat.add_sub_cancel,hfr];exact htl))
  dsimp only at ih1
  rw [Nat.mul_comm sz,hs1,hKs] at ih1
  clear ih
  rw [hfr2]
  refine wk 10 cz ?_
  intro h5 b3
  refine Ab rfl (AFa rfl rfl ?_)
  refine Ab rfl (Zc 6 ((fr)) (((if ↑data.length<↑fr+↑sz then ↑data.length else ↑fr+↑sz:Int).toNat)) rfl rfl rfl rfl B6 (by omega) (by omega) (by omega) (by omega) fun pa1=>?_)
  (apply Hw (E:=Bt IntKind.i64 8) (n:=0) (cs:=[]) [] [] 0 (fun w A hG=>Cp);(· rfl);(· rfl);(· rfl);(· rfl);(· decide))
  refine Ab rfl (Uf 0 0 1 rfl rfl rfl rfl rfl B6 E3 rfl (by omega) _ F4 (by omega) fun r1=>?_)
  refine wk 2 cz ?_
  obtain ⟨u,hu⟩:∃ u,(data.drop fr).take sz=u:=⟨_,rfl⟩
  have hul:u.length=if data.length<fr+sz then data.length-fr else sz:=by
   rw [← hu,List.length_take,List.length_drop];split <;> omega
  have hful:Np data sz t=u++List.replicate (sz-u.length) 0:=by rw [Np,hfr,hu]
  have hH:(if data.length<fr+sz then (data.length:Int) else (fr:Int)+(sz:Int)).toNat=fr+u.length:=by
   rw [hul];split <;> omega
  have hHl:(data.take (fr+u.length)).drop fr=u:=by
   rw [List.drop_take,Nat.add_sub_cancel_left,← hu,List.length_take,List.take_eq_take_iff,List.length_drop];omega
  rw [hH,hHl,Nat.add_sub_cancel_left,List.nil_append,Nat.zero_add]
  have hu1:u.length≤sz:=by rw [hul];split <;> omega
  simp only [List.eraseIdx_cons_zero]
  refine Af (X:=Row×List Int) [1,2,4,5,7,8,9,10,44,45,46,47,51,52,53,54,55,56,57,58,59,60,61] [0,1,2,3,4,5,6,7,8,9] (fun z=>[(11,.slice (ad z.1.bo) z.2.length z.1.cap)]) (fun z=>(z.1.bo,3,z.1.cs)::_) (fun z=>[A3 Ao z.1 z.2.length z.2]) (fun z=>z.2.length≤sz∧∃ k,z.2=u++List.replicate k 0) (fun z=>sz-z.2.length) (r1,u) [0] rfl rfl rfl ⟨hu1,0,by simp⟩ (by repeat (first|exact Fr.sub_nil _|refine Fr.sub_cons rfl ?_)) rfl rfl ?_
  rintro ⟨q,y⟩ ⟨hz,k,hy⟩ ihz
  simp only [List.cons_append,List.nil_append] at hz hy ihz ⊢
  by_cases hzs:y.length<sz
  ·have ih2:=fun q=>ihz (q,y++[0]) (by dsimp only;rw [List.length_append,List.length_singleton];omega) (by dsimp only;exact ⟨by rw [List.length_append,List.length_singleton];omega,k+1,by rw [hy,List.replicate_succ',List.append_assoc]⟩)
   dsimp only at ih2
   rw [List.length_append,List.length_singleton] at ih2
   clear ihz hy
   refine wk 9 cz ?_
   intro h6 b4
   refine Ab rfl (Fq (z:=(0:Int)) 1 0 0 rfl rfl rfl rfl rfl B6 E3 rfl (fun w A hG=>(Dv (by first|(simp only [Ca];omega)|(simp [Ca];done)))) (by omega) _ F4 (by omega) fun r2=>?_)
   refine wk 2 cz ?_
   refine Jr [true,false,true,true] [0,2,3,4,5,6,7,8,9,10,11] (by exact Tx rfl) rfl rfl (ih2 r2)
  ·have hyl:y.length=u.length+k:=by rw [hy,List.length_append,List.length_replicate]
   clear ihz
   obtain rfl:y=Np data sz t:=by rw [hful,hy,show k=sz-u.length by omega]
   rw [Zo]
   clear hyl hzs hz hy hHl hH
   have hfw:=AE4 (data:=data) (size:=sz) (t:=t) (show 0<p ^ m by omega) hr
   have hfl:=Zo (data:=data) (size:=sz) (t:=t)
   generalize Np data sz t=full at *
   refine Dc 0 0 rfl rfl (by show sz*8≤140737488355328;omega) ?_
   simp only [List.eraseIdx_cons_zero]
   have hcw:∀ j,j<w→Wd (p ^ m) N (enW p m md N Aa full j):=fun j hj=>by
    refine (Hq K.CC.K).cmb_wd (fun a ha=>hfw a (List.mem_of_mem_drop (List.mem_of_mem_take ha))) K.CC.mat
   have hjk:∀ j,j<w→j*Aa.length+Aa.length≤sz:=fun j hj=>by
    have h2:(j+1)*Aa.length≤w*Aa.length:=Nat.mul_le_mul_right _ hj
    rw [Nat.add_mul,Nat.one_mul,Nat.mul_comm w,hsz] at h2
    exact h2
   refine wk 10 cz ?_
   intro h6
   refine Ab rfl (Yh (N) _ rfl rfl Du Vi rfl rfl W1 (by omega) (by omega) (by omega) fun b4=>?_)
   refine wk 4 cz ?_
   refine AHi 0 rfl (by omega) fun csA=>?_
   refine X5 Ao 3 0 ?_
   simp only [setB,List.cons_append,List.nil_append]
   refine Cf (fun _=>List.replicate w 0) 0 rfl (fun g hg=>absurd hg (Nat.not_lt_zero g)) ?_
   refine Af (X:=Nat×List Value×(Nat→Hd)×(Nat→List Value)) [1,2,4,5,7,8,9,10,11,12,44,45,46,47,51,52,53,54,55,56,57,58,59,60,61,62,63,64,65,69,70,71,72] [0,1,2,3,4,5,6,7,8,9,10,11,12,13,14] (fun x=>[(13,.int .i64 (x.1:Int))])
    (fun x=>(some b4,22,x.2.1)::_::_::Dg 3 x.2.2.1 x.2.2.2 x.1 [])
    (fun x=>[A3 Rp ⟨some b4,N,x.2.1⟩ N (J4 x.2.2.1 N),Ee Ao x.2.2.1 x.2.2.2 (fun _=>List.replicate w 0) x.1 []])
    (fun x=>x.1≤N) (fun x=>N-x.1) (0,csA,fun _=>(none,0,0),fun _=>[]) [2,0] rfl rfl rfl (Nat.zero_le _) (by repeat (first|exact Fr.sub_nil _|refine Fr.sub_cons rfl ?_)) rfl rfl ?_
   rintro ⟨k,hc,hd,cs⟩ hk ih
   simp only [List.cons_append,List.nil_append] at hk ih ⊢
   by_cases hkN:k<N
   ·have ih2:=fun hc hd cs=>ih (k+1,hc,hd,cs) (by dsimp only;omega) (by dsimp only;omega)
    dsimp only at ih2
    clear ih ih1
    refine wk 14 cz ?_
    intro h7 b5
    refine Ab rfl (Hv (vs:=[Value.slice (some { block:=b5,off:=0 }) w w]) (z:=(some b5,w,w)) 1 0 (k) rfl rfl rfl rfl rfl C8 (Nat.mul_one _).symm (by omega) (fun w A hG=>(Wz (some _) _ _)) fun cs1=>?_)
    refine wk 3 cz ?_
    rw [Qf,show An .i64 (List.replicate w 0)=Al .i64 (List.replicate w 0) by simp [An,Al]]
    refine G5 0 rfl List.length_replicate.symm (fun z hz=>by rw [(List.mem_replicate.1 hz).2];simp only [Ca];omega) (by omega) ?_
    refine AHo 3 0 0 3 rfl rfl rfl rfl ?_
    simp only [List.eraseIdx_cons_zero,List.eraseIdx_cons_succ,List.take_succ_cons,List.take_zero,List.cons_append,List.nil_append]
    refine Cf (fun _=>List.replicate w 0) 0 rfl (fun g hg=>by
     by_cases e:g=k
     ·subst e;rw [Cs]
     ·rw [D9 e]) ?_
    exact tw (ih2 cs1 (Gb hd k (some b5,w,w)) (Gb cs k (Al .i64 (List.replicate w 0))))
   ·obtain rfl:k=N:=by omega
    clear ih
    refine Cf (enU p m md k Aa w full 0 0) 1 rfl (fun t ht=>by rw [enU,if_neg (by omega),List.take_zero,List.nil_append,Nat.sub_zero]) ?_
    refine wk 11 cz ?_
    intro h7
    refine Af (X:=Nat×List Value×(Nat→Hd)×(Nat→List Value)) [1,2,4,5,7,8,9,10,11,12,13,44,45,46,47,51,52,53,54,55,56,57,58,59,60,61,62,63,64,65,69,70,71,72,73,74,75,76,77] [0,1,2,3,4,5,6,7,8,9,10,11,12,13,14,15,16,17] (fun x=>[(14,.int .i64 (x.1:Int))])
     (fun x=>(some b4,22,x.2.1)::_::_::Dg 3 x.2.2.1 x.2.2.2 k [])
     (fun x=>[A3 Rp ⟨some b4,k,x.2.1⟩ k (J4 x.2.2.1 k),Ee Ao x.2.2.1 x.2.2.2 (enU p m md k Aa w full x.1 0) k []])
     (fun x=>x.1≤w) (fun x=>w-x.1) (0,hc,hd,cs) [1,0] rfl rfl rfl (Nat.zero_le _) (by repeat (first|exact Fr.sub_nil _|refine Fr.sub_cons rfl ?_)) rfl rfl ?_
    rintro ⟨j,cA,hd,cs⟩ hj ih
    simp only [List.cons_append,List.nil_append] at hj ih ⊢
    by_cases hjW:j<w
    ·have hjk1:=hjk j hjW
     have e1:(j:Int)*(Aa.length:Int)=((j*Aa.length:Nat):Int):=by rw [Int.natCast_mul]
     have e2:((j:Int)+1)*(Aa.length:Int)=(((j+1)*Aa.length:Nat):Int):=by rw [Int.natCast_mul];rfl
     have e3:(j+1)*Aa.length=j*Aa.length+Aa.length:=by rw [Nat.add_mul,Nat.one_mul]
     have hxe:(full.take ((j+1)*Aa.length)).drop (j*Aa.length)=(full.drop (j*Aa.length)).take Aa.length:=by rw [List.drop_take,e3,Nat.add_sub_cancel_left]
     have hxw:Wd (p ^ m) Aa.length ((full.take ((j+1)*Aa.length)).drop (j*Aa.length)):=⟨by rw [List.length_drop,List.length_take];omega,fun a ha=>hfw a (List.mem_of_mem_take (List.mem_of_mem_drop ha))⟩
     have Hl:=fun {nm cm nx cx n c:Nat}{pm px ps:Option Addr}=>M9 (nm:=nm) (cm:=cm) (nx:=nx) (cx:=cx) (n:=n) (c:=c) (pm:=pm) (px:=px) (ps:=ps) K.CC.K (show k≤1000000 by omega) K.CC.mat hxw
     rw [show cbP p m md k ((full.take ((j+1)*Aa.length)).drop (j*Aa.length)) Aa=enW p m md k Aa full j from by rw [hxe]] at Hl
     have hcwl:=(hcw j hjW).1
     have ih2:=fun cA hd cs=>ih (j+1,cA,hd,cs) (by dsimp only;omega) (by dsimp only;omega)
     dsimp only at ih2
     clear ih ih1
     refine wk 8 cz ?_
     intro h8
     (apply B9 it mx 19;(· rfl);(· rfl))
     (apply Ac;(· rfl);(· exact Bc fun _=>As rfl Sm Ag))
     (apply Ac;(· rfl);(· exact Bc fun _=>As rfl ABb Ag))
     (apply Ac;(· rfl);(· exact L0 2 rfl rfl T4 rfl rfl))
     (apply Am 8;(· rfl);(· exact ⟨⟨by omega,by omega⟩,trivial,⟨by omega,by omega⟩,trivial,⟨by omega,by omega⟩,trivial,trivial,trivial,trivial⟩))
     (apply Co;(· rfl);(· exact Bc fun _=>Zc 8 (((j)*(Aa.length))) ((((j)+1)*(Aa.length))) rfl rfl rfl rfl B6 (by omega) (by omega) (by omega) (by omega) fun pa2=>(D6 0 rfl));intro pa2 ca1)
     (apply Ac;(· rfl);(· exact Bc fun _=>As rfl Sm Ag))
     (apply Ac;(· rfl);(· exact Bc fun _=>As rfl Y0 Ag))
     (apply Ac;(· rfl);(· exact Be 2 rfl rfl Lf rfl))
     (apply Ac;(· rfl);(· exact Bc fun _=>As rfl Sm Ag))
     (apply Ac;(· rfl);(· exact Bc fun _=>As rfl P5 Ag))
     (apply Ac;(· rfl);(· exact Be 2 rfl rfl Bz rfl))
     (apply Co;(· rfl);(· exact Bc fun _=>Ae [16,0,17] rfl (Hl) rfl (by rintro _ _ _ ⟨pb1,cb1,rfl,rfl,rfl⟩;exact (D6 0 rfl)));intro pa3 ca2)
     refine Bx rfl ?_
     simp only [List.map_cons,List.map_nil,List.cons_append,List.nil_append]
     refine wk 4 cz ?_
     refine Af (X:=Nat×List Value×(Nat→Hd)×(Nat→List Value)) [1,2,4,5,7,8,9,10,11,12,13,14,15,44,45,46,47,51,52,53,54,55,56,57,58,59,60,61,62,63,64,65,69,70,71,72,73,74,75,76,77,86,87,88,89,92,93,94,95,96,97,98,99,100,101,102,103,104,105,106,107,108,109,110] [0,1,2,3,4,5,6,7,8,9,10,11,12,13,14,15,16,17,18,19,20,21] (fun x=>[(16,.int .i64 (x.1:Int))])
      (fun x=>(some b4,22,x.2.1)::_::_::Dg 3 x.2.2.1 x.2.2.2 k [])
      (fun x=>[A3 Rp ⟨some b4,k,x.2.1⟩ k (J4 x.2.2.1 k),Ee Ao x.2.2.1 x.2.2.2 (enU p m md k Aa w full j x.1) k []])
      (fun x=>x.1≤k) (fun x=>k-x.1) (0,cA,hd,cs) [2,3] rfl rfl rfl (Nat.zero_le _) (by repeat (first|exact Fr.sub_nil _|refine Fr.sub_cons rfl ?_)) rfl rfl ?_
     rintro ⟨a,cA,hd,cs⟩ ha iha
     simp only [List.cons_append,List.nil_append] at ha iha ⊢
     by_cases hak:a<k
     ·have hfl2:(enU p m md k Aa w full j a a).length=w:=AEF (.inl (by omega))
      refine G9 1 rfl fun hlen=>?_
      have hN':(hd a).2.1=w:=by rw [hlen a hak rfl,hfl2]
      have at_x:(enW p m md k Aa full j)[a]?=some (Bm (enW p m md k Aa full j) a):=by rw [Bm,List.getD_eq_getElem?_getD,List.getElem?_eq_getElem (by omega)];rfl
      have hxr:=A6 (show 0<p ^ m by omega) (hcw j hjW) a
      have hgx:=Ix at_x
      refine Fi 3 (a) 1 (w) rfl rfl (by first|assumption|omega) (by first|rfl|assumption|(simp [Av,Br];done)|(simp [Av,Br];omega)) (by first|assumption|omega) fun r2 hr1=>?_
      simp only [List.take_succ_cons,List.take_zero,List.cons_append,List.nil_append]
      refine wk 10 cz ?_
      intro h9 b5 o1
      refine Dh 1 rfl (by omega) fun b6 cap1 cs1 hr2=>?_
      subst hr2
      dsimp only
      refine wk 1 cz ?_
      refine Ab rfl (Hv (vs:=[Value.int IntKind.i64 ((enW p m md k Aa full j).getD a default)]) (z:=((enW p m md k Aa full j).getD a default:Int)) 0 1 (j) rfl rfl rfl rfl rfl Bz (Nat.mul_one _).symm (by omega) (fun w A hG=>(Dv (by first|(simp only [Ca];omega)|(simp [Ca];done)))) fun cs2=>?_)
      refine wk 3 cz ?_
      rw [hgx,AJm hjW]
      refine Cu 3 (a) 0 0 3 rfl rfl rfl rfl (by first|assumption|omega) (by first|rfl|assumption|(simp [Av,Br];done)|(simp [Av,Br];omega)) ?_
      simp only [List.eraseIdx_cons_zero,List.eraseIdx_cons_succ,List.take_succ_cons,List.take_zero,List.cons_append,List.nil_append]
      rw [AIj,H8 (Kp hr1 hak)]
      exact tw (iha (a+1,cA,hd,Gb cs a cs2) (by dsimp only;omega) (by dsimp only;omega))
     ·obtain rfl:a=k:=by omega
      clear iha
      refine wk 11 cz ?_
      intro h9
      refine Cf (enU p m md a Aa w full (j+1) 0) 1 rfl (fun z hz=>by rw [enU,enU,if_pos hz,if_neg (by omega)]) ?_
      exact tw (ih2 cA hd cs)
    ·obtain rfl:j=w:=by omega
     clear ih
     refine G9 1 rfl fun hlen=>?_
     refine S8 3 0 0 1 rfl rfl rfl rfl (fun i hi=>by rw [hlen i hi rfl,AEF (.inr ⟨Nat.zero_le _,Nat.le_refl _⟩)];show j*8≤_;omega) ?_
     simp only [List.take_succ_cons,List.take_zero]
     refine X2 0 0 rfl rfl (by show k*24≤140737488355328;omega) ?_
     simp only [List.eraseIdx_cons_zero,List.eraseIdx_cons_succ]
     rw [show (List.range k).map (enU p m md k Aa j full j 0)=Wn p m md k Aa j full from List.map_congr_left fun b hb=>by
      rw [enU,if_neg (by omega),Nat.sub_self,List.replicate_zero,List.append_nil,List.take_of_length_le (by rw [ABW];omega)]]
     have htb:t≤data.length:=by omega
     refine wk 10 cz ?_
     intro h8 b5
     refine Ab rfl (Fq (z:=Wn p m md k Aa j full) 1 0 15 rfl rfl rfl rfl rfl AL7 ALw rfl (fun w A hG=>(C0 (hG _ (Ap (n:=0) rfl)))) (by omega) _ ALi (by omega) fun r2=>?_)
     refine wk 4 cz ?_
     refine Jr [true,false,true] [0,17,18,19,20,21,22] (by exact Tx rfl) rfl rfl (ih1 r2)
 ·have htb:t≤data.length+1:=by
   rcases ht with h|h
   ·omega
   ·have:=Nat.le_mul_of_pos_right (t-1) (show 0<sz by omega);omega
  have htc:t=cnL data.length sz:=AKc (by omega) (by rw [hfr];omega) ht
  clear ih
  subst htc
  rw [hfr2]
  refine wk 9 cz ?_
  intro h5
  refine Dc 0 0 rfl rfl (by show _*24≤140737488355328;omega) ?_
  simp only [List.eraseIdx_cons_zero,List.eraseIdx_cons_succ]
  have hkk:=hKl (cnL data.length sz)
  generalize enK p m md N Aa w data (cnL data.length sz)=S at *
  rw [← hkk]
  refine Cn [0] rfl rfl rfl ⟨_,_,rfl,rfl,rfl⟩
end
open Go Go.Fw
set_option maxRecDepth 100000
set_option linter.unusedVariables false
set_option linter.unusedSimpArgs false
set_option maxHeartbeats 0
theorem AB3 {p m nm cm:Nat}{md:List Int}{pm:Option Addr}(K:Fok p m md) {x:Int}:Bk Tryz.prog 88 [.agg #[.int .i64 p,.int .i64 m,.slice pm nm cm],.int .i64 x] [] [] (OvI 3 m (Ct p m (inI ((p ^ m:Nat):Int) x).toNat)):=by
 refine Ad (F:=H0) rfl fun C=>?_
 have h1:=K.p2
 have h2:=K.p256
 have h3:=K.m8
 have h4:=K.q
 have hp:0<p ^ m:=Nat.pow_pos (by omega)
 have hr:=ABf (q:=((p ^ m:Nat):Int)) (x:=x) (by omega)
 have hi:inI (Iz (p:Int) (m:Int)) x=(((inI ((p ^ m:Nat):Int) x).toNat:Nat):Int):=by rw [K.ord];omega
 generalize inI ((p ^ m:Nat):Int) x=X at *
 have hx:X.toNat≤1000000000:=by omega
 have E7:=@Hs
 refine wk 4 cz ?_
 intro b1
 (apply B9 it mx 7;(· rfl);(· rfl))
 (apply Ac;(· rfl);(· exact B4 0 rfl rfl T4 rfl))
 (apply Am 1;(· rfl);(· simp))
 (apply Ac;(· rfl);(· exact Bc fun _=>Ae [] rfl (Ko (by omega)) rfl (by rintro _ _ _ ⟨rfl,rfl,rfl⟩;exact Ag)))
 (apply Ac;(· rfl);(· exact Bc fun _=>As rfl R9 Ag))
 (apply Ac;(· rfl);(· exact Be 0 rfl rfl Bz rfl))
 (apply Ac;(· rfl);(· exact Bc fun _=>As rfl Ue Ag))
 (apply Ac;(· rfl);(· exact Be 0 rfl rfl Bz rfl))
 refine Bx rfl ?_
 simp only [List.map_cons,List.map_nil,List.cons_append,List.nil_append]
 refine wk 3 (ct @E7 cz) ?_
 intro b2
 refine B5 2 [0] [] rfl (.tmp rfl .nil) rfl rfl rfl ⟨_,rfl,rfl,rfl⟩
theorem AFo {p m nm cm:Nat}{md:List Int}{pm:Option Addr}(K:Fok p m md) {x y:Int} :
  Bk Tryz.prog 54 [.agg #[.int .i64 p,.int .i64 m,.slice pm nm cm],.int .i64 x,.int .i64 y] [] [] (Rv (.int .i64 (Ah (fA p m) (inI ((p ^ m:Nat):Int) x) (inI ((p ^ m:Nat):Int) y))) []):=by
 refine Ad (F:=Jo) rfl fun C=>?_
 have h1:=K.p2
 have h2:=K.p256
 have h3:=K.m8
 have h4:=K.q
 have C4:=fun {z Z:Int}(h:inI ((p ^ m:Nat):Int) z=Z)=>h▸@AB3 p m nm cm md pm K z
 generalize hX:inI ((p ^ m:Nat):Int) x=X at *
 generalize hY:inI ((p ^ m:Nat):Int) y=Y at *
 let T:List Nat:=(List.range m).map fun j=>((Ct p m X.toNat).getD j 0+(Ct p m Y.toNat).getD j 0) % p
 have lT:T.length=m:=by simp [T]
 have lx:=C7 p m X.toNat
 have ly:=C7 p m Y.toNat
 have eT:Fv p T=fA p m X.toNat Y.toNat:=by
  rw [fA,un]
  congr 1
  refine List.map_congr_left fun j hj=>?_
  have hj:=List.mem_range.1 hj
  rw [Mk hj,Mk hj,← Int.natCast_add,← Int.natCast_emod]
  exact (Int.toNat_natCast _).symm
 have rT:∀ d∈T,d<p:=fun d hd=>by
  obtain ⟨j,_,rfl⟩:=List.mem_map.1 hd
  exact Nat.mod_lt _ (by omega)
 have tz:∀ i,i<m→T[i]?=some (((Ct p m X.toNat).getD i 0+(Ct p m Y.toNat).getD i 0) % p):=fun i hi=>by
  rw [List.getElem?_map,List.getElem?_range hi];rfl
 have xr:=fun d hd=>I4 (p:=p) (n:=m) (x:=X.toNat) (by omega) d hd
 have yr:=fun d hd=>I4 (p:=p) (n:=m) (x:=Y.toNat) (by omega) d hd
 have eR:Ah (fA p m) X Y=((Fv p T:Nat):Int):=by rw [eT];rfl
 rw [eR]
 clear eR eT
 clear_value T
 have ep:p ^ T.length≤1000000:=by rw [lT];omega
 refine wk 16 (ct @C4 (ct @C4 cz)) ?_
 intro b1 b2 b3
 rw [show An .i64 (Ct p m X.toNat)=An .i64 (T.take 0++(Ct p m X.toNat).drop 0) by simp]
 refine Af (X:=Nat) [3,6,7,8] [] (fun i=>[(9,.int .i64 (i:Int))]) (fun i=>[(some b3,3,An .i64 (Ct p m Y.toNat)),(some b2,3,An .i64 (T.take i++(Ct p m X.toNat).drop i)),(some b1,24,[.int .i64 p,.int .i64 m,.slice pm nm cm])]) (fun _=>[]) (fun i=>i≤m) (fun i=>m-i) 0 [] rfl rfl rfl (Nat.zero_le _) (by repeat (first|exact Fr.sub_nil _|refine Fr.sub_cons rfl ?_)) rfl rfl ?_
 rintro i hi ih
 simp only [List.cons_append,List.nil_append] at hi ih ⊢
 by_cases hil:i<m
 ·have zx:(Ct p m X.toNat)[i]?=some ((Ct p m X.toNat).getD i 0):=by rw [List.getD_eq_getElem?_getD,List.getElem?_eq_getElem (by omega)];rfl
  have zy:(Ct p m Y.toNat)[i]?=some ((Ct p m Y.toNat).getD i 0):=by rw [List.getD_eq_getElem?_getD,List.getElem?_eq_getElem (by omega)];rfl
  have zt:=tz i hil
  have bx:=xr _ (List.mem_of_getElem? zx)
  have by':=yr _ (List.mem_of_getElem? zy)
  have ih':=ih (i+1) (by omega) (by omega)
  have zm:=(AD6 (T:=T) (D:=Ct p m X.toNat) lT lx hil).trans zx
  have lm:(T.take i++(Ct p m X.toNat).drop i).length=m:=by rw [List.length_append,List.length_take,List.length_drop];omega
  rw [← ABN lT lx hil zt] at ih'
  generalize (Ct p m X.toNat).getD i 0=u at *
  generalize (Ct p m Y.toNat).getD i 0=v at *
  have em:((u:Int)+(v:Int)) % (p:Int)=(((u+v) % p:Nat):Int):=by rw [← Int.natCast_add,← Int.natCast_emod]
  refine wk 13 cz ?_
  intro h5
  exact tw (ih')
 ·obtain rfl:i=m:=by omega
  clear ih
  rw [List.take_of_length_le (by omega),List.drop_of_length_le (by omega),List.append_nil,Ga .i64 T]
  refine wk 9 cz ?_
  intro h5
  refine Eh 8 (A7 T) 1 rfl (by rw [Bn,lT]) (Sv fun d hd=>by have:=rT d hd;omega) (by omega) (by omega) ?_
  simp only [List.eraseIdx_cons_zero,List.eraseIdx_cons_succ]
  refine wk 3 (ct @D4 cz) ?_
  exact ge
def adL (q:Nat) (A:Int→Int→Int) (a b:List Int):List Int:=List.zipWith (fun x y=>A (inI (q:Int) x) (inI (q:Int) y)) a b
theorem AHm {p m:Nat}{md a b:List Int}(K:Fok p m md) {N:Nat}(ha:a.length=N) (hb:b.length=N):Wd (p ^ m) N (adL (p ^ m) (Ah (fA p m)) a b):=by
 have hp:0<p ^ m:=Nat.pow_pos (by have:=K.p2;omega)
 refine ⟨by rw [adL,List.length_zipWith,ha,hb,Nat.min_self],fun x hx=>?_⟩
 rw [adL] at hx
 obtain ⟨i,hi⟩:=List.mem_iff_getElem?.1 hx
 rw [List.getElem?_zipWith] at hi
 cases h1:a[i]? with
 | none=>rw [h1] at hi;cases hi
 | some u =>
  cases h2:b[i]? with
  | none=>rw [h1,h2] at hi;cases hi
  | some v =>
   rw [h1,h2] at hi
   obtain rfl:_=x:=Option.some.inj hi
   have r1:=ABf (q:=((p ^ m:Nat):Int)) (x:=u) (by omega)
   have r2:=ABf (q:=((p ^ m:Nat):Int)) (x:=v) (by omega)
   exact K.fi.al _ _ r1.1 r1.2 r2.1 r2.2
theorem ABP {p m nm cm na ca nb cb:Nat}{pm pa pb:Option Addr}{a b md:List Int}(hne:nb≠na) :
  Bk Tryz.prog 24 [.agg #[.int .i64 p,.int .i64 m,.slice pm nm cm],.slice pa na ca,.slice pb nb cb] [] [Aw Ao pm nm cm md,Aw Ao pa na ca a,Aw Ao pb nb cb b] (Rv (.tuple #[.slice none 0 0,.int .i64 4]) []):=by
 refine Ad (F:=Jp) rfl fun C=>?_
 refine Ay 1 rfl fun hn hb1 _=>?_
 refine Ay 2 rfl fun hn2 hb2 _=>?_
 subst hn
 subst hn2
 have hb1':a.length*8≤140737488355328:=hb1
 have hb2':b.length*8≤140737488355328:=hb2
 have h1:((a.length:Int)≠(b.length:Int)):=by omega
 refine wk 14 cz ?_
 intro b1 h2
 exact ge
theorem AFt {p m nm cm na ca nb cb:Nat}{pm pa pb:Option Addr}{a b md:List Int}(K:Fok p m md) (hne:nb=na) :
  Bk Tryz.prog 24 [.agg #[.int .i64 p,.int .i64 m,.slice pm nm cm],.slice pa na ca,.slice pb nb cb] [] [Aw Ao pm nm cm md,Aw Ao pa na ca a,Aw Ao pb nb cb b] (WdQ na (adL (p ^ m) (Ah (fA p m)) a b)):=by
 refine Ad (F:=Jp) rfl fun C=>?_
 subst hne
 refine Ay 1 rfl fun hn hb _=>?_
 subst hn
 refine Ay 2 rfl fun hn2 _ _=>?_
 have hb':a.length*8≤140737488355328:=hb
 have hT:=AHm K rfl hn2.symm
 have Gj:=fun {nm cm:Nat}{pm:Option Addr}{x y:Int}=>AFo (nm:=nm) (cm:=cm) (pm:=pm) (x:=x) (y:=y) K
 have hq:=K.q
 have hTa:∀ (i:Nat) (x y:Int),a[i]?=some x→b[i]?=some y→(adL (p ^ m) (Ah (fA p m)) a b)[i]?=some (Ah (fA p m) (inI ((p ^ m:Nat):Int) x) (inI ((p ^ m:Nat):Int) y)):=fun i x y h1 h2=>by rw [adL,List.getElem?_zipWith,h1,h2]
 generalize adL (p ^ m) (Ah (fA p m)) a b=T at *
 generalize Ah (fA p m)=A0 at *
 generalize p ^ m=q at *
 have hTl:=hT.1
 refine wk 19 cz ?_
 intro b1 h1 b2
 rw [show An .i64 (List.replicate a.length 0)=Al .i64 (T.take 0++List.replicate (a.length-0) 0) by simp [An,Al]]
 refine Af (X:=Nat) [1,2,3,6,7,8] [0,1,2] (fun i=>[(9,.int .i64 (i:Int))]) (fun i=>(some b2,3,Al .i64 (T.take i++List.replicate (a.length-i) 0))::_) (fun _=>[]) (fun i=>i≤a.length) (fun i=>a.length-i) 0 [] rfl rfl rfl (Nat.zero_le _) (by repeat (first|exact Fr.sub_nil _|refine Fr.sub_cons rfl ?_)) rfl rfl ?_
 rintro i hi ih
 simp only [List.cons_append,List.nil_append] at hi ih ⊢
 by_cases h9:i<a.length
 ·obtain ⟨x,at_x⟩:∃ x,a[i]?=some x:=⟨_,List.getElem?_eq_getElem (by omega)⟩
  obtain ⟨y,at_y⟩:∃ y,b[i]?=some y:=⟨_,List.getElem?_eq_getElem (by omega)⟩
  have ex:a.getD i default=x:=by rw [List.getD_eq_getElem?_getD,at_x];rfl
  have ey:b.getD i default=y:=by rw [List.getD_eq_getElem?_getD,at_y];rfl
  have eT:=hTa i x y at_x at_y
  obtain ⟨t0,t1⟩:=hT.2 _ (List.mem_of_getElem? eT)
  have ih':=ih (i+1) (by omega) (by omega)
  have hln:(T.take i++List.replicate (a.length-i) 0).length=a.length:=by rw [List.length_append,List.length_take,List.length_replicate];omega
  rw [← ex,← ey] at eT t0 t1
  rw [← take_set eT h9] at ih'
  generalize T.take i++List.replicate (a.length-i) 0=L at *
  refine wk 13 (ct @Gj cz) ?_
  intro h2 b3 o1 b4 o2
  exact tw (ih')
 ·obtain rfl:i=a.length:=by omega
  clear ih
  rw [Nat.sub_self,List.replicate_zero,List.append_nil,List.take_of_length_le (by omega)]
  refine Eh (kd:=.i64) 8 T 0 rfl hTl.symm (fun z hz=>by have:=hT.2 z hz;simp only [Ca];omega) (by omega) (by omega) ?_
  simp only [List.eraseIdx_cons_zero,List.eraseIdx_cons_succ]
  refine wk 9 cz ?_
  intro h2
  refine Cn [0] rfl rfl rfl ⟨_,_,rfl,rfl,rfl⟩
theorem W6 {pl pk:Option Addr}{nl cl nk ck:Nat}{l k:List Int}{res:Bool}(hr:decide (l=k)=res):Bk Tryz.prog 23 [.slice pl nl cl,.slice pk nk ck] [] [Aw Ao pl nl cl l,Aw Ao pk nk ck k] (Rv (.bool res) []):=by
 refine Ad (F:=Qp) rfl fun C=>?_
 have Eo:=fun {pl pk:Option Addr}{nl cl nk ck:Nat}{l k:List Int}=>Hh (pl:=pl) (pk:=pk) (nl:=nl) (cl:=cl) (nk:=nk) (ck:=ck) (l:=l) (k:=k)
 refine wk 4 cz ?_
 refine Ab rfl (Ae [0,1] rfl (Eo) rfl ?_)
 rintro _ _ _ ⟨e1,rfl,rfl,rfl,h1⟩
 simp only [List.cons_append,List.nil_append]
 refine wk 2 cz ?_
 have hd:decide (e1=0)=res:=by rw [← hr];exact decide_eq_decide.2 (by assumption)
 rw [hd]
 exact ge
def lsC:List (List Int)→List (List Int)→Nat
 | _,[]=>0
 | [],_=>0
 | _::a,g::b=>(if g=[] then 1 else 0)+lsC a b
def wrC:List (List Int)→List (List Int)→Nat
 | _,[]=>0
 | [],_=>0
 | w::a,g::b=>(if g≠[]∧g≠w then 1 else 0)+wrC a b
theorem AHU:∀ a b,lsC a b≤b.length
 | _,[]=>by simp [lsC]
 | [],_::_=>by simp [lsC]
 | w::a,g::b=>by have:=AHU a b;rw [lsC,List.length_cons];split <;> omega
theorem AHC:∀ a b,wrC a b≤b.length
 | _,[]=>by simp [wrC]
 | [],_::_=>by simp [wrC]
 | w::a,g::b=>by have:=AHC a b;rw [wrC,List.length_cons];split <;> omega
theorem AES {a b:List (List Int)}(h:a=[]∨b=[]):lsC a b=0:=by
 rcases h with rfl|rfl <;> cases ‹List (List Int)› <;> rfl
theorem AFj {a b:List (List Int)}(h:a=[]∨b=[]):wrC a b=0:=by
 rcases h with rfl|rfl <;> cases ‹List (List Int)› <;> rfl
theorem AGl {a b:List (List Int)}{i:Nat}{w g:List Int}(h1:a[i]?=some w) (h2:b[i]?=some g):lsC (a.drop i) (b.drop i)=(if g=[] then 1 else 0)+lsC (a.drop (i+1)) (b.drop (i+1)):=by
 obtain ⟨l1,rfl⟩:=List.getElem?_eq_some_iff.1 h1
 obtain ⟨l2,rfl⟩:=List.getElem?_eq_some_iff.1 h2
 rw [List.drop_eq_getElem_cons l1,List.drop_eq_getElem_cons l2,lsC]
theorem AGh {a b:List (List Int)}{i:Nat}{w g:List Int}(h1:a[i]?=some w) (h2:b[i]?=some g):wrC (a.drop i) (b.drop i)=(if g≠[]∧g≠w then 1 else 0)+wrC (a.drop (i+1)) (b.drop (i+1)):=by
 obtain ⟨l1,rfl⟩:=List.getElem?_eq_some_iff.1 h1
 obtain ⟨l2,rfl⟩:=List.getElem?_eq_some_iff.1 h2
 rw [List.drop_eq_getElem_cons l1,List.drop_eq_getElem_cons l2,wrC]
theorem AEp {pa pb:Option Addr}{na ca nb cb:Nat}{a b:List (List Int)}:Bk Tryz.prog 25 [.slice pa na ca,.slice pb nb cb] [] [Aw (Ai Ao) pa na ca a,Aw (Ai Ao) pb nb cb b] (Rv (.tuple #[.int .i64 (wrC a b:Nat),.int .i64 (lsC a b:Nat)]) []):=by
 refine Ad (F:=Qk) rfl fun C=>?_
 refine Ay 0 rfl fun hn hb _=>?_
 refine Ay 1 rfl fun hn2 hb2 _=>?_
 subst hn
 subst hn2
 have hb':a.length*24≤140737488355328:=hb
 have hb2':b.length*24≤140737488355328:=hb2
 have Ea:=fun {pl pk:Option Addr}{nl cl nk ck:Nat}{l k:List Int}{res:Bool}(h:decide (l=k)=res)=>W6 (pl:=pl) (pk:=pk) (nl:=nl) (cl:=cl) (nk:=nk) (ck:=ck) (l:=l) (k:=k) h
 refine wk 5 cz ?_
 refine Af (X:=Nat×Nat×Nat) [0,1] [0,1] (fun x=>[(6,.int .i64 (x.1:Int)),(4,.int .i64 (x.2.1:Int)),(5,.int .i64 (x.2.2:Int))]) (fun _=>_) (fun _=>[]) (fun x=>x.1≤b.length∧x.2.1≤x.1∧x.2.2≤x.1∧x.2.1+wrC (a.drop x.1) (b.drop x.1)=wrC a b∧x.2.2+lsC (a.drop x.1) (b.drop x.1)=lsC a b) (fun x=>b.length-x.1) (0,0,0) [] rfl rfl rfl ⟨Nat.zero_le _,Nat.le_refl _,Nat.le_refl _,by simp,by simp⟩ (by repeat (first|exact Fr.sub_nil _|refine Fr.sub_cons rfl ?_)) rfl rfl ?_
 rintro ⟨i,u,v⟩ ⟨hi,hu,hv,hw,hl⟩ ih
 simp only [List.cons_append,List.nil_append] at hi hu hv hw hl ih ⊢
 by_cases h1:i<b.length
 ·by_cases h2:i<a.length
  ·obtain ⟨w,at_w⟩:∃ w,a[i]?=some w:=⟨_,List.getElem?_eq_getElem h2⟩
   obtain ⟨g,at_g⟩:∃ g,b[i]?=some g:=⟨_,List.getElem?_eq_getElem h1⟩
   rw [AGh at_w at_g] at hw
   rw [AGl at_w at_g] at hl
   by_cases h3:g=[]
   ·rw [if_neg (by rintro ⟨h,_⟩;exact h h3)] at hw
    rw [if_pos h3] at hl
    have h4:g.length=0:=by rw [h3];rfl
    refine wk 24 cz ?_
    intro h5 h6 b1 o1 hz1 pa1 ca1 h7
    exact tw (ih (i+1,u,v+1) (by dsimp only;omega) ⟨by dsimp only;omega,by dsimp only;omega,by dsimp only;omega,by dsimp only;omega,by dsimp only;omega⟩)
   ·rw [if_neg h3] at hl
    have h4:g.length≠0:=fun h=>h3 (List.length_eq_zero_iff.1 h)
    have eg:b.getD i default=g:=by rw [List.getD_eq_getElem?_getD,at_g];rfl
    have ew:a.getD i default=w:=by rw [List.getD_eq_getElem?_getD,at_w];rfl
    by_cases h5:g=w
    ·rw [if_neg (by rintro ⟨_,h⟩;exact h h5)] at hw
     have hd:decide (b.getD i default=a.getD i default)=true:=by rw [eg,ew];exact decide_eq_true h5
     refine wk 26 (ct @Ea cz) ?_
     intro h6 h7 b1 o1 hz1 pa1 ca1 h8 b2 o2 pa2 ca2 b3 o3 pa3 ca3
     exact tw (ih (i+1,u,v) (by dsimp only;omega) ⟨by dsimp only;omega,by dsimp only;omega,by dsimp only;omega,by dsimp only;omega,by dsimp only;omega⟩)
    ·rw [if_pos ⟨h3,h5⟩] at hw
     have hd:decide (b.getD i default=a.getD i default)=false:=by rw [eg,ew];exact decide_eq_false h5
     refine wk 28 (ct @Ea cz) ?_
     intro h6 h7 b1 o1 hz1 pa1 ca1 h8 b2 o2 pa2 ca2 b3 o3 pa3 ca3
     exact tw (ih (i+1,u+1,v) (by dsimp only;omega) ⟨by dsimp only;omega,by dsimp only;omega,by dsimp only;omega,by dsimp only;omega,by dsimp only;omega⟩)
  ·clear ih
   rw [AFj (.inl (List.drop_eq_nil_of_le (by omega))),Nat.add_zero] at hw
   rw [AES (.inl (List.drop_eq_nil_of_le (by omega))),Nat.add_zero] at hl
   subst hw hl
   refine wk 14 cz ?_
   intro h3 h4
   exact ge
 ·clear ih
  rw [AFj (.inr (List.drop_eq_nil_of_le (by omega))),Nat.add_zero] at hw
  rw [AES (.inr (List.drop_eq_nil_of_le (by omega))),Nat.add_zero] at hl
  subst hw hl
  refine wk 12 cz ?_
  intro h2
  exact ge
section
variable {q:Nat}{A M:Int→Int→Int}{N V:Int→Int}(O:FO q A M N V)
include O
theorem FO.neg_mul {b:Int}(b0:0≤b) (b1:b<(q:Int)):A b (M (N 1) b)=0:=by
 have F:=O.fi
 have hq:=O.q2
 obtain ⟨⟨n0,n1⟩,en1⟩:=O.ng 1 (by omega) (by omega)
 have:A (M b 1) (M b (N 1))=0:=by
  rw [← F.md _ 1 _ b0 b1 (by omega) (by omega) n0 n1,en1,F.m0 b0 b1]
 rwa [F.m1 _ b0 b1,F.mc _ (N 1) b0 b1 n0 n1] at this
theorem FO.au_has {n:Nat}{Aa:List (List Int)}{b:List Int}(hM:Dy q n Aa) (hb:∀ x∈b,0≤x∧x<(q:Int)) (h:slB n (Dn A M N V n 0 0 (Wx Aa b))=true) :
  Wd q n (Vr n (Dn A M N V n 0 0 (Wx Aa b)))∧∀ (i:Nat) (r:List Int) (y:Int),Aa[i]?=some r→b[i]?=some y→Cq A M (Vr n (Dn A M N V n 0 0 (Wx Aa b))) r=y:=by
 have F:=O.fi
 have hq:=O.q2
 obtain ⟨h1,h2,h3⟩:=O.elim (m:=n) (Xx hM hb)
 obtain ⟨s1,s2⟩:=O.slX_sol h1 h2 h
 have hX:=O.slX_wd h1 h2
 have hsol:=(h3 _ s1).1 s2
 obtain ⟨⟨n0,n1⟩,en1⟩:=O.ng 1 (by omega) (by omega)
 refine ⟨hX,fun i r y hr hy=>?_⟩
 have hR:=hM r (List.mem_of_getElem? hr)
 obtain ⟨b0,b1⟩:=hb y (List.mem_of_getElem? hy)
 have h:=hsol _ (List.mem_of_getElem? (AGW hr hy))
 rw [O.dot_snoc hX hR n0 n1 b0 b1] at h
 obtain ⟨d0,d1⟩:=F.dlt hX hR
 have hneg:=O.neg_mul b0 b1
 obtain ⟨k0,k1⟩:=F.ml (N 1) _ n0 n1 b0 b1
 rw [F.ac _ _ d0 d1 k0 k1] at h
 rw [F.ac _ _ b0 b1 k0 k1] at hneg
 exact F.cancel k0 k1 d0 d1 b0 b1 (h.trans hneg.symm)
theorem FO.au_if {n:Nat}{Aa:List (List Int)}{b x:List Int}(hM:Dy q n Aa) (hb:∀ x∈b,0≤x∧x<(q:Int)) (hx:Wd q n x) (h:∀ (i:Nat) (r:List Int) (y:Int),Aa[i]?=some r→b[i]?=some y→Cq A M x r=y):slB n (Dn A M N V n 0 0 (Wx Aa b))=true:=by
 have F:=O.fi
 have hq:=O.q2
 obtain ⟨h1,h2,h3⟩:=O.elim (m:=n) (Xx hM hb)
 obtain ⟨⟨n0,n1⟩,en1⟩:=O.ng 1 (by omega) (by omega)
 have hxs:Wd q (n+1) (x++[N 1]):=⟨by rw [List.length_append,hx.1];rfl,fun z hz=>by
  rcases List.mem_append.1 hz with hz|hz
  ·exact hx.2 z hz
  ·rw [List.mem_singleton.1 hz];exact ⟨n0,n1⟩⟩
 have hS:Sol A M (Wx Aa b) (x++[N 1]):=fun s hs=>by
  obtain ⟨i,hi⟩:=List.mem_iff_getElem?.1 hs
  rw [Wx,List.getElem?_zipWith] at hi
  cases hr:Aa[i]? with
  | none=>rw [hr] at hi;cases hi
  | some r =>
   cases hy:b[i]? with
   | none=>rw [hr,hy] at hi;cases hi
   | some y =>
    rw [hr,hy] at hi
    obtain rfl:=Option.some.inj hi
    obtain ⟨b0,b1⟩:=hb y (List.mem_of_getElem? hy)
    rw [O.dot_snoc hx (hM r (List.mem_of_getElem? hr)) n0 n1 b0 b1,h i r y hr hy]
    exact O.neg_mul b0 b1
 have hE:=(h3 _ hxs).2 hS
 rw [AEL]
 intro i hi1 hi2
 have hrow:=Om hi2
 have hd:=hE _ hrow
 have hw:=h1 _ hrow
 have hbot:=h2.bot i hi1 hi2
 unfold en at *
 generalize Aj (Dn A M N V n 0 0 (Wx Aa b)).1 i=R at *
 have hl:=hw.1
 have e:R=R.take n++[Bm R n]:=by
  refine List.ext_getElem (by rw [List.length_append,List.length_take];simp;omega) fun j j1 j2=>?_
  by_cases hj:j<n
  ·rw [List.getElem_append_left (by rw [List.length_take];omega),List.getElem_take]
  ·obtain rfl:j=n:=by omega
   rw [List.getElem_append_right (by rw [List.length_take];omega)]
   simp [Bm,List.getD_eq_getElem?_getD,List.getElem?_eq_getElem j1]
 have ht:Wd q n (R.take n):=⟨by rw [List.length_take];omega,fun z hz=>hw.2 z (List.mem_of_mem_take hz)⟩
 obtain ⟨a0,a1⟩:=A6 (by omega) hw n
 rw [e,O.dot_snoc hx ht n0 n1 a0 a1,O.dot_zero hx ht fun c=>?_] at hd
 ·have hneg:=O.neg_mul a0 a1
  obtain ⟨k0,k1⟩:=F.ml (N 1) _ n0 n1 a0 a1
  rw [F.ac _ _ (Int.le_refl 0) (by omega) k0 k1] at hd
  rw [F.ac _ _ a0 a1 k0 k1] at hneg
  exact F.cancel k0 k1 a0 a1 (Int.le_refl 0) (by omega) (hneg.trans hd.symm)
 ·obtain ⟨c0,c1⟩:=A6 (by omega) hx c
  have:Bm (R.take n) c=0:=by
   by_cases hc:c<n
   ·have:=hbot c hc
    rw [Bm,List.getD_eq_getElem?_getD] at this ⊢
    rw [List.getElem?_take,if_pos hc];exact this
   ·rw [Bm,List.getD_eq_getElem?_getD,List.getElem?_eq_none (by rw [List.length_take];omega)];rfl
  rw [this,F.m0 c0 c1]
end
open Go Go.Fw
set_option maxRecDepth 100000
set_option linter.unusedVariables false
set_option linter.unusedSimpArgs false
set_option maxHeartbeats 0
def ABF (q:Nat):Nat→List (List Int)
 | 0=>[[]]
 | n+1=>(List.range q).flatMap fun (a:Nat)=>(ABF q n).map fun l=>(a:Int)::l
theorem Kl {q:Nat}:∀ {n:Nat}{x:List Int},x∈ABF q n↔Wd q n x
 | 0,x=>by
  rw [ABF,List.mem_singleton]
  constructor
  ·rintro rfl;exact ⟨rfl,fun x hx=>by cases hx⟩
  ·intro h;exact List.length_eq_zero_iff.1 h.1
 | n+1,x=>by
  rw [ABF,List.mem_flatMap]
  constructor
  ·rintro ⟨a,ha,hx⟩
   obtain ⟨l,hl,rfl⟩:=List.mem_map.1 hx
   have h:=Kl.1 hl
   have ha:=List.mem_range.1 ha
   refine ⟨by rw [List.length_cons,h.1],fun y hy=>?_⟩
   rcases List.mem_cons.1 hy with rfl|hy
   ·omega
   ·exact h.2 y hy
  ·intro h
   cases x with
   | nil=>have:=h.1;simp at this
   | cons a l =>
    have ha:=h.2 a (.head _)
    exact ⟨a.toNat,List.mem_range.2 (by omega),List.mem_map.2 ⟨l,Kl.2 ⟨by have:=h.1;simpa using this,fun y hy=>h.2 y (.tail _ hy)⟩,by rw [show ((a.toNat:Nat):Int)=a by omega]⟩⟩
theorem Zy {q:Nat}:∀ n:Nat,(ABF q n).Nodup
 | 0=>by simp [ABF]
 | n+1=>by
  rw [ABF,List.Nodup,List.pairwise_flatMap]
  have hr:(List.range q).Nodup:=List.nodup_range
  refine ⟨fun a _=>?_,List.Pairwise.imp (fun {a b}(hab:a≠b)=>?_) hr⟩
  ·rw [List.pairwise_map]
   exact (Zy n).imp fun h e=>h (List.cons.inj e).2
  ·intro x hx y hy e
   obtain ⟨l,_,rfl⟩:=List.mem_map.1 hx
   obtain ⟨k,_,rfl⟩:=List.mem_map.1 hy
   have:=(List.cons.inj e).1
   exact hab (by omega)
theorem AEk {α:Type} [DecidableEq α]:∀ {l l':List α},l.Nodup→(∀ x∈l,x∈l')→l'.length≤l.length→∀ x∈l',x∈l
 | [],l',_,_,h=>fun x hx=>by
  have:l'=[]:=List.eq_nil_of_length_eq_zero (by simpa using h)
  rw [this] at hx;cases hx
 | a::l,l',hn,hs,h=>fun x hx=>by
  obtain ⟨h1,h2⟩:=List.nodup_cons.1 hn
  have ha:=hs a (.head _)
  by_cases e:x=a
  ·rw [e];exact .head _
  ·have hl:(l'.erase a).length=l'.length-1:=List.length_erase_of_mem ha
   have:=AEk (l:=l) (l':=l'.erase a) h2 (fun y hy=>(List.mem_erase_of_ne (fun (e:y=a)=>h1 (e▸hy))).2 (hs y (.tail _ hy))) (by rw [hl];simp only [List.length_cons] at h;omega) x ((List.mem_erase_of_ne e).2 hx)
   exact .tail _ this
theorem AFA {q n:Nat}{f:List Int→List Int}(hf:∀ x,Wd q n x→Wd q n (f x)) (hi:∀ x y,Wd q n x→Wd q n y→f x=f y→x=y) {z:List Int}(hz:Wd q n z):∃ x,Wd q n x∧f x=z:=by
 have hm:z∈(ABF q n).map f:=by
  refine AEk (l':=ABF q n) ?_ (fun y hy=>?_) (by rw [List.length_map];exact Nat.le_refl _) z (Kl.2 hz)
  ·rw [List.Nodup,List.pairwise_map]
   exact List.Pairwise.imp_of_mem (fun {a b} ha hb hab e=>hab (hi a b (Kl.1 ha) (Kl.1 hb) e)) (Zy n)
  ·obtain ⟨x,hx,rfl⟩:=List.mem_map.1 hy
   exact Kl.2 (hf x (Kl.1 hx))
 obtain ⟨x,hx,e⟩:=List.mem_map.1 hm
 exact ⟨x,Kl.1 hx,e⟩
section
variable {q:Nat}{A M:Int→Int→Int}{N V:Int→Int}(O:FO q A M N V)
include O
theorem FO.ind_all {n:Nat}{G:List (List Int)}(hG:Dy q n G) (hl:G.length=n) (hi:Ind q A M n G) {x:List Int}(hx:Wd q n x) (hs:Sol A M G x):x=zW n:=by
 have F:=O.fi
 have hq:=O.q2
 obtain ⟨⟨n0,n1⟩,en1⟩:=O.ng 1 (by omega) (by omega)
 rw [Ind,hl] at hi
 have hcol:∀ j,Wd q n (Dm G j):=fun j=>by rw [← hl];exact Hp (by omega) hG j
 refine Ej hx (O.wz n) fun e he=>?_
 rw [G0]
 obtain ⟨hu,hd⟩:=O.dot_unit he hx
 rw [← hd]
 obtain ⟨y,hy,ey⟩:=AFA (q:=q) (n:=n) (f:=fun y=>X8 A M n y G) (fun y hy=>O.cmb_wd hy.2 hG) (fun y z hy hz eyz=>by
  have h0:=hi (F1 A M (N 1) z y) (F.axw n0 n1 hz hy) fun j _=>by
   rw [O.dot_axp_l n0 n1 hz hy (hcol j),← O.cmb_at hy.2 hG,← O.cmb_at hz.2 hG]
   rw [show X8 A M n y G=X8 A M n z G from eyz]
   obtain ⟨c0,c1⟩:=A6 (by omega) (O.cmb_wd (n:=n) hz.2 hG) j
   exact O.neg_mul c0 c1
  refine Ej hy hz fun j hj=>?_
  have h:=congrArg (fun u=>Bm u j) h0
  simp only [G0,O.axp_at n0 n1 hz hy] at h
  obtain ⟨a0,a1⟩:=A6 (by omega) hy j
  obtain ⟨b0,b1⟩:=A6 (by omega) hz j
  obtain ⟨k0,k1⟩:=F.ml (N 1) _ n0 n1 b0 b1
  have hneg:=O.neg_mul b0 b1
  rw [F.ac _ _ a0 a1 k0 k1] at h
  rw [F.ac _ _ b0 b1 k0 k1] at hneg
  exact F.cancel k0 k1 a0 a1 b0 b1 (h.trans hneg.symm)) hu
 rw [← ey]
 refine O.cmbF_ind (P:=fun u=>Cq A M u x=0) hG (fun a r u hr a0 a1 hu h=>?_) hy.2 (fun r hr=>hr) (O.wz n) ?_
 ·rw [O.dot_axp_l a0 a1 (hG r hr) hu hx,h,F.dcomm (hG r hr) hx,hs r hr,F.m0 a0 a1]
  exact F.a0 0 (Int.le_refl 0) (by omega)
 ·rw [F.dcomm (O.wz n) hx]
  refine O.dot_zero hx (O.wz n) fun c=>?_
  obtain ⟨c0,c1⟩:=A6 (by omega) hx c
  rw [G0,F.m0 c0 c1]
end
open Go Go.Fw
set_option maxRecDepth 100000
set_option linter.unusedVariables false
set_option linter.unusedSimpArgs false
set_option maxHeartbeats 0
theorem AAC:∀ {l l':List Int},l.Nodup→(∀ x∈l,x∈l')→l'.length≤l.length→∀ x∈l',x∈l
 | [],l',_,_,h=>fun x hx=>by
  have:l'=[]:=List.eq_nil_of_length_eq_zero (by simpa using h)
  rw [this] at hx;cases hx
 | a::l,l',hn,hs,h=>fun x hx=>by
  obtain ⟨h1,h2⟩:=List.nodup_cons.1 hn
  have ha:=hs a (.head _)
  by_cases e:x=a
  ·rw [e];exact .head _
  ·have hl:(l'.erase a).length=l'.length-1:=List.length_erase_of_mem ha
   have:=AAC (l:=l) (l':=l'.erase a) h2 (fun y hy=>(List.mem_erase_of_ne (fun (e:y=a)=>h1 (e▸hy))).2 (hs y (.tail _ hy))) (by rw [hl];simp only [List.length_cons] at h;omega) x ((List.mem_erase_of_ne e).2 hx)
   exact .tail _ this
theorem ACz {f:List Int→List Int→List (List Int)→Option (List (List Int))}{s z H:List Int}:∀ {rem pre:List Int}{t t':List (List Int)},Tg f s z pre rem t=some t'→(∀ i∈pre,i∉H)→(∃ i∈rem,i∈H) →
  ∃ i pre' t1 t2,i∈rem∧i∈H∧(∀ j∈pre',j∉H)∧f (s++[i]) (z++pre') t1=some t2
 | [],_,_,_,_,_,⟨i,hi,_⟩=>by cases hi
 | a::r,pre,t,t',h,hp,he=>by
  rw [Tg] at h
  split at h
  ·cases h
  ·rename_i t1 h1
   by_cases ha:a∈H
   ·exact ⟨a,pre,t,t1,.head _,ha,hp,h1⟩
   ·obtain ⟨i,pre',t2,t3,g1,g2,g3,g4⟩:=ACz (rem:=r) h (fun i hi=>by
     rcases List.mem_append.1 hi with hi|hi
     ·exact hp i hi
     ·rw [List.mem_singleton.1 hi];exact ha) (by
     obtain ⟨i,hi,hH⟩:=he
     rcases List.mem_cons.1 hi with rfl|hi
     ·exact absurd hH ha
     ·exact ⟨i,hi,hH⟩)
    exact ⟨i,pre',t2,t3,.tail _ g1,g2,g3,g4⟩
theorem AHF {rt:List Int→List Int→Bool}{H:List Int}(hrt:∀ s x,rt s x=true→∀ y∈x,y∉s):∀ (d:Nat) (s z:List Int) (t t':List (List Int)),Pt rt d s z t=some t' →
  (∀ x∈s,x∈H)→(∀ x∈z,x∉H)→H.length≤s.length+d→s.Nodup→∃ s' x,rt s' x=true∧∀ y∈x,y∉H:=by
 intro d
 induction d with
 | zero =>
  intro s z t t' h hs hz hl hn
  cases t with
  | nil=>rw [Pt] at h;cases h
  | cons x t =>
   rw [Pt] at h
   split at h
   ·rename_i hg
    exact ⟨s,x,hg,fun y hy hH=>hrt s x hg y hy (AAC hn hs (by omega) y hH)⟩
   ·cases h
 | succ d ih =>
  intro s z t t' h hs hz hl hn
  cases t with
  | nil=>rw [Pt] at h;cases h
  | cons x t =>
   rw [Pt] at h
   split at h
   ·rename_i hg
    by_cases he:∃ i∈Lk z x,i∈H
    ·obtain ⟨i,pre',t1,t2,k1,k2,k3,k4⟩:=ACz h (fun i hi=>by cases hi) he
     refine ih (s++[i]) (z++pre') t1 t2 k4 (fun y hy=>?_) (fun y hy=>?_) (by rw [List.length_append,List.length_singleton];omega) ?_
     ·rcases List.mem_append.1 hy with hy|hy
      ·exact hs y hy
      ·rw [List.mem_singleton.1 hy];exact k2
     ·rcases List.mem_append.1 hy with hy|hy
      ·exact hz y hy
      ·exact k3 y hy
     ·rw [List.nodup_append]
      refine ⟨hn,(by simp),fun a ha b hb e=>?_⟩
      rw [List.mem_singleton] at hb
      subst hb
      subst e
      exact hrt s x hg _ (List.mem_filter.1 k1).1 ha
    ·refine ⟨s,x,hg,fun y hy hH=>he ⟨y,List.mem_filter.2 ⟨hy,?_⟩,hH⟩⟩
     rw [decide_eq_false (fun hz'=>hz y hz' hH)];rfl
   ·cases h
theorem AFx {p m N d:Nat}{md:List Int}{Aa sets:List (List Int)}{k:Int}(h:exB p m md N Aa k d sets=true) {H:List Int}(hl:H.length≤d) :
  ∃ x,stP N x∧(∀ y∈x,y∉H)∧(Qm p m md x.length (Aa.map fun r=>x.map fun j=>Bm r j.toNat)).2.length=x.length∧(x.length:Int)=k:=by
 obtain ⟨s,x,hg,hx⟩:=AHF (H:=H) (fun s x hg y hy hs=>by
  simp only [Rn,Bool.and_eq_true,decide_eq_true_eq,Bool.not_eq_true',List.any_eq_false] at hg
  exact absurd hs (hg.1.1.2 y hy)) d [] [] sets [] (of_decide_eq_true h) (fun x hx=>by cases hx) (fun x hx=>by cases hx) (by simpa using hl) List.nodup_nil
 simp only [Rn,Bool.and_eq_true,decide_eq_true_eq] at hg
 exact ⟨x,hg.1.1.1,hx,hg.1.2,hg.2⟩
theorem AIu {p m N d:Nat}{md:List Int}{Aa sets:List (List Int)}(K:Fok p m md) (hM:Dy (p ^ m) N Aa) (h:exB p m md N Aa Aa.length d sets=true) {H:List Int}(hl:H.length≤d) {x y:List Int}(hx:Wd (p ^ m) Aa.length x) (hy:Wd (p ^ m) Aa.length y)
  (hag:∀ b:Nat,b<N→(b:Int)∉H→Cq (Ah (fA p m)) (Ah (fM p (By m md))) x (Dm Aa b)=Cq (Ah (fA p m)) (Ah (fM p (By m md))) y (Dm Aa b)):x=y:=by
 obtain ⟨set,s1,s2,s3,s4⟩:=AFx h hl
 have O:=Is K
 simp only [Qm] at s3
 generalize Ah (fA p m)=A at *
 generalize Ah (fM p (By m md))=M at *
 generalize Gu p m=Ng at *
 generalize He p m md=Iv at *
 generalize p ^ m=q at *
 have F:=O.fi
 have hq:=O.q2
 obtain ⟨⟨n0,n1⟩,en1⟩:=O.ng 1 (by omega) (by omega)
 have hcol:∀ b,Wd q Aa.length (Dm Aa b):=fun b=>Hp (by omega) hM b
 have hMs:Dy q set.length (Aa.map fun r=>set.map fun j=>Bm r j.toNat):=fun r hr=>by
  obtain ⟨u,hu,rfl⟩:=List.mem_map.1 hr
  refine ⟨by rw [List.length_map],fun z hz=>?_⟩
  obtain ⟨j,_,rfl⟩:=List.mem_map.1 hz
  exact A6 (by omega) (hM u hu) _
 have hind:Ind q A M Aa.length (set.map fun i=>Dm Aa i.toNat):=ACu.2 ((O.piv_all hMs).1 s3)
 have hG:Dy q Aa.length (set.map fun i=>Dm Aa i.toNat):=fun r hr=>by
  obtain ⟨j,_,rfl⟩:=List.mem_map.1 hr
  exact hcol _
 have h0:=O.ind_all hG (by rw [List.length_map];omega) hind (x:=F1 A M (Ng 1) y x) (F.axw n0 n1 hy hx) fun r hr=>by
  obtain ⟨j,hj,rfl⟩:=List.mem_map.1 hr
  have hjr:=s1.1 j hj
  rw [O.dot_axp_l n0 n1 hy hx (hcol _),hag j.toNat (by omega) (by rw [show ((j.toNat:Nat):Int)=j by omega];exact s2 j hj)]
  obtain ⟨c0,c1⟩:=F.dlt hy (hcol j.toNat)
  exact O.neg_mul c0 c1
 refine Ej hx hy fun j hj=>?_
 have h:=congrArg (fun u=>Bm u j) h0
 simp only [G0,O.axp_at n0 n1 hy hx] at h
 obtain ⟨a0,a1⟩:=A6 (by omega) hx j
 obtain ⟨b0,b1⟩:=A6 (by omega) hy j
 obtain ⟨k0,k1⟩:=F.ml (Ng 1) _ n0 n1 b0 b1
 have hneg:=O.neg_mul b0 b1
 rw [F.ac _ _ a0 a1 k0 k1] at h
 rw [F.ac _ _ b0 b1 k0 k1] at hneg
 exact F.cancel k0 k1 a0 a1 b0 b1 (h.trans hneg.symm)
section
variable {p m N W:Nat}{md:List Int}{Aa blocks:List (List Int)}{P:List Nat}
theorem AHT (K:Fok p m md) (hM:Dy (p ^ m) N Aa) (hB:∀ b∈P,Wd (p ^ m) W (Aj blocks b)) (h:cmB p m md Aa blocks W P=true) {j:Nat}(hj:j<W) :
  Wd (p ^ m) Aa.length (Vr Aa.length (cmE p m md Aa blocks P j))∧∀ b∈P,Cq (Ah (fA p m)) (Ah (fM p (By m md))) (Vr Aa.length (cmE p m md Aa blocks P j)) (Dm Aa b)=Bm (Aj blocks b) j:=by
 have O:=Is K
 have hq:=O.q2
 rw [cmB,List.all_eq_true] at h
 have h:=h j (List.mem_range.2 hj)
 obtain ⟨h1,h2⟩:=O.au_has (n:=Aa.length) (Aa:=kcL Aa P) (b:=wnL blocks P j) (fun r hr=>by
  obtain ⟨b,_,rfl⟩:=List.mem_map.1 hr
  exact Hp (by omega) hM b) (fun x hx=>by
  obtain ⟨b,hb,rfl⟩:=List.mem_map.1 hx
  exact A6 (by omega) (hB b hb) j) h
 refine ⟨h1,fun b hb=>?_⟩
 obtain ⟨i,hi⟩:=List.mem_iff_getElem?.1 hb
 exact h2 i _ _ (by rw [List.getElem?_map,hi];rfl) (by rw [List.getElem?_map,hi];rfl)
theorem AKT (K:Fok p m md) (hM:Dy (p ^ m) N Aa) (hB:∀ b∈P,Wd (p ^ m) W (Aj blocks b)) {x:Nat→List Int}(hx:∀ j,j<W→Wd (p ^ m) Aa.length (x j))
  (h:∀ j,j<W→∀ b∈P,Cq (Ah (fA p m)) (Ah (fM p (By m md))) (x j) (Dm Aa b)=Bm (Aj blocks b) j):cmB p m md Aa blocks W P=true:=by
 have O:=Is K
 have hq:=O.q2
 rw [cmB,List.all_eq_true]
 intro j hj
 have hj:=List.mem_range.1 hj
 refine O.au_if (n:=Aa.length) (Aa:=kcL Aa P) (b:=wnL blocks P j) (fun r hr=>by
  obtain ⟨b,_,rfl⟩:=List.mem_map.1 hr
  exact Hp (by omega) hM b) (fun x hx=>by
  obtain ⟨b,hb,rfl⟩:=List.mem_map.1 hx
  exact A6 (by omega) (hB b hb) j) (hx j hj) fun i r y hr hy=>?_
 rw [List.getElem?_map] at hr hy
 cases hp:P[i]? with
 | none=>rw [hp] at hr;cases hr
 | some b =>
  rw [hp] at hr hy
  obtain rfl:=Option.some.inj hr
  obtain rfl:=Option.some.inj hy
  exact h j hj b (List.mem_of_getElem? hp)
end
open Go Go.Fw
set_option maxRecDepth 100000
set_option linter.unusedVariables false
set_option linter.unusedSimpArgs false
set_option maxHeartbeats 0
theorem AGS {f:Nat→Option (List Nat)}:∀ {c k j:Nat},k≤j→j<k+c→(f j).isSome=true→(deA f c k).isSome=true
 | 0,k,j,h1,h2,_=>by omega
 | c+1,k,j,h1,h2,h=>by
  rw [deA]
  split
  ·rfl
  ·rename_i e
   have hne:k≠j:=fun hk=>by rw [hk] at e;rw [e] at h;cases h
   exact AGS (by omega) (by omega) h
theorem Vt {a b k:Nat}(h:a≤b):Bs a k≤Bs b k:=by
 have:=Ww (n:=a) (k:=k) (d:=b-a)
 rwa [show a+(b-a)=b by omega] at this
theorem AFf {n:Nat}:∀ {s:List Nat}{b:Nat},vdS n s→(∀ x∈s,b≤x)→Sx n s+1≤Bs (n-b) s.length
 | [],b,_,_=>by rw [List.length_nil,Ie];exact Nat.le_refl _
 | a::l,b,hv,hb=>by
  obtain ⟨h1,h2,h3⟩:=hv
  have ih:=AFf (b:=a+1) h3 (fun x hx=>h2 x hx)
  have hba:=hb a (.head _)
  refine Nat.le_trans ?_ (Vt (show n-a≤n-b by omega))
  rw [Sx,List.length_cons,show n-a=(n-1-a)+1 by omega,Gy]
  rw [show n-(a+1)=n-1-a by omega] at ih
  omega
theorem ADD {n:Nat}:∀ {s s':List Nat},vdS n s→vdS n s'→s.length=s'.length→Sx n s=Sx n s'→s=s'
 | [],s',_,_,hl,_=>(List.length_eq_zero_iff.1 hl.symm).symm
 | _::_,[],_,_,hl,_=>by simp at hl
 | a::l,a'::l',hv,hv',hl,he=>by
  have g1:=AFf (b:=a) hv (fun x hx=>by
   rcases List.mem_cons.1 hx with rfl|hx
   ·exact Nat.le_refl _
   ·exact Nat.le_of_lt (hv.2.1 x hx))
  have g2:=AFf (b:=a') hv' (fun x hx=>by
   rcases List.mem_cons.1 hx with rfl|hx
   ·exact Nat.le_refl _
   ·exact Nat.le_of_lt (hv'.2.1 x hx))
  have hl':l.length=l'.length:=by simpa using hl
  have k1:Bs (n-1-a) (l.length+1)≤Sx n (a::l):=by rw [Sx];omega
  have k2:Bs (n-1-a') (l.length+1)≤Sx n (a'::l'):=by rw [Sx,hl'];omega
  rw [List.length_cons] at g1 g2
  rw [← hl'] at g2
  have ha:a=a':=by
   rcases Nat.lt_trichotomy a a' with h|h|h
   ·have:=Vt (k:=l.length+1) (show n-a'≤n-1-a by omega);omega
   ·exact h
   ·have:=Vt (k:=l.length+1) (show n-a≤n-1-a' by omega);omega
  subst ha
  rw [Sx,Sx,hl'] at he
  rw [ADD hv.2.2 hv'.2.2 hl' (by omega)]
theorem AHM {n:Nat}{s:List Nat}(hs:vdS n s):∀ {r:Nat}{s0:List Nat},vdS n s0→Sx n s0=r→s.length=s0.length→Sx n s≤r→s∈enL n r s0
 | 0,s0,hv,h0,hl,hr=>by
  rw [ADD hs hv hl (by omega),enL];exact .head _
 | r+1,s0,hv,h0,hl,hr=>by
  rw [enL]
  by_cases he:Sx n s=r+1
  ·rw [ADD hs hv hl (by omega)];exact .head _
  ·cases hx:W0 n s0 with
   | none=>have:=Vk hx;omega
   | some s' =>
    obtain ⟨h1,h2,_⟩:=S4 hv hx
    exact .tail _ (AHM hs h2 (by omega) (by rw [V7 hx];exact hl) (by omega))
theorem AIV {n k:Nat}{s:List Nat}(hk:k≤n) (hs:vdS n s) (hl:s.length=k):s∈AHJ n k:=by
 have h1:=AD0 (n:=n) (r:=k) (b:=0) (by omega)
 rw [← AAK] at h1
 have h2:=AFf (b:=0) hs (fun x _=>Nat.zero_le x)
 rw [hl] at h2
 exact AHM hs (ADX hk) rfl (by rw [List.length_range];exact hl) (by omega)
theorem AKC {n k:Nat}{s:List Nat}(hk:k≤n) (h:s∈AHJ n k):vdS n s∧s.length=k:=by
 obtain ⟨t,ht⟩:=List.mem_iff_getElem?.1 h
 obtain ⟨_,h1,h2⟩:=AE5 (ADX hk) rfl ht
 rw [List.length_range] at h2
 exact ⟨h1,h2⟩
theorem AAN {f:Nat→Option (List Nat)}:∀ {c k:Nat}{s:List Nat},deA f c k=some s→∃ j,k≤j∧j<k+c∧f j=some s∧∀ i,k≤i→i<j→f i=none
 | 0,_,_,h=>by rw [deA] at h;cases h
 | c+1,k,s,h=>by
  rw [deA] at h
  split at h
  ·rename_i s' e
   exact ⟨k,Nat.le_refl k,by omega,e.trans h,fun i h1 h2=>by omega⟩
  ·rename_i e
   obtain ⟨j,h1,h2,h3,h4⟩:=AAN h
   refine ⟨j,by omega,by omega,h3,fun i i1 i2=>?_⟩
   by_cases hi:i=k
   ·rw [hi];exact e
   ·exact h4 i (by omega) i2
theorem AJy {n:Nat}:∀ {s:List Nat},s.Pairwise (·<·)→(∀ b∈s,b<n)→vdS n s
 | [],_,_=>trivial
 | a::l,hp,hb=>by
  obtain ⟨h1,h2⟩:=List.pairwise_cons.1 hp
  have ih:=AJy (n:=n) h2 (fun b hb'=>hb b (.tail _ hb'))
  refine ⟨?_,h1,ih⟩
  have hl:∀ {l:List Nat}{a:Nat},l.Pairwise (·<·)→(∀ b∈l,a<b)→(∀ b∈l,b<n)→a<n→a+l.length<n:=by
   intro l
   induction l with
   | nil=>intro a _ _ _ h;simpa using h
   | cons c l ihl =>
    intro a hp hab hbn _
    obtain ⟨g1,g2⟩:=List.pairwise_cons.1 hp
    have:=ihl (a:=c) g2 g1 (fun b hb=>hbn b (.tail _ hb)) (hbn c (.head _))
    have:=hab c (.head _)
    rw [List.length_cons]
    omega
  exact hl h2 h1 (fun b hb'=>hb b (.tail _ hb')) (hb a (.head _))
abbrev awL (blocks:List (List Int)):List Nat:=(List.range blocks.length).filter fun b=>!decide (0<(Aj blocks b).length)
theorem AKh {blocks:List (List Int)}:(awL blocks).length+(Gl blocks).length=blocks.length:=by
 have h:=List.length_eq_countP_add_countP (fun b=>decide (0<(Aj blocks b).length)) (l:=List.range blocks.length)
 rw [List.length_range,List.countP_eq_length_filter,List.countP_eq_length_filter] at h
 rw [awL,Gl]
 have e:(fun a=>decide ¬decide (0<(Aj blocks a).length)=true)=fun b=>!decide (0<(Aj blocks b).length):=by
  funext a
  cases decide (0<(Aj blocks a).length) <;> rfl
 rw [e] at h
 omega
theorem AHR {pres s:List Nat}{i b:Nat}(hi:pres[i]?=some b) (hs:i∉s):b∈knC pres s:=by
 have hl:i<pres.length:=(List.getElem?_eq_some_iff.1 hi).1
 refine List.mem_map.2 ⟨i,List.mem_filter.2 ⟨List.mem_range.2 hl,by rw [decide_eq_false hs];rfl⟩,?_⟩
 rw [List.getD_eq_getElem?_getD,hi];rfl
theorem AGM {pres s:List Nat}{b:Nat}(h:b∈knC pres s):b∈pres:=by
 obtain ⟨i,hi,rfl⟩:=List.mem_map.1 h
 have hl:=List.mem_range.1 (List.mem_filter.1 hi).1
 rw [List.getD_eq_getElem?_getD,List.getElem?_eq_getElem hl]
 exact List.getElem_mem hl
theorem AKk {p m N W d:Nat}{md:List Int}{Aa sets blocks:List (List Int)}{s s0:List Nat}{x:Nat→List Int}(K:Fok p m md) (hM:Dy (p ^ m) N Aa) (hE:exB p m md N Aa Aa.length d sets=true) (hBl:blocks.length=N)
  (hB:∀ b∈Gl blocks,Wd (p ^ m) W (Aj blocks b)) (hx:∀ j,j<W→Wd (p ^ m) Aa.length (x j))
  (h0:∀ b∈knC (Gl blocks) s0,∀ j,j<W→Cq (Ah (fA p m)) (Ah (fM p (By m md))) (x j) (Dm Aa b)=Bm (Aj blocks b) j) (hc:cmB p m md Aa blocks W (knC (Gl blocks) s)=true)
  (hl:(awL blocks).length+s.length+s0.length≤d) {j:Nat}(hj:j<W):Vr Aa.length (cmE p m md Aa blocks (knC (Gl blocks) s) j)=x j:=by
 obtain ⟨h1,h2⟩:=AHT K hM (fun b hb=>hB b (AGM hb)) hc hj
 refine AIu K hM hE (H:=A7 (awL blocks++s.map (fun i=>(Gl blocks).getD i 0)++s0.map (fun i=>(Gl blocks).getD i 0))) (by rw [Bn,List.length_append,List.length_append,List.length_map,List.length_map];exact hl) h1 (hx j hj) fun b hb hn=>?_
 have hn':b∉awL blocks++s.map (fun i=>(Gl blocks).getD i 0)++s0.map (fun i=>(Gl blocks).getD i 0):=fun h=>hn (List.mem_map.2 ⟨b,h,rfl⟩)
 rw [List.mem_append,List.mem_append] at hn'
 have hp:b∈Gl blocks:=Classical.byContradiction fun hp=>hn' (.inl (.inl (List.mem_filter.2 ⟨List.mem_range.2 (by omega),by
  cases h:decide (0<(Aj blocks b).length) with
  | false=>rfl
  | true=>exact absurd (List.mem_filter.2 ⟨List.mem_range.2 (by omega),h⟩) hp⟩)))
 obtain ⟨i,hi⟩:=List.mem_iff_getElem?.1 hp
 have hg:(Gl blocks).getD i 0=b:=by rw [List.getD_eq_getElem?_getD,hi];rfl
 have n1:i∉s:=fun h=>hn' (.inl (.inr (List.mem_map.2 ⟨i,h,hg⟩)))
 have n2:i∉s0:=fun h=>hn' (.inr (List.mem_map.2 ⟨i,h,hg⟩))
 rw [h2 b (AHR hi n1),h0 b (AHR hi n2) j hj]
theorem AG8 {p m N W:Nat}{dd:Int}{md:List Int}{Aa sets blocks:List (List Int)}{s0:List Nat}{x:Nat→List Int}{T:Nat→List Int}(K:Fok p m md) (hM:Dy (p ^ m) N Aa) (hE:exB p m md N Aa Aa.length (dd-1).toNat sets=true) (hBl:blocks.length=N)
  (hB:∀ b∈Gl blocks,Wd (p ^ m) W (Aj blocks b)) (hx:∀ j,j<W→Wd (p ^ m) Aa.length (x j))
  (hT:∀ b,T b=(List.range W).map fun j=>Cq (Ah (fA p m)) (Ah (fM p (By m md))) (x j) (Dm Aa b))
  (hs0:s0=(List.range (Gl blocks).length).filter fun i=>!decide (Aj blocks ((Gl blocks).getD i 0)=T ((Gl blocks).getD i 0)))
  (hl:2*(s0.length:Int)+(awL blocks).length<dd):deR p m md N Aa blocks dd W=some s0∧∀ j,j<W→Vr Aa.length (cmE p m md Aa blocks (knC (Gl blocks) s0) j)=x j:=by
 have haw:=AKh (blocks:=blocks)
 have hTj:∀ b j,j<W→Bm (T b) j=Cq (Ah (fA p m)) (Ah (fM p (By m md))) (x j) (Dm Aa b):=fun b j hj=>by
  rw [hT,Bm,List.getD_eq_getElem?_getD,List.getElem?_map,List.getElem?_range hj];rfl
 have hTl:∀ b,(T b).length=W:=fun b=>by rw [hT,List.length_map,List.length_range]
 have hp0:s0.Pairwise (·<·):=by rw [hs0];exact List.pairwise_lt_range.filter _
 have hb0:∀ i∈s0,i<(Gl blocks).length∧Aj blocks ((Gl blocks).getD i 0)≠T ((Gl blocks).getD i 0):=fun i hi=>by
  rw [hs0] at hi
  obtain ⟨h1,h2⟩:=List.mem_filter.1 hi
  exact ⟨List.mem_range.1 h1,by simpa using h2⟩
 have v0:=AJy hp0 (fun i hi=>(hb0 i hi).1)
 have hle:s0.length≤(Gl blocks).length:=by
  rw [hs0]
  have:=List.length_filter_le (fun i=>!decide (Aj blocks ((Gl blocks).getD i 0)=T ((Gl blocks).getD i 0))) (List.range (Gl blocks).length)
  rwa [List.length_range] at this
 have h0:∀ b∈knC (Gl blocks) s0,∀ j,j<W→Cq (Ah (fA p m)) (Ah (fM p (By m md))) (x j) (Dm Aa b)=Bm (Aj blocks b) j:=fun b hb j hj=>by
  obtain ⟨i,hi,rfl⟩:=List.mem_map.1 hb
  obtain ⟨h1,h2⟩:=List.mem_filter.1 hi
  have h3:i∉s0:=by simpa using h2
  have h4:Aj blocks ((Gl blocks).getD i 0)=T ((Gl blocks).getD i 0):=Classical.byContradiction fun hne=>h3 (by
   rw [hs0];exact List.mem_filter.2 ⟨h1,by rw [decide_eq_false hne];rfl⟩)
  rw [h4,hTj _ _ hj]
 have c0:=AKT K hM (fun b hb=>hB b (AGM hb)) hx fun j hj b hb=>h0 b hb j hj
 have f0:(deK p m md Aa blocks W s0.length).isSome=true:=by
  rw [deK,List.find?_isSome]
  exact ⟨s0,AIV hle v0 rfl,c0⟩
 have hR:deR p m md N Aa blocks dd W=deA (deK p m md Aa blocks W) (((dd-1-((N:Int)-(Gl blocks).length)) / 2).toNat+1) 0:=by
  rw [deR,if_neg (by omega)]
 have hS:=AGS (f:=deK p m md Aa blocks W) (c:=((dd-1-((N:Int)-(Gl blocks).length)) / 2).toNat+1) (k:=0) (j:=s0.length) (Nat.zero_le _) (by omega) f0
 obtain ⟨s,hs⟩:=Option.isSome_iff_exists.1 hS
 obtain ⟨k,_,_,k3,k4⟩:=AAN hs
 have hk:k≤s0.length:=Classical.byContradiction fun hn=>by
  have:=k4 s0.length (Nat.zero_le _) (by omega)
  rw [this] at f0;cases f0
 rw [deK] at k3
 have hc:=List.find?_some k3
 obtain ⟨vs,ls⟩:=AKC (by omega) (List.mem_of_find?_eq_some k3)
 have hone:=fun {j:Nat}(hj:j<W)=>AKk K hM hE hBl hB hx h0 hc (by omega) hj
 have hsub:∀ i∈s0,i∈s:=fun i hi=>Classical.byContradiction fun hn=>by
  obtain ⟨b1,b2⟩:=hb0 i hi
  have hg:(Gl blocks)[i]?=some ((Gl blocks).getD i 0):=by rw [List.getD_eq_getElem?_getD,List.getElem?_eq_getElem b1];rfl
  have hw:=hB _ (List.mem_of_getElem? hg)
  refine b2 (List.ext_getElem (by rw [hw.1,hTl]) fun j j1 j2=>?_)
  have hj:j<W:=by rw [hTl] at j2;exact j2
  have e:=(AHT K hM (fun b hb=>hB b (AGM hb)) hc hj).2 _ (AHR hg hn)
  rw [hone hj,← hTj _ _ hj] at e
  have g1:Bm (Aj blocks ((Gl blocks).getD i 0)) j=(Aj blocks ((Gl blocks).getD i 0))[j]:=by rw [Bm,List.getD_eq_getElem?_getD,List.getElem?_eq_getElem j1];rfl
  have g2:Bm (T ((Gl blocks).getD i 0)) j=(T ((Gl blocks).getD i 0))[j]:=by rw [Bm,List.getD_eq_getElem?_getD,List.getElem?_eq_getElem j2];rfl
  rw [← g1,← g2]
  exact e.symm
 obtain rfl:s0=s:=AAZ hp0 (AED vs).2 fun i=>⟨hsub i,fun h=>AEk (hp0.imp fun h=>Nat.ne_of_lt h) hsub (by omega) i h⟩
 exact ⟨hR.trans hs,fun j hj=>hone hj⟩
theorem ADB {b:List (List Int)}:b=(List.range b.length).map (Aj b):=by
 refine List.ext_getElem (by simp) fun i h1 h2=>?_
 rw [List.getElem_map,List.getElem_range,Aj,List.getD_eq_getElem?_getD,List.getElem?_eq_getElem h1];rfl
theorem AA7:∀ {a b:List (List Int)},a.length=b.length→lsC a b=b.countP fun g=>decide (g=[])
 | [],[],_=>rfl
 | [],_::_,h=>by simp at h
 | _::_,[],h=>by simp at h
 | w::a,g::b,h=>by
  rw [lsC,AA7 (by simpa using h),List.countP_cons]
  by_cases e:g=[]
  ·simp [e];omega
  ·simp [e]
theorem AKp {a b:List (List Int)}(h:a.length=b.length):lsC a b=(awL b).length:=by
 rw [AA7 h,awL,← List.countP_eq_length_filter]
 conv=>lhs;rw [ADB (b:=b)]
 rw [List.countP_map]
 refine List.countP_congr fun i _=>?_
 simp [List.length_pos_iff]
theorem AAM:∀ {a b:List (List Int)},a.length=b.length→wrC a b=(List.range b.length).countP fun i=>decide (Aj b i≠[]∧Aj b i≠Aj a i)
 | [],[],_=>rfl
 | [],_::_,h=>by simp at h
 | _::_,[],h=>by simp at h
 | w::a,g::b,h=>by
  rw [wrC,AAM (a:=a) (b:=b) (by simpa using h),List.length_cons,List.range_succ_eq_map,List.countP_cons,List.countP_map,Nat.add_comm]
  congr 1
  show _=if decide (g≠[]∧g≠w)=true then 1 else 0
  by_cases e:g≠[]∧g≠w
  ·rw [if_pos e,if_pos (decide_eq_true e)]
  ·rw [if_neg e,if_neg (by simpa using e)]
theorem AGD {a b:List (List Int)}(h:a.length=b.length):wrC a b=((List.range (Gl b).length).filter fun i=>!decide (Aj b ((Gl b).getD i 0)=Aj a ((Gl b).getD i 0))).length:=by
 have e:Gl b=(List.range (Gl b).length).map fun i=>(Gl b).getD i 0:=by
  refine List.ext_getElem (by simp) fun i h1 h2=>?_
  rw [List.getElem_map,List.getElem_range,List.getD_eq_getElem?_getD,List.getElem?_eq_getElem h1];rfl
 rw [AAM h,← List.countP_eq_length_filter]
 have h2:(Gl b).countP (fun c=>!decide (Aj b c=Aj a c))=(List.range (Gl b).length).countP fun i=>!decide (Aj b ((Gl b).getD i 0)=Aj a ((Gl b).getD i 0)):=by
  conv=>lhs;rw [e]
  rw [List.countP_map];rfl
 rw [← h2]
 conv=>rhs;rw [Gl]
 rw [List.countP_filter]
 refine List.countP_congr fun i _=>?_
 simp [List.length_pos_iff,and_comm]
section
variable {p m N w:Nat}{dd:Int}{md racks full:List Int}{Aa sets blocks:List (List Int)}
theorem AIK (CC:Cok p m md N Aa) (hf:∀ x∈full,0≤x∧x<((p ^ m:Nat):Int)) (b:Nat):enT p m md N Aa w full b=(List.range w).map fun j=>Cq (Ah (fA p m)) (Ah (fM p (By m md))) ((full.drop (j*Aa.length)).take Aa.length) (Dm Aa b):=by
 rw [enT]
 exact List.map_congr_left fun j _=>(Is CC.K).cmb_at (fun x hx=>hf x (List.mem_of_mem_drop (List.mem_of_mem_take hx))) CC.mat b
theorem AHv {b:Nat}(hb:b<N):Aj (Wn p m md N Aa w full) b=enT p m md N Aa w full b:=by
 rw [Aj,Wn,List.getD_eq_getElem?_getD,List.getElem?_map,List.getElem?_range hb];rfl
theorem AE9:(Wn p m md N Aa w full).length=N:=by rw [Wn,List.length_map,List.length_range]
theorem AG4 {W:Int}(K:CfOk p m md N Aa dd sets racks W) (hf:∀ x∈full,0≤x∧x<((p ^ m:Nat):Int)) (hfl:full.length=Aa.length*w) (hBl:blocks.length=N)
  (hB:∀ b,b<N→Aj blocks b=[]∨Wd (p ^ m) w (Aj blocks b)) (hl:2*(wrC (Wn p m md N Aa w full) blocks:Int)+(lsC (Wn p m md N Aa w full) blocks:Nat)<dd) :
  ∃ o:List Nat,deO p m md N Aa blocks w (deR p m md N Aa blocks dd w)=DeQ (Wn p m md N Aa w full) (A7 o) 0∧o.length=wrC (Wn p m md N Aa w full) blocks ∧
   ∀ b∈o,b<N∧Aj blocks b≠[]∧Aj blocks b≠Aj (Wn p m md N Aa w full) b:=by
 have hel:(Wn p m md N Aa w full).length=blocks.length:=by rw [AE9,hBl]
 have hBp:∀ b∈Gl blocks,Wd (p ^ m) w (Aj blocks b):=fun b hb=>by
  obtain ⟨h1,h2⟩:=ACZ hb
  rcases hB b (by omega) with h|h
  ·rw [h] at h2;cases h2
  ·exact h
 have hE:exB p m md N Aa Aa.length (dd-1).toNat sets=true:=by
  have h:=K.cd
  rw [cdE,K.CC.ck,if_neg (by simp)] at h
  split at h
  ·cases h
  ·split at h
   ·assumption
   ·cases h
 have hfx:∀ j,j<w→Wd (p ^ m) Aa.length ((full.drop (j*Aa.length)).take Aa.length):=fun j hj=>by
  refine ⟨?_,fun x hx=>hf x (List.mem_of_mem_drop (List.mem_of_mem_take hx))⟩
  have h2:(j+1)*Aa.length≤w*Aa.length:=Nat.mul_le_mul_right _ hj
  rw [Nat.add_mul,Nat.one_mul,Nat.mul_comm w,← hfl] at h2
  rw [List.length_take,List.length_drop];omega
 rw [AKp hel,AGD hel] at hl
 have hs0:((List.range (Gl blocks).length).filter fun i=>!decide (Aj blocks ((Gl blocks).getD i 0)=Aj (Wn p m md N Aa w full) ((Gl blocks).getD i 0)))=(List.range (Gl blocks).length).filter fun i=>!decide (Aj blocks ((Gl blocks).getD i 0)=enT p m md N Aa w full ((Gl blocks).getD i 0)):=by
  refine List.filter_congr fun i hi=>?_
  have hi:=List.mem_range.1 hi
  have hm:(Gl blocks).getD i 0∈Gl blocks:=by
   rw [List.getD_eq_getElem?_getD,List.getElem?_eq_getElem hi]
   exact List.getElem_mem hi
  rw [AHv (by have:=(ACZ hm).1;omega)]
 obtain ⟨h1,h2⟩:=AG8 K.CC.K K.CC.mat hE hBl hBp hfx (AIK K.CC hf) hs0 (by omega)
 generalize hS:((List.range (Gl blocks).length).filter fun i=>!decide (Aj blocks ((Gl blocks).getD i 0)=Aj (Wn p m md N Aa w full) ((Gl blocks).getD i 0)))=s0 at h1 h2 hl
 refine ⟨AHq (Gl blocks) s0,?_,by rw [List.length_map,AGD hel,hS],fun b hb=>?_⟩
 ·rw [h1,deO]
  congr 1
  rw [cmR,Wn]
  refine List.map_congr_left fun b _=>?_
  rw [enT]
  refine List.map_congr_left fun j hj=>?_
  rw [cmW,h2 j (List.mem_range.1 hj)]
 ·obtain ⟨i,hi,rfl⟩:=List.mem_map.1 hb
  rw [← hS] at hi
  obtain ⟨i1,i2⟩:=List.mem_filter.1 hi
  have i1:=List.mem_range.1 i1
  have hm:(Gl blocks).getD i 0∈Gl blocks:=by
   rw [List.getD_eq_getElem?_getD,List.getElem?_eq_getElem i1]
   exact List.getElem_mem i1
  obtain ⟨a1,a2⟩:=ACZ hm
  refine ⟨by omega,fun h=>?_,by simpa using i2⟩
  rw [h] at a2;cases a2
end
end Go.Proofs.YteadncphjconmaaGreat
