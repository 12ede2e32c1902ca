/-
The law's function StoreConfigs. The ring of nodes of a store in plain words. The ring of a store, in the program. Places of blocks. The twentieth text of the frame: ranges over functions: rounds, iterators, the statement. The tests of a stripe. Lists compared, in the document. Equations with their right hand sides, and their solution by places. Equations solved, in the program. The program's test whether a word is in a code. Words of a code from messages, in the program. A stripe completed from some of its blocks, in the program. Subsets in the order of their entries. Subsets in order, in the document. A stripe decoded, in the program. Coefficients of repairs, in the program. Equations solved, in the document. A stripe completed from some of its blocks, in the document. A stripe decoded, in the document. Decode. The law's function StoreDecodes. Encode, in the document. slices.Chunk. Encode, in the program. The law's function StoreEncodes.
-/
import Derived.RangeFuncRecord
import Derived.Test.YteadncphjconmaaGreatRY6
set_option linter.unusedVariables false
set_option linter.unusedSimpArgs false
namespace Go.Proofs.YteadncphjconmaaGreat
open Go Go.Fw
set_option maxRecDepth 100000
set_option linter.unusedVariables false
set_option linter.unusedSimpArgs false
set_option maxHeartbeats 0
theorem Nu:Bk Tryz.prog 9 [] [] [] (Rv (.bool true) []):=by
 refine Ad (F:=O0) rfl fun C=>?_
 refine G9 (As Aj none 0 0 []) (fun w A _=>My _ w A none 0) ?_
 refine G9 (As (Af Aj) none 0 0 []) (fun w A _=>My _ w A none 0) ?_
 have h0:cfE 0 0 [] 0 [] 0 [] [] 0=1:=by
  have hc:Wc 0 0 [] 0 []=1:=by
   rw [Wc,if_pos]
   intro h
   obtain ⟨p,m,hp,hm,K⟩:=Xo h
   have:=K.p2
   omega
  rw [cfE,hc,if_pos (by omega)]
 have Cl:=fun {n c nm cm nt ct nr cr:Nat}{pm ps pt pr:Option Addr}=>J2 (n:=n) (c:=c) (nm:=nm) (cm:=cm) (nt:=nt) (ct:=ct) (nr:=nr) (cr:=cr) (pm:=pm) (ps:=ps) (pt:=pt) (pr:=pr) (by simp only [Cg];omega) (by simp only [Cg];omega) h0
 refine wk 7 (ct @Cl cz) ?_
 exact ge
section
variable {P M N dd W:Int}{n c nm cm nt ct nr cr:Nat}{pm ps pt pr:Option Addr}{md racks:List Int}{Aa sets:List (List Int)}
theorem Qw {res:Bool}(hr:(decide ((sets.length:Int)≤300) && decide (N≤8))=res):Bk Tryz.prog 12 [.agg #[.int .i64 P,.int .i64 M,.slice pm nm cm,.int .i64 N,.slice ps n c,.int .i64 dd,.slice pt nt ct,.slice pr nr cr,.int .i64 W]] [] [As (Af Aj) pt nt ct sets] (Rv (.bool res) []):=by
 refine Ad (F:=Qu) rfl fun C=>?_
 refine Az 0 rfl fun hn hb _=>?_
 subst hn
 by_cases h1:(sets.length:Int)≤300
 ·rw [decide_eq_true h1,Bool.true_and] at hr
  subst hr
  refine wk 16 cz ?_
  intro b1 h2
  exact ge
 ·rw [decide_eq_false h1,Bool.false_and] at hr
  subst hr
  refine wk 13 cz ?_
  intro b1 h2
  exact ge
theorem AA5:0≤cfE P M md N Aa dd sets racks W∧cfE P M md N Aa dd sets racks W≤13:=by
 have h1:=Mq P M md N Aa
 have h2:=ABc (P:=P) (M:=M) (N:=N) (dd:=dd) (md:=md) (Aa:=Aa) (sets:=sets)
 rw [cfE]
 (repeat' split) <;> omega
end
open Go Go.Fw
set_option maxRecDepth 100000
set_option linter.unusedVariables false
set_option linter.unusedSimpArgs false
set_option maxHeartbeats 0
def ACc (k:Int):Int→Int→List Int→List (Int×Int)
 | _,_,[]=>[]
 | f,r,n::l=>(if k<n then [(f+k,r)] else [])++ACc k (f+n) (r+1) l
def Ul (racks:List Int):Nat→List (Int×Int)
 | 0=>[]
 | K+1=>Ul racks K++ACc K 0 0 racks
theorem Ur {k:Int}{z:Int×Int}:∀ {f r:Int}{l:List Int},z∈ACc k f r l→∃ (j:Nat) (n:Int),l[j]?=some n∧k<n∧z.1=f+C1 (l.take j)+k∧z.2=r+j
 | _,_,[],h=>by cases h
 | f,r,n::l,h=>by
  rw [ACc] at h
  rcases List.mem_append.1 h with h|h
  ·split at h
   ·rename_i hk
    rw [List.mem_singleton.1 h]
    exact ⟨0,n,rfl,hk,by rw [List.take_zero,C1];omega,by omega⟩
   ·cases h
  ·obtain ⟨j,m,h1,h2,h3,h4⟩:=Ur h
   refine ⟨j+1,m,by rw [List.getElem?_cons_succ];exact h1,h2,?_,?_⟩
   ·rw [List.take_succ_cons,C1,h3];omega
   ·rw [h4];omega
theorem AAk {l:List Int}(h:∀ x∈l,0≤x) {i j:Nat}(hij:i≤j):C1 (l.take i)≤C1 (l.take j):=by
 have:=(Hq (l:=l.take j) (fun x hx=>h x (List.mem_of_mem_take hx)) i).2
 rwa [List.take_take,Nat.min_eq_left hij] at this
theorem AGF {l:List Int}(h0:∀ x∈l,0≤x) {i j:Nat}{n m k k':Int}(hi:l[i]?=some n) (hj:l[j]?=some m) (h1:0≤k) (h2:k<n) (h3:0≤k') (h4:k'<m) (he:C1 (l.take i)+k=C1 (l.take j)+k'):i=j∧k=k':=by
 rcases Nat.lt_trichotomy i j with h|h|h
 ·have:=AAk h0 (show i+1≤j by omega)
  rw [Hp hi] at this;omega
 ·subst h;exact ⟨rfl,by omega⟩
 ·have:=AAk h0 (show j+1≤i by omega)
  rw [Hp hj] at this;omega
theorem We {k:Int}(hk:0≤k):∀ {f r:Int}{l:List Int},(∀ x∈l,0≤x)→(ACc k f r l).Pairwise fun a b=>a.1<b.1
 | _,_,[],_=>.nil
 | f,r,n::l,h=>by
  have hl:∀ x∈l,0≤x:=fun x hx=>h x (.tail _ hx)
  rw [ACc,List.pairwise_append]
  refine ⟨by split <;> simp,We hk hl,fun a ha b hb=>?_⟩
  split at ha
  ·rename_i hkn
   rw [List.mem_singleton.1 ha]
   obtain ⟨j,m,h1,h2,h3,h4⟩:=Ur hb
   have:=(Hq hl j).1
   rw [h3];show f+k<_;omega
  ·cases ha
theorem ACl {racks:List Int}{z:Int×Int}:∀ {K:Nat},z∈Ul racks K→∃ (k j:Nat) (n:Int),k<K∧racks[j]?=some n∧(k:Int)<n∧z.1=C1 (racks.take j)+k∧z.2=j
 | 0,h=>by cases h
 | K+1,h=>by
  rw [Ul] at h
  rcases List.mem_append.1 h with h|h
  ·obtain ⟨k,j,n,h1,h2,h3,h4,h5⟩:=ACl h
   exact ⟨k,j,n,by omega,h2,h3,h4,h5⟩
  ·obtain ⟨j,n,h1,h2,h3,h4⟩:=Ur h
   exact ⟨K,j,n,by omega,h1,h2,by rw [h3];omega,by rw [h4];omega⟩
theorem Y4 {racks:List Int}(h0:∀ x∈racks,0≤x):∀ {K:Nat},((Ul racks K).map Prod.fst).Nodup
 | 0=>List.nodup_nil
 | K+1=>by
  rw [Ul,List.map_append,List.nodup_append]
  refine ⟨Y4 h0,?_,?_⟩
  ·rw [List.Nodup,List.pairwise_map]
   exact (We (by omega) h0).imp fun {a b} h e=>by omega
  ·intro a ha b hb e
   subst e
   obtain ⟨u,hu,rfl⟩:=List.mem_map.1 ha
   obtain ⟨v,hv,he⟩:=List.mem_map.1 hb
   obtain ⟨k,j,n,h1,h2,h3,h4,h5⟩:=ACl hu
   obtain ⟨i,m,g1,g2,g3,g4⟩:=Ur hv
   have:=AGF h0 h2 g1 (by omega) h3 (by omega) g2 (by omega)
   omega
theorem ACC {k:Nat}:∀ {f r:Int}{l:List Int},((ACc k f r l).length:Int)=C1 (l.map fun n=>min n ((k+1:Nat):Int))-C1 (l.map fun n=>min n (k:Int))
 | _,_,[]=>rfl
 | f,r,n::l=>by
  have ih:=ACC (k:=k) (f:=f+n) (r:=r+1) (l:=l)
  rw [ACc,List.length_append,List.map_cons,List.map_cons,C1,C1]
  split
  ·rw [List.length_singleton];omega
  ·rw [List.length_nil];omega
theorem AAm:∀ {l:List Int},(∀ x∈l,0≤x)→C1 (l.map fun n=>min n ((0:Nat):Int))=0
 | [],_=>rfl
 | n::l,h=>by
  rw [List.map_cons,C1,AAm fun x hx=>h x (.tail _ hx)]
  have:=h n (.head _);omega
theorem AB8 {racks:List Int}(h0:∀ x∈racks,0≤x):∀ {K:Nat},((Ul racks K).length:Int)=C1 (racks.map fun n=>min n (K:Int))
 | 0=>(AAm h0).symm
 | K+1=>by
  rw [Ul,List.length_append]
  have:=AB8 h0 (K:=K)
  have h2:=ACC (k:=K) (f:=0) (r:=0) (l:=racks)
  omega
theorem Xd {K:Int}:∀ {l:List Int},(∀ x∈l,x≤K)→C1 (l.map fun n=>min n K)=C1 l
 | [],_=>rfl
 | n::l,h=>by
  have h1:=Xd (K:=K) (l:=l) fun x hx=>h x (.tail _ hx)
  have:=h n (.head _)
  rw [List.map_cons,C1,C1];omega
def J3 (racks:List Int):List (Int×Int):=Ul racks (Va 0 racks).toNat
theorem AHK {m:Int}{l:List Int}:m≤Va m l∧∀ x∈l,x≤Va m l:=by
 refine ⟨?_,fun x hx=>?_⟩
 ·by_cases h:Va m l<m
  ·have:=(AAK (c:=Va m l) (m:=m) (l:=l)).2 (.inl h);omega
  ·omega
 ·by_cases h:Va m l<x
  ·have:=(AAK (c:=Va m l) (m:=m) (l:=l)).2 (.inr ⟨x,hx,h⟩);omega
  ·omega
theorem AAl {racks:List Int}(h0:∀ x∈racks,0≤x):((J3 racks).length:Int)=C1 racks:=by
 have h1:=AHK (m:=0) (l:=racks)
 rw [J3,AB8 h0]
 exact Xd fun x hx=>by have:=h1.2 x hx;omega
abbrev plI (t s b:Nat):Nat:=(s % t+b) % t
theorem AIN {t s b c:Nat}(hb:b<t) (hc:c<t) (h:plI t s b=plI t s c):b=c:=by
 have hs:s % t<t:=Nat.mod_lt _ (by omega)
 have e:∀ x,x<t→plI t s x=if s % t+x<t then s % t+x else s % t+x-t:=fun x hx=>by
  show (s % t+x) % t=_
  split
  ·exact Nat.mod_eq_of_lt ‹_›
  ·rw [Nat.mod_eq_sub_mod (by omega)];exact Nat.mod_eq_of_lt (by omega)
 rw [e b hb,e c hc] at h
 split at h <;> split at h <;> omega
section
variable {P M N dd W:Int}{n c nm cm nt ct nr cr:Nat}{pm ps pt pr:Option Addr}{md racks:List Int}{Aa sets:List (List Int)}
end
open Go Go.Fw
set_option maxRecDepth 100000
set_option linter.unusedVariables false
set_option linter.unusedSimpArgs false
set_option maxHeartbeats 0
section
variable {P M N dd W:Int}{n c nm cm nt ct nr cr:Nat}{pm ps pt pr:Option Addr}{md racks:List Int}{Aa sets:List (List Int)}
end
structure CfOk (p m:Nat) (md:List Int) (N:Nat) (Aa:List (List Int)) (dd:Int) (sets:List (List Int)) (racks:List Int) (W:Int):Prop where
 CC:Cok p m md N Aa
 k1:1≤Aa.length
 cd:cdE p m md N Aa dd sets=0
 cum:Od N (((dd-1) / 2).toNat+1)≤65536
 w1:1≤W
 w2:W≤16
 r1:1≤racks.length
 r2:racks.length≤64
 rp:∀ x∈racks,1≤x
 r3:C1 racks≤256
 r4:(N:Int)≤C1 racks
theorem AGx {P M N dd W:Int}{md racks:List Int}{Aa sets:List (List Int)}(h:cfE P M md N Aa dd sets racks W=0):∃ p m n:Nat,P=p∧M=m∧N=n∧CfOk p m md n Aa dd sets racks W:=by
 rw [cfE] at h
 by_cases hc:Wc P M md N Aa=0
 ·rw [if_neg (fun e=>e hc)] at h
  obtain ⟨p,m,n,rfl,rfl,rfl,CC⟩:=ABO hc
  refine ⟨p,m,n,rfl,rfl,rfl,?_⟩
  by_cases h0:Aa.length=0
  ·rw [if_pos h0] at h;cases h
  rw [if_neg h0] at h
  by_cases h1:cdE p m md n Aa dd sets=0
  ·rw [if_neg (fun e=>e h1),Int.toNat_natCast] at h
   by_cases h2:65536<Od n (((dd-1) / 2).toNat+1)
   ·rw [if_pos h2] at h;cases h
   rw [if_neg h2] at h
   by_cases h3:W<1∨16<W∨racks.length<1∨64<racks.length∨∃ x∈racks,x<1
   ·rw [if_pos h3] at h;cases h
   rw [if_neg h3] at h
   by_cases h4:256<C1 racks
   ·rw [if_pos h4] at h;cases h
   rw [if_neg h4] at h
   by_cases h5:C1 racks<n
   ·rw [if_pos h5] at h;cases h
   refine ⟨CC,by omega,h1,by omega,?_,?_,?_,?_,fun x hx=>?_,by omega,by omega⟩
   ·by_cases h6:W<1
    ·exact absurd (.inl h6) h3
    ·omega
   ·by_cases h6:16<W
    ·exact absurd (.inr (.inl h6)) h3
    ·omega
   ·by_cases h6:racks.length<1
    ·exact absurd (.inr (.inr (.inl h6))) h3
    ·omega
   ·by_cases h6:64<racks.length
    ·exact absurd (.inr (.inr (.inr (.inl h6)))) h3
    ·omega
   ·by_cases h6:x<1
    ·exact absurd (.inr (.inr (.inr (.inr ⟨x,hx,h6⟩)))) h3
    ·omega
  ·rw [if_pos h1] at h;exact absurd h h1
 ·rw [if_pos hc] at h;exact absurd h hc
theorem CfOk.r0 {p m n:Nat}{dd W:Int}{md racks:List Int}{Aa sets:List (List Int)}(h:CfOk p m md n Aa dd sets racks W):∀ x∈racks,0≤x:=fun x hx=>by have:=h.rp x hx;omega
def Z9 (racks:List Int) (s b:Nat):Int×Int:=(J3 racks).getD (plI (J3 racks).length s b) default
theorem CfOk.at {p m n:Nat}{dd W:Int}{md racks:List Int}{Aa sets:List (List Int)}(h:CfOk p m md n Aa dd sets racks W) (s b:Nat):(J3 racks)[plI (J3 racks).length s b]?=some (Z9 racks s b):=by
 have h1:=AAl h.r0
 have h2:=h.r4
 have h3:=h.CC.n1
 have h4:plI (J3 racks).length s b<(J3 racks).length:=Nat.mod_lt _ (by omega)
 rw [Z9,List.getD_eq_getElem?_getD,List.getElem?_eq_getElem h4];rfl
theorem CfOk.inj {p m n:Nat}{dd W:Int}{md racks:List Int}{Aa sets:List (List Int)}(h:CfOk p m md n Aa dd sets racks W) {s b c:Nat}(hb:b<n) (hc:c<n) (he:(Z9 racks s b).1=(Z9 racks s c).1):b=c:=by
 have h1:=AAl h.r0
 have h2:=h.r4
 have hn:=Y4 h.r0 (K:=(Va 0 racks).toNat)
 rw [show Ul racks (Va 0 racks).toNat=J3 racks from rfl] at hn
 have a1:=h.at s b
 have a2:=h.at s c
 have b1:((J3 racks).map Prod.fst)[plI (J3 racks).length s b]?=some (Z9 racks s b).1:=by rw [List.getElem?_map,a1];rfl
 have b2:((J3 racks).map Prod.fst)[plI (J3 racks).length s c]?=some (Z9 racks s c).1:=by rw [List.getElem?_map,a2];rfl
 rw [he,← b2] at b1
 have l1:plI (J3 racks).length s b<((J3 racks).map Prod.fst).length:=by rw [List.length_map];exact Nat.mod_lt _ (by omega)
 exact AIN (t:=(J3 racks).length) (s:=s) (by omega) (by omega) ((List.getElem?_inj l1 hn).1 b1)
section
variable {P M N dd W s b x e:Int}{n c nm cm nt ct nr cr:Nat}{pm ps pt pr:Option Addr}{md racks:List Int}{Aa sets:List (List Int)}
end
end Go.Proofs.YteadncphjconmaaGreat
namespace Go.Fw
set_option linter.unusedVariables false
variable {P:Program}
theorem ACk {C:Cx}{σ:Fr}{ty:TypeId}{β:List A1}{Γ:List Fact}{K:Value→List A1→List Fact→Prop}{α:Type}{E:Enc α}{t e:TypeId}{x y z u:Operand}{pa:Option Addr}{len ca:Nat}{l:List α}{ky kz ku:IntKind}{lo hi mx:Int}(n kl kh km:Nat) (hx:ev σ x=some (.slice pa len ca)) (hy:ev σ y=some (.int ky lo)) (hz:ev σ z=some (.int kz hi)) (hu:ev σ u=some (.int ku mx))
  (hn:A3 Γ n=some (As E pa len ca l)) (hT:Dr P t=some (e,E.size)) (hkl:lo=(kl:Int)) (hkh:hi=(kh:Int)) (hkm:mx=(km:Int)) (h1:kl≤kh) (h2:kh≤len) (h3:kh≤km) (h4:km≤len)
  (h:∀ pa',K (.slice pa' (kh-kl) (km-kl)) β (As E pa' (kh-kl) (km-kl) ((l.take kh).drop kl)::Γ)):Ea P C (.slice t x (some y) (some z) (some u)) ty σ β Γ K:=fun w hO hG=>by
 obtain ⟨rfl,hs⟩:=hG _ (Ai hn)
 have hle:=hs.1
 have hp:Gv P (.slice t x (some y) (some z) (some u)) ty σ w (.slice (if km=kl then pa else pa.map (·.add (kl*E.size))) (kh-kl) (km-kl)):=fun ρ hρ=>by
  obtain ⟨hu',_⟩:=B1 hT
  subst hkl;subst hkh;subst hkm
  have:=run_slice_lhm (P:=P) w t pa l.length ca (by rw [Kn hu'];exact hu') ky kz ku kl kh km (by omega) (by omega) (by omega) (by omega)
  simp [execOp,Ck,hρ _ _ hx,hρ _ _ hy,hρ _ _ hz,hρ _ _ hu,F8 hT,this,Ge hT,sliced]
 have ht:Ln E w (ok C w β) pa km (l.take kh):=hs.take (by omega)
 exact Gv.done hp (h _) hO fun g hg=>by
  rcases List.mem_cons.1 hg with rfl|hg
  ·exact ⟨by rw [List.length_drop,List.length_take];omega,ht.drop⟩
  ·exact hG g hg
theorem AHA {C:Cx}{σ:Fr}{ty:TypeId}{β:List A1}{Γ:List Fact}{K:Value→List A1→List Fact→Prop}{t t2 e:TypeId}{x y:Operand}{b n1 c1 n2 c2 by':Nat}{T:TypeId}{cs:List Value}{pa:Option Addr}{l:List Int}{kd:IntKind}(k n:Nat) (hx:ev σ x=some (.slice (some ⟨b,0,none⟩) n1 c1)) (hy:ev σ y=some (.slice pa n2 c2))
  (hb:A3 β k=some (some b,T,cs)) (hn:A3 Γ n=some (As (Bt kd by') pa n2 c2 l)) (hT:Dr P t=some (e,1)) (h1:n2≤n1) (h2:n2≤cs.length) (h:K (.int .i64 n2) (setB β k (Al kd l++cs.drop n2)) Γ) :
  Ea P C (.call { callee:=.builtin .copy,args:=#[x,y],argTypes:=#[t,t2] }) ty σ β Γ K:=fun w hO hG=>by
 obtain ⟨hu,inf,hi,hs⟩:=B1 hT
 have hsz:(P.info? e).map (·.size)=some 1:=by rw [hi];simp [hs]
 have hblk:w.heap[b]?=some (.cells cs.toArray T (0,0)):=hO.blk _ (Bs hb) b rfl
 obtain ⟨rfl,hle,_,hrd⟩:=hG _ (Ai hn)
 have hmin:Nat.min l.length n1=l.length:=Nat.min_eq_left h1
 have key:∃ w',(Builtin.copy_ #[t,t2] ty #[.slice (some ⟨b,0,none⟩) n1 c1,.slice pa l.length c2]).run P w = .ok (goInt l.length) w'∧Other b w w'∧w'.heap[b]?=some (.cells (Al kd l++cs.drop l.length).toArray T (0,0)):=by
  rcases hrd with rfl|⟨b',o,rfl,hok,hx⟩
  ·exact ⟨w,run_copy_none (P:=P) w t t2 ty e _ pa n1 c1 0 c2 hu hsz hmin,⟨rfl,rfl,rfl,rfl,fun _ _=>rfl⟩,by simpa [Al] using hblk⟩
  ·have hl:(Al kd l).length=l.length:=by simp [Al]
   have hr:=run_copy_row (P:=P) w t t2 ty e b 0 n1 c1 ⟨b',o,none⟩ l.length c2 cs.toArray T (Al kd l) hu hsz hblk (by rw [hl,hmin]) (fun j v hv=>by
    rw [Addr.add_mid]
    rw [Al,List.getElem?_map] at hv
    cases hj:l[j]? with
    | none=>rw [hj] at hv;cases hv
    | some z =>
     rw [hj] at hv
     obtain rfl:=Option.some.inj hv
     obtain ⟨vs,h1,rfl,_⟩:=hx j z hj
     have:=h1.cell
     rwa [show o+j*(Bt kd by').size=o+j from by rw [show (Bt kd by').size=1 from rfl,Nat.mul_one]] at this) (by rw [hl];simpa using h2) (fun v hv=>by obtain ⟨z,_,rfl⟩:=List.mem_map.1 hv;rfl)
   rw [hl] at hr
   refine ⟨_,hr,⟨rfl,rfl,rfl,by simp [World.setRow],fun k hk=>setRow_other w b k _ hk⟩,?_⟩
   have:=setRow_heap w b cs.toArray (cs.toArray.toList.take 0++Al kd l++cs.toArray.toList.drop (0+l.length)).toArray T (0,0) hblk
   simpa using this
 obtain ⟨w',hr,ho,hb'⟩:=key
 intro ρ hρ
 simp only [execOp,Ck,resolve,invoke,builtin,Sem.run_bind,Sem.run_pure,Result.andThen_ok,List.map_toArray,List.map_cons,List.map_nil,hρ _ _ hx,hρ _ _ hy,hr]
 exact ⟨_,_,h,hO.set hb ho.os ho.tape ho.output ho.size hb' ho.block,AAt hb ho.size ho.block hG⟩
def Fun.inR (F:Fun P) (l:Nat):Fun P:={ F with rnd:=some l,dfs:=[] }
def Fun.mkd (F:Fun P) (D:Nat):Fun P:={ F with dfs:={ target:=.collected D,args:=#[] }::F.dfs }
structure Off (C:Cx) (l:Nat) (o:Obj):Prop where
 lt:l<C.w0.heap.size
 a:¬ C.A l
 m:¬ C.M l
 at_:C.w0.heap[l]?=some o
structure OwnX (C:Cx) (X:Nat→Prop) (w:World) (β:List A1):Prop where
 own:Own ⟨C.w0,C.A,fun k=>C.M k∨X k⟩ w β
 no:∀ x∈β,∀ k,x.1=some k→¬ X k
section
variable {C:Cx}{l:Nat}{o:Obj}{w:World}{β:List A1}{Γ:List Fact}{X:Nat→Prop}
theorem Off.now (h:Off C l o) (hO:Own C w β):w.heap[l]?=some o:=(hO.ext.block l h.lt h.m).trans h.at_
theorem Off.nok (h:Off C l o) {w:World}{β:List A1}:¬ ok C w β l:=fun hk=>by
 rcases hk.1 with h1|h1|h1
 ·exact h.a h1
 ·exact h.m h1
 ·have:=h.lt;omega
theorem Off.nb (h:Off C l o) (hO:Own C w β):∀ x∈β,x.1≠some l:=fun x hx e=>by
 rcases hO.new x hx l e with h1|h1
 ·have:=h.lt;omega
 ·exact h.m h1
theorem Own.ownX (hO:Own C w β) (h:∀ x∈β,∀ k,x.1=some k→¬ X k):OwnX C X w β :=
 ⟨⟨⟨hO.ext.os,hO.ext.tape,hO.ext.output,hO.ext.size,fun k hk hm=>hO.ext.block k hk fun h=>hm (.inl h)⟩,fun x hx b hb=>(hO.new x hx b hb).imp id .inl,hO.blk,hO.apart⟩,h⟩
abbrev reb (w2 w:World) (C:Cx) (β:List A1):Cx:=⟨w2,ok C w β,Sv β⟩
theorem AFc {w2:World}(hO:OwnX C X w β) (hG:∀ f∈Γ,f.holds w (ok C w β)) (hs:w.heap.size≤w2.heap.size) (hk:∀ k,k<w.heap.size→¬ X k→w2.heap[k]?=w.heap[k]?) (hX:∀ k,X k→¬ ok C w β k) :
  Own (reb w2 w C β) w2 β∧∀ f∈Γ,f.holds w2 (ok (reb w2 w C β) w2 β):=by
 refine ⟨⟨Keep.refl _ _,fun x hx b hb=>.inr ⟨x,hx,hb⟩,fun x hx b hb=>?_,hO.own.apart⟩,fun f hf=>f.stable (fun k h=>?_) (hG f hf)⟩
 ·rw [hk b (hO.own.lt hx hb) (hO.no x hx b hb)]
  exact hO.own.blk x hx b hb
 ·exact ⟨⟨.inl h,Nat.lt_of_lt_of_le h.2.1 hs,h.2.2⟩,hk k h.2.1 fun hx=>hX k hx h⟩
theorem ACB {w2 w':World}{β':List A1}(hO:OwnX C X w β) (hos:w2.os=w.os) (htp:w2.tape=w.tape) (hou:w2.output=w.output) (hs:w.heap.size≤w2.heap.size) (hk:∀ k,k<w.heap.size→¬ X k→w2.heap[k]?=w.heap[k]?)
  (h':Own (reb w2 w C β) w' β') (hX:∀ k,X k→k<w2.heap.size) :
  OwnX C X w' β'∧∀ k,ok (reb w2 w C β) w' β' k→¬ X k→ok C w' β' k:=by
 have hold:∀ k,Sv β k→(C.w0.heap.size≤k∨C.M k)∧¬ X k:=fun k ⟨x,hx,e⟩=>by
  have h1:=hO.no x hx k e
  rcases hO.own.new x hx k e with h|h|h
  ·exact ⟨.inl h,h1⟩
  ·exact ⟨.inr h,h1⟩
  ·exact absurd h h1
 have hsz:C.w0.heap.size≤w.heap.size:=hO.own.ext.size
 refine ⟨⟨⟨⟨?_,?_,?_,?_,fun k h1 h2=>?_⟩,fun x hx b hb=>?_,h'.blk,h'.apart⟩,fun x hx k e hx'=>?_⟩,fun k h1 h2=>⟨?_,h1.2.1,h1.2.2⟩⟩
 ·exact (h'.ext.os.trans hos).trans hO.own.ext.os
 ·exact (h'.ext.tape.trans htp).trans hO.own.ext.tape
 ·exact (h'.ext.output.trans hou).trans hO.own.ext.output
 ·exact Nat.le_trans hsz (Nat.le_trans hs h'.ext.size)
 ·have h3:¬ Sv β k:=fun hb=>by
   rcases (hold k hb).1 with h|h
   ·have h1:k<C.w0.heap.size:=h1;omega
   ·exact h2 (.inl h)
  have h1':k<C.w0.heap.size:=h1
  rw [h'.ext.block k (show k<w2.heap.size by omega) h3,hk k (by omega) fun hx=>h2 (.inr hx)]
  exact hO.own.ext.block k h1 h2
 ·rcases h'.new x hx b hb with h|h
  ·have h:w2.heap.size≤b:=h
   exact .inl (show C.w0.heap.size≤b by omega)
  ·exact (hold b h).1.imp id .inl
 ·rcases h'.new x hx k e with h|h
  ·have h:w2.heap.size≤k:=h
   have:=hX k hx';omega
  ·exact (hold k h).2 hx'
 ·rcases h1.1 with h|h|h
  ·have h:ok C w β k:=h
   exact h.1
  ·rcases (hold k h).1 with h|h
   ·exact .inr (.inr h)
   ·exact .inr (.inl h)
  ·have h:w2.heap.size≤k:=h
   exact .inr (.inr (show C.w0.heap.size≤k by omega))
end
def RB (C:Cx) (l:Nat) (r:Loop) (Q0:Value→List Fact→List A1→Prop):Value→World→Prop:=fun v w' =>
 ∃ w β,Own C w β∧Fq (reb (w.putObj l (.loop { r with state:=.busy })) w C β) Q0 v w'
section
variable {F:Fun P}{C:Cx}{S:List It}{σ:Fr}{β:List A1}{Γ:List Fact}{R:Value→World→Prop}{l:Nat}{r:Loop}{Q0:Value→List Fact→List A1→Prop}
theorem AAf {w:World}{l:Nat}{o:Obj}:∀ k,k<w.heap.size→¬ (k=l)→(w.putObj l o).heap[k]?=w.heap[k]?:=fun k _ h=>World.putObj_heap_other h
theorem AIJ {w:World}{R:Value→World→Prop}(hk:F.rnd=some l) (hl:w.heap[l]?=some (.loop r)) (hr:r.state = .ready) (h:Ly F S σ (w.putObj l (.loop { r with state:=.busy })) R):Ly F (.br::S) σ w R:=by
 intro a ha cs
 refine (h a ha cs).step (.one ?_)
 simp only [List.map_cons,It.item]
 exact stepR_beginRound (b:=F.base) hk (run_beginRound hl hr)
theorem AKv (hl:Off C l (.loop r)) (hr:r.state = .ready) (h:∀ C',J F C' S σ β Γ (Fq C' Q0)) (hk:F.rnd=some l:=by rfl):J F C (.br::S) σ β Γ (RB C l r Q0):=fun w hO hG=>by
 refine AIJ hk (hl.now hO) hr ?_
 obtain ⟨h1,h2⟩:=AFc (X:=fun k=>k=l) (w2:=w.putObj l (.loop { r with state:=.busy })) (hO.ownX fun x hx k e hk=>hl.nb hO x hx (hk▸e)) hG (Nat.le_of_eq World.putObj_size.symm) AAf (fun k hk=>hk▸hl.nok)
 exact Xj (h _ _ h1 h2) fun v w' hg=>⟨w,β,hO,hg⟩
theorem AIX {Φ:List Fact}(ix:List Nat) (hp:pick Γ ix=some Φ) (h:Q0 (jv none) Φ β) (hk:F.rnd=some l:=by rfl):J F C [] σ β Γ (Fq C Q0) :=
 fun w hO hG=>AFQ hk ⟨Φ,β,h,hO,fun f hf=>hG f (D3 hp f hf)⟩
end
def AH6 (C:Cx) (l:Nat) (r:Loop) (B:Code) (Q0:Value→List Fact→List A1→Prop) (v:Value) (w:World):Prop :=
 ∃ q Φ β,Q0 (jv q) Φ β∧v = .bool q.isNone∧w.heap[l]?=some (.loop { r with state:=if q.isNone then .ready else .done,pending:=q.map fun p=>sub p B }) ∧
  OwnX C (fun k=>k=l) w β∧∀ f∈Φ,f.holds w (ok C w β)
def AGB (P:Program) (l:Nat) (r:Loop) (B:Code) (vals:List Value) (β:List A1) (Γ:List Fact) (Q0:Value→List Fact→List A1→Prop):Prop :=
 ∀ w A,(∀ k,A k→k<w.heap.size∧k≠l)→(∀ x∈β,∀ b,x.1=some b→w.heap[b]?=some (.cells x.2.2.toArray x.2.1 (0,0)))→Ay β→(∀ x∈β,x.1≠some l)→w.heap[l]?=some (.loop r) →
  (∀ g∈Γ,g.holds w (fun k=>A k∧¬ Sv β k)) →
  ∃ fn tmps assign body,(Instr.yield l vals.toArray).run P w = .ok (.round l fn tmps assign body) w∧Rnd P l fn tmps assign body w (AH6 ⟨w,A,Sv β⟩ l r B Q0)
def IR (C:Cx) (l:Nat) (r:Loop) (B:Code) (Q:List Fact→List A1→Prop) (Qs:List Nat→List Fact→List A1→Prop) (v:Value) (w:World):Prop :=
 ∃ (q:Option (List Nat)) (Φ:List Fact) (β:List A1),(match q with|none=>Q Φ β|some p=>Qs p Φ β) ∧
  w.heap[l]?=some (.loop { r with state:=if q.isNone then .ready else .done,pending:=q.map fun p=>sub p B })∧OwnX C (fun k=>k=l) w β∧∀ f∈Φ,f.holds w (ok C w β)
def AIp (P:Program) (f:FuncId) (args:List Value) (l:Nat) (r:Loop) (B:Code) (β:List A1) (Γ:List Fact) (Q:List Fact→List A1→Prop) (Qs:List Nat→List Fact→List A1→Prop):Prop :=
 Pv P f=true∧∀ w A,(∀ k,A k→k<w.heap.size∧k≠l)→(∀ x∈β,∀ b,x.1=some b→w.heap[b]?=some (.cells x.2.2.toArray x.2.1 (0,0)))→Ay β→(∀ x∈β,x.1≠some l)→w.heap[l]?=some (.loop r) →
  (∀ g∈Γ,g.holds w (fun k=>A k∧¬ Sv β k))→Calls P f args.toArray w (Ret (IR ⟨w,A,Sv β⟩ l r B Q Qs))
def Rdy (r:Loop):Prop:=r.state = .ready∧r.pending=none
theorem Rdy.same {r:Loop}(h:Rdy r):{ r with state:=.ready,pending:=none }=r:=by
 obtain ⟨h1,h2⟩:=h
 cases r;subst h1;subst h2;rfl
theorem AF7 {w:World}{A:Nat→Prop}{β:List A1}{l:Nat}{o:Obj}(hA:∀ k,A k→k<w.heap.size∧k≠l) (hb:∀ x∈β,x.1≠some l) (hl:w.heap[l]?=some o):Off ⟨w,A,Sv β⟩ l o :=
 ⟨(Array.getElem?_eq_some_iff.1 hl).1,fun h=>(hA l h).2 rfl,fun ⟨x,hx,e⟩=>hb x hx e,hl⟩
section
variable {F:Fun P}{C:Cx}{S:List It}{σ:Fr}{β:List A1}{Γ:List Fact}{R:Value→World→Prop}{l:Nat}{r:Loop}{B:Code}{Q:List Fact→List A1→Prop}{Qs:List Nat→List Fact→List A1→Prop}
theorem AEN {args:List Value}(hl:Nat.ble args.length F.fn.ntmps=true) (h:∀ C,Off C l (.loop r)→J F C [.c []] (AEU 0 args) β Γ (IR C l r B Q Qs)) (hk:F.rnd=none:=by rfl) (hd:F.dfs=[]:=by rfl) :
  AIp P F.f args l r B β Γ Q Qs:=⟨F.plain,fun w A hA hb hdi hnl hlo hG =>
 Us (h ⟨w,A,Sv β⟩ (AF7 hA hnl hlo) w ⟨Keep.refl _ _,fun x hx _ hxb=>.inr ⟨x,hx,hxb⟩,hb,hdi⟩
  fun f hf=>f.stable (fun k hk=>⟨⟨.inl hk.1,(hA k hk.1).1,fun x hx e=>hk.2 ⟨x,hx,e⟩⟩,rfl⟩) (hG f hf)) (Nat.le_of_ble_eq_true hl) (fun t v ht=>by simpa using (ABF _ _ _ _ ht).2) hk hd⟩
theorem AIF {R':Value→World→Prop}(hr:∀ v w,R v w→R' v w) (h:J F C S σ β Γ R):J F C S σ β Γ R':=fun w hO hG=>Xj (h w hO hG) hr
theorem AJZ (hl:Off C l (.loop r)) (hr:Rdy r) (h:J F C S σ β Γ (Fq C fun _ Φ β=>Q Φ β)):J F C S σ β Γ (IR C l r B Q Qs) :=
 AIF (fun v w ⟨Φ,β',hq,hO,hG⟩=>⟨none,Φ,β',hq,by rw [hl.now hO];exact congrArg (fun r=>some (Obj.loop r)) hr.same.symm,hO.ownX fun x hx k e hk=>hl.nb hO x hx (hk▸e),hG⟩) h
theorem Uq {β:List A1}{n:Nat}(h:Ay β):Ay (β.take n)∧Ay (β.drop n)∧∀ x∈β.take n,∀ y∈β.drop n,∀ b,x.1=some b→y.1≠some b:=by
 rw [← List.take_append_drop n β] at h
 revert h
 generalize β.take n=β1
 generalize β.drop n=β2
 intro h
 induction β1 with
 | nil=>exact ⟨trivial,h,fun x hx=>by cases hx⟩
 | cons y l ih =>
  obtain ⟨h1,h2⟩:=h
  obtain ⟨i1,i2,i3⟩:=ih h2
  refine ⟨⟨fun z hz=>h1 z (List.mem_append_left _ hz),i1⟩,i2,fun x hx z hz b hb=>?_⟩
  rcases List.mem_cons.1 hx with rfl|hx
  ·exact h1 z (List.mem_append_right _ hz) b hb
  ·exact i3 x hx z hz b hb
theorem AFg {p:List Nat}{vs:List Value}{Q:Value→List Fact→List A1→Prop}{Φ:List Fact}(hp:Q6 F.B p=true) (hr:Lq σ F.fn.results.toList=some vs) (h:Q (Gc vs) Φ β) (hl:∀ g∈Φ,g∈Γ) (hk:F.rnd=none:=by rfl):J F C (.c p::S) σ β Γ (Fq C Q) :=
 AGr (hk:=hk) hp hr fun _ hO hG=>⟨Φ,β,h,hO,fun f hf=>hG f (hl f hf)⟩
theorem AHB {p:List Nat}{i n:Nat}{d:Option Tmp}{ty:TypeId}{x:Operand}{xs:List Operand}{ts:Array TypeId}{vals:List Value}{Γ1:List Fact}{Q0:Value→List Fact→List A1→Prop}(ix:List Nat)
  (hoff:Off C l (.loop r)) (hr:Rdy r) (ho:Yg F p i=some (d,.call { callee:=.value x,args:=xs.toArray,argTypes:=ts },ty)) (hx:ev σ x=some (.func (.yield l) #[] #[])) (ha:Yb σ xs=some vals)
  (hY:AGB P l r B vals (β.take n) Γ1 Q0) (hp:pick Γ ix=some Γ1)
  (hgo:∀ Φ β',Q0 (jv none) Φ β'→J F C (.o p (i+1)::S) (putF d (.bool true) σ) (β'++β.drop n) (Φ++Γ) (IR C l r B Q Qs))
  (hstop:∀ q Φ β' C',Q0 (jv (some q)) Φ β'→J F C' (.o p (i+1)::S) (putF d (.bool false) σ) (β'++β.drop n) (Φ++Γ) (Fq C' fun _ Φ β=>Qs q Φ β)) :
  J F C (.o p i::S) σ β Γ (IR C l r B Q Qs):=by
 intro w hO hG
 have hnl:=hoff.nb hO
 have hsub:∀ x∈β.take n,x∈β:=fun x hx=>List.mem_of_mem_take hx
 have hap:=Uq (n:=n) hO.apart
 obtain ⟨fn,tmps,assign,body,hy,hR⟩:=hY w (ok C w β) (fun k hk=>⟨hk.2.1,fun e=>hoff.nok (e▸hk)⟩) (fun x hx=>hO.blk x (hsub x hx)) hap.1 (fun x hx=>hnl x (hsub x hx)) (hoff.now hO)
  fun g hg=>g.stable (fun k hk=>⟨⟨hk,fun ⟨x,hx,e⟩=>hk.2.2 x (hsub x hx) e⟩,rfl⟩) (hG g (D3 hp g hg))
 refine AC4 (post:=fun v w'=>AH6 ⟨w,ok C w β,Sv (β.take n)⟩ l r B Q0 v w') ho ?_ fun v w' hpost=>?_
 ·intro ρ hρ
  have h1:ρ x = .func (.yield l) #[] #[]:=hρ _ _ hx
  have h2:xs.toArray.map ρ=vals.toArray:=by rw [List.map_toArray,Pn hρ ha]
  simp only [execOp,Ck,resolve,h1,h2,Deferred.ofValue,Sem.run_bind,Sem.run_pure,Result.andThen_ok,invoke,Array.append_empty,Array.empty_append,hy]
  exact hR
 obtain ⟨q,Φ,β',hq,rfl,hlp,hOX,hΦ⟩:=hpost
 -- the own blocks behind the call,and the facts
 have hls:l<w.heap.size:=(Array.getElem?_eq_some_iff.1 (hoff.now hO)).1
 have hnew:∀ x∈β',∀ b,x.1=some b→(w.heap.size≤b∨Sv (β.take n) b)∧b≠l:=fun x hx b hb=>by
  have h1:=hOX.no x hx b hb
  rcases hOX.own.new x hx b hb with h|h|h
  ·exact ⟨.inl h,h1⟩
  ·exact ⟨.inr h,h1⟩
  ·exact absurd h h1
 have hkeep:∀ k,k<w.heap.size→¬ Sv (β.take n) k→k≠l→w'.heap[k]?=w.heap[k]?:=fun k h1 h2 h3=>hOX.own.ext.block k h1 fun h=>h.elim h2 h3
 have hd2:∀ y∈β.drop n,y∈β:=fun y hy=>List.mem_of_mem_drop hy
 have hO2:OwnX C (fun k=>k=l) w' (β'++β.drop n):=by
  refine ⟨⟨⟨hOX.own.ext.os.trans hO.ext.os,hOX.own.ext.tape.trans hO.ext.tape,hOX.own.ext.output.trans hO.ext.output,Nat.le_trans hO.ext.size hOX.own.ext.size,fun k h1 h2=>?_⟩,fun x hx b hb=>?_,fun x hx b hb=>?_,?_⟩,fun x hx k e hk=>?_⟩
  ·have h3:k<C.w0.heap.size:=h1
   refine (hkeep k (Nat.lt_of_lt_of_le h3 hO.ext.size) (fun ⟨x,hx,e⟩=>?_) (fun e=>h2 (.inr e))).trans (hO.ext.block k h3 fun h=>h2 (.inl h))
   rcases hO.new x (hsub x hx) k e with h|h
   ·omega
   ·exact h2 (.inl h)
  ·rcases List.mem_append.1 hx with hx|hx
   ·rcases (hnew x hx b hb).1 with h|⟨y,hy,e⟩
    ·exact .inl (Nat.le_trans hO.ext.size h)
    ·exact (hO.new y (hsub y hy) b e).imp id .inl
   ·exact (hO.new x (hd2 x hx) b hb).imp id .inl
  ·rcases List.mem_append.1 hx with hx|hx
   ·exact hOX.own.blk x hx b hb
   ·rw [hkeep b (hO.lt (hd2 x hx) hb) (fun ⟨y,hy,e⟩=>hap.2.2 y hy x hx b e hb) (fun e=>hnl x (hd2 x hx) (e▸hb))]
    exact hO.blk x (hd2 x hx) b hb
  ·refine hOX.own.apart.append hap.2.1 fun x hx y hy b hb e=>?_
   rcases (hnew x hx b hb).1 with h|⟨z,hz,e2⟩
   ·have:=hO.lt (hd2 y hy) e;omega
   ·exact hap.2.2 z hz y hy b e2 e
  ·rcases List.mem_append.1 hx with hx|hx
   ·exact (hnew x hx k e).2 hk
   ·exact hnl x (hd2 x hx) (hk▸e)
 have hG2:∀ f∈Φ++Γ,f.holds w' (ok C w' (β'++β.drop n)):=fun g hg=>by
  rcases List.mem_append.1 hg with hg|hg
  ·refine g.stable (fun k hk=>⟨⟨?_,hk.2.1,fun x hx=>?_⟩,rfl⟩) (hΦ g hg)
   ·rcases hk.1 with h1|⟨x,hx,e⟩|h1
    ·have h1:ok C w β k:=h1
     exact h1.1
    ·rcases hO.new x (hsub x hx) k e with h|h
     ·exact .inr (.inr h)
     ·exact .inr (.inl h)
    ·exact .inr (.inr (Nat.le_trans hO.ext.size h1))
   ·rcases List.mem_append.1 hx with hx|hx
    ·exact hk.2.2 x hx
    ·intro e
     rcases hk.1 with h1|⟨y,hy,e2⟩|h1
     ·have h1:ok C w β k:=h1
      exact h1.2.2 x (hd2 x hx) e
     ·exact hap.2.2 y hy x hx k e2 e
     ·have h2:=hO.lt (hd2 x hx) e
      have h1:w.heap.size≤k:=h1
      omega
  ·refine g.stable (fun k hk=>⟨⟨hk.1,Nat.lt_of_lt_of_le hk.2.1 hOX.own.ext.size,fun x hx=>?_⟩,hkeep k hk.2.1 (fun ⟨y,hy,e⟩=>hk.2.2 y (hsub y hy) e) (fun e=>hoff.nok (e▸hk))⟩) (hG g hg)
   rcases List.mem_append.1 hx with hx|hx
   ·intro e
    rcases (hnew x hx k e).1 with h|⟨y,hy,e2⟩
    ·have:=hk.2.1;omega
    ·exact hk.2.2 y (hsub y hy) e2
   ·exact hk.2.2 x (hd2 x hx)
 cases q with
 | none =>
  refine hgo Φ β' hq w' ⟨⟨hO2.own.ext.os,hO2.own.ext.tape,hO2.own.ext.output,hO2.own.ext.size,fun k h1 h2=>?_⟩,fun x hx b hb=>?_,hO2.own.blk,hO2.own.apart⟩ hG2
  ·by_cases e:k=l
   ·subst e
    rw [hlp,hoff.at_]
    exact congrArg (fun r=>some (Obj.loop r)) hr.same
   ·exact hO2.own.ext.block k h1 fun h=>h.elim h2 e
  ·rcases hO2.own.new x hx b hb with h|h|h
   ·exact .inl h
   ·exact .inr h
   ·exact absurd h (hO2.no x hx b hb)
 | some q =>
  obtain ⟨h1,h2⟩:=AFc (w2:=w') hO2 hG2 (Nat.le_refl _) (fun _ _ _=>rfl) (fun k hk=>by rw [hk];exact hoff.nok)
  refine Xj (hstop q Φ β' _ hq w' h1 h2) fun v w3 ⟨Φ3,β3,hq3,hO3,hG3⟩=>?_
  obtain ⟨b1,b2⟩:=ACB hO2 rfl rfl rfl (Nat.le_refl _) (fun _ _ _=>rfl) hO3 (fun k hk=>by rw [hk];exact Nat.lt_of_lt_of_le hls hOX.own.ext.size)
  have hl3:¬ ok (reb w' w' C (β'++β.drop n)) w3 β3 l:=fun hk=>by
   rcases hk.1 with h|⟨x,hx,e⟩|h
   ·exact hoff.nok h
   ·exact hO2.no x hx l e rfl
   ·have h:w'.heap.size≤l:=h
    have:=hOX.own.ext.size
    have:w.heap.size≤w'.heap.size:=this
    omega
  refine ⟨some q,Φ3,β3,hq3,?_,b1,fun f hf=>f.stable (fun k hk=>⟨b2 k hk fun e=>hl3 (e▸hk),rfl⟩) (hG3 f hf)⟩
  rw [hO3.ext.block l (show l<w'.heap.size from Nat.lt_of_lt_of_le hls hOX.own.ext.size) (fun ⟨x,hx,e⟩=>hO2.no x hx l e rfl)]
  exact hlp
end
def AIW (B:Code) (p:List Nat):Option (Operand×List Tmp) :=
 match sub p B with
 | .rangeFunc g ps _ _=>some (g,ps.toList)
 | _=>none
def ACD (n:Nat):List Nat→Bool
 | []=>true
 | t::l=>Nat.blt t n && ACD n l
def ACi:List Tmp→List Value→Fr→Fr
 | t::ts,v::vs,σ=>ACi ts vs ((t,v)::σ)
 | _,_,σ=>σ
theorem Fits.par {n:Nat}{D:List Deferred}:∀ {ts:List Tmp}{vs:List Value}{σ:Fr}{a:Act},Fits n D σ a→ACD n ts=true →
  Fits n D (ACi ts vs σ) { a with tmps:=(ts.zip vs).foldl (fun tmps x=>tmps.setIfInBounds x.1 x.2) a.tmps }
 | [],_,_,a,h,_=>by simpa [ACi] using h
 | _::_,[],_,a,h,_=>by simpa [ACi] using h
 | t::ts,v::vs,σ,a,h,hl=>by
  simp only [ACD,Bool.and_eq_true] at hl
  have h1:=h.put (Nat.le_of_ble_eq_true hl.1) v
  exact Fits.par (a:=a.put (some t) v) h1 hl.2
section
variable {F:Fun P}{C:Cx}{S:List It}{σ:Fr}{β:List A1}{Γ:List Fact}{R:Value→World→Prop}
theorem AEZ {p:List Nat}{g:Operand}{ps:List Tmp}{l:Nat}{r:Loop}{vals:List Value}{Q0:Value→List Fact→List A1→Prop}{a0:Act}(hs:AIW F.B p=some (g,ps)) (hps:ACD F.fn.ntmps ps=true) (hlen:vals.length=ps.length)
  (ha0:Fits F.fn.ntmps F.dfs σ a0) (hfn:r.fn=F.f) (htm:r.tmps=a0.tmps) (hpr:r.params=ps.toArray) (hab:Code.rangeFunc g ps.toArray r.assign r.body=sub p F.B)
  (h:∀ C,Off C l (.loop r)→J (F.inR l) C [.c (p++[0]),.br,.c (p++[1])] (ACi ps vals σ) β Γ (RB C l r Q0)):AGB P l r F.B vals β Γ Q0:=by
 intro w A hA hb hdi hnl hlo hG
 refine ⟨_,_,_,_,run_yield hlo (by rw [hpr];simpa using hlen),fun c cs=>?_⟩
 let C:Cx:=⟨w,A,Sv β⟩
 have hoff:Off C l (.loop r):=AF7 hA hnl hlo
 have hw:=h C hoff w ⟨Keep.refl _ _,fun x hx _ hxb=>.inr ⟨x,hx,hxb⟩,hb,hdi⟩
  fun f hf=>f.stable (fun k hk=>⟨⟨.inl hk.1,(hA k hk.1).1,fun x hx e=>hk.2 ⟨x,hx,e⟩⟩,rfl⟩) (hG f hf)
 have hfit:Fits F.fn.ntmps [] (ACi ps vals σ) { tmps:=(r.params.zip vals.toArray).foldl (fun tmps (t,a)=>tmps.setIfInBounds t a) r.tmps,defers:=[] }:=by
  have:=(Fits.par (vs:=vals) (σ:=σ) (a:={ a0 with defers:=[] }) ⟨ha0.size,rfl,ha0.get⟩ hps)
  have e:(r.params.zip vals.toArray).foldl (fun tmps (t,a)=>tmps.setIfInBounds t a) r.tmps=(ps.zip vals).foldl (fun tmps x=>tmps.setIfInBounds x.1 x.2) a0.tmps:=by
   rw [hpr,htm,List.zip_toArray,List.foldl_toArray]
  rw [e]
  exact this
 have hfin:=hw _ hfit (c::cs)
 have hB:(F.inR l).B=F.B:=rfl
 have hst:(F.inR l).base.atR { tmps:=(r.params.zip vals.toArray).foldl (fun tmps (t,a)=>tmps.setIfInBounds t a) r.tmps,defers:=[] } ([It.c (p++[0]),.br,.c (p++[1])].map (It.item (F.inR l).B)) =
   Frame.round l r.fn ((r.params.zip vals.toArray).foldl (fun tmps (t,a)=>tmps.setIfInBounds t a) r.tmps) r.assign r.body .normal:=by
  simp only [List.map_cons,List.map_nil,It.item,sub_append,hB,← hab,sub,Y7]
  simp [Frame.atR,Frame.round,Fun.base,Fun.inR,hfn]
 rw [hst] at hfin
 have hfin:∃ q w' a k,RB C l r Q0 (jv q) w'∧a.defers=[]∧Steps P (lone (Frame.round l r.fn ((r.params.zip vals.toArray).foldl (fun tmps (t,a)=>tmps.setIfInBounds t a) r.tmps) r.assign r.body .normal) (c::cs) w) (lone ((F.inR l).base.atR a k) (c::cs) w')∧AFZ (F.inR l).B q k:=hfin
 obtain ⟨q,w',a,k,⟨w1,β1,hO1,Φ,β',hq,hO',hΦ⟩,_,hsteps,hend⟩:=hfin
 -- the record,busy since the round began
 have hl1:l<w1.heap.size:=(Array.getElem?_eq_some_iff.1 (hoff.now hO1)).1
 have hlow:l<(w1.putObj l (.loop { r with state:=.busy })).heap.size:=by rw [World.putObj_size];exact hl1
 have hX1:OwnX C (fun k=>k=l) w1 β1:=hO1.ownX fun x hx k e hk=>hoff.nb hO1 x hx (hk▸e)
 have hnb:¬ Sv β1 l:=fun ⟨x,hx,e⟩=>hoff.nb hO1 x hx e
 have hbusy:w'.heap[l]?=some (.loop { r with state:=.busy }):=by
  rw [hO'.ext.block l hlow hnb]
  exact World.putObj_heap_same hl1
 obtain ⟨b1,b2⟩:=ACB (w2:=w1.putObj l (.loop { r with state:=.busy })) hX1 rfl rfl rfl (Nat.le_of_eq World.putObj_size.symm) AAf hO' (fun k hk=>by rw [hk];exact hlow)
 have hnok:¬ ok (reb (w1.putObj l (.loop { r with state:=.busy })) w1 C β1) w' β' l:=fun hk=>by
  rcases hk.1 with h|h|h
  ·exact hoff.nok h
  ·exact hnb h
  ·have h:(w1.putObj l (.loop { r with state:=.busy })).heap.size≤l:=h
   omega
 have hls:l<w'.heap.size:=(Array.getElem?_eq_some_iff.1 hbusy).1
 -- what endRound leaves
 have fin:∀ o:Obj,OwnX C (fun k=>k=l) (w'.putObj l o) β'∧∀ f∈Φ,f.holds (w'.putObj l o) (ok C (w'.putObj l o) β'):=fun o=>by
  refine ⟨⟨⟨⟨b1.own.ext.os,b1.own.ext.tape,b1.own.ext.output,by rw [World.putObj_size];exact b1.own.ext.size,fun k h1 h2=>?_⟩,b1.own.new,fun x hx b hb=>?_,b1.own.apart⟩,b1.no⟩,fun f hf=>f.stable (fun k hk=>?_) (hΦ f hf)⟩
  ·rw [World.putObj_heap_other (fun e=>h2 (.inr e))]
   exact b1.own.ext.block k h1 h2
  ·rw [World.putObj_heap_other (fun e=>b1.no x hx b hb e)]
   exact b1.own.blk x hx b hb
  ·have hkl:k≠l:=fun e=>hnok (e▸hk)
   have:=b2 k hk hkl
   exact ⟨⟨this.1,by rw [World.putObj_size];exact this.2.1,this.2.2⟩,World.putObj_heap_other hkl⟩
 have hkind:(F.inR l).base.kind = .normal:=rfl
 have hrd:(F.inR l).base.roundOf=some l:=rfl
 cases q with
 | none =>
  obtain rfl:k=[]:=hend
  refine ⟨.bool true,w'.putObj l (.loop { r with state:=.ready,pending:=none }),⟨none,Φ,β',hq,rfl,World.putObj_heap_same hls,(fin _).1,(fin _).2⟩,hsteps.trans (.one ?_)⟩
  exact stepR_round_end hrd hkind (run_endRound (r:={ r with state:=.busy }) none hbusy)
 | some q =>
  refine ⟨.bool false,w'.putObj l (.loop { r with state:=.done,pending:=some (sub q F.B) }),⟨some q,Φ,β',hq,rfl,World.putObj_heap_same hls,(fin _).1,(fin _).2⟩,hsteps.trans (.one ?_)⟩
  rcases hend with ⟨e,k',rfl⟩|⟨id,k',e,rfl,hx⟩
  ·have e:sub q F.B = .ret:=e
   rw [e]
   exact stepR_round_ret hrd hkind (run_endRound (r:={ r with state:=.busy }) (some .ret) hbusy)
  ·have e:sub q F.B = .exit id:=e
   rw [e]
   exact stepR_round_exit hrd hkind hx (run_endRound (r:={ r with state:=.busy }) (some (.exit id)) hbusy)
theorem AFT {w:World}{D:Nat}{d:Option (List Deferred)}{o:Obj}(h:w.heap[D]?=some (.deferred d)):AAu w (w.putObj D o):=fun k c t z hk=>by
 rw [World.putObj_heap_other (fun e=>by rw [e,h] at hk;cases hk)]
 exact hk
theorem AFX {D:Nat}{R':Value→World→Prop}{cs:List Frame}{m:Machine}(hk:F.rnd=none) (h:Pz (F.mkd D) R' cs m) (hR:∀ v w,R' v w→w.heap[D]?=some (.deferred (some []))∧R v (w.putObj D (.deferred none))):Pz F R cs m:=by
 have h:∃ vs w' fr,R' (Gc vs) w'∧Steps P m (lone fr cs w')∧fr.fn=F.f∧fr.mode = .returning∧fr.defers={ target:=.collected D,args:=#[] }::F.dfs∧fr.kind = .normal∧∀ w5,AAu w' w5→ResAll P w5 fr.tmps F.fn.results.toList vs:=by
  unfold Pz at h
  have e:(F.mkd D).rnd=none:=hk
  rw [e] at h
  exact h
 obtain ⟨vs,w',fr,h1,h2,h3,h4,h5,h6,h7⟩:=h
 obtain ⟨hd,hr⟩:=hR _ _ h1
 have hs:=step_collected (P:=P) (cs:=cs) (by rw [h4];simp) h5 rfl (run_takeDeferred hd)
 unfold Pz
 rw [hk]
 exact ⟨vs,w'.putObj D (.deferred none),{ fr with defers:=[]++F.dfs },hr,h2.trans (.one hs),h3,h4,rfl,h6,fun w5 h5=>h7 w5 fun k c t z hk=>h5 k c t z (AFT hd k c t z hk)⟩
theorem AGz {p:List Nat}{n:Nat}{f:FuncId}{g:Operand}{ps:List Tmp}{caps:List Value}{Γ1:List Fact}{Q:List Fact→List A1→Prop}{Qs:List Nat→List Fact→List A1→Prop}{Q':Value→List Fact→List A1→Prop}(ix:List Nat)
  (hs:AIW F.B p=some (g,ps)) (hps:ACD F.fn.ntmps ps=true) (hg:ev σ g=some (.func (.func f) #[] caps.toArray)) (hp:pick Γ ix=some Γ1)
  (hI:∀ l r,Rdy r→(∀ (vals:List Value) (β':List A1) (Γ':List Fact) (Q0:Value→List Fact→List A1→Prop),vals.length=ps.length→(∀ C,Off C l (.loop r)→J (F.inR l) C [.c (p++[0]),.br,.c (p++[1])] (ACi ps vals σ) β' Γ' (RB C l r Q0))→AGB P l r F.B vals β' Γ' Q0) →
   AIp P f (.func (.yield l) #[] #[]::caps) l r F.B (β.take n) Γ1 Q Qs)
  (hdone:∀ Φ β' D C',Q Φ β'→J (F.mkd D) C' S σ (β'++β.drop n) (Φ++Γ) (Fq C' Q'))
  (hstop:∀ q Φ β' D C',Qs q Φ β'→J (F.mkd D) C' (.c q::S) σ (β'++β.drop n) (Φ++Γ) (Fq C' Q')) (hk:F.rnd=none:=by rfl) :
  J F C (.c p::S) σ β Γ (Fq C Q'):=by
 obtain ⟨assign,body,hsub⟩:∃ assign body,sub p F.B = .rangeFunc g ps.toArray assign body:=by
  unfold AIW at hs
  cases hc:sub p F.B <;> rw [hc] at hs <;> simp only [Option.some.injEq,Prod.mk.injEq,reduceCtorEq] at hs
  rename_i g' ps' a' b'
  obtain ⟨rfl,rfl⟩:=hs
  exact ⟨a',b',rfl⟩
 intro w hO hG a ha cs
 have hro:F.base.roundOf=none:=hk
 let r:Loop:={ state:=.ready,pending:=none,fn:=F.f,tmps:=a.tmps,params:=ps.toArray,assign,body,defers:=w.heap.size }
 let w1:World:=(w.alloc (.deferred (some []))).alloc (.loop r)
 let l:Nat:=w.heap.size+1
 let D:Nat:=w.heap.size
 have hsz1:w1.heap.size=w.heap.size+2:=by simp [w1,World.size_alloc]
 have hold:∀ k,k<w.heap.size→w1.heap[k]?=w.heap[k]?:=fun k h=>by
  rw [show w1.heap[k]?=(w.alloc (.deferred (some []))).heap[k]? from heap_alloc_old _ _ k (by rw [World.size_alloc];omega)]
  exact heap_alloc_old _ _ k h
 have hD1:w1.heap[D]?=some (.deferred (some [])):=by
  rw [show w1.heap[D]?=(w.alloc (.deferred (some []))).heap[D]? from heap_alloc_old _ _ D (by rw [World.size_alloc];omega)]
  exact heap_alloc_new w _
 have hl1:w1.heap[l]?=some (.loop r):=by
  have h:=heap_alloc_new (w.alloc (.deferred (some []))) (.loop r)
  rw [World.size_alloc] at h
  exact h
 have hsubt:∀ x∈β.take n,x∈β:=fun x hx=>List.mem_of_mem_take hx
 have hsubd:∀ x∈β.drop n,x∈β:=fun x hx=>List.mem_of_mem_drop hx
 have hap:Ay (β.take n)∧Ay (β.drop n)∧∀ x∈β.take n,∀ y∈β.drop n,∀ b,x.1=some b→y.1≠some b:=Uq hO.apart
 have hY:∀ (vals:List Value) (β':List A1) (Γ':List Fact) (Q0:Value→List Fact→List A1→Prop),vals.length=ps.length→(∀ C,Off C l (.loop r)→J (F.inR l) C [.c (p++[0]),.br,.c (p++[1])] (ACi ps vals σ) β' Γ' (RB C l r Q0))→AGB P l r F.B vals β' Γ' Q0 :=
  fun vals β' Γ' Q0 hlen h=>AEZ hs hps hlen ha rfl rfl rfl hsub.symm h
 have hcall:=(hI l r ⟨rfl,rfl⟩ hY).2 w1 (ok C w β) (fun k hk=>⟨by have:=hk.2.1;omega,fun e=>by have:=hk.2.1;omega⟩) (fun x hx b hb=>by
   rw [hold b (hO.lt (hsubt x hx) hb)];exact hO.blk x (hsubt x hx) b hb) hap.1 (fun x hx e=>by have:=hO.lt (hsubt x hx) e;omega) hl1
  fun g hg=>g.stable (fun k hk=>⟨⟨hk,fun ⟨x,hx,e⟩=>hk.2.2 x (hsubt x hx) e⟩,hold k hk.2.1⟩) (hG g (D3 hp g hg))
 -- into the iterator
 let mark:List Deferred:=[{ target:=.collected D,args:=#[] }]
 obtain ⟨e,w2,fr,hRe,hsteps,hfr,hleave⟩:=hcall (F.base.atR { a with defers:=mark++a.defers } (.inRangeFunc l::S.map (It.item F.B))::cs)
 have hev:a.eval g = .func (.func f) #[] caps.toArray:=ha.eval hg
 have hpl:=(hI l r ⟨rfl,rfl⟩ hY).1
 have henter:step P (lone (F.base.atR a (.code (.rangeFunc g ps.toArray assign body)::S.map (It.item F.B))) cs w) =
   .next (lone (Frame.enter P f (.func (.yield l) #[] #[]::caps).toArray .normal) (F.base.atR { a with defers:=mark++a.defers } (.inRangeFunc l::S.map (It.item F.B))::cs) w1):=by
  have hent:(Instr.enterLoop F.base.fn a.tmps ps.toArray assign body F.base.roundOf).run P w = .ok (l,mark) w1:=by
   rw [hro];exact run_enterLoop_outer _ _ _ _ _
  unfold Pv at hpl
  cases hpf:P.funcs[f]? with
  | none=>rw [hpf] at hpl;simp at hpl
  | some fn =>
   rw [hpf] at hpl
   simp at hpl
   have hc:=U1 (P:=P) (w:=w1) (args:=(Value.func (.yield l) #[] #[]::caps).toArray) hpf hpl.1 (by simpa using hpl.2)
   refine stepR_rangeFunc (d:={ target:=.fn (.func f) caps.toArray,args:=#[.func (.yield l) #[] #[]] }) (w₁':=w1) hent ?_ ?_
   ·have hc:a.eval (.const (.func (.yield l) #[] #[])) = .func (.yield l) #[] #[]:=rfl
    simp [resolve,rangeCall,hev,hc,Deferred.ofValue]
   ·simpa [invoke] using hc
 cases e with
 | panicked _=>exact hRe.elim
 | outgrown=>exact hRe.elim
 | returned v =>
 obtain ⟨q,Φ,β',hq,hlp,hOX,hΦ⟩:=hRe
 have hback:Steps P (lone (F.base.atR a (.code (.rangeFunc g ps.toArray assign body)::S.map (It.item F.B))) cs w) (lone (F.base.atR { a with defers:=mark++a.defers } (.endRangeFunc l::S.map (It.item F.B))) cs w2):=by
  refine .head henter (hsteps.trans (.one ?_))
  rw [← finish_atR_inRangeFunc l v]
  exact step_leave_returned hleave
 have hX1:∀ k,Sv (β.take n) k→k<w.heap.size:=fun k ⟨x,hx,e⟩=>hO.lt (hsubt x hx) e
 have hsz2:w.heap.size+2≤w2.heap.size:=by have:w1.heap.size≤w2.heap.size:=hOX.own.ext.size;omega
 have hnew:∀ x∈β',∀ b,x.1=some b→(w.heap.size+2≤b∨Sv (β.take n) b):=fun x hx b hb=>by
  rcases hOX.own.new x hx b hb with h|h|h
  ·have h:w1.heap.size≤b:=h
   exact .inl (by omega)
  ·exact .inr h
  ·exact absurd h (hOX.no x hx b hb)
 have hkeep:∀ k,k<w.heap.size→¬ Sv (β.take n) k→w2.heap[k]?=w.heap[k]?:=fun k h1 h2 =>
  (hOX.own.ext.block k (show k<w1.heap.size by omega) fun h=>h.elim h2 fun e=>by have e:k=w.heap.size+1:=e;omega).trans (hold k h1)
 have hD2:w2.heap[D]?=some (.deferred (some [])):=(hOX.own.ext.block D (show w.heap.size<w1.heap.size by omega) fun h=>h.elim (fun h=>by have:=hX1 _ h;omega) fun e=>by have e:w.heap.size=w.heap.size+1:=e;omega).trans hD1
 let w3:World:=w2.putObj l (.loop { r with state:=.exhausted,pending:=q.map fun p=>sub p F.B })
 have hend:(Instr.endLoop l).run P w2 = .ok (q.map fun p=>sub p F.B) w3:=by
  have:=run_endLoop (P:=P) hlp (by cases q <;> simp)
  exact this
 let X:Nat→Prop:=fun k=>k=l∨k=D
 have hXe:∀ k,X k→k=w.heap.size∨k=w.heap.size+1:=fun k h=>h.elim .inr .inl
 -- the own blocks and the facts behind the loop
 have hO2:OwnX C X w2 (β'++β.drop n):=by
  refine ⟨⟨⟨?_,?_,?_,?_,fun k h1 h2=>?_⟩,fun x hx b hb=>?_,fun x hx b hb=>?_,?_⟩,fun x hx k e hk=>?_⟩
  ·exact (show w2.os=w1.os from hOX.own.ext.os).trans hO.ext.os
  ·exact (show w2.tape=w1.tape from hOX.own.ext.tape).trans hO.ext.tape
  ·exact (show w2.output=w1.output from hOX.own.ext.output).trans hO.ext.output
  ·have:=hO.ext.size
   exact show C.w0.heap.size≤w2.heap.size by omega
  ·have h3:k<C.w0.heap.size:=h1
   refine (hkeep k (Nat.lt_of_lt_of_le h3 hO.ext.size) fun ⟨x,hx,e⟩=>?_).trans (hO.ext.block k h3 fun h=>h2 (.inl h))
   rcases hO.new x (hsubt x hx) k e with h|h
   ·omega
   ·exact h2 (.inl h)
  ·rcases List.mem_append.1 hx with hx|hx
   ·rcases hnew x hx b hb with h|⟨y,hy,e⟩
    ·have:=hO.ext.size
     exact .inl (show C.w0.heap.size≤b by omega)
    ·exact (hO.new y (hsubt y hy) b e).imp id .inl
   ·exact (hO.new x (hsubd x hx) b hb).imp id .inl
  ·rcases List.mem_append.1 hx with hx|hx
   ·exact hOX.own.blk x hx b hb
   ·rw [hkeep b (hO.lt (hsubd x hx) hb) (fun ⟨y,hy,e⟩=>hap.2.2 y hy x hx b e hb)]
    exact hO.blk x (hsubd x hx) b hb
  ·refine hOX.own.apart.append hap.2.1 fun x hx y hy b hb e=>?_
   rcases hnew x hx b hb with h|⟨z,hz,e2⟩
   ·have:=hO.lt (hsubd y hy) e;omega
   ·exact hap.2.2 z hz y hy b e2 e
  ·have hk:=hXe k hk
   rcases List.mem_append.1 hx with hx|hx
   ·rcases hnew x hx k e with h|h
    ·omega
    ·have:=hX1 k h;omega
   ·have:=hO.lt (hsubd x hx) e;omega
 -- a smaller set of blocks on which facts may lean: neither the record nor the mark's
 let C2:Cx:=⟨w3,fun k=>ok C w2 (β'++β.drop n) k∧¬ X k,Sv (β'++β.drop n)⟩
 have hw3:∀ k,¬ X k→w3.heap[k]?=w2.heap[k]?:=fun k h=>World.putObj_heap_other fun e=>h (.inl e)
 have hs3:w3.heap.size=w2.heap.size:=World.putObj_size
 have hOwn3:Own C2 w3 (β'++β.drop n):=⟨Keep.refl _ _,fun x hx b hb=>.inr ⟨x,hx,hb⟩,fun x hx b hb=>by
  rw [hw3 b (hO2.no x hx b hb)];exact hO2.own.blk x hx b hb,hO2.own.apart⟩
 have hG3:∀ f∈Φ++Γ,f.holds w3 (ok C2 w3 (β'++β.drop n)):=fun g hg=>by
  rcases List.mem_append.1 hg with hg|hg
  ·refine g.stable (fun k hk=>?_) (hΦ g hg)
   have hkn:¬ X k:=fun h=>by
    have h:=hXe k h
    rcases hk.1 with h1|h1|h1
    ·have h1:ok C w β k:=h1
     have:=h1.2.1;omega
    ·have:=hX1 k h1;omega
    ·have h1:w1.heap.size≤k:=h1
     omega
   have hnb:∀ x∈β'++β.drop n,x.1≠some k:=fun x hx=>by
    rcases List.mem_append.1 hx with hx|hx
    ·exact hk.2.2 x hx
    ·intro e
     rcases hk.1 with h1|⟨y,hy,e2⟩|h1
     ·have h1:ok C w β k:=h1
      exact h1.2.2 x (hsubd x hx) e
     ·exact hap.2.2 y hy x hx k e2 e
     ·have h2:=hO.lt (hsubd x hx) e
      have h1:w1.heap.size≤k:=h1
      omega
   have hok:ok C w2 (β'++β.drop n) k:=by
    refine ⟨?_,hk.2.1,hnb⟩
    rcases hk.1 with h1|⟨x,hx,e⟩|h1
    ·have h1:ok C w β k:=h1
     exact h1.1
    ·rcases hO.new x (hsubt x hx) k e with h|h
     ·exact .inr (.inr h)
     ·exact .inr (.inl h)
    ·have h1:w1.heap.size≤k:=h1
     have:=hO.ext.size
     exact .inr (.inr (show C.w0.heap.size≤k by omega))
   exact ⟨⟨.inl ⟨hok,hkn⟩,by rw [hs3];exact hk.2.1,hnb⟩,hw3 k hkn⟩
  ·refine g.stable (fun k hk=>?_) (hG g hg)
   have hlt:=hk.2.1
   have hkn:¬ X k:=fun h=>by have:=hXe k h;omega
   have hnb:∀ x∈β'++β.drop n,x.1≠some k:=fun x hx=>by
    rcases List.mem_append.1 hx with hx|hx
    ·intro e
     rcases hnew x hx k e with h|⟨y,hy,e2⟩
     ·omega
     ·exact hk.2.2 y (hsubt y hy) e2
    ·exact hk.2.2 x (hsubd x hx)
   refine ⟨⟨.inl ⟨⟨hk.1,by omega,hnb⟩,hkn⟩,by omega,hnb⟩,(hw3 k hkn).trans (hkeep k hlt fun ⟨y,hy,e⟩=>hk.2.2 y (hsubt y hy) e)⟩
 -- what is given in the new context is given in the old one
 have hlD:¬ Sv (β'++β.drop n) D:=fun ⟨x,hx,e⟩=>hO2.no x hx D e (.inr rfl)
 have hR:∀ v w4,Fq C2 Q' v w4→w4.heap[D]?=some (.deferred (some []))∧Fq C Q' v (w4.putObj D (.deferred none)):=fun v w4 ⟨Φ4,β4,hq4,hO4,hG4⟩=>by
  have hD4:w4.heap[D]?=some (.deferred (some [])):=by
   rw [hO4.ext.block D (show w.heap.size<w3.heap.size by omega) hlD,show w3.heap[D]?=w2.heap[D]? from World.putObj_heap_other (by show w.heap.size≠w.heap.size+1;omega)]
   exact hD2
  have hs4:w3.heap.size≤w4.heap.size:=hO4.ext.size
  have hoin:∀ k,Sv (β'++β.drop n) k→C.w0.heap.size≤k∨C.M k:=fun k ⟨x,hx,e⟩=>by
   rcases hO2.own.new x hx k e with h|h|h
   ·exact .inl h
   ·exact .inr h
   ·exact absurd h (hO2.no x hx k e)
  have h4D:∀ x∈β4,∀ k,x.1=some k→k≠D:=fun x hx k e=>by
   rcases hO4.new x hx k e with h|h
   ·have h:w3.heap.size≤k:=h
    show k≠w.heap.size
    omega
   ·exact fun e=>hlD (e▸h)
  have hCs:=hO.ext.size
  refine ⟨hD4,Φ4,β4,hq4,⟨⟨?_,?_,?_,?_,fun k h1 h2=>?_⟩,fun x hx b hb=>?_,fun x hx b hb=>?_,hO4.apart⟩,fun g hg=>g.stable (fun k hk=>?_) (hG4 g hg)⟩
  ·exact (show w4.os=w2.os from hO4.ext.os).trans hO2.own.ext.os
  ·exact (show w4.tape=w2.tape from hO4.ext.tape).trans hO2.own.ext.tape
  ·exact (show w4.output=w2.output from hO4.ext.output).trans hO2.own.ext.output
  ·rw [World.putObj_size];omega
  ·have hkD:k≠D:=by show k≠w.heap.size;omega
   have hkn:¬ X k:=fun h=>by have:=hXe k h;omega
   have hkb:¬ Sv (β'++β.drop n) k:=fun h=>(hoin k h).elim (fun h=>by omega) h2
   rw [World.putObj_heap_other hkD,hO4.ext.block k (show k<w3.heap.size by omega) hkb,hw3 k hkn]
   exact hO2.own.ext.block k h1 fun h=>h.elim h2 hkn
  ·rcases hO4.new x hx b hb with h|h
   ·have h:w3.heap.size≤b:=h
    exact .inl (by omega)
   ·exact hoin b h
  ·rw [World.putObj_heap_other (h4D x hx b hb)]
   exact hO4.blk x hx b hb
  ·have hkD:k≠D:=fun e=>by
    rcases hk.1 with h|h|h
    ·have h:ok C w2 (β'++β.drop n) k∧¬ X k:=h
     exact h.2 (.inr e)
    ·exact hlD (e▸h)
    ·have h:w3.heap.size≤k:=h
     have e:k=w.heap.size:=e
     omega
   refine ⟨⟨?_,by rw [World.putObj_size];exact hk.2.1,hk.2.2⟩,World.putObj_heap_other hkD⟩
   rcases hk.1 with h|h|h
   ·have h:ok C w2 (β'++β.drop n) k∧¬ X k:=h
    exact h.1.1
   ·rcases hoin k h with h|h
    ·exact .inr (.inr h)
    ·exact .inr (.inl h)
   ·have h:w3.heap.size≤k:=h
    exact .inr (.inr (show C.w0.heap.size≤k by omega))
 have hit:It.item F.B (.c p) = .code (.rangeFunc g ps.toArray assign body):=by simp only [It.item,hsub]
 have hB:(F.mkd D).B=F.B:=rfl
 have hbase:(F.mkd D).base=F.base:=rfl
 have hfit:Fits (F.mkd D).fn.ntmps (F.mkd D).dfs σ { a with defers:=mark++a.defers }:=⟨ha.size,by show mark++a.defers=_;rw [ha.defers];rfl,ha.get⟩
 rw [List.map_cons,hit]
 refine Pz.step (hback.trans (.one (stepR_endRangeFunc hend))) (AFX (D:=D) hk ?_ hR)
 cases q with
 | none=>exact hdone Φ β' D C2 hq w3 hOwn3 hG3 _ hfit cs
 | some q=>exact hstop q Φ β' D C2 hq w3 hOwn3 hG3 _ hfit cs
end
end Go.Fw
namespace Go.Proofs.YteadncphjconmaaGreat
open Go Go.Fw
set_option maxRecDepth 100000
set_option linter.unusedVariables false
set_option linter.unusedSimpArgs false
set_option maxHeartbeats 0
abbrev ACq (P M:Int) (pm:Option Addr) (nm cm:Nat) (N:Int) (ps:Option Addr) (n c:Nat) (dd:Int) (pt:Option Addr) (nt ct:Nat) (pr:Option Addr) (nr cr:Nat) (W:Int):List Value:=[.int .i64 P,.int .i64 M,.slice pm nm cm,.int .i64 N,.slice ps n c,.int .i64 dd,.slice pt nt ct,.slice pr nr cr,.int .i64 W]
section
variable {P M N dd W e:Int}{n c nm cm nt ct nr cr nb cb:Nat}{pm ps pt pr pb:Option Addr}{md racks:List Int}{Aa sets blocks:List (List Int)}
end
open Go Go.Fw
set_option maxRecDepth 100000
set_option linter.unusedVariables false
set_option linter.unusedSimpArgs false
set_option maxHeartbeats 0
theorem Mm {pl pk:Option Addr}{nl cl nk ck:Nat}{l k:List Int} :
  Bk Tryz.prog 53 [.slice pl nl cl,.slice pk nk ck] [] [As Aj pl nl cl l,As Aj pk nk ck k] (fun v Φ β=>∃ e:Int,v = .int .i64 e∧Φ=[]∧β=[]∧(e=0↔l=k)):=by
 refine Ad (F:=Mh) rfl fun C=>?_
 refine Az 0 rfl fun hn hb _=>?_
 refine Az 1 rfl fun hn2 hb2 _=>?_
 subst hn
 subst hn2
 have hb':l.length*8≤140737488355328:=hb
 have hb2':k.length*8≤140737488355328:=hb2
 refine wk 5 cz ?_
 refine Ag (X:=Nat) [0,1] [0,1] (fun i=>[(5,.int .i64 (i:Int))]) (fun _=>[]) (fun _=>[]) (fun i=>i≤l.length∧i≤k.length∧∀ j,j<i→l[j]?=k[j]?) (fun i=>l.length-i) 0 [] rfl rfl rfl ⟨Nat.zero_le _,Nat.zero_le _,fun j h=>by omega⟩ (by repeat (first|exact Fr.sub_nil _|refine Fr.sub_cons rfl ?_)) rfl rfl ?_
 rintro i ⟨hi,hi2,hno⟩ ih
 simp only [List.cons_append,List.nil_append] at hi hi2 ih ⊢
 by_cases h9:i<l.length
 ·by_cases h8:i<k.length
  ·obtain ⟨y,hy⟩:∃ y,l[i]?=some y:=⟨_,List.getElem?_eq_getElem h9⟩
   obtain ⟨z,hz⟩:∃ z,k[i]?=some z:=⟨_,List.getElem?_eq_getElem h8⟩
   have ey:=J4 hy
   have ez:=J4 hz
   have hne:y≠z→l≠k:=fun h e=>by rw [e,hz] at hy;exact h (Option.some.inj hy).symm
   by_cases h7:y<z
   ·refine wk 18 cz ?_
    intro h1 h2 b1 o1 b2 o2 h3
    refine Cz [] rfl rfl rfl ⟨_,rfl,rfl,rfl,⟨fun h=>by omega,fun h=>absurd h (hne (by omega))⟩⟩
   ·by_cases h6:z<y
    ·refine wk 22 cz ?_
     intro h1 h2 b1 o1 b2 o2 h3 b3 o3 b4 o4 h4
     refine Cz [] rfl rfl rfl ⟨_,rfl,rfl,rfl,⟨fun h=>by omega,fun h=>absurd h (hne (by omega))⟩⟩
    ·obtain rfl:y=z:=by omega
     refine wk 22 cz ?_
     intro h1 h2 b1 o1 b2 o2 h3 b3 o3 b4 o4 h4
     exact tw (ih (i+1) (by omega) ⟨by omega,by omega,fun j hj=>by
      rcases Nat.lt_succ_iff_lt_or_eq.1 hj with h|rfl
      ·exact hno j h
      ·rw [hy,hz]⟩)
  ·clear ih
   refine wk 30 cz ?_
   intro h1 h2 h3 h4
   refine Cz [] rfl rfl rfl ⟨_,rfl,rfl,rfl,⟨fun h=>by omega,fun h=>by rw [h] at h9;exact absurd h9 h8⟩⟩
 ·clear ih
  by_cases h8:i<k.length
  ·refine wk 20 cz ?_
   intro h1 h2
   refine Cz [] rfl rfl rfl ⟨_,rfl,rfl,rfl,⟨fun h=>by omega,fun h=>by rw [h] at h9;exact absurd h8 h9⟩⟩
  ·refine wk 28 cz ?_
   intro h1 h2 h3
   refine Cz [] rfl rfl rfl ⟨_,rfl,rfl,rfl,⟨fun _=>List.ext_getElem? fun j=>?_,fun _=>rfl⟩⟩
   by_cases h:j<i
   ·exact hno j h
   ·rw [List.getElem?_eq_none (by omega),List.getElem?_eq_none (by omega)]
theorem Lf {pl pk:Option Addr}{nl cl nk ck:Nat}{l:List Int}{z:Int}(hz:z=0) :
  Bk Tryz.prog 53 [.slice pl nl cl,.slice pk nk ck] [] [As Aj pl nl cl l,As Aj pk nk ck l] (Rv (.int .i64 z) []) :=
 (Mm (l:=l) (k:=l)).mono fun C w v Φ β' ⟨e,h1,h2,h3,h4⟩ hO hG=>⟨Φ,β',⟨by rw [h1,h4.2 rfl,hz],h2,h3⟩,hO,hG⟩
theorem Kc {pl pk:Option Addr}{nl cl nk ck:Nat}{l:List (List Int)}:Bk Tryz.prog 52 [.slice pl nl cl,.slice pk nk ck] [] [As (Af Aj) pl nl cl l,As (Af Aj) pk nk ck l] (Rv (.bool true) []):=by
 refine Ad (F:=Kq) rfl fun C=>?_
 obtain ⟨z,hz⟩:∃ z:Int,z=0:=⟨0,rfl⟩
 have L4:=fun {pl pk:Option Addr}{nl cl nk ck:Nat}{l:List Int}=>Lf (pl:=pl) (pk:=pk) (nl:=nl) (cl:=cl) (nk:=nk) (ck:=ck) (l:=l) hz
 refine Az 0 rfl fun hn hb _=>?_
 refine Az 1 rfl fun hn2 hb2 _=>?_
 subst hn
 subst hn2
 have hb':l.length*24≤140737488355328:=hb
 refine wk 13 cz ?_
 intro h1
 refine Ag (X:=Nat) [0,1] [0,1] (fun i=>[(5,.int .i64 (i:Int))]) (fun _=>[]) (fun _=>[]) (fun i=>i≤l.length) (fun i=>l.length-i) 0 [] rfl rfl rfl (Nat.zero_le _) (by repeat (first|exact Fr.sub_nil _|refine Fr.sub_cons rfl ?_)) rfl rfl ?_
 rintro i hi ih
 simp only [List.cons_append,List.nil_append] at hi ih ⊢
 by_cases h9:i<l.length
 ·refine wk 13 (ct @L4 cz) ?_
  intro h2 b1 o1 pa1 ca1 b2 o2 pa2 ca2 h3
  exact tw (ih (i+1) (by omega) (by omega))
 ·clear ih
  refine wk 9 cz ?_
  intro h2
  exact ge
section
variable {p m N n c nm cm nx cx:Nat}{pm ps px:Option Addr}{md x:List Int}{Aa:List (List Int)}
theorem AH8 {q k:Nat}{l:List Int}(h:Wd q k l):liE l k q=0:=by
 rw [liE,if_neg (by have:=h.1;omega),Ol,if_pos h.2]
end
open Go Go.Fw
set_option maxRecDepth 100000
set_option linter.unusedVariables false
set_option linter.unusedSimpArgs false
set_option maxHeartbeats 0
section
variable {p m n c nm cm N nx cx:Nat}{pm ps px:Option Addr}{md x:List Int}{Aa:List (List Int)}
abbrev WdQ (N:Nat) (l:List Int):Value→List Fact→List A1→Prop:=fun v Φ β=>∃ (pb:Option Addr) (cb:Nat),v = .tuple #[.slice pb N cb,.int .i64 0]∧Φ=[As Aj pb N cb l]∧β=[]
theorem ABk (K:Fok p m md) (hN:N≤256) (hl:Aa.length≤256) (hM:Ec (p ^ m) N Aa) (hx:Wd (p ^ m) Aa.length x) :
  Bk Tryz.prog 114 [.agg #[.int .i64 p,.int .i64 m,.slice pm nm cm],.slice px nx cx,.agg #[.int .i64 N,.slice ps n c]] [] [As Aj pm nm cm md,As Aj px nx cx x,As (Af Aj) ps n c Aa] (WdQ N (cbP p m md N x Aa)):=by
 refine Ad (F:=ABb) rfl fun C=>?_
 have hq:=K.q
 have hxl:=hx.1
 refine Az 1 rfl fun hn _ _=>?_
 subst hn
 refine Az 2 rfl fun hn _ _=>?_
 subst hn
 have G5:=fun {pm ps:Option Addr}{nm cm n c:Nat}=>Nx (pm:=pm) (nm:=nm) (cm:=cm) (ps:=ps) (n:=n) (c:=c) (Ms:=[((N:Int),Aa)]) K (fun z hz=>by rw [List.mem_singleton.1 hz];simp only [Cg];omega) (ADv (AC9 hN hl hM))
 have Oc:=fun {b0 ng cg ne ce nl cl n c:Nat}{pg pe pl ps:Option Addr}=>Is (b:=b0) (p:=p) (m:=m) (q:=p ^ m) (ng:=ng) (cg:=cg) (ne:=ne) (ce:=ce) (nl:=nl) (cl:=cl) (n:=n) (c:=c) (pg:=pg) (pe:=pe) (pl:=pl) (ps:=ps) (l:=x) hq
 rw [Ol,if_pos hx.2] at Oc
 have AA1:=fun {b ng cg ce cl nx cx n c:Nat}{pg pe pl px ps:Option Addr}=>(AAz (b:=b) (ng:=ng) (cg:=cg) (ce:=ce) (cl:=cl) (nx:=nx) (cx:=cx) (n:=n) (c:=c) (pg:=pg) (pe:=pe) (pl:=pl) (px:=px) (ps:=ps) K (show N≤1000000 by omega) hM hx).pubR (by show N*8≤140737488355328;omega)
 refine wk 8 cz ?_
 intro b1 b2 b3
 refine Vg (E:=AEp) (n:=1) [[Value.int IntKind.i64 ↑N,Value.slice ps Aa.length c]] [((↑N:Int),Aa)] 0 (fun w A hG=>(Hj (AAJ (v1:=[Value.int IntKind.i64 ↑N]) (Ee (by first|(simp only [Cg];omega)|(simp [Cg];done)|assumption)) (Dg (hG _ (Ai (n:=2) rfl)))) C8)) rfl rfl rfl rfl (by first|decide|exact Nat.le_of_ble_eq_true rfl) (by first|decide|exact Nat.le_of_ble_eq_true rfl) ?_
 refine wk 32 (ct @G5 (ct @Oc (ct @AA1 cz))) ?_
 intro b4 pg1 cg1 pe1 ce1 pl1 cl1 h1 h2 h3 pa1 ca1
 refine Cz [0] rfl rfl rfl ⟨_,_,rfl,rfl,rfl⟩
theorem Zv (CC:Cok p m md N Aa) (hx:Wd (p ^ m) Aa.length x):Bk Tryz.prog 73 [.agg #[.int .i64 p,.int .i64 m,.slice pm nm cm,.int .i64 N,.slice ps n c],.slice px nx cx] [] [As Aj pm nm cm md,As (Af Aj) ps n c Aa,As Aj px nx cx x] (WdQ N (cbP p m md N x Aa)):=by
 refine Ad (F:=Zj) rfl fun C=>?_
 refine Az 1 rfl fun hn _ _=>?_
 subst hn
 have h64:=CC.n64
 have hln:=CC.len
 have C6:=fun {pm ps:Option Addr}{nm cm n c:Nat}=>J9 (P:=p) (M:=m) (N:=N) (pm:=pm) (ps:=ps) (nm:=nm) (cm:=cm) (n:=n) (c:=c) (md:=md) (Aa:=Aa) (by simp only [Cg];omega) CC.ck
 have ACz:=fun {pm ps:Option Addr}{nm cm n c:Nat}=>ABW (pm:=pm) (ps:=ps) (nm:=nm) (cm:=cm) (n:=n) (c:=c) CC.K (AH8 hx)
 have AAF:=fun {pm ps px:Option Addr}{nm cm n c nx cx:Nat}=>ABk (pm:=pm) (ps:=ps) (px:=px) (nm:=nm) (cm:=cm) (n:=n) (c:=c) (nx:=nx) (cx:=cx) CC.K (show N≤256 by omega) (show Aa.length≤256 by omega) CC.mat hx
 refine wk 25 (ct @C6 (ct @ACz cz)) ?_
 intro b1 h1 h2
 (apply Cc it mx 8;(· rfl);(· rfl))
 (apply Ac;(· rfl);(· exact Bj fun _=>Au rfl ACM Ah))
 (apply Ac;(· rfl);(· exact R3 0 rfl rfl V2 rfl rfl))
 (apply Ak 1;(· rfl);(· simp))
 (apply Ac;(· rfl);(· exact B0 0 rfl rfl AEE rfl))
 (apply Ac;(· rfl);(· exact Bj fun _=>Ae [] rfl (Xz) rfl (by rintro _ _ _ ⟨rfl,rfl,rfl⟩;exact Ah)))
 (apply M9 (val:=(fun g=>Value.tuple #[Value.slice (g 0).fst N (g 1).snd.fst,Value.int IntKind.i64 0])) (f:=(fun g=>[As Aj (g 0).fst N (g 1).snd.fst (cbP p m md N x Aa)]));(· rfl);(· exact Bj fun _=>Ae [0,2,1] rfl (AAF) rfl (by rintro _ _ _ ⟨pbg0,cbg1,rfl,rfl,rfl⟩;exact fun _ _ _ hG=>⟨(fun|0=>(pbg0,0,0,[])|1=>(none,cbg1,0,[])|_=>default),rfl,fun g hg=>F5 (hG _ (List.mem_append_left _ hg))⟩));intro g1;dsimp only [List.map_cons,List.map_nil])
 (apply Gx [26] (fun vs=>match vs.getD 0 undef with | .tuple a=>a.getD 0 undef|_=>undef) (v:=Value.slice (g1 0).fst N (g1 1).snd.fst);(· rfl);(· rfl);(· rfl);(· rfl);(· exact Bj fun _=>Lb it rfl (by trivial) Ah))
 (apply Ac;(· rfl);(· exact Bj fun _=>Lb it rfl (by trivial) Ah))
 refine B2 rfl ?_
 simp only [List.map_cons,List.map_nil,List.cons_append,List.nil_append]
 refine wk 2 cz ?_
 refine Cz [0] rfl rfl rfl ⟨_,_,rfl,rfl,rfl⟩
end
open Go Go.Fw
set_option maxRecDepth 100000
set_option linter.unusedVariables false
set_option linter.unusedSimpArgs false
set_option maxHeartbeats 0
section
variable {p m N n c nm cm nt ct nr cr nb cb nk ck W:Nat}{pm ps pt pr pb pk:Option Addr}{dd:Int}{md:List Int}{Aa blocks:List (List Int)}{P:List Nat}
end
set_option maxRecDepth 100000
set_option linter.unusedVariables false
set_option linter.unusedSimpArgs false
set_option maxHeartbeats 0
open Go Go.Fw
section
variable {p m N n c nm cm nt ct nr cr nb cb W:Nat}{pm ps pt pr pb:Option Addr}{dd:Int}{md:List Int}{Aa blocks:List (List Int)}
end
open Go Go.Fw
set_option maxRecDepth 100000
set_option linter.unusedVariables false
set_option linter.unusedSimpArgs false
set_option maxHeartbeats 0
section
variable {P:Program}{F:Fun P}{C:Cx}{S:List It}{R:Value→World→Prop}{β:List A1}{Γ:List Fact}{it:List (TypeId×IntKind)}{L:List Oper}{pt:List (List Nat)}{p:List Nat}{σ κ:Fr}{fs:List (Nat×Fact)}{al:List A1}{i:Nat}
end
open Go Go.Fw
set_option maxRecDepth 100000
set_option linter.unusedVariables false
set_option linter.unusedSimpArgs false
set_option maxHeartbeats 0
section
variable {p m N n c nm cm nt ct nr cr nb cb nk ck W:Nat}{pm ps pt pr pb pk:Option Addr}{dd:Int}{md:List Int}{Aa blocks:List (List Int)}{P:List Nat}
end
open Go Go.Fw
set_option maxRecDepth 100000
set_option linter.unusedVariables false
set_option linter.unusedSimpArgs false
set_option maxHeartbeats 0
section
variable {p m N n c nm cm nt ct nr cr nb cb W:Nat}{pm ps pt pr pb:Option Addr}{dd:Int}{md:List Int}{Aa blocks:List (List Int)}
end
open Go Go.Fw
set_option maxRecDepth 100000
set_option linter.unusedVariables false
set_option linter.unusedSimpArgs false
set_option maxHeartbeats 0
section
variable {P M N dd W:Int}{n c nm cm nt ct nr cr nb cb:Nat}{pm ps pt pr pb:Option Addr}{md racks:List Int}{Aa sets blocks:List (List Int)}
end
open Go Go.Fw
set_option maxRecDepth 100000
set_option linter.unusedVariables false
set_option linter.unusedSimpArgs false
set_option maxHeartbeats 0
theorem Jr {pl pk:Option Addr}{nl cl nk ck:Nat}{l:List (List Int)}:Bk Tryz.prog 22 [.slice pl nl cl,.slice pk nk ck] [] [As (Af Aj) pl nl cl l,As (Af Aj) pk nk ck l] (Rv (.bool true) []):=by
 refine Ad (F:=Jw) rfl fun C=>?_
 have Kg:=fun {pl pk:Option Addr}{nl cl nk ck:Nat}=>Kc (pl:=pl) (pk:=pk) (nl:=nl) (cl:=cl) (nk:=nk) (ck:=ck) (l:=l)
 refine wk 7 (ct @Kg cz) ?_
 exact ge
section
variable {P M N dd W:Int}{n c nm cm nt ct nr cr nb cb:Nat}{pm ps pt pr pb:Option Addr}{md racks:List Int}{Aa sets blocks:List (List Int)}
end
open Go Go.Fw
set_option maxRecDepth 100000
set_option linter.unusedVariables false
set_option linter.unusedSimpArgs false
set_option maxHeartbeats 0
def Mp (data:List Int) (size t:Nat):List Int:=((data.drop (t*size)).take size)++List.replicate (size-((data.drop (t*size)).take size).length) 0
abbrev enW (p m:Nat) (md:List Int) (N:Nat) (Aa:List (List Int)) (full:List Int) (j:Nat):List Int:=cbP p m md N ((full.drop (j*Aa.length)).take Aa.length) Aa
def enT (p m:Nat) (md:List Int) (N:Nat) (Aa:List (List Int)) (W:Nat) (full:List Int) (b:Nat):List Int:=(List.range W).map fun j=>Cj (enW p m md N Aa full j) b
def enS (p m:Nat) (md:List Int) (N:Nat) (Aa:List (List Int)) (W:Nat) (full:List Int):List (List Int):=(List.range N).map (enT p m md N Aa W full)
def enK (p m:Nat) (md:List Int) (N:Nat) (Aa:List (List Int)) (W:Nat) (data:List Int) (t:Nat):List (List (List Int)):=(List.range t).map fun i=>enS p m md N Aa W (Mp data (Aa.length*W) i)
def Z1 (p m:Nat) (md:List Int) (N:Nat) (Aa:List (List Int)) (W:Nat) (full:List Int) (j b k:Nat):List Int:=(enT p m md N Aa W full k).take (if k<b then j+1 else j)++List.replicate (W-(if k<b then j+1 else j)) 0
section
variable {p m N W j k b:Nat}{md full:List Int}{Aa:List (List Int)}
theorem ADM:(enT p m md N Aa W full k).length=W:=by rw [enT,List.length_map,List.length_range]
theorem AEk (hj:j+1≤W∨k ≥ b∧j≤W):(Z1 p m md N Aa W full j b k).length=W:=by
 rw [Z1,List.length_append,List.length_take,List.length_replicate,ADM]
 split <;> omega
theorem AGZ (hj:j<W):(Z1 p m md N Aa W full j k k).set j (Cj (enW p m md N Aa full j) k)=Z1 p m md N Aa W full j (k+1) k:=by
 rw [Z1,Z1,if_neg (by omega),if_pos (by omega)]
 exact take_set (by rw [enT,List.getElem?_map,List.getElem?_range hj];rfl) hj
theorem AG0:Fu (Z1 p m md N Aa W full j k) k (Z1 p m md N Aa W full j (k+1) k)=Z1 p m md N Aa W full j (k+1):=by
 funext t
 by_cases h:t=k
 ·subst h;rw [Cp]
 ·rw [D7 h,Z1,Z1]
  by_cases h2:t<k
  ·rw [if_pos h2,if_pos (by omega)]
  ·rw [if_neg h2,if_neg (by omega)]
theorem Y1 {data:List Int}{size t:Nat}:(Mp data size t).length=size:=by
 rw [Mp,List.length_append,List.length_replicate,List.length_take];omega
theorem AEm {data:List Int}{size t q:Nat}(hq:0<q) (h:∀ x∈data,0≤x∧x<(q:Int)):∀ x∈Mp data size t,0≤x∧x<(q:Int):=fun x hx=>by
 rcases List.mem_append.1 hx with hx|hx
 ·exact h x (List.mem_of_mem_drop (List.mem_of_mem_take hx))
 ·rw [(List.mem_replicate.1 hx).2];omega
theorem ACo {data:List Int}{t:Nat}:enK p m md N Aa W data (t+1)=enK p m md N Aa W data t++[enS p m md N Aa W (Mp data (Aa.length*W) t)]:=by
 rw [enK,List.range_succ,List.map_append];rfl
end
noncomputable def enE (P M:Int) (md:List Int) (N:Int) (Aa:List (List Int)) (dd:Int) (sets:List (List Int)) (racks:List Int) (W:Int) (data:List Int):Int :=
 if cfE P M md N Aa dd sets racks W≠0 then cfE P M md N Aa dd sets racks W else if 64*(Aa.length*W)<data.length then 8 else if ¬ ∀ x∈data,0≤x∧x<((P.toNat ^ M.toNat:Nat):Int) then 2 else 0
def cnL (len size:Nat):Nat:=(len+size-1) / size
theorem AFw {len size t:Nat}(h0:0<size) (h1:len≤t*size) (h2:t=0∨(t-1)*size<len):t=cnL len size:=by
 rw [cnL]
 symm
 refine Nat.div_eq_of_lt_le ?_ ?_
 ·cases t with
  | zero=>rw [Nat.zero_mul];omega
  | succ u =>
   rcases h2 with h2|h2
   ·cases h2
   ·rw [Nat.add_sub_cancel] at h2
    rw [Nat.add_mul,Nat.one_mul];omega
 ·rw [Nat.add_mul,Nat.one_mul];omega
section
variable {P M N dd W e:Int}{n c nm cm nt ct nr cr nb cb:Nat}{pm ps pt pr pb:Option Addr}{md racks data:List Int}{Aa sets:List (List Int)}
theorem AHr:0≤enE P M md N Aa dd sets racks W data∧enE P M md N Aa dd sets racks W data≤13:=by
 have h1:=AA5 (P:=P) (M:=M) (N:=N) (dd:=dd) (md:=md) (Aa:=Aa) (sets:=sets) (racks:=racks) (W:=W)
 rw [enE]
 (repeat' split) <;> omega
abbrev EnQ (S:List (List (List Int))) (e:Int):Value→List Fact→List A1→Prop:=fun v Φ β=>∃ (pb:Option Addr) (cb:Nat),v = .tuple #[.slice pb S.length cb,.int .i64 e]∧Φ=[As (Af (Af Aj)) pb S.length cb S]∧β=[]
theorem Jt (hN:Cg .i64 N) (hd:Cg .i64 dd) (h:enE P M md N Aa dd sets racks W data=e) (he:e≠0):Bk Tryz.prog 18 [.agg (ACq P M pm nm cm N ps n c dd pt nt ct pr nr cr W).toArray,.slice pb nb cb] [] [As Aj pm nm cm md,As (Af Aj) ps n c Aa,As (Af Aj) pt nt ct sets,As Aj pr nr cr racks,As Aj pb nb cb data] (EnQ [] e):=by
 refine Ad (F:=Hc) rfl fun C=>?_
 refine Az 1 rfl fun hn hb1 _=>?_
 subst hn
 refine Az 4 rfl fun hn hb _=>?_
 subst hn
 refine G9 (As (Af (Af Aj)) none 0 0 []) (fun w A _=>My _ w A none 0) ?_
 have hb':data.length*8≤140737488355328:=hb
 have hcr:=AA5 (P:=P) (M:=M) (N:=N) (dd:=dd) (md:=md) (Aa:=Aa) (sets:=sets) (racks:=racks) (W:=W)
 have Bi:=fun {n c nm cm nt ct nr cr:Nat}{pm ps pt pr:Option Addr}=>Fe (P:=P) (M:=M) (N:=N) (dd:=dd) (md:=md) (Aa:=Aa) (sets:=sets) (racks:=racks) (W:=W) (n:=n) (c:=c) (nm:=nm) (cm:=cm) (nt:=nt) (ct:=ct) (nr:=nr) (cr:=cr) (pm:=pm) (ps:=ps) (pt:=pt) (pr:=pr) hN hd rfl
 rw [enE] at h
 by_cases h0:cfE P M md N Aa dd sets racks W=0
 ·rw [if_neg (fun e=>e h0)] at h
  rw [h0] at Bi
  obtain ⟨p,m,n',rfl,rfl,rfl,K⟩:=AGx h0
  have hln:=K.CC.len
  have hw1:=K.w1
  have hw2:=K.w2
  obtain ⟨w,rfl⟩:=Int.eq_ofNat_of_zero_le (show 0≤W by omega)
  rw [Int.toNat_natCast,Int.toNat_natCast] at h
  obtain ⟨sz,hsz⟩:∃ sz,Aa.length*w=sz:=⟨_,rfl⟩
  have hsz2:sz≤64*16:=by rw [← hsz];exact Nat.mul_le_mul hln (by omega)
  have hszi:(Aa.length:Int)*(w:Int)=(sz:Int):=by rw [← hsz,Int.natCast_mul]
  rw [hszi] at h
  by_cases h1:64*(sz:Int)<data.length
  ·rw [if_pos h1] at h
   subst h
   refine wk 5 cz ?_
   intro b1
   refine Ab rfl (Ae [1,2,3,4] rfl (Bi) rfl ?_)
   rintro _ _ _ ⟨rfl,rfl,rfl⟩
   simp only [List.cons_append,List.nil_append]
   refine wk 25 cz ?_
   intro h2 h3
   refine Cz [0] rfl rfl rfl ⟨_,_,rfl,rfl,rfl⟩
  ·rw [if_neg h1] at h
   have Bc:=fun {nm cm n c:Nat}{pm ps:Option Addr}=>Eh (nm:=nm) (cm:=cm) (n:=n) (c:=c) (pm:=pm) (ps:=ps) (l:=data) K.CC.K
   by_cases hr:∀ x∈data,0≤x∧x<((p ^ m:Nat):Int)
   ·rw [if_neg (fun hh=>hh hr)] at h
    exact absurd h.symm he
   ·rw [Ol,if_neg hr] at Bc
    rw [if_pos hr] at h
    subst h
    refine wk 5 cz ?_
    intro b1
    refine Ab rfl (Ae [1,2,3,4] rfl (Bi) rfl ?_)
    rintro _ _ _ ⟨rfl,rfl,rfl⟩
    simp only [List.cons_append,List.nil_append]
    refine wk 27 cz ?_
    intro h2 h3
    refine Ab rfl (Ae [5] rfl (Bc) rfl ?_)
    rintro _ _ _ ⟨rfl,rfl,rfl⟩
    simp only [List.cons_append,List.nil_append]
    simp only [decide_true]
    refine wk 8 cz ?_
    intro h4
    refine Cz [0] rfl rfl rfl ⟨_,_,rfl,rfl,rfl⟩
 ·rw [if_pos h0] at h
  subst h
  refine wk 5 cz ?_
  intro b1
  refine Ab rfl (Ae [1,2,3,4] rfl (Bi) rfl ?_)
  rintro _ _ _ ⟨rfl,rfl,rfl⟩
  simp only [List.cons_append,List.nil_append]
  refine wk 8 cz ?_
  intro h1
  refine Cz [0] rfl rfl rfl ⟨_,_,rfl,rfl,rfl⟩
end
section
variable {p m N w n c nm cm nt ct nr cr nb cb:Nat}{dd:Int}{pm ps pt pr pb:Option Addr}{md racks data:List Int}{Aa sets:List (List Int)}
theorem J6 (hd:Cg .i64 dd) (h0:cfE p m md N Aa dd sets racks w=0) (K:CfOk p m md N Aa dd sets racks w) (h1:data.length≤64*(Aa.length*w)) (hr:∀ x∈data,0≤x∧x<((p ^ m:Nat):Int)):Bk Tryz.prog 18 [.agg (ACq p m pm nm cm N ps n c dd pt nt ct pr nr cr w).toArray,.slice pb nb cb] [] [As Aj pm nm cm md,As (Af Aj) ps n c Aa,As (Af Aj) pt nt ct sets,As Aj pr nr cr racks,As Aj pb nb cb data] (EnQ (enK p m md N Aa w data (cnL data.length (Aa.length*w))) 0):=by
 refine Ad (F:=Hc) rfl fun C=>?_
 refine Az 1 rfl fun hn hb1 _=>?_
 subst hn
 refine Az 4 rfl fun hn hb _=>?_
 subst hn
 have h64:=K.CC.n64
 have hln:=K.CC.len
 have hw1:=K.w1
 have hw2:=K.w2
 have hk1:=K.k1
 have hq2:=(Rr K.CC.K).q2
 have hq:=K.CC.K.q
 have Bi:=fun {n c nm cm nt ct nr cr:Nat}{pm ps pt pr:Option Addr}=>Fe (P:=p) (M:=m) (N:=N) (dd:=dd) (md:=md) (Aa:=Aa) (sets:=sets) (racks:=racks) (W:=w) (n:=n) (c:=c) (nm:=nm) (cm:=cm) (nt:=nt) (ct:=ct) (nr:=nr) (cr:=cr) (pm:=pm) (ps:=ps) (pt:=pt) (pr:=pr) (by simp only [Cg];omega) hd h0
 have Bc:=fun {nm cm n c:Nat}{pm ps:Option Addr}=>Eh (nm:=nm) (cm:=cm) (n:=n) (c:=c) (pm:=pm) (ps:=ps) (l:=data) K.CC.K
 rw [Ol,if_pos hr] at Bc
 obtain ⟨sz,hsz⟩:∃ sz,Aa.length*w=sz:=⟨_,rfl⟩
 have hsz2:sz≤64*16:=by rw [← hsz];exact Nat.mul_le_mul hln (by omega)
 have hsz1:1≤sz:=by rw [← hsz];exact Nat.mul_pos (by omega) (by omega)
 have hszi:(Aa.length:Int)*(w:Int)=(sz:Int):=by rw [← hsz,Int.natCast_mul]
 rw [hsz] at h1 ⊢
 have hKs:∀ t,enK p m md N Aa w data (t+1)=enK p m md N Aa w data t++[enS p m md N Aa w (Mp data sz t)]:=fun t=>by rw [ACo,hsz]
 have hKl:∀ t,(enK p m md N Aa w data t).length=t:=fun t=>by rw [enK,List.length_map,List.length_range]
 refine wk 5 cz ?_
 intro b1
 refine Ab rfl (Ae [0,1,2,3] rfl (Bi) rfl ?_)
 rintro _ _ _ ⟨rfl,rfl,rfl⟩
 simp only [List.cons_append,List.nil_append]
 refine wk 27 cz ?_
 intro h2 h3
 refine Ab rfl (Ae [4] rfl (Bc) rfl ?_)
 rintro _ _ _ ⟨rfl,rfl,rfl⟩
 simp only [List.cons_append,List.nil_append]
 simp only [decide_true]
 refine wk 11 cz ?_
 intro h4 b2
 (apply H1 (E:=Af (Af Aj)) (n:=0) (cs:=[]) [] [] 0 (fun w A hG=>C8);(· rfl);(· rfl);(· rfl);(· rfl);(· decide))
 rw [hszi]
 have hN1:=K.CC.n1
 refine Ag (X:=Nat×Row) [1,2,4,5,7,8] [0,1,2,3,4,5] (fun z=>[(10,.int .i64 ((sz*z.1:Nat):Int)),(9,.slice (ad z.2.bo) z.1 z.2.cap)]) (fun z=>(z.2.bo,25,z.2.cs)::_) (fun z=>[A6 (Af (Af Aj)) z.2 z.1 (enK p m md N Aa w data z.1)]) (fun z=>z.1=0∨(z.1-1)*sz<data.length) (fun z=>data.length-z.1*sz) (0,⟨some b2,0,[]⟩) [0] rfl rfl rfl (.inl rfl) (by repeat (first|exact Fr.sub_nil _|refine Fr.sub_cons rfl ?_)) rfl rfl ?_
 rintro ⟨t,r⟩ ht ih
 simp only [List.cons_append,List.nil_append] at ht ih ⊢
 obtain ⟨fr,hfr⟩:∃ fr,t*sz=fr:=⟨_,rfl⟩
 have hfr2:sz*t=fr:=by rw [Nat.mul_comm,hfr]
 have htf:t≤fr:=by rw [← hfr];exact Nat.le_mul_of_pos_right t (by omega)
 by_cases htl:fr<data.length
 ·have hs1:(t+1)*sz=fr+sz:=by rw [Nat.add_mul,Nat.one_mul,hfr]
  have ih1:=fun r=>ih (t+1,r) (by dsimp only;rw [hs1,hfr];omega) (.inr (by dsimp only;rw [Nat.add_sub_cancel,hfr];exact htl))
  dsimp only at ih1
  rw [Nat.mul_comm sz,hs1,hKs] at ih1
  clear ih
  rw [hfr2]
  refine wk 10 cz ?_
  intro h5 b3
  refine Ab rfl (ABH rfl rfl ?_)
  refine Ab rfl (Tc 6 ((fr)) (((if ↑data.length<↑fr+↑sz then ↑data.length else ↑fr+↑sz:Int).toNat)) rfl rfl rfl rfl Cf (by omega) (by omega) (by omega) (by omega) fun pa1=>?_)
  (apply H1 (E:=Bt IntKind.i64 8) (n:=0) (cs:=[]) [] [] 0 (fun w A hG=>C8);(· rfl);(· rfl);(· rfl);(· rfl);(· decide))
  refine Ab rfl (Vc 0 0 1 rfl rfl rfl rfl rfl Cf F2 rfl (by omega) _ Gs (by omega) fun r1=>?_)
  refine wk 2 cz ?_
  obtain ⟨u,hu⟩:∃ u,(data.drop fr).take sz=u:=⟨_,rfl⟩
  have hul:u.length=if data.length<fr+sz then data.length-fr else sz:=by
   rw [← hu,List.length_take,List.length_drop];split <;> omega
  have hful:Mp data sz t=u++List.replicate (sz-u.length) 0:=by rw [Mp,hfr,hu]
  have hH:(if data.length<fr+sz then (data.length:Int) else (fr:Int)+(sz:Int)).toNat=fr+u.length:=by
   rw [hul];split <;> omega
  have hHl:(data.take (fr+u.length)).drop fr=u:=by
   rw [List.drop_take,Nat.add_sub_cancel_left,← hu,List.length_take,List.take_eq_take_iff,List.length_drop];omega
  rw [hH,hHl,Nat.add_sub_cancel_left,List.nil_append,Nat.zero_add]
  have hu1:u.length≤sz:=by rw [hul];split <;> omega
  simp only [List.eraseIdx_cons_zero]
  refine Ag (X:=Row×List Int) [1,2,4,5,7,8,9,10,44,45,46,47,51,52,53,54,55,56,57,58,59,60,61] [0,1,2,3,4,5,6,7,8,9] (fun z=>[(11,.slice (ad z.1.bo) z.2.length z.1.cap)]) (fun z=>(z.1.bo,3,z.1.cs)::_) (fun z=>[A6 Aj z.1 z.2.length z.2]) (fun z=>z.2.length≤sz∧∃ k,z.2=u++List.replicate k 0) (fun z=>sz-z.2.length) (r1,u) [0] rfl rfl rfl ⟨hu1,0,by simp⟩ (by repeat (first|exact Fr.sub_nil _|refine Fr.sub_cons rfl ?_)) rfl rfl ?_
  rintro ⟨q,y⟩ ⟨hz,k,hy⟩ ihz
  simp only [List.cons_append,List.nil_append] at hz hy ihz ⊢
  by_cases hzs:y.length<sz
  ·have ih2:=fun q=>ihz (q,y++[0]) (by dsimp only;rw [List.length_append,List.length_singleton];omega) (by dsimp only;exact ⟨by rw [List.length_append,List.length_singleton];omega,k+1,by rw [hy,List.replicate_succ',List.append_assoc]⟩)
   dsimp only at ih2
   rw [List.length_append,List.length_singleton] at ih2
   clear ihz hy
   refine wk 9 cz ?_
   intro h6 b4
   refine Ab rfl (Gu (z:=(0:Int)) 1 0 0 rfl rfl rfl rfl rfl Cf F2 rfl (fun w A hG=>(Ee (by first|(simp only [Cg];omega)|(simp [Cg];done)))) (by omega) _ Gs (by omega) fun r2=>?_)
   refine wk 2 cz ?_
   refine V9 [true,false,true,true] [0,2,3,4,5,6,7,8,9,10,11] (by exact Zh rfl) rfl rfl (ih2 r2)
  ·have hyl:y.length=u.length+k:=by rw [hy,List.length_append,List.length_replicate]
   clear ihz
   obtain rfl:y=Mp data sz t:=by rw [hful,hy,show k=sz-u.length by omega]
   rw [Y1]
   clear hyl hzs hz hy hHl hH
   have hfw:=AEm (data:=data) (size:=sz) (t:=t) (show 0<p ^ m by omega) hr
   have hfl:=Y1 (data:=data) (size:=sz) (t:=t)
   generalize Mp data sz t=full at *
   refine Eg 0 0 rfl rfl (by show sz*8≤140737488355328;omega) ?_
   simp only [List.eraseIdx_cons_zero]
   have hcw:∀ j,j<w→Wd (p ^ m) N (enW p m md N Aa full j):=fun j hj=>by
    refine (O6 K.CC.K).cmb_wd (fun a ha=>hfw a (List.mem_of_mem_drop (List.mem_of_mem_take ha))) K.CC.mat
   have hjk:∀ j,j<w→j*Aa.length+Aa.length≤sz:=fun j hj=>by
    have h2:(j+1)*Aa.length≤w*Aa.length:=Nat.mul_le_mul_right _ hj
    rw [Nat.add_mul,Nat.one_mul,Nat.mul_comm w,hsz] at h2
    exact h2
   refine wk 10 cz ?_
   intro h6
   refine Ab rfl (Yf (N) _ rfl rfl Ep Xv rfl rfl Z8 (by omega) (by omega) (by omega) fun b4=>?_)
   refine wk 4 cz ?_
   refine AFs 0 rfl (by omega) fun csA=>?_
   refine Yu Aj 3 0 ?_
   simp only [setB,List.cons_append,List.nil_append]
   refine Cs (fun _=>List.replicate w 0) 0 rfl (fun g hg=>absurd hg (Nat.not_lt_zero g)) ?_
   refine Ag (X:=Nat×List Value×(Nat→Hd)×(Nat→List Value)) [1,2,4,5,7,8,9,10,11,12,44,45,46,47,51,52,53,54,55,56,57,58,59,60,61,62,63,64,65,69,70,71,72] [0,1,2,3,4,5,6,7,8,9,10,11,12,13,14] (fun x=>[(13,.int .i64 (x.1:Int))])
    (fun x=>(some b4,22,x.2.1)::_::_::C9 3 x.2.2.1 x.2.2.2 x.1 [])
    (fun x=>[A6 Sr ⟨some b4,N,x.2.1⟩ N (Jm x.2.2.1 N),D1 Aj x.2.2.1 x.2.2.2 (fun _=>List.replicate w 0) x.1 []])
    (fun x=>x.1≤N) (fun x=>N-x.1) (0,csA,fun _=>(none,0,0),fun _=>[]) [2,0] rfl rfl rfl (Nat.zero_le _) (by repeat (first|exact Fr.sub_nil _|refine Fr.sub_cons rfl ?_)) rfl rfl ?_
   rintro ⟨k,hc,hd,cs⟩ hk ih
   simp only [List.cons_append,List.nil_append] at hk ih ⊢
   by_cases hkN:k<N
   ·have ih2:=fun hc hd cs=>ih (k+1,hc,hd,cs) (by dsimp only;omega) (by dsimp only;omega)
    dsimp only at ih2
    clear ih ih1
    refine wk 14 cz ?_
    intro h7 b5
    refine Ab rfl (Ig (vs:=[Value.slice (some { block:=b5,off:=0 }) w w]) (z:=(some b5,w,w)) 1 0 (k) rfl rfl rfl rfl rfl D8 (Nat.mul_one _).symm (by omega) (fun w A hG=>(Xe (some _) _ _)) fun cs1=>?_)
    refine wk 3 cz ?_
    rw [R5,show An .i64 (List.replicate w 0)=Al .i64 (List.replicate w 0) by simp [An,Al]]
    refine H2 0 rfl List.length_replicate.symm (fun z hz=>by rw [(List.mem_replicate.1 hz).2];simp only [Cg];omega) (by omega) ?_
    refine AF4 3 0 0 3 rfl rfl rfl rfl ?_
    simp only [List.eraseIdx_cons_zero,List.eraseIdx_cons_succ,List.take_succ_cons,List.take_zero,List.cons_append,List.nil_append]
    refine Cs (fun _=>List.replicate w 0) 0 rfl (fun g hg=>by
     by_cases e:g=k
     ·subst e;rw [Cp]
     ·rw [D7 e]) ?_
    exact tw (ih2 cs1 (Fu hd k (some b5,w,w)) (Fu cs k (Al .i64 (List.replicate w 0))))
   ·obtain rfl:k=N:=by omega
    clear ih
    refine Cs (Z1 p m md k Aa w full 0 0) 1 rfl (fun t ht=>by rw [Z1,if_neg (by omega),List.take_zero,List.nil_append,Nat.sub_zero]) ?_
    refine wk 11 cz ?_
    intro h7
    refine Ag (X:=Nat×List Value×(Nat→Hd)×(Nat→List Value)) [1,2,4,5,7,8,9,10,11,12,13,44,45,46,47,51,52,53,54,55,56,57,58,59,60,61,62,63,64,65,69,70,71,72,73,74,75,76,77] [0,1,2,3,4,5,6,7,8,9,10,11,12,13,14,15,16,17] (fun x=>[(14,.int .i64 (x.1:Int))])
     (fun x=>(some b4,22,x.2.1)::_::_::C9 3 x.2.2.1 x.2.2.2 k [])
     (fun x=>[A6 Sr ⟨some b4,k,x.2.1⟩ k (Jm x.2.2.1 k),D1 Aj x.2.2.1 x.2.2.2 (Z1 p m md k Aa w full x.1 0) k []])
     (fun x=>x.1≤w) (fun x=>w-x.1) (0,hc,hd,cs) [1,0] rfl rfl rfl (Nat.zero_le _) (by repeat (first|exact Fr.sub_nil _|refine Fr.sub_cons rfl ?_)) rfl rfl ?_
    rintro ⟨j,cA,hd,cs⟩ hj ih
    simp only [List.cons_append,List.nil_append] at hj ih ⊢
    by_cases hjW:j<w
    ·have hjk1:=hjk j hjW
     have e1:(j:Int)*(Aa.length:Int)=((j*Aa.length:Nat):Int):=by rw [Int.natCast_mul]
     have e2:((j:Int)+1)*(Aa.length:Int)=(((j+1)*Aa.length:Nat):Int):=by rw [Int.natCast_mul];rfl
     have e3:(j+1)*Aa.length=j*Aa.length+Aa.length:=by rw [Nat.add_mul,Nat.one_mul]
     have hxe:(full.take ((j+1)*Aa.length)).drop (j*Aa.length)=(full.drop (j*Aa.length)).take Aa.length:=by rw [List.drop_take,e3,Nat.add_sub_cancel_left]
     have hxw:Wd (p ^ m) Aa.length ((full.take ((j+1)*Aa.length)).drop (j*Aa.length)):=⟨by rw [List.length_drop,List.length_take];omega,fun a ha=>hfw a (List.mem_of_mem_take (List.mem_of_mem_drop ha))⟩
     have Gl:=fun {nm cm nx cx n c:Nat}{pm px ps:Option Addr}=>Mg (nm:=nm) (cm:=cm) (nx:=nx) (cx:=cx) (n:=n) (c:=c) (pm:=pm) (px:=px) (ps:=ps) K.CC.K (show k≤1000000 by omega) K.CC.mat hxw
     rw [show cbP p m md k ((full.take ((j+1)*Aa.length)).drop (j*Aa.length)) Aa=enW p m md k Aa full j from by rw [hxe]] at Gl
     have hcwl:=(hcw j hjW).1
     have ih2:=fun cA hd cs=>ih (j+1,cA,hd,cs) (by dsimp only;omega) (by dsimp only;omega)
     dsimp only at ih2
     clear ih ih1
     refine wk 8 cz ?_
     intro h8
     (apply Cc it mx 19;(· rfl);(· rfl))
     (apply Ac;(· rfl);(· exact Bj fun _=>Au rfl Ti Ah))
     (apply Ac;(· rfl);(· exact Bj fun _=>Au rfl ACM Ah))
     (apply Ac;(· rfl);(· exact R3 2 rfl rfl V2 rfl rfl))
     (apply Ak 8;(· rfl);(· exact ⟨⟨by omega,by omega⟩,trivial,⟨by omega,by omega⟩,trivial,⟨by omega,by omega⟩,trivial,trivial,trivial,trivial⟩))
     (apply Cu;(· rfl);(· exact Bj fun _=>Tc 8 (((j)*(Aa.length))) ((((j)+1)*(Aa.length))) rfl rfl rfl rfl Cf (by omega) (by omega) (by omega) (by omega) fun pa2=>(Dz 0 rfl));intro pa2 ca1)
     (apply Ac;(· rfl);(· exact Bj fun _=>Au rfl Ti Ah))
     (apply Ac;(· rfl);(· exact Bj fun _=>Au rfl AAD Ah))
     (apply Ac;(· rfl);(· exact Bd 2 rfl rfl Ll rfl))
     (apply Ac;(· rfl);(· exact Bj fun _=>Au rfl Ti Ah))
     (apply Ac;(· rfl);(· exact Bj fun _=>Au rfl Ps Ah))
     (apply Ac;(· rfl);(· exact Bd 2 rfl rfl B4 rfl))
     (apply Cu;(· rfl);(· exact Bj fun _=>Ae [16,0,17] rfl (Gl) rfl (by rintro _ _ _ ⟨pb1,cb1,rfl,rfl,rfl⟩;exact (Dz 0 rfl)));intro pa3 ca2)
     refine B2 rfl ?_
     simp only [List.map_cons,List.map_nil,List.cons_append,List.nil_append]
     refine wk 4 cz ?_
     refine Ag (X:=Nat×List Value×(Nat→Hd)×(Nat→List Value)) [1,2,4,5,7,8,9,10,11,12,13,14,15,44,45,46,47,51,52,53,54,55,56,57,58,59,60,61,62,63,64,65,69,70,71,72,73,74,75,76,77,86,87,88,89,92,93,94,95,96,97,98,99,100,101,102,103,104,105,106,107,108,109,110] [0,1,2,3,4,5,6,7,8,9,10,11,12,13,14,15,16,17,18,19,20,21] (fun x=>[(16,.int .i64 (x.1:Int))])
      (fun x=>(some b4,22,x.2.1)::_::_::C9 3 x.2.2.1 x.2.2.2 k [])
      (fun x=>[A6 Sr ⟨some b4,k,x.2.1⟩ k (Jm x.2.2.1 k),D1 Aj x.2.2.1 x.2.2.2 (Z1 p m md k Aa w full j x.1) k []])
      (fun x=>x.1≤k) (fun x=>k-x.1) (0,cA,hd,cs) [2,3] rfl rfl rfl (Nat.zero_le _) (by repeat (first|exact Fr.sub_nil _|refine Fr.sub_cons rfl ?_)) rfl rfl ?_
     rintro ⟨a,cA,hd,cs⟩ ha iha
     simp only [List.cons_append,List.nil_append] at ha iha ⊢
     by_cases hak:a<k
     ·have hfl2:(Z1 p m md k Aa w full j a a).length=w:=AEk (.inl (by omega))
      refine Hw 1 rfl fun hlen=>?_
      have hN':(hd a).2.1=w:=by rw [hlen a hak rfl,hfl2]
      have at_x:(enW p m md k Aa full j)[a]?=some (Cj (enW p m md k Aa full j) a):=by rw [Cj,List.getD_eq_getElem?_getD,List.getElem?_eq_getElem (by omega)];rfl
      have hxr:=Bb (show 0<p ^ m by omega) (hcw j hjW) a
      have hgx:=J4 at_x
      refine Fl 3 (a) 1 (w) rfl rfl (by first|assumption|omega) (by first|rfl|assumption|(simp [Ar,Bm];done)|(simp [Ar,Bm];omega)) (by first|assumption|omega) fun r2 hr1=>?_
      simp only [List.take_succ_cons,List.take_zero,List.cons_append,List.nil_append]
      refine wk 10 cz ?_
      intro h9 b5 o1
      refine Dv 1 rfl (by omega) fun b6 cap1 cs1 hr2=>?_
      subst hr2
      dsimp only
      refine wk 1 cz ?_
      refine Ab rfl (Ig (vs:=[Value.int IntKind.i64 ((enW p m md k Aa full j).getD a default)]) (z:=((enW p m md k Aa full j).getD a default:Int)) 0 1 (j) rfl rfl rfl rfl rfl B4 (Nat.mul_one _).symm (by omega) (fun w A hG=>(Ee (by first|(simp only [Cg];omega)|(simp [Cg];done)))) fun cs2=>?_)
      refine wk 3 cz ?_
      rw [hgx,AGZ hjW]
      refine Ct 3 (a) 0 0 3 rfl rfl rfl rfl (by first|assumption|omega) (by first|rfl|assumption|(simp [Ar,Bm];done)|(simp [Ar,Bm];omega)) ?_
      simp only [List.eraseIdx_cons_zero,List.eraseIdx_cons_succ,List.take_succ_cons,List.take_zero,List.cons_append,List.nil_append]
      rw [AG0,Hl (Jx hr1 hak)]
      exact tw (iha (a+1,cA,hd,Fu cs a cs2) (by dsimp only;omega) (by dsimp only;omega))
     ·obtain rfl:a=k:=by omega
      clear iha
      refine wk 11 cz ?_
      intro h9
      refine Cs (Z1 p m md a Aa w full (j+1) 0) 1 rfl (fun z hz=>by rw [Z1,Z1,if_pos hz,if_neg (by omega)]) ?_
      exact tw (ih2 cA hd cs)
    ·obtain rfl:j=w:=by omega
     clear ih
     refine Hw 1 rfl fun hlen=>?_
     refine V5 3 0 0 1 rfl rfl rfl rfl (fun i hi=>by rw [hlen i hi rfl,AEk (.inr ⟨Nat.zero_le _,Nat.le_refl _⟩)];show j*8≤_;omega) ?_
     simp only [List.take_succ_cons,List.take_zero]
     refine W4 0 0 rfl rfl (by show k*24≤140737488355328;omega) ?_
     simp only [List.eraseIdx_cons_zero,List.eraseIdx_cons_succ]
     rw [show (List.range k).map (Z1 p m md k Aa j full j 0)=enS p m md k Aa j full from List.map_congr_left fun b hb=>by
      rw [Z1,if_neg (by omega),Nat.sub_self,List.replicate_zero,List.append_nil,List.take_of_length_le (by rw [ADM];omega)]]
     have htb:t≤data.length:=by omega
     refine wk 10 cz ?_
     intro h8 b5
     refine Ab rfl (Gu (z:=enS p m md k Aa j full) 1 0 15 rfl rfl rfl rfl rfl AJz AHZ rfl (fun w A hG=>(Dg (hG _ (Ai (n:=0) rfl)))) (by omega) _ AH0 (by omega) fun r2=>?_)
     refine wk 4 cz ?_
     refine V9 [true,false,true] [0,17,18,19,20,21,22] (by exact Zh rfl) rfl rfl (ih1 r2)
 ·have htb:t≤data.length+1:=by
   rcases ht with h|h
   ·omega
   ·have:=Nat.le_mul_of_pos_right (t-1) (show 0<sz by omega);omega
  have htc:t=cnL data.length sz:=AFw (by omega) (by rw [hfr];omega) ht
  clear ih
  subst htc
  rw [hfr2]
  refine wk 9 cz ?_
  intro h5
  refine Eg 0 0 rfl rfl (by show _*24≤140737488355328;omega) ?_
  simp only [List.eraseIdx_cons_zero,List.eraseIdx_cons_succ]
  have hkk:=hKl (cnL data.length sz)
  generalize enK p m md N Aa w data (cnL data.length sz)=S at *
  rw [← hkk]
  refine Cz [0] rfl rfl rfl ⟨_,_,rfl,rfl,rfl⟩
end
open Go Go.Fw
set_option maxRecDepth 100000
set_option linter.unusedVariables false
set_option linter.unusedSimpArgs false
set_option maxHeartbeats 0
section
variable {ps:Option Addr}{n cs k:Nat}{data:List Int}
theorem L8 (hk:1≤k):Bk Tryz.prog 72 [.slice ps n cs,.int .i64 k] [] []
  (fun v Φ β=>∃ b2 b3,v = .func (.func 112) #[] #[.pointer (some ⟨b2,0,none⟩),.pointer (some ⟨b3,0,none⟩)]∧Φ=[Kh b2 [.slice ps n cs],Kh b3 [.int .i64 k]]∧β=[]):=by
 refine Ad (F:=L9) rfl fun C=>?_
 refine wk 13 cz ?_
 intro b1 b2 h1 --ok
 refine Rx 0 rfl ?_
 simp only [List.eraseIdx_cons_zero]
 refine Rx 0 rfl ?_
 simp only [List.eraseIdx_cons_zero]
 exact ADU [0,1] rfl rfl rfl ⟨_,_,rfl,rfl,rfl⟩
abbrev chL (data:List Int) (k i:Nat):List Int:=(data.drop (i*k)).take k
abbrev AIB {X:Type}(st:X→List A1) (gf:X→Fact) (I:Nat→X→Prop) (i:Nat) (Qs:List Nat→List Fact→List A1→Prop):Value→List Fact→List A1→Prop:=fun v Φ β =>
 (v=jv none∧∃ x,I (i+1) x∧Φ=[gf x]∧β=st x)∨∃ q,v=jv (some q)∧Qs q Φ β
theorem AIi {X:Type}{st:X→List A1}{gf:X→Fact}{I:Nat→X→Prop}{i:Nat}{Qs:List Nat→List Fact→List A1→Prop}{Φ:List Fact}{β:List A1}(h:AIB st gf I i Qs (jv none) Φ β):∃ x,I (i+1) x∧Φ=[gf x]∧β=st x:=by
 rcases h with ⟨_,h⟩|⟨q,e,_⟩
 ·exact h
 ·exact absurd (ADm e) (by simp)
theorem AGD {X:Type}{st:X→List A1}{gf:X→Fact}{I:Nat→X→Prop}{i:Nat}{Qs:List Nat→List Fact→List A1→Prop}{q:List Nat}{Φ:List Fact}{β:List A1}(h:AIB st gf I i Qs (jv (some q)) Φ β):Qs q Φ β:=by
 rcases h with ⟨e,_⟩|⟨q',e,h⟩
 ·exact absurd (ADm e) (by simp)
 ·obtain rfl:=Option.some.inj (ADm e)
  exact h
theorem AEG {b2 b3 l:Nat}{r:Loop}{B:Code}{X:Type}{st:X→List A1}{gf:X→Fact}{I:Nat→X→Prop}{Qs:List Nat→List Fact→List A1→Prop}(x0:X) (h0:I 0 x0) (hk:1≤k) (hk2:k≤1000000) (hr:Rdy r)
  (hY:∀ i x pa ca,I i x→i*k<data.length→AGB Tryz.prog l r B [.slice pa (chL data k i).length ca] (st x) [As Aj pa (chL data k i).length ca (chL data k i),gf x] (AIB st gf I i Qs)) :
  AIp Tryz.prog 112 [.func (.yield l) #[] #[],.pointer (some ⟨b2,0,none⟩),.pointer (some ⟨b3,0,none⟩)] l r B (st x0) [Kh b2 [.slice ps n cs],Kh b3 [.int .i64 k],As Aj ps n cs data,gf x0]
   (fun Φ β=>∃ i x,I i x∧data.length≤i*k∧(i=0∨(i-1)*k<data.length)∧Φ=[gf x]∧β=st x) Qs:=by
 refine AEN (F:=Ke) rfl fun C hoff=>?_
 refine Az 2 rfl fun hn hb _=>?_
 subst hn
 have hb':data.length*8≤140737488355328:=hb
 refine wk 3 cz ?_ --ok
 refine Ag (X:=Nat×X) [0,1,2] [0,1,2,3] (fun z=>[(4,.int .i64 ((k*z.1:Nat):Int))]) (fun z=>st z.2) (fun z=>[gf z.2]) (fun z=>I z.1 z.2∧(z.1=0∨(z.1-1)*k<data.length)) (fun z=>data.length-z.1*k) (0,x0) [3] rfl rfl rfl ⟨h0,.inl rfl⟩ (by repeat (first|exact Fr.sub_nil _|refine Fr.sub_cons rfl ?_)) rfl rfl ?_
 rintro ⟨i,x⟩ ⟨hi,hi2⟩ ih
 simp only [List.cons_append,List.nil_append] at hi hi2 ih ⊢
 obtain ⟨f,hf⟩:∃ f,i*k=f:=⟨_,rfl⟩
 rw [Nat.mul_comm k i,hf]
 by_cases hl:f<data.length
 ·have hs1:(i+1)*k=f+k:=by rw [Nat.add_mul,Nat.one_mul,hf]
  have hfi:i≤f:=by rw [← hf];exact Nat.le_mul_of_pos_right i (by omega)
  obtain ⟨c,hc⟩:∃ c:Nat,(if ((data.length-f:Nat):Int)<(k:Int) then ((data.length-f:Nat):Int) else (k:Int))=(c:Int):=⟨min (data.length-f) k,by split <;> omega⟩
  have hcm:c=min (data.length-f) k:=by
   have:(c:Int)=if ((data.length-f:Nat):Int)<(k:Int) then ((data.length-f:Nat):Int) else (k:Int):=hc.symm
   split at this <;> omega
  have hcl:(chL data k i).length=c:=by rw [chL,List.length_take,List.length_drop,hf,hcm];omega
  have hch:(data.take (f+c)).drop f=chL data k i:=by
   rw [List.drop_take,Nat.add_sub_cancel_left,chL,hf,List.take_eq_take_iff,List.length_drop];omega
  refine wk 8 cz ?_
  intro h1
  (apply Cc it mx 6;(· rfl);(· rfl))
  (apply Ac;(· rfl);(· exact Wa 2 rfl rfl B4 rfl))
  (apply Ac;(· rfl);(· exact Wa 1 rfl rfl D8 rfl))
  (apply Ak 1;(· rfl);(· simp))
  (apply Cu;(· rfl);(· exact Bj fun _=>Z6 3 (f) rfl rfl rfl Cf (by omega) (by omega) fun pa1=>(Dz 0 rfl));intro pa1 ca1)
  (apply Ac;(· rfl);(· exact Bj fun _=>Lt Cf rfl Ah))
  (apply Ac;(· rfl);(· exact Bj fun _=>ABH rfl rfl Ah))
  refine B2 rfl ?_
  simp only [List.map_cons,List.map_nil,List.cons_append,List.nil_append]
  refine wk 4 cz ?_
  rw [hc]
  refine Av it 7 rfl ⟨⟨by omega,by omega⟩,trivial,trivial,⟨by omega,by omega⟩,trivial,trivial,trivial,trivial⟩ ?_
  refine Ab rfl (ACk 4 ((f)) (((f) + (c))) (((f) + (c))) rfl rfl rfl rfl rfl Cf (by omega) (by omega) (by omega) (by omega) (by omega) (by omega) (by omega) fun pa2=>?_) --ok
  rw [hch,Nat.add_sub_cancel_left]
  refine AHB (n:=(st x).length) [0,2] hoff hr rfl rfl rfl (by rw [List.take_length,← hcl];exact hY i x _ _ hi (by rw [hf];exact hl)) rfl ?_ ?_
  ·intro Φ β' hq
   obtain ⟨x',hx',rfl,rfl⟩:=AIi hq
   rw [List.drop_length,List.append_nil]
   have ih':=ih (i+1,x') (by dsimp only;omega) ⟨hx',.inr (by dsimp only;rw [Nat.add_sub_cancel,hf];exact hl)⟩
   dsimp only at ih'
   rw [Nat.mul_comm k,hs1] at ih'
   clear ih
   refine wk 8 cz ?_
   exact tw (ih')
  ·intro q Φ β' C' hq
   have hq:=AGD hq
   rw [List.drop_length,List.append_nil]
   refine Av it 1 rfl (by simp) ?_
   refine Ba [_,_,_,_,_] rfl ?_
   refine Pf rfl rfl ?_ --ok
   exact AFg rfl rfl hq fun g hg=>List.mem_append_left _ hg
 ·clear ih
  refine wk 8 cz ?_
  intro h1 --ok
  refine AJZ hoff hr ?_
  exact Dm [0] rfl rfl ⟨i,x,hi,by rw [hf];omega,hi2,rfl,rfl⟩
end
open Go Go.Fw
set_option maxRecDepth 100000
set_option linter.unusedVariables false
set_option linter.unusedSimpArgs false
set_option maxHeartbeats 0
def enQ (p m:Nat) (md:List Int) (N:Nat) (Aa:List (List Int)) (full:List Int) (j b k:Nat):List Int:=(List.range (if k<b then j+1 else j)).map fun t=>Cj (enW p m md N Aa full t) k
section
variable {p m N j k b:Nat}{md full:List Int}{Aa:List (List Int)}
theorem AFM:enQ p m md N Aa full j k k++[Cj (enW p m md N Aa full j) k]=enQ p m md N Aa full j (k+1) k:=by
 rw [enQ,enQ,if_neg (by omega),if_pos (by omega),List.range_succ,List.map_append];rfl
theorem AGQ:Fu (enQ p m md N Aa full j k) k (enQ p m md N Aa full j (k+1) k)=enQ p m md N Aa full j (k+1):=by
 funext t
 by_cases h:t=k
 ·subst h;rw [Cp]
 ·rw [D7 h,enQ,enQ]
  by_cases h2:t<k
  ·rw [if_pos h2,if_pos (by omega)]
  ·rw [if_neg h2,if_neg (by omega)]
end
section
variable {p m N w n c nm cm nt ct nr cr nb cb:Nat}{dd:Int}{pm ps pt pr pb:Option Addr}{md racks data:List Int}{Aa sets:List (List Int)}
theorem Vk {p m b c0 q ng cg ne ce nl cl:Nat}{pg pe pl:Option Addr}{x:Int}{res:Bool}(hq:q≤256) (hr:(!decide (0≤x∧x<(q:Int)))=res) :
  Bk Tryz.prog 71 [.int .i64 x,.pointer (some ⟨c0,0,none⟩)] [] [Kh c0 [.pointer (some ⟨b,0,none⟩)],O8 b p m q pg ng cg pe ne ce pl nl cl] (Rv (.bool res) []):=by
 refine Ad (F:=Vi) rfl fun C=>?_
 subst hr
 refine wk 8 (ct @Ga cz) ?_
 exact ge
theorem Xc (K:CfOk p m md N Aa dd sets racks w):Bk Tryz.prog 40 [.agg (ACq p m pm nm cm N ps n c dd pt nt ct pr nr cr w).toArray,.slice pb nb cb] [] [As Aj pm nm cm md,As (Af Aj) ps n c Aa,As (Af Aj) pt nt ct sets,As Aj pr nr cr racks,As Aj pb nb cb data]
  (if 64*(Aa.length*w)<data.length then EnQ [] 8 else if ¬ ∀ x∈data,0≤x∧x<((p ^ m:Nat):Int) then EnQ [] 2 else EnQ (enK p m md N Aa w data (cnL data.length (Aa.length*w))) 0):=by
 refine Ad (F:=X9) rfl fun C=>?_
 refine Az 1 rfl fun hn hb1 _=>?_
 subst hn
 refine Az 4 rfl fun hn hb _=>?_
 subst hn
 refine G9 (As (Af (Af Aj)) none 0 0 []) (fun w A _=>My _ w A none 0) ?_
 have hb':data.length*8≤140737488355328:=hb
 have h64:=K.CC.n64
 have hln:=K.CC.len
 have hw1:=K.w1
 have hw2:=K.w2
 have hk1:=K.k1
 have hq2:=(Rr K.CC.K).q2
 have hq:=K.CC.K.q
 obtain ⟨sz,hsz⟩:∃ sz,Aa.length*w=sz:=⟨_,rfl⟩
 have hsz2:sz≤64*16:=by rw [← hsz];exact Nat.mul_le_mul hln (by omega)
 have hsz1:1≤sz:=by rw [← hsz];exact Nat.mul_pos (by omega) (by omega)
 have hszi:(Aa.length:Int)*(w:Int)=(sz:Int):=by rw [← hsz,Int.natCast_mul]
 rw [hsz]
 by_cases h1:64*sz<data.length
 ·rw [if_pos h1]
  refine wk 15 cz ?_
  intro b1 b2
  rw [hszi]
  refine wk 12 cz ?_
  intro b3 h2
  refine Cz [0] rfl rfl rfl ⟨_,_,rfl,rfl,rfl⟩
 ·rw [if_neg h1]
  have Eo:=fun {pm:Option Addr}{nm cm:Nat}=>E6 (pm:=pm) (nm:=nm) (cm:=cm) K.CC.K
  refine wk 15 cz ?_
  intro b1 b2
  rw [hszi]
  refine Ab rfl (I2 zo3 fun b3=>?_)
  refine Ab rfl (K6 0 rfl rfl rfl rfl B4 rfl (Nat.le_of_ble_eq_true rfl) ?_)
  refine Ba [_,_,_] rfl ?_
  refine Av it 1 rfl (by simp) ?_
  refine Ab rfl (Lt Cf rfl ?_)
  refine Ab rfl (Da 0 rfl rfl B4 rfl ?_)
  refine Av it 2 rfl ⟨trivial,⟨by omega,by omega⟩,trivial⟩ ?_
  refine Ba [_,_] rfl ?_
  refine Yo rfl rfl (fun h2=>by exfalso;omega) (fun h2=>?_)
  refine Ba [_,_] rfl ?_
  refine Ab rfl (Au rfl Ti ?_)
  refine Ab rfl (Au rfl ACM ?_)
  refine Ab rfl (Vr 2 rfl rfl V2 rfl rfl ?_)
  refine Ab rfl (Ae [1] rfl (Eo) rfl ?_)
  rintro _ _ _ ⟨b4,pg1,cg1,pe1,ce1,pl1,cl1,rfl,rfl,rfl⟩
  simp only [List.cons_append,List.nil_append]
  refine Av it 3 rfl (by simp) ?_
  refine Ab rfl (I2 AKk fun b5=>?_)
  refine Ab rfl (K6 0 rfl rfl rfl rfl Y0 rfl (Nat.le_of_ble_eq_true rfl) ?_)
  refine Av it 1 rfl (by simp) ?_
  refine Ba [_,_,_] rfl ?_
  refine Av it 2 rfl (by simp) ?_ --ok
  refine Rx 0 rfl ?_
  simp only [setB,List.set_cons_zero,List.eraseIdx_cons_zero]
  refine Xs [0,1] rfl ?_
  have Cb:=fun {ps':Option Addr}{n' c':Nat}=>C7 (f:=71) (caps:=[.pointer (some ⟨b5,0,none⟩)]) (ps:=ps') (n:=n') (c:=c') (l:=data) (g:=Uc [Kh b5 [.pointer (some ⟨b4,0,none⟩)],O8 b4 p m (p ^ m) pg1 md.length cg1 pe1 (p ^ m-1) ce1 pl1 (p ^ m) cl1]) fun x _=>(Vk hq rfl).conj
  by_cases hrd:∀ x∈data,0≤x∧x<((p ^ m:Nat):Int)
  ·rw [W8.2 hrd] at Cb
   rw [if_neg (fun h=>h hrd)]
   refine Ab rfl (Ae [11,0] rfl (Cb) rfl ?_)
   rintro _ _ _ ⟨rfl,rfl,rfl⟩
   simp only [List.cons_append,List.nil_append]
   refine Ba [_,_] rfl ?_
   refine Pu rfl rfl ?_
   refine Ba [_,_] rfl ?_
   refine Ab rfl (I2 AKJ fun b6=>?_)
   refine Ba [_,_,_] rfl ?_
   refine Av it 1 rfl (by simp) ?_
   refine Ab rfl (Da 1 rfl rfl B4 rfl ?_)
   refine Ab rfl (Ae [] rfl (L8 (by omega)) rfl ?_)
   rintro _ _ _ ⟨b21,b31,rfl,rfl,rfl⟩
   simp only [List.cons_append,List.nil_append]
   refine Ba [_,_,_] rfl ?_ --ok
   refine Rx 3 rfl ?_
   simp only [List.eraseIdx_cons_succ,List.eraseIdx_cons_zero]
   refine Rx 2 rfl ?_
   simp only [List.eraseIdx_cons_succ,List.eraseIdx_cons_zero]
   refine Rx 1 rfl ?_
   simp only [List.eraseIdx_cons_succ,List.eraseIdx_cons_zero]
   refine Ir (Af (Af Aj)) 25 ?_
   refine Xs [0,1,2,3,13,14] rfl ?_
   refine AGz (n:=2) (Γ1:=[Kh b21 [.slice pb data.length cb],Kh b31 [.int .i64 sz],As Aj pb data.length cb data,Uc [A6 (Af (Af Aj)) ⟨none,0,[]⟩ 0 [],Kh b3 [.int .i64 sz],Kh b2 [.int .i64 Aa.length],Kh b1 (ACq p m pm nm cm N ps Aa.length c dd pt nt ct pr nr cr w),As Aj pm nm cm md,As (Af Aj) ps Aa.length c Aa]])
    (Qs:=fun _ _ _=>False) [5,6,18,0] rfl rfl rfl rfl (fun l r hr hY=>AEG (X:=Nat×Row) (k:=sz) (data:=data) (st:=fun x=>[(x.2.bo,25,x.2.cs),(some b6,40,[.slice (ad x.2.bo) x.1 x.2.cap])])
     (gf:=fun x=>Uc [A6 (Af (Af Aj)) x.2 x.1 (enK p m md N Aa w data x.1),Kh b3 [.int .i64 sz],Kh b2 [.int .i64 Aa.length],Kh b1 (ACq p m pm nm cm N ps Aa.length c dd pt nt ct pr nr cr w),As Aj pm nm cm md,As (Af Aj) ps Aa.length c Aa])
     (I:=fun i x=>x.1=i) (0,⟨none,0,[]⟩) rfl hsz1 (by omega) hr fun i x pa ca hi hlt=>hY _ _ _ _ rfl fun C hoff=>?_) ?_ (fun _ _ _ _ _ h=>h.elim)
   ·obtain ⟨i',r1⟩:=x
    obtain rfl:i'=i:=hi
    have hi64:i'<64:=Nat.lt_of_mul_lt_mul_right (Nat.lt_of_lt_of_le hlt (by omega:data.length≤64*sz))
    refine Wf (σ':=[(45,.slice pa (chL data sz i').length ca),(10,.pointer (some ⟨b6,0,none⟩)),(7,.pointer (some ⟨b3,0,none⟩)),(6,.pointer (some ⟨b2,0,none⟩)),(2,.pointer (some ⟨b1,0,none⟩))]) (Zh rfl) ?_
    refine Ba [_,_,_] rfl ?_
    refine Av it 1 rfl (by simp) ?_
    refine Ba [_,_] rfl ?_ --ok
    refine AKv hoff hr.1 fun C'=>?_
    refine ABL 1 rfl ?_
    simp only [List.cons_append,List.nil_append]
    refine Ba [_,_,_] rfl ?_
    refine Ab rfl (AHU 1 rfl rfl B4 rfl ?_)
    refine Ab rfl (Yc (sz) _ rfl rfl Cf F2 Gs (by omega) (by omega) (by omega) fun b7=>?_)
    refine Av it 1 rfl (by simp) ?_
    refine Ba [_,_,_] rfl ?_
    refine Av it 2 rfl (by simp) ?_ --ok
    have hcl:(chL data sz i').length≤sz:=by rw [chL,List.length_take];omega
    refine Ab rfl (AHA 0 6 rfl rfl rfl rfl Cf hcl (by simpa [An] using hcl) ?_)
    simp only [setB]
    have hfe:Al .i64 (chL data sz i')++(An .i64 (List.replicate sz 0)).drop (chL data sz i').length=Al .i64 (Mp data sz i'):=by
     simp [Mp,chL,Al,An]
    rw [hfe]
    have hfl:=Y1 (data:=data) (size:=sz) (t:=i')
    have hfw:=AEm (data:=data) (size:=sz) (t:=i') (show 0<p ^ m by omega) hrd
    have hKs:enK p m md N Aa w data (i'+1)=enK p m md N Aa w data i'++[enS p m md N Aa w (Mp data sz i')]:=by rw [ACo,hsz]
    clear hfe
    generalize Mp data sz i'=full at *
    have hfr:∀ z∈full,Cg .i64 z:=fun z hz=>by have:=hfw z hz;simp only [Cg];omega
    refine H2 0 rfl hfl.symm hfr (by omega) ?_
    refine W4 0 0 rfl rfl (by show sz*8≤140737488355328;omega) ?_
    simp only [List.eraseIdx_cons_zero]
    have hcw:∀ j,j<w→Wd (p ^ m) N (enW p m md N Aa full j):=fun j hj=>(O6 K.CC.K).cmb_wd (fun a ha=>hfw a (List.mem_of_mem_drop (List.mem_of_mem_take ha))) K.CC.mat
    have hjk:∀ j,j<w→j*Aa.length+Aa.length≤sz:=fun j hj=>by
     have h2:(j+1)*Aa.length≤w*Aa.length:=Nat.mul_le_mul_right _ hj
     rw [Nat.add_mul,Nat.one_mul,Nat.mul_comm w,hsz] at h2
     exact h2
    refine wk 4 cz ?_
    refine Ab rfl (Yf (N) _ rfl rfl Ep Xv rfl rfl Z8 (by omega) (by omega) (by omega) fun b8=>?_)
    refine wk 6 cz ?_ --ok
    refine AFs 0 rfl (by omega) fun csA=>?_
    refine Yu Aj 3 N ?_
    simp only [setB,List.cons_append,List.nil_append]
    rw [show D1 Aj (fun _=>((none,0,0):Hd)) (fun _=>[]) (fun _=>([]:List Int)) N []=D1 Aj (fun _=>((none,0,0):Hd)) (fun _=>[]) (enQ p m md N Aa full 0 0) N [] from rfl]
    refine Ag (X:=Nat×List Value×(Nat→Hd)×(Nat→List Value)) [2,6,10,12,13,56] [0,1,2,3,4,5,6,7,8,9,10,11] (fun x=>[(57,.int .i64 (x.1:Int))])
     (fun x=>(some b8,22,x.2.1)::_::_::C9 3 x.2.2.1 x.2.2.2 N [])
     (fun x=>[A6 Sr ⟨some b8,N,x.2.1⟩ N (Jm x.2.2.1 N),D1 Aj x.2.2.1 x.2.2.2 (enQ p m md N Aa full x.1 0) N []])
     (fun x=>x.1≤w) (fun x=>w-x.1) (0,csA,fun _=>(none,0,0),fun _=>[]) [1,0] rfl rfl rfl (Nat.zero_le _) (by repeat (first|exact Fr.sub_nil _|refine Fr.sub_cons rfl ?_)) rfl rfl ?_
    rintro ⟨j,cA,hd,cs⟩ hj ih
    simp only [List.cons_append,List.nil_append] at hj ih ⊢
    by_cases hjW:j<w
    ·have hjk1:=hjk j hjW
     have e1:(j:Int)*(Aa.length:Int)=((j*Aa.length:Nat):Int):=by rw [Int.natCast_mul]
     have e2:((j:Int)+1)*(Aa.length:Int)=(((j+1)*Aa.length:Nat):Int):=by rw [Int.natCast_mul];rfl
     have e3:(j+1)*Aa.length=j*Aa.length+Aa.length:=by rw [Nat.add_mul,Nat.one_mul]
     have hxe:(full.take ((j+1)*Aa.length)).drop (j*Aa.length)=(full.drop (j*Aa.length)).take Aa.length:=by rw [List.drop_take,e3,Nat.add_sub_cancel_left]
     have hxw:Wd (p ^ m) Aa.length ((full.take ((j+1)*Aa.length)).drop (j*Aa.length)):=⟨by rw [List.length_drop,List.length_take];omega,fun a ha=>hfw a (List.mem_of_mem_take (List.mem_of_mem_drop ha))⟩
     have S0:=fun {pm ps px:Option Addr}{nm cm n c nx cx:Nat}=>Zv (pm:=pm) (ps:=ps) (px:=px) (nm:=nm) (cm:=cm) (n:=n) (c:=c) (nx:=nx) (cx:=cx) K.CC hxw
     rw [show cbP p m md N ((full.take ((j+1)*Aa.length)).drop (j*Aa.length)) Aa=enW p m md N Aa full j from by rw [hxe]] at S0
     have hcwl:=(hcw j hjW).1
     have hcwr:=(hcw j hjW).2
     have ih1:=fun cA hd cs=>ih (j+1,cA,hd,cs) (by dsimp only;omega) (by dsimp only;omega)
     dsimp only at ih1
     clear ih
     refine wk 7 cz ?_
     intro h3
     (apply Cc it mx 16;(· rfl);(· rfl))
     (apply Ac;(· rfl);(· exact Bj fun _=>Au rfl Ti Ah))
     (apply Ac;(· rfl);(· exact AGg 9 rfl rfl AEE rfl rfl))
     (apply Ak 2;(· rfl);(· simp))
     (apply Ac;(· rfl);(· exact Wa 8 rfl rfl B4 rfl))
     (apply Ak 3;(· rfl);(· exact ⟨⟨by omega,by omega⟩,trivial,⟨by omega,by omega⟩,trivial⟩))
     (apply Ac;(· rfl);(· exact Wa 8 rfl rfl B4 rfl))
     (apply Ak 1;(· rfl);(· exact ⟨⟨by omega,by omega⟩,trivial⟩))
     (apply Cu;(· rfl);(· exact Bj fun _=>Tc 4 (((j)*(Aa.length))) ((((j)+1)*(Aa.length))) rfl rfl rfl rfl Cf (by omega) (by omega) (by omega) (by omega) fun pa1=>(Dz 0 rfl));intro pa1 ca1)
     (apply M9 (val:=(fun g=>Value.tuple #[Value.slice (g 0).fst N (g 1).snd.fst,Value.int IntKind.i64 0])) (f:=(fun g=>[As Aj (g 0).fst N (g 1).snd.fst (enW p m md N Aa full j)]));(· rfl);(· exact Bj fun _=>Ae [11,12,0] rfl (S0) rfl (by rintro _ _ _ ⟨pbg0,cbg1,rfl,rfl,rfl⟩;exact fun _ _ _ hG=>⟨(fun|0=>(pbg0,0,0,[])|1=>(none,cbg1,0,[])|_=>default),rfl,fun g hg=>F5 (hG _ (List.mem_append_left _ hg))⟩));intro g1;dsimp only [List.map_cons,List.map_nil])
     (apply Gx [72] (fun vs=>vs.getD 0 undef) (v:=Value.tuple #[Value.slice (g1 0).fst N (g1 1).snd.fst,Value.int IntKind.i64 0]);(· rfl);(· rfl);(· rfl);(· rfl);(· exact Bj fun _=>Lb it rfl (by trivial) Ah))
     (apply Gx [60] (fun vs=>match vs.getD 0 undef with | .tuple a=>a.getD 0 undef|_=>undef) (v:=Value.slice (g1 0).fst N (g1 1).snd.fst);(· rfl);(· rfl);(· rfl);(· rfl);(· exact Bj fun _=>Lb it rfl (by trivial) Ah))
     (apply Ac;(· rfl);(· exact Bj fun _=>Lb it rfl (by trivial) Ah))
     (apply Gx [73] (fun vs=>vs.getD 0 undef) (v:=Value.slice (g1 0).fst N (g1 1).snd.fst);(· rfl);(· rfl);(· rfl);(· rfl);(· exact Bj fun _=>Lb it rfl (by trivial) Ah))
     refine B2 rfl ?_
     simp only [List.map_cons,List.map_nil,List.cons_append,List.nil_append]
     refine wk 6 cz ?_
     refine Ag (X:=Nat×List Value×(Nat→Hd)×(Nat→List Value)) [2,6,10,12,13,14,15,56,57,58,59,60,61,62,63,64,65,66,67,68,69,70,71,72,73,74,75,76] [0,1,2,3,4,5,6,7,8,9,10,11,12,13,14,15] (fun x=>[(77,.int .i64 (x.1:Int))])
      (fun x=>(some b8,22,x.2.1)::_::_::C9 3 x.2.2.1 x.2.2.2 N [])
      (fun x=>[A6 Sr ⟨some b8,N,x.2.1⟩ N (Jm x.2.2.1 N),D1 Aj x.2.2.1 x.2.2.2 (enQ p m md N Aa full j x.1) N []])
      (fun x=>x.1≤N) (fun x=>N-x.1) (0,cA,hd,cs) [2,3] rfl rfl rfl (Nat.zero_le _) (by repeat (first|exact Fr.sub_nil _|refine Fr.sub_cons rfl ?_)) rfl rfl ?_
     rintro ⟨k,cA,hd,cs⟩ hk ihk
     simp only [List.cons_append,List.nil_append] at hk ihk ⊢
     by_cases hkN:k<N
     ·refine Hw 1 rfl fun hlen=>?_
      have hN':(hd k).2.1=j:=by rw [hlen k hkN rfl];simp [enQ]
      have at_x:(enW p m md N Aa full j)[k]?=some (Cj (enW p m md N Aa full j) k):=by rw [Cj,List.getD_eq_getElem?_getD,List.getElem?_eq_getElem (by omega)];rfl
      have hxr:=Bb (show 0<p ^ m by omega) (hcw j hjW) k
      refine Fl 3 (k) 1 (j) rfl rfl (by first|assumption|omega) (by first|rfl|assumption|(simp [Ar,Bm];done)|(simp [Ar,Bm];omega)) (by first|assumption|omega) fun r2 hr1=>?_
      simp only [List.take_succ_cons,List.take_zero,List.cons_append,List.nil_append]
      refine wk 7 cz ?_
      intro h4 b9 o1 hz1
      refine Ab rfl (Ap 0 rfl rfl B4 fun ⟨r3,r4⟩=>?_)
      refine wk 7 cz ?_
      intro b10
      refine Ab rfl (Gu (z:=(Cj (enW p m md N Aa full j) k:Int)) 1 0 1 rfl rfl rfl rfl rfl Cf F2 rfl (fun w A hG=>(Ee (by first|(simp only [Cg];omega)|(simp [Cg];done)))) (by omega) _ Gs (by omega) fun r5=>?_)
      refine wk 1 cz ?_
      refine Ab rfl (Ig (vs:=[Value.slice (ad r5.bo) (j+1) r5.cap]) (z:=(r5.bo,j+1,r5.cap)) 2 4 (k) rfl rfl rfl rfl rfl D8 (Nat.mul_one _).symm (by omega) (fun w A hG=>(Xe _ _ _)) fun cs1=>?_)
      refine wk 3 cz ?_
      rw [R5,AFM]
      refine Ct 4 (k) 0 1 4 rfl rfl rfl rfl (by first|assumption|omega) (by first|rfl|assumption|(simp [Ar,Bm];done)|(simp [Ar,Bm];omega)) ?_
      simp only [List.eraseIdx_cons_zero,List.eraseIdx_cons_succ,List.take_succ_cons,List.take_zero,List.cons_append,List.nil_append]
      rw [AGQ]
      refine Nb 4 [1,2,3] [1,0,8,9,10,11,12,13,14,15,16,17,18,19,20,21,22,23] (by exact Zh rfl) rfl rfl rfl rfl (ihk (k+1,cs1,Fu hd k (r5.bo,j+1,r5.cap),Fu cs k r5.cs) (by dsimp only;omega) (by dsimp only;omega))
     ·obtain rfl:k=N:=by omega
      clear ihk
      refine wk 7 cz ?_
      intro h4
      refine Cs (enQ p m md k Aa full (j+1) 0) 1 rfl (fun t ht=>by rw [enQ,enQ,if_pos ht,if_neg (by omega)]) ?_
      exact tw (ih1 cA hd cs)
    ·obtain rfl:j=w:=by omega
     clear ih
     refine Hw 1 rfl fun hlen=>?_
     refine V5 3 0 0 1 rfl rfl rfl rfl (fun i hi=>by rw [hlen i hi rfl];show ((List.range _).map _).length*8≤_;rw [List.length_map,List.length_range];split <;> omega) ?_
     simp only [List.take_succ_cons,List.take_zero]
     refine W4 0 0 rfl rfl (by show N*24≤140737488355328;omega) ?_
     simp only [List.eraseIdx_cons_zero,List.eraseIdx_cons_succ]
     rw [show (List.range N).map (enQ p m md N Aa full j 0)=enS p m md N Aa j full from rfl]
     have hcl:(enS p m md N Aa j full).length=N:=by rw [enS,List.length_map,List.length_range]
     generalize enS p m md N Aa j full=R at *
     refine wk 8 cz ?_
     intro h3 b9
     refine Ab rfl (Gu (z:=R) 1 0 8 rfl rfl rfl rfl rfl AJz AHZ rfl (fun w A hG=>(Dg (hG _ (Ai (n:=0) rfl)))) (by omega) _ AH0 (by omega) fun r2=>?_)
     refine wk 2 cz ?_ --ok
     rw [← hKs]
     simp only [List.eraseIdx_cons_succ,List.eraseIdx_cons_zero,setB,List.set_cons_zero]
     refine Na 3 [0,2] rfl rfl ?_
     simp only [List.cons_append,List.nil_append,List.drop_succ_cons,List.drop_zero]
     refine Xs [0,10,11,12,13,14] rfl ?_
     exact AIX [0] rfl (.inl ⟨rfl,(i'+1,r2),rfl,rfl,rfl⟩)
   ·rintro Φ β' D C' ⟨i,⟨i',r1⟩,hi,h2,h3,rfl,rfl⟩
    obtain rfl:i'=i:=hi
    simp only [List.cons_append,List.nil_append]
    obtain rfl:i'=cnL data.length sz:=AFw hsz1 h2 h3
    refine ABL 0 rfl ?_
    simp only [List.cons_append,List.nil_append]
    refine ACR [0] rfl ?_
    have hkl:(enK p m md N Aa w data (cnL data.length sz)).length=cnL data.length sz:=by rw [enK,List.length_map,List.length_range]
    have hc64:cnL data.length sz≤64:=by
     refine Nat.le_of_lt_succ (Nat.div_lt_of_lt_mul ?_)
     show data.length+sz-1<sz*65
     omega
    generalize enK p m md N Aa w data (cnL data.length sz)=S at *
    rw [← hkl] at hc64 ⊢
    refine Eg 0 0 rfl rfl (by show S.length*24≤140737488355328;omega) ?_
    simp only [List.eraseIdx_cons_zero]
    refine wk 4 cz ?_
    refine Cz [0] rfl rfl rfl ⟨_,_,rfl,rfl,rfl⟩
  ·rw [show (data.any fun x=>!decide (0≤x∧x<((p ^ m:Nat):Int)))=true from (Bool.not_eq_false _).mp (mt W8.1 hrd)] at Cb
   rw [if_pos hrd]
   refine Ab rfl (Ae [11,0] rfl (Cb) rfl ?_)
   rintro _ _ _ ⟨rfl,rfl,rfl⟩
   simp only [List.cons_append,List.nil_append]
   refine wk 5 cz ?_
   refine Cz [6] rfl rfl rfl ⟨_,_,rfl,rfl,rfl⟩
end
open Go Go.Fw
set_option maxRecDepth 100000
set_option linter.unusedVariables false
set_option linter.unusedSimpArgs false
set_option maxHeartbeats 0
section
variable {P M N dd W:Int}{n c nm cm nt ct nr cr nb cb:Nat}{pm ps pt pr pb:Option Addr}{md racks data:List Int}{Aa sets:List (List Int)}
noncomputable def enA (P M:Int) (md:List Int) (N:Int) (Aa:List (List Int)) (dd:Int) (sets:List (List Int)) (racks:List Int) (W:Int) (data:List Int):Value→List Fact→List A1→Prop :=
 if enE P M md N Aa dd sets racks W data≠0 then EnQ [] (enE P M md N Aa dd sets racks W data) else EnQ (enK P.toNat M.toNat md N.toNat Aa W.toNat data (cnL data.length (Aa.length*W.toNat))) 0
theorem AJC (h:enE P M md N Aa dd sets racks W data=0):∃ p m n w:Nat,P=p∧M=m∧N=n∧W=w∧CfOk p m md n Aa dd sets racks w∧cfE p m md n Aa dd sets racks w=0∧data.length≤64*(Aa.length*w)∧∀ x∈data,0≤x∧x<((p ^ m:Nat):Int):=by
 have h0:cfE P M md N Aa dd sets racks W=0:=Classical.byContradiction fun e=>by rw [enE,if_pos e] at h;exact e h
 rw [enE,if_neg (fun e=>e h0)] at h
 obtain ⟨p,m,n,rfl,rfl,rfl,K⟩:=AGx h0
 obtain ⟨w,rfl⟩:=Int.eq_ofNat_of_zero_le (show 0≤W by have:=K.w1;omega)
 rw [Int.toNat_natCast,Int.toNat_natCast] at h
 by_cases h1:64*((Aa.length:Int)*w)<data.length
 ·rw [if_pos h1] at h;cases h
 ·rw [if_neg h1] at h
  by_cases h2:∀ x∈data,0≤x∧x<((p ^ m:Nat):Int)
  ·refine ⟨p,m,n,w,rfl,rfl,rfl,rfl,K,h0,?_,h2⟩
   rw [← Int.natCast_mul] at h1
   omega
  ·rw [if_pos h2] at h;cases h
theorem Nj (hN:Cg .i64 N) (hd:Cg .i64 dd):Bk Tryz.prog 18 [.agg (ACq P M pm nm cm N ps n c dd pt nt ct pr nr cr W).toArray,.slice pb nb cb] [] [As Aj pm nm cm md,As (Af Aj) ps n c Aa,As (Af Aj) pt nt ct sets,As Aj pr nr cr racks,As Aj pb nb cb data] (enA P M md N Aa dd sets racks W data):=by
 rw [enA]
 by_cases he:enE P M md N Aa dd sets racks W data=0
 ·obtain ⟨p,m,n',w,rfl,rfl,rfl,rfl,K,h0,h1,h2⟩:=AJC he
  rw [if_neg (fun e=>e he)]
  simp only [Int.toNat_natCast]
  exact J6 hd h0 K h1 h2
 ·rw [if_pos he]
  exact Jt hN hd rfl he
theorem Xn (hN:Cg .i64 N) (hd:Cg .i64 dd):Bk Tryz.prog 17 [.agg (ACq P M pm nm cm N ps n c dd pt nt ct pr nr cr W).toArray,.slice pb nb cb] [] [As Aj pm nm cm md,As (Af Aj) ps n c Aa,As (Af Aj) pt nt ct sets,As Aj pr nr cr racks,As Aj pb nb cb data] (enA P M md N Aa dd sets racks W data):=by
 refine Ad (F:=Yw) rfl fun C=>?_
 refine G9 (As (Af (Af Aj)) none 0 0 []) (fun w A _=>My _ w A none 0) ?_
 have hcr:=AA5 (P:=P) (M:=M) (N:=N) (dd:=dd) (md:=md) (Aa:=Aa) (sets:=sets) (racks:=racks) (W:=W)
 have Cl:=fun {n c nm cm nt ct nr cr:Nat}{pm ps pt pr:Option Addr}=>J2 (P:=P) (M:=M) (N:=N) (dd:=dd) (md:=md) (Aa:=Aa) (sets:=sets) (racks:=racks) (W:=W) (n:=n) (c:=c) (nm:=nm) (cm:=cm) (nt:=nt) (ct:=ct) (nr:=nr) (cr:=cr) (pm:=pm) (ps:=ps) (pt:=pt) (pr:=pr) hN hd rfl
 rw [enA]
 by_cases h0:cfE P M md N Aa dd sets racks W=0
 ·rw [h0] at Cl
  obtain ⟨p,m,n',rfl,rfl,rfl,K⟩:=AGx h0
  obtain ⟨w,rfl⟩:=Int.eq_ofNat_of_zero_le (show 0≤W by have:=K.w1;omega)
  have D2:=fun {n c nm cm nt ct nr cr nb cb:Nat}{pm ps pt pr pb:Option Addr}=>Xc (n:=n) (c:=c) (nm:=nm) (cm:=cm) (nt:=nt) (ct:=ct) (nr:=nr) (cr:=cr) (nb:=nb) (cb:=cb) (pm:=pm) (ps:=ps) (pt:=pt) (pr:=pr) (pb:=pb) (data:=data) K
  have hE:enE p m md n' Aa dd sets racks w data=if 64*((Aa.length:Int)*w)<data.length then 8 else if ¬ ∀ x∈data,0≤x∧x<((p ^ m:Nat):Int) then 2 else 0:=by rw [enE,if_neg (fun e=>e h0),Int.toNat_natCast,Int.toNat_natCast]
  rw [← Int.natCast_mul] at hE
  simp only [Int.toNat_natCast]
  by_cases h1:64*(Aa.length*w)<data.length
  ·rw [if_pos (by omega)] at hE
   rw [hE,if_pos (by omega)]
   rw [if_pos h1] at D2
   refine wk 5 cz ?_
   intro b1
   refine Ab rfl (Ae [1,2,3,4] rfl (Cl) rfl ?_)
   rintro _ _ _ ⟨rfl,rfl,rfl⟩
   simp only [List.cons_append,List.nil_append]
   refine wk 8 cz ?_
   intro h2
   refine Ab rfl (Ae [1,2,3,4,5] rfl (D2) rfl ?_)
   rintro _ _ _ ⟨pb1,cb1,rfl,rfl,rfl⟩
   simp only [List.cons_append,List.nil_append]
   simp only [decide_true]
   refine wk 2 cz ?_
   refine Cz [0] rfl rfl rfl ⟨_,_,rfl,rfl,rfl⟩
  ·rw [if_neg (by omega)] at hE
   rw [if_neg h1] at D2
   by_cases h2:∀ x∈data,0≤x∧x<((p ^ m:Nat):Int)
   ·rw [if_neg (fun e=>e h2)] at hE D2
    rw [hE,if_neg (by omega)]
    generalize enK p m md n' Aa w data (cnL data.length (Aa.length*w))=S at *
    refine wk 5 cz ?_
    intro b1
    refine Ab rfl (Ae [1,2,3,4] rfl (Cl) rfl ?_)
    rintro _ _ _ ⟨rfl,rfl,rfl⟩
    simp only [List.cons_append,List.nil_append]
    refine wk 8 cz ?_
    intro h3
    refine Ab rfl (Ae [1,2,3,4,5] rfl (D2) rfl ?_)
    rintro _ _ _ ⟨pb1,cb1,rfl,rfl,rfl⟩
    simp only [List.cons_append,List.nil_append]
    simp only [decide_true]
    refine wk 2 cz ?_
    refine Cz [0] rfl rfl rfl ⟨_,_,rfl,rfl,rfl⟩
   ·rw [if_pos h2] at hE D2
    rw [hE,if_pos (by omega)]
    refine wk 5 cz ?_
    intro b1
    refine Ab rfl (Ae [1,2,3,4] rfl (Cl) rfl ?_)
    rintro _ _ _ ⟨rfl,rfl,rfl⟩
    simp only [List.cons_append,List.nil_append]
    refine wk 8 cz ?_
    intro h3
    refine Ab rfl (Ae [1,2,3,4,5] rfl (D2) rfl ?_)
    rintro _ _ _ ⟨pb1,cb1,rfl,rfl,rfl⟩
    simp only [List.cons_append,List.nil_append]
    simp only [decide_true]
    refine wk 2 cz ?_
    refine Cz [0] rfl rfl rfl ⟨_,_,rfl,rfl,rfl⟩
 ·have hE:enE P M md N Aa dd sets racks W data=cfE P M md N Aa dd sets racks W:=by rw [enE,if_pos h0]
  rw [hE,if_pos h0]
  refine wk 5 cz ?_
  intro b1
  refine Ab rfl (Ae [1,2,3,4] rfl (Cl) rfl ?_)
  rintro _ _ _ ⟨rfl,rfl,rfl⟩
  simp only [List.cons_append,List.nil_append]
  refine wk 8 cz ?_
  intro h1
  refine Cz [0] rfl rfl rfl ⟨_,_,rfl,rfl,rfl⟩
theorem Je {pl pk:Option Addr}{nl cl nk ck:Nat}{l:List (List (List Int))}:Bk Tryz.prog 19 [.slice pl nl cl,.slice pk nk ck] [] [As (Af (Af Aj)) pl nl cl l,As (Af (Af Aj)) pk nk ck l] (Rv (.bool true) []):=by
 refine Ad (F:=Jc) rfl fun C=>?_
 refine Az 0 rfl fun hn hb _=>?_
 subst hn
 refine Az 1 rfl fun hn _ _=>?_
 subst hn
 have hb':l.length*24≤140737488355328:=hb
 have Jv:=fun {pl pk:Option Addr}{nl cl nk ck:Nat}{l:List (List Int)}=>Jr (pl:=pl) (pk:=pk) (nl:=nl) (cl:=cl) (nk:=nk) (ck:=ck) (l:=l)
 refine wk 13 cz ?_
 intro h1
 refine Ag (X:=Nat) [0,1] [0,1] (fun i=>[(5,.int .i64 (i:Int))]) (fun _=>_) (fun _=>[]) (fun i=>i≤l.length) (fun i=>l.length-i) 0 [] rfl rfl rfl (Nat.zero_le _) (by repeat (first|exact Fr.sub_nil _|refine Fr.sub_cons rfl ?_)) rfl rfl ?_
 rintro i hi ih
 simp only [List.cons_append,List.nil_append] at hi ih ⊢
 by_cases h9:i<l.length
 ·obtain ⟨r,at_r⟩:∃ r,l[i]?=some r:=⟨_,List.getElem?_eq_getElem h9⟩
  have ih':=ih (i+1) (by omega) (by omega)
  clear ih
  refine wk 13 (ct @Jv cz) ?_
  intro h2 b1 o1 pa1 ca1 b2 o2 pa2 ca2
  exact tw (ih')
 ·obtain rfl:i=l.length:=by omega
  clear ih
  refine wk 9 cz ?_
  intro h2
  exact ge
theorem AID:∃ S e,enA P M md N Aa dd sets racks W data=EnQ S e∧0≤e∧e≤13:=by
 have:=AHr (P:=P) (M:=M) (N:=N) (dd:=dd) (md:=md) (Aa:=Aa) (sets:=sets) (racks:=racks) (W:=W) (data:=data)
 rw [enA]
 split
 ·exact ⟨_,_,rfl,by omega,by omega⟩
 ·exact ⟨_,_,rfl,by omega,by omega⟩
theorem Il (hN:Cg .i64 N) (hd:Cg .i64 dd):Bk Tryz.prog 6 [.agg (ACq P M pm nm cm N ps n c dd pt nt ct pr nr cr W).toArray,.slice pb nb cb] [] [As Aj pm nm cm md,As (Af Aj) ps n c Aa,As (Af Aj) pt nt ct sets,As Aj pr nr cr racks,As Aj pb nb cb data] (Rv (.bool true) []):=by
 refine Ad (F:=Iq) rfl fun C=>?_
 refine Az 4 rfl fun hn hb _=>?_
 subst hn
 have E8:=Nu
 have Fx:=fun {P M N dd W:Int}{n c nm cm nt ct nr cr:Nat}{pm ps pt pr:Option Addr}{res:Bool}(hr:(decide ((sets.length:Int)≤300) && decide (N≤8))=res)=>Qw (P:=P) (M:=M) (N:=N) (dd:=dd) (W:=W) (n:=n) (c:=c) (nm:=nm) (cm:=cm) (nt:=nt) (ct:=ct) (nr:=nr) (cr:=cr) (pm:=pm) (ps:=ps) (pt:=pt) (pr:=pr) hr
 cases hf:(decide ((sets.length:Int)≤300) && decide (N≤8)) with
 | false =>
  refine wk 5 cz ?_
  intro b1
  refine Ab rfl (Ae [2] rfl (Fx (by omega)) rfl ?_)
  rintro _ _ _ ⟨rfl,rfl,rfl⟩
  simp only [List.cons_append,List.nil_append]
  refine wk 4 cz ?_
  refine Ab rfl (Ae [] rfl (E8) rfl ?_)
  rintro _ _ _ ⟨rfl,rfl,rfl⟩
  simp only [List.cons_append,List.nil_append]
  refine wk 2 cz ?_
  exact ge
 | true =>
  by_cases hl:(3000:Int)<data.length
  ·refine wk 5 cz ?_
   intro b1
   refine Ab rfl (Ae [2] rfl (Fx (by omega)) rfl ?_)
   rintro _ _ _ ⟨rfl,rfl,rfl⟩
   simp only [List.cons_append,List.nil_append]
   refine wk 6 cz ?_
   intro h1
   refine Ab rfl (Ae [] rfl (E8) rfl ?_)
   rintro _ _ _ ⟨rfl,rfl,rfl⟩
   simp only [List.cons_append,List.nil_append]
   refine wk 2 cz ?_
   exact ge
  ·obtain ⟨S,e,hq,he1,he2⟩:=AID (P:=P) (M:=M) (N:=N) (dd:=dd) (md:=md) (Aa:=Aa) (sets:=sets) (racks:=racks) (W:=W) (data:=data)
   have Q7:=fun {n c nm cm nt ct nr cr nb cb:Nat}{pm ps pt pr pb:Option Addr}=>Xn (n:=n) (c:=c) (nm:=nm) (cm:=cm) (nt:=nt) (ct:=ct) (nr:=nr) (cr:=cr) (nb:=nb) (cb:=cb) (pm:=pm) (ps:=ps) (pt:=pt) (pr:=pr) (pb:=pb) (P:=P) (M:=M) (md:=md) (Aa:=Aa) (sets:=sets) (racks:=racks) (W:=W) (data:=data) hN hd
   have Hf:=fun {n c nm cm nt ct nr cr nb cb:Nat}{pm ps pt pr pb:Option Addr}=>Nj (n:=n) (c:=c) (nm:=nm) (cm:=cm) (nt:=nt) (ct:=ct) (nr:=nr) (cr:=cr) (nb:=nb) (cb:=cb) (pm:=pm) (ps:=ps) (pt:=pt) (pr:=pr) (pb:=pb) (P:=P) (M:=M) (md:=md) (Aa:=Aa) (sets:=sets) (racks:=racks) (W:=W) (data:=data) hN hd
   rw [hq] at Q7 Hf
   have Ji:=fun {pl pk:Option Addr}{nl cl nk ck:Nat}=>Je (pl:=pl) (pk:=pk) (nl:=nl) (cl:=cl) (nk:=nk) (ck:=ck) (l:=S)
   clear hq
   refine wk 5 cz ?_
   intro b1
   refine Ab rfl (Ae [2] rfl (Fx (by omega)) rfl ?_)
   rintro _ _ _ ⟨rfl,rfl,rfl⟩
   simp only [List.cons_append,List.nil_append]
   refine wk 8 cz ?_
   intro h1
   refine Ab rfl (Ae [0,1,2,3,4] rfl (Q7) rfl ?_)
   rintro _ _ _ ⟨pb1,cb1,rfl,rfl,rfl⟩
   simp only [List.cons_append,List.nil_append]
   refine wk 4 cz ?_
   refine Ab rfl (Ae [1,2,3,4,5] rfl (Hf) rfl ?_)
   rintro _ _ _ ⟨pb2,cb2,rfl,rfl,rfl⟩
   simp only [List.cons_append,List.nil_append]
   refine wk 8 cz ?_
   intro h2
   refine A8 rfl rfl (Ae [1,0] rfl (Ji) rfl ?_)
   rintro _ _ _ ⟨rfl,rfl,rfl⟩
   simp only [List.cons_append,List.nil_append]
   simp only [decide_true]
   refine wk 1 cz ?_
   refine A8 rfl rfl (Ae [] rfl (E8) rfl ?_)
   rintro _ _ _ ⟨rfl,rfl,rfl⟩
   simp only [List.cons_append,List.nil_append]
   refine wk 2 cz ?_
   exact ge
end
end Go.Proofs.YteadncphjconmaaGreat
