/-
The ring of nodes of a store in plain words. The ring of a store, in the program. Places of blocks. The tests of a stripe. Lists put in order by pivots and heaps. The loads of racks, and how many of them may be lost, in plain words. The twentieth text of the frame: ranges over functions: rounds, iterators, the statement. Binary digits; powers by squaring; binomial coefficients. Short lists are put in order, in the library. Insertion, in the library. A part split by a pivot: what holds meanwhile. A part split into what is no greater than an entry and what is. The parts of a list that is put in order by pivots. Medians, in the library. Reversing a part, in the library. Heap sort, in the library. A part is split, in the library. A part is split into what is no greater and what is, in the library. Partial insertion, in the library. Numbers drawn, in the library. Patterns broken, in the library. Lists put in order by pivots, in the library. Lists put in order and turned round, in the library. How many racks may be lost, in the program. The loads of racks, in the document. The loads of racks in falling order, in the document. How many racks may be lost, in the document. The law's function StoreTolerates.
-/
import Derived.RangeFuncRecord
import Derived.Test.YteadncphjconmaaGreatRZ6
set_option linter.unusedVariables false
set_option linter.unusedSimpArgs false
namespace Go.Proofs.YteadncphjconmaaGreat
open Go Go.Fw
set_option maxRecDepth 100000
set_option linter.unusedVariables false
set_option linter.unusedSimpArgs false
set_option maxHeartbeats 0
def Ud (k:Int):Int→Int→List Int→List (Int×Int)
 | _,_,[]=>[]
 | f,r,n::l=>(if k<n then [(f+k,r)] else [])++Ud k (f+n) (r+1) l
def Ep (racks:List Int):Nat→List (Int×Int)
 | 0=>[]
 | K+1=>Ep racks K++Ud K 0 0 racks
theorem Wm {k:Int}{z:Int×Int}:∀ {f r:Int}{l:List Int},z∈Ud k f r l→∃ (j:Nat) (n:Int),l[j]?=some n∧k<n∧z.1=f+Bq (l.take j)+k∧z.2=r+j
 | _,_,[],h=>by cases h
 | f,r,n::l,h=>by
  rw [Ud] at h
  rcases List.mem_append.1 h with h|h
  ·split at h
   ·rename_i hk
    rw [List.mem_singleton.1 h]
    exact ⟨0,n,rfl,hk,by rw [List.take_zero,Bq];omega,by omega⟩
   ·cases h
  ·obtain ⟨j,m,h1,h2,h3,h4⟩:=Wm h
   refine ⟨j+1,m,by rw [List.getElem?_cons_succ];exact h1,h2,?_,?_⟩
   ·rw [List.take_succ_cons,Bq,h3];omega
   ·rw [h4];omega
theorem AAY {l:List Int}(h:∀ x∈l,0≤x) {i j:Nat}(hij:i≤j):Bq (l.take i)≤Bq (l.take j):=by
 have:=(Cv (l:=l.take j) (fun x hx=>h x (List.mem_of_mem_take hx)) i).2
 rwa [List.take_take,Nat.min_eq_left hij] at this
theorem AGk {l:List Int}(h0:∀ x∈l,0≤x) {i j:Nat}{n m k k':Int}(hi:l[i]?=some n) (hj:l[j]?=some m) (h1:0≤k) (h2:k<n) (h3:0≤k') (h4:k'<m) (he:Bq (l.take i)+k=Bq (l.take j)+k'):i=j∧k=k':=by
 rcases Nat.lt_trichotomy i j with h|h|h
 ·have:=AAY h0 (show i+1≤j by omega)
  rw [Cw hi] at this;omega
 ·subst h;exact ⟨rfl,by omega⟩
 ·have:=AAY h0 (show j+1≤i by omega)
  rw [Cw hj] at this;omega
theorem Xy {k:Int}(hk:0≤k):∀ {f r:Int}{l:List Int},(∀ x∈l,0≤x)→(Ud k f r l).Pairwise fun a b=>a.1<b.1
 | _,_,[],_=>.nil
 | f,r,n::l,h=>by
  have hl:∀ x∈l,0≤x:=fun x hx=>h x (.tail _ hx)
  rw [Ud,List.pairwise_append]
  refine ⟨by split <;> simp,Xy hk hl,fun a ha b hb=>?_⟩
  split at ha
  ·rename_i hkn
   rw [List.mem_singleton.1 ha]
   obtain ⟨j,m,h1,h2,h3,h4⟩:=Wm hb
   have:=(Cv hl j).1
   rw [h3];show f+k<_;omega
  ·cases ha
theorem Vr {racks:List Int}{z:Int×Int}:∀ {K:Nat},z∈Ep racks K→∃ (k j:Nat) (n:Int),k<K∧racks[j]?=some n∧(k:Int)<n∧z.1=Bq (racks.take j)+k∧z.2=j
 | 0,h=>by cases h
 | K+1,h=>by
  rw [Ep] at h
  rcases List.mem_append.1 h with h|h
  ·obtain ⟨k,j,n,h1,h2,h3,h4,h5⟩:=Vr h
   exact ⟨k,j,n,by omega,h2,h3,h4,h5⟩
  ·obtain ⟨j,n,h1,h2,h3,h4⟩:=Wm h
   exact ⟨K,j,n,by omega,h1,h2,by rw [h3];omega,by rw [h4];omega⟩
theorem Zd {racks:List Int}(h0:∀ x∈racks,0≤x):∀ {K:Nat},((Ep racks K).map Prod.fst).Nodup
 | 0=>List.nodup_nil
 | K+1=>by
  rw [Ep,List.map_append,List.nodup_append]
  refine ⟨Zd h0,?_,?_⟩
  ·rw [List.Nodup,List.pairwise_map]
   exact (Xy (by omega) h0).imp fun {a b} h e=>by omega
  ·intro a ha b hb e
   subst e
   obtain ⟨u,hu,rfl⟩:=List.mem_map.1 ha
   obtain ⟨v,hv,he⟩:=List.mem_map.1 hb
   obtain ⟨k,j,n,h1,h2,h3,h4,h5⟩:=Vr hu
   obtain ⟨i,m,g1,g2,g3,g4⟩:=Wm hv
   have:=AGk h0 h2 g1 (by omega) h3 (by omega) g2 (by omega)
   omega
theorem ACG {racks:List Int}(h0:∀ x∈racks,0≤x) {K:Nat}{z:Int×Int}(h:z∈Ep racks K):0≤z.1∧z.1<Bq racks∧0≤z.2∧z.2<racks.length:=by
 obtain ⟨k,j,n,h1,h2,h3,h4,h5⟩:=Vr h
 have a1:=Cv h0 j
 have a2:=Cv h0 (j+1)
 rw [Cw h2] at a2
 have a3:=(List.getElem?_eq_some_iff.1 h2).1
 omega
theorem ACY {k:Nat}:∀ {f r:Int}{l:List Int},((Ud k f r l).length:Int)=Bq (l.map fun n=>min n ((k+1:Nat):Int))-Bq (l.map fun n=>min n (k:Int))
 | _,_,[]=>rfl
 | f,r,n::l=>by
  have ih:=ACY (k:=k) (f:=f+n) (r:=r+1) (l:=l)
  rw [Ud,List.length_append,List.map_cons,List.map_cons,Bq,Bq]
  split
  ·rw [List.length_singleton];omega
  ·rw [List.length_nil];omega
theorem AAK:∀ {l:List Int},(∀ x∈l,0≤x)→Bq (l.map fun n=>min n ((0:Nat):Int))=0
 | [],_=>rfl
 | n::l,h=>by
  rw [List.map_cons,Bq,AAK fun x hx=>h x (.tail _ hx)]
  have:=h n (.head _);omega
theorem Pr {racks:List Int}(h0:∀ x∈racks,0≤x):∀ {K:Nat},((Ep racks K).length:Int)=Bq (racks.map fun n=>min n (K:Int))
 | 0=>(AAK h0).symm
 | K+1=>by
  rw [Ep,List.length_append]
  have:=Pr h0 (K:=K)
  have h2:=ACY (k:=K) (f:=0) (r:=0) (l:=racks)
  omega
theorem Qt {K:Int}:∀ {l:List Int},Bq (l.map fun n=>min n K)≤Bq l
 | []=>Int.le_refl _
 | n::l=>by
  have:=Qt (K:=K) (l:=l)
  rw [List.map_cons,Bq,Bq];omega
theorem Zl {K x:Int}:∀ {l:List Int},x∈l→K<x→Bq (l.map fun n=>min n K)<Bq l
 | n::l,h,hx=>by
  have h1:=Qt (K:=K) (l:=l)
  rw [List.map_cons,Bq,Bq]
  rcases List.mem_cons.1 h with rfl|h
  ·omega
  ·have:=Zl h hx;omega
theorem Uu {K:Int}:∀ {l:List Int},(∀ x∈l,x≤K)→Bq (l.map fun n=>min n K)=Bq l
 | [],_=>rfl
 | n::l,h=>by
  have h1:=Uu (K:=K) (l:=l) fun x hx=>h x (.tail _ hx)
  have:=h n (.head _)
  rw [List.map_cons,Bq,Bq];omega
theorem AC8 {k:Int}:∀ {f r:Int}{l:List Int},(∀ x∈l,x≤k)→Ud k f r l=[]
 | _,_,[],_=>rfl
 | f,r,n::l,h=>by
  rw [Ud,AC8 fun x hx=>h x (.tail _ hx),if_neg (by have:=h n (.head _);omega)];rfl
theorem ACE {racks:List Int}{K:Nat}(h:∀ x∈racks,x≤(K:Int)):∀ d:Nat,Ep racks (K+d)=Ep racks K
 | 0=>rfl
 | d+1=>by
  rw [← Nat.add_assoc,Ep,ACE h d,AC8 fun x hx=>by have:=h x hx;omega,List.append_nil]
def Cr (racks:List Int):List (Int×Int):=Ep racks (If 0 racks).toNat
theorem Yq {m:Int}{l:List Int}:m≤If m l∧∀ x∈l,x≤If m l:=by
 refine ⟨?_,fun x hx=>?_⟩
 ·by_cases h:If m l<m
  ·have:=(Vm (c:=If m l) (m:=m) (l:=l)).2 (.inl h);omega
  ·omega
 ·by_cases h:If m l<x
  ·have:=(Vm (c:=If m l) (m:=m) (l:=l)).2 (.inr ⟨x,hx,h⟩);omega
  ·omega
theorem AGz {racks:List Int}{K:Nat}(h:∀ x∈racks,x≤(K:Int)):Ep racks K=Cr racks:=by
 have h1:=Yq (m:=0) (l:=racks)
 have h2:If 0 racks≤K:=by
  by_cases h3:(K:Int)<If 0 racks
  ·rcases Vm.1 h3 with h4|⟨x,hx,h4⟩
   ·omega
   ·have:=h x hx;omega
  ·omega
 obtain ⟨d,rfl⟩:∃ d,K=(If 0 racks).toNat+d:=⟨K-(If 0 racks).toNat,by omega⟩
 exact ACE (fun x hx=>by have:=h1.2 x hx;omega) d
theorem Lr {racks:List Int}(h0:∀ x∈racks,0≤x):((Cr racks).length:Int)=Bq racks:=by
 have h1:=Yq (m:=0) (l:=racks)
 rw [Cr,Pr h0]
 exact Uu fun x hx=>by have:=h1.2 x hx;omega
theorem AHw {racks:List Int}(h0:∀ x∈racks,0≤x) {K:Nat}(h:Bq racks≤((Ep racks K).length:Int)):Ep racks K=Cr racks :=
 AGz fun x hx=>by
  by_cases h1:(K:Int)<x
  ·rw [Pr h0] at h
   have:=Zl hx h1;omega
  ·omega
theorem AFo {racks:List Int}(h0:∀ x∈racks,0≤x) {K:Nat}(h:((Ep racks K).length:Int)<Bq racks):∃ x∈racks,(K:Int)<x :=
 Classical.byContradiction fun hn=>by
  rw [Pr h0,Uu fun x hx=>by
   by_cases h1:(K:Int)<x
   ·exact absurd ⟨x,hx,h1⟩ hn
   ·omega] at h
  omega
def rkL:List Int→Int→Nat
 | [],_=>0
 | n::l,x=>if x<n then 0 else rkL l (x-n)+1
theorem AIW:∀ {l:List Int}{j:Nat}{n k:Int},(∀ x∈l,0≤x)→l[j]?=some n→0≤k→k<n→rkL l (Bq (l.take j)+k)=j
 | [],_,_,_,_,h,_,_=>by cases h
 | m::l,0,n,k,_,h,h1,h2=>by
  obtain rfl:m=n:=by simpa using h
  rw [List.take_zero,Bq,rkL,if_pos (by omega)]
 | m::l,j+1,n,k,h0,h,h1,h2=>by
  rw [List.getElem?_cons_succ] at h
  have hl:∀ x∈l,0≤x:=fun x hx=>h0 x (.tail _ hx)
  have:=(Cv hl j).1
  rw [List.take_succ_cons,Bq,rkL,if_neg (by omega),show m+Bq (l.take j)+k-m=Bq (l.take j)+k by omega,AIW hl h h1 h2]
theorem AHG {racks:List Int}(h0:∀ x∈racks,0≤x) {K:Nat}{z:Int×Int}(h:z∈Ep racks K):z.2=rkL racks z.1:=by
 obtain ⟨k,j,n,h1,h2,h3,h4,h5⟩:=Vr h
 rw [h4,AIW h0 h2 (by omega) h3,h5]
abbrev plI (t s b:Nat):Nat:=(s % t+b) % t
theorem AJb {t s b c:Nat}(hb:b<t) (hc:c<t) (h:plI t s b=plI t s c):b=c:=by
 have hs:s % t<t:=Nat.mod_lt _ (by omega)
 have e:∀ x,x<t→plI t s x=if s % t+x<t then s % t+x else s % t+x-t:=fun x hx=>by
  show (s % t+x) % t=_
  split
  ·exact Nat.mod_eq_of_lt ‹_›
  ·rw [Nat.mod_eq_sub_mod (by omega)];exact Nat.mod_eq_of_lt (by omega)
 rw [e b hb,e c hc] at h
 split at h <;> split at h <;> omega
section
variable {P M N dd W:Int}{n c nm cm nt ct nr cr:Nat}{pm ps pt pr:Option Addr}{md racks:List Int}{Aa sets:List (List Int)}
theorem AB3 (h1:1≤racks.length) (h0:∀ x∈racks,0≤x) (hs:Bq racks≤256) (hl:racks.length≤64):Br Tryz.prog 35 [.agg #[.int .i64 P,.int .i64 M,.slice pm nm cm,.int .i64 N,.slice ps n c,.int .i64 dd,.slice pt nt ct,.slice pr nr cr,.int .i64 W]] [] [A2 Ak pr nr cr racks]
  (fun v Φ β=>∃ (pb:Option Addr) (cb:Nat),v = .slice pb (Cr racks).length cb∧Φ=[A2 AA4 pb (Cr racks).length cb (Cr racks)]∧β=[]):=by
 refine Ad (F:=ABQ) rfl fun C=>?_
 refine Bd 0 rfl fun hn hb _=>?_
 subst hn
 obtain ⟨x,l,hxl⟩:∃ x l,racks=x::l:=by
  cases racks with
  | nil=>exact absurd h1 (by simp)
  | cons x l=>exact ⟨x,l,rfl⟩
 have hmx:If x l=If 0 racks:=by
  have:=h0 x (by rw [hxl];exact .head _)
  rw [hxl,If]
  congr 1
  split <;> omega
 have hmr:=Yq (m:=0) (l:=racks)
 have hmb:If 0 racks≤256:=by
  by_cases h:256<If 0 racks
  ·rcases Vm.1 h with h|⟨y,hy,h⟩
   ·omega
   ·obtain ⟨j,hj⟩:=List.getElem?_of_mem hy
    have a1:=Cv h0 j
    have a2:=Cv h0 (j+1)
    rw [Cw hj] at a2
    omega
  ·omega
 obtain ⟨mx0,hmx0⟩:=Int.eq_ofNat_of_zero_le hmr.1
 have Pz:∀ {pl:Option Addr}{k c:Nat},Br Tryz.prog 66 [.slice pl k c] [] [A2 Ak pl k c racks] (Rv (.int .i64 mx0) []):=fun {pl k c}=>by
  rw [← hmx0,← hmx,hxl]
  exact Ps (fun y hy=>by
   rw [← hxl] at hy
   have a0:=h0 y hy
   have a1:=hmr.2 y hy
   simp only [Bf];omega)
 have hK:∀ K,(Ep racks K).length≤256:=fun K=>by
  have h1:=Pr h0 (K:=K)
  have h2:=Qt (K:=(K:Int)) (l:=racks)
  omega
 have eR:Cr racks=Ep racks mx0:=by rw [Cr,hmx0,Int.toNat_natCast]
 rw [eR]
 refine wk 8 cz ?_
 intro b1
 refine Ab rfl (Ai [0] rfl (Pz) rfl ?_)
 rintro _ _ _ ⟨rfl,rfl,rfl⟩
 simp only [List.cons_append,List.nil_append]
 refine wk 2 cz ?_
 refine Jj AA4 65 ?_
 refine Ag (X:=Nat×Row) [1,2,10] [0,1] (fun z=>[(11,.int .i64 (z.1:Int)),(3,.slice (ad z.2.bo) (Ep racks z.1).length z.2.cap)]) (fun z=>(z.2.bo,65,z.2.cs)::_) (fun z=>[Aw AA4 z.2 (Ep racks z.1).length (Ep racks z.1)]) (fun z=>z.1≤mx0) (fun z=>mx0-z.1) (0,⟨none,0,[]⟩) [0] rfl rfl rfl (Nat.zero_le _) (by repeat (first|exact Fr.sub_nil _|refine Fr.sub_cons rfl ?_)) rfl rfl ?_
 rintro ⟨k,r⟩ hk ih
 simp only [List.cons_append,List.nil_append] at hk ih ⊢
 by_cases h9:k<mx0
 ·have ih1:=fun r=>ih (k+1,r) (by dsimp only;omega) (by dsimp only;omega)
  dsimp only at ih1
  have hK1:=hK (k+1)
  rw [Ep,List.length_append] at hK1
  refine wk 14 cz ?_
  intro h2
  refine Ag (X:=Nat×Row×List (Int×Int)) [1,2,4,10,11,12,13,14,15,16] [0,1,2] (fun z=>[(17,.int .i64 (z.1:Int)),(3,.slice (ad z.2.1.bo) z.2.2.length z.2.1.cap),(5,.int .i64 (Bq (racks.take z.1)))]) (fun z=>(z.2.1.bo,65,z.2.1.cs)::_) (fun z=>[Aw AA4 z.2.1 z.2.2.length z.2.2]) (fun z=>z.1≤racks.length∧z.2.2++Ud k (Bq (racks.take z.1)) z.1 (racks.drop z.1)=Ep racks (k+1)) (fun z=>racks.length-z.1) (0,r,Ep racks k) [0] rfl rfl rfl ⟨Nat.zero_le _,rfl⟩ (by repeat (first|exact Fr.sub_nil _|refine Fr.sub_cons rfl ?_)) rfl rfl ?_
  rintro ⟨j,r,y⟩ ⟨hj,hy⟩ ih
  simp only [List.cons_append,List.nil_append] at hj hy ih ⊢
  have hst:=Cv h0 j
  have hyl:y.length≤256:=by
   have:=congrArg List.length hy
   rw [List.length_append] at this
   have:=hK (k+1)
   omega
  by_cases hjl:j<racks.length
  ·obtain ⟨n,at_n⟩:∃ n,racks[j]?=some n:=⟨_,List.getElem?_eq_getElem hjl⟩
   have hn0:=h0 n (List.mem_of_getElem? at_n)
   have hst2:=Cv h0 (j+1)
   rw [Cw at_n] at hst2
   have e3:racks.drop j=n::racks.drop (j+1):=by
    rw [List.drop_eq_getElem_cons hjl];rw [List.getElem?_eq_getElem hjl] at at_n;rw [Option.some.inj at_n]
   rw [e3,Ud,show ((j:Int)+1)=((j+1:Nat):Int) by omega,← Cw at_n] at hy
   by_cases hkn:(k:Int)<n
   ·rw [if_pos hkn,← List.append_assoc] at hy
    have ih2:=fun r=>ih (j+1,r,y++[(Bq (racks.take j)+k,(j:Int))]) (by dsimp only;omega) (by dsimp only;exact ⟨by omega,hy⟩)
    dsimp only at ih2
    rw [Cw at_n] at ih2
    simp only [List.length_append,List.length_singleton] at ih2
    generalize Bq (racks.take j)=f at *
    refine wk 7 cz ?_
    intro h3 b2 o1 hz1
    refine Ab rfl (Aj 0 rfl rfl Bm fun ⟨r1,r2⟩=>?_)
    refine wk 9 cz ?_
    intro h4 b3
    refine Ab rfl (Ik (z:=((f+↑k:Int),(↑j:Int))) 1 0 1 rfl rfl rfl rfl rfl AJ9 AKA rfl (fun w A hG=>(ABu (v1:=[Value.int IntKind.i64 (f+↑k)]) (Bh (by first|(simp only [Bf];omega)|(simp [Bf];done))) (Bh (by first|(simp only [Bf];omega)|(simp [Bf];done))))) (by omega) _ AKQ (by omega) fun r3=>?_)
    refine wk 6 cz ?_
    refine S2 [true,false,true] [0,3,4,5] (by exact Zr rfl) rfl rfl (ih2 r3)
   ·rw [if_neg hkn,List.nil_append] at hy
    have ih2:=ih (j+1,r,y) (by dsimp only;omega) (by dsimp only;exact ⟨by omega,hy⟩)
    dsimp only at ih2
    rw [Cw at_n] at ih2
    generalize Bq (racks.take j)=f at *
    refine wk 7 cz ?_
    intro h3 b2 o1 hz1
    refine Ab rfl (Aj 0 rfl rfl Bm fun ⟨r1,r2⟩=>?_)
    refine wk 10 cz ?_
    intro h4
    exact tw (ih2)
  ·obtain rfl:j=racks.length:=by omega
   rw [List.drop_length,Ud,List.append_nil] at hy
   subst hy
   clear ih
   refine wk 7 cz ?_
   intro h3
   exact tw (ih1 r)
 ·obtain rfl:k=mx0:=by omega
  clear ih
  have:=hK k
  refine wk 7 cz ?_
  intro h2
  refine Ev 0 0 rfl rfl (by show _*16≤140737488355328;omega) ?_
  simp only [List.eraseIdx_cons_zero,List.eraseIdx_cons_succ]
  refine Gl [0] rfl rfl rfl ⟨_,_,rfl,rfl,rfl⟩
end
open Go Go.Fw
set_option maxRecDepth 100000
set_option linter.unusedVariables false
set_option linter.unusedSimpArgs false
set_option maxHeartbeats 0
theorem ADy {po:Option Addr}{no co s b:Nat}{L:List (Int×Int)}{z:Int×Int}(hl:L.length≤256) (hb:b≤1000) (hz:L[plI L.length s b]?=some z):Br Tryz.prog 34 [.slice po no co,.int .i64 s,.int .i64 b] [] [A2 AA4 po no co L] (Rv (.agg #[.int .i64 z.1,.int .i64 z.2]) []):=by
 refine Ad (F:=ADP) rfl fun C=>?_
 refine Bd 0 rfl fun hn hb2 _=>?_
 subst hn
 have h0:0<L.length:=by have:=(List.getElem?_eq_some_iff.1 hz).1;omega
 have h1:s % L.length<L.length:=Nat.mod_lt _ h0
 have h2:(s % L.length+b) % L.length<L.length:=Nat.mod_lt _ h0
 have at_z:L[(s % L.length+b) % L.length]?=some z:=hz
 refine wk 8 cz ?_
 intro b1
 refine Ab rfl (E0 0 ((((s) % (L.length))+(b)) % (L.length)) rfl rfl rfl AJ9 ?_ ?_ fun z1 hz1 b2 o1=>?_)
 ·rw [Int.natCast_emod,Int.natCast_add,Int.natCast_emod]
 ·exact h2
 ·obtain rfl:z1=z:=Option.some.inj (hz1.symm.trans at_z)
  refine wk 3 cz ?_
  intro g1
  refine Tg [] rfl (.agg 0 rfl rfl ALc rfl .nil) rfl ⟨rfl,rfl,rfl⟩
section
variable {P M N dd W:Int}{n c nm cm nt ct nr cr:Nat}{pm ps pt pr:Option Addr}{md racks:List Int}{Aa sets:List (List Int)}
theorem AGe {l:List Int}(h0:∀ x∈l,0≤x) {x:Int}(hx:x∈l):x≤Bq l:=by
 obtain ⟨j,hj⟩:=List.getElem?_of_mem hx
 have a1:=Cv h0 j
 have a2:=Cv h0 (j+1)
 rw [Cw hj] at a2
 omega
abbrev AFM (racks:List Int):List Int:=(Cr racks).map Prod.fst
theorem Qm (h0:∀ x∈racks,0≤x) (hs:Bq racks≤256):Br Tryz.prog 67 [.agg #[.int .i64 P,.int .i64 M,.slice pm nm cm,.int .i64 N,.slice ps n c,.int .i64 dd,.slice pt nt ct,.slice pr nr cr,.int .i64 W]] [] [A2 Ak pr nr cr racks]
  (fun v Φ β=>∃ (pb:Option Addr) (cb:Nat),v = .slice pb (Cr racks).length cb∧Φ=[A2 Ak pb (Cr racks).length cb (AFM racks)]∧β=[]):=by
 refine Ad (F:=Ql) rfl fun C=>?_
 refine Bd 0 rfl fun hn hb _=>?_
 subst hn
 have hb':racks.length*8≤140737488355328:=hb
 have hmr:=Yq (m:=0) (l:=racks)
 have hK:∀ K,(Ep racks K).length≤256:=fun K=>by
  have h1:=Pr h0 (K:=K)
  have h2:=Qt (K:=(K:Int)) (l:=racks)
  omega
 have A4:=fun {P M N dd W:Int}{n c nm cm nt ct nr cr:Nat}{pm ps pt pr:Option Addr}=>D6 (P:=P) (M:=M) (N:=N) (dd:=dd) (W:=W) (n:=n) (c:=c) (nm:=nm) (cm:=cm) (nt:=nt) (ct:=ct) (nr:=nr) (cr:=cr) (pm:=pm) (ps:=ps) (pt:=pt) (pr:=pr) h0 (by omega)
 obtain ⟨hosts,hh⟩:=Int.eq_ofNat_of_zero_le (Yi h0)
 rw [hh] at A4
 refine wk 9 cz ?_
 intro b1 b2
 (apply He (E:=Ak) (n:=0) (cs:=[]) [] [] 0 (fun w A hG=>D5);(· rfl);(· rfl);(· rfl);(· rfl);(· decide))
 refine Ag (X:=Nat×Row×List (Int×Int)) [1,2] [0,1] (fun z=>[(4,.int .i64 (z.1:Int)),(3,.slice (ad z.2.1.bo) z.2.2.length z.2.1.cap)]) (fun z=>(z.2.1.bo,3,z.2.1.cs)::_) (fun z=>[Aw Ak z.2.1 z.2.2.length (z.2.2.map Prod.fst)]) (fun z=>z.1≤256∧z.2.2=Ep racks z.1) (fun z=>256-z.1) (0,⟨some b2,0,[]⟩,[]) [0] rfl rfl rfl ⟨Nat.zero_le _,rfl⟩ (by repeat (first|exact Fr.sub_nil _|refine Fr.sub_cons rfl ?_)) rfl rfl ?_
 rintro ⟨k,r,y⟩ ⟨hk,hy⟩ ih
 simp only [List.cons_append,List.nil_append] at hk hy ih ⊢
 have hyl:=hK k
 rw [← hy] at hyl
 by_cases h9:(y.length:Int)<hosts
 ·have hk1:k+1≤256:=by
   rw [hy,← hh] at h9
   obtain ⟨x,hx,hkx⟩:=AFo h0 h9
   have:=AGe h0 hx
   omega
  have ih1:=fun r=>ih (k+1,r,Ep racks (k+1)) (by dsimp only;omega) (by dsimp only;exact ⟨by omega,rfl⟩)
  dsimp only at ih1
  refine wk 4 cz ?_
  refine Ab rfl (Ai [2] rfl (A4) rfl ?_)
  rintro _ _ _ ⟨rfl,rfl,rfl⟩
  simp only [List.cons_append,List.nil_append]
  refine wk 8 cz ?_
  intro h1
  refine Ag (X:=Nat×Row×List (Int×Int)) [1,2,4,8,9,10,11,12] [0,1,2] (fun z=>[(6,.int .i64 (z.1:Int)),(3,.slice (ad z.2.1.bo) z.2.2.length z.2.1.cap),(5,.int .i64 (Bq (racks.take z.1)))]) (fun z=>(z.2.1.bo,3,z.2.1.cs)::_) (fun z=>[Aw Ak z.2.1 z.2.2.length (z.2.2.map Prod.fst)]) (fun z=>z.1≤racks.length∧z.2.2++Ud k (Bq (racks.take z.1)) z.1 (racks.drop z.1)=Ep racks (k+1)) (fun z=>racks.length-z.1) (0,r,y) [0] rfl rfl rfl ⟨Nat.zero_le _,by rw [hy];rfl⟩ (by repeat (first|exact Fr.sub_nil _|refine Fr.sub_cons rfl ?_)) rfl rfl ?_
  rintro ⟨j,r,y⟩ ⟨hj,hy⟩ ih
  simp only [List.cons_append,List.nil_append] at hj hy ih ⊢
  have hst:=Cv h0 j
  have hyl:y.length≤256:=by
   have:=congrArg List.length hy
   rw [List.length_append] at this
   have:=hK (k+1)
   omega
  by_cases hjl:j<racks.length
  ·obtain ⟨n,at_n⟩:∃ n,racks[j]?=some n:=⟨_,List.getElem?_eq_getElem hjl⟩
   have hn0:=h0 n (List.mem_of_getElem? at_n)
   have hst2:=Cv h0 (j+1)
   rw [Cw at_n] at hst2
   have e3:racks.drop j=n::racks.drop (j+1):=by
    rw [List.drop_eq_getElem_cons hjl];rw [List.getElem?_eq_getElem hjl] at at_n;rw [Option.some.inj at_n]
   rw [e3,Ud,show ((j:Int)+1)=((j+1:Nat):Int) by omega,← Cw at_n] at hy
   by_cases hkn:(k:Int)<n
   ·rw [if_pos hkn,← List.append_assoc] at hy
    have ih2:=fun r=>ih (j+1,r,y++[(Bq (racks.take j)+k,(j:Int))]) (by dsimp only;omega) (by dsimp only;exact ⟨by omega,hy⟩)
    dsimp only at ih2
    rw [Cw at_n] at ih2
    simp only [List.length_append,List.length_singleton,List.map_append,List.map_cons,List.map_nil] at ih2
    generalize Bq (racks.take j)=f at *
    refine wk 14 cz ?_
    intro h2 b3 o1 hz1
    refine Ab rfl (Aj 0 rfl rfl Bm fun ⟨r1,r2⟩=>?_)
    refine wk 6 cz ?_
    intro h3 b4
    refine Ab rfl (Ik (z:=(f+↑k:Int)) 1 0 1 rfl rfl rfl rfl rfl Bj Hb rfl (fun w A hG=>(Bh (by first|(simp only [Bf];omega)|(simp [Bf];done)))) (by omega) _ Iy (by omega) fun r3=>?_)
    refine wk 7 cz ?_
    intro b5 o2 hz2
    refine Ab rfl (Aj 0 rfl rfl Bm fun ⟨r4,r5⟩=>?_)
    refine wk 4 cz ?_
    refine S2 [true,false,true] [1,4,5,6] (by exact Zr rfl) rfl rfl (ih2 r3)
   ·rw [if_neg hkn,List.nil_append] at hy
    have ih2:=ih (j+1,r,y) (by dsimp only;omega) (by dsimp only;exact ⟨by omega,hy⟩)
    dsimp only at ih2
    rw [Cw at_n] at ih2
    generalize Bq (racks.take j)=f at *
    refine wk 14 cz ?_
    intro h2 b3 o1 hz1
    refine Ab rfl (Aj 0 rfl rfl Bm fun ⟨r1,r2⟩=>?_)
    refine wk 9 cz ?_
    intro h3 b4 o2 hz2
    refine Ab rfl (Aj 0 rfl rfl Bm fun ⟨r3,r4⟩=>?_)
    refine wk 4 cz ?_
    exact tw (ih2)
  ·obtain rfl:j=racks.length:=by omega
   rw [List.drop_length,Ud,List.append_nil] at hy
   subst hy
   clear ih
   refine wk 11 cz ?_
   intro h2
   exact tw (ih1 r)
 ·clear ih
  have e:y=Cr racks:=by rw [hy];exact AHw h0 (by rw [← hy,hh];omega)
  rw [← e,AFM,← e]
  clear hy e
  refine wk 4 cz ?_
  refine Ab rfl (Ai [2] rfl (A4) rfl ?_)
  rintro _ _ _ ⟨rfl,rfl,rfl⟩
  simp only [List.cons_append,List.nil_append]
  refine wk 6 cz ?_
  intro h1
  refine Ev 0 0 rfl rfl (by show y.length*8≤140737488355328;omega) ?_
  simp only [List.eraseIdx_cons_zero,List.eraseIdx_cons_succ]
  refine Gl [0] rfl rfl rfl ⟨_,_,rfl,rfl,rfl⟩
theorem Tj {s b:Nat}{z:Int×Int}(h0:∀ x∈racks,0≤x) (hs:Bq racks≤256) (hb:b≤1000) (hz:(Cr racks)[plI (Cr racks).length s b]?=some z):Br Tryz.prog 36 [.agg #[.int .i64 P,.int .i64 M,.slice pm nm cm,.int .i64 N,.slice ps n c,.int .i64 dd,.slice pt nt ct,.slice pr nr cr,.int .i64 W],.int .i64 s,.int .i64 b] [] [A2 Ak pr nr cr racks] (Rv (.int .i64 z.1) []):=by
 refine Ad (F:=Sz) rfl fun C=>?_
 have A4:=fun {P M N dd W:Int}{n c nm cm nt ct nr cr:Nat}{pm ps pt pr:Option Addr}=>D6 (P:=P) (M:=M) (N:=N) (dd:=dd) (W:=W) (n:=n) (c:=c) (nm:=nm) (cm:=cm) (nt:=nt) (ct:=ct) (nr:=nr) (cr:=cr) (pm:=pm) (ps:=ps) (pt:=pt) (pr:=pr) h0 (by omega)
 have Q1:=fun {P M N dd W:Int}{n c nm cm nt ct nr cr:Nat}{pm ps pt pr:Option Addr}=>Qm (P:=P) (M:=M) (N:=N) (dd:=dd) (W:=W) (n:=n) (c:=c) (nm:=nm) (cm:=cm) (nt:=nt) (ct:=ct) (nr:=nr) (cr:=cr) (pm:=pm) (ps:=ps) (pt:=pt) (pr:=pr) h0 hs
 have hf:=Lr h0
 rw [← hf] at A4
 have hl:(Cr racks).length≤256:=by omega
 have ht:0<(Cr racks).length:=by have:=(List.getElem?_eq_some_iff.1 hz).1;omega
 have h1:s % (Cr racks).length<(Cr racks).length:=Nat.mod_lt _ ht
 have h2:(s % (Cr racks).length+b) % (Cr racks).length<(Cr racks).length:=Nat.mod_lt _ ht
 have hz':(AFM racks)[plI (Cr racks).length s b]?=some z.1:=by rw [AFM,List.getElem?_map,hz];rfl
 have hnl:(AFM racks).length=(Cr racks).length:=List.length_map _
 generalize AFM racks=L at *
 generalize (Cr racks).length=t at *
 have at_z:L[(s % t+b) % t]?=some z.1:=hz'
 have hq:((s:Int) % t+b) % t=(((s % t+b) % t:Nat):Int):=by rw [Int.natCast_emod,Int.natCast_add,Int.natCast_emod]
 have hgz:=Rg at_z
 refine wk 5 cz ?_
 intro b1
 refine Ab rfl (Ai [0] rfl (A4) rfl ?_)
 rintro _ _ _ ⟨rfl,rfl,rfl⟩
 simp only [List.cons_append,List.nil_append]
 refine wk 2 cz ?_
 (apply Ch it mx 11;(· rfl);(· rfl))
 (apply Ac;(· rfl);(· exact B2 0 rfl rfl AF4 rfl))
 (apply Dl;(· rfl);(· exact Bi fun _=>Ai [0] rfl (Q1) rfl (by rintro _ _ _ ⟨pb1,cb1,rfl,rfl,rfl⟩;exact (E7 0 rfl)));intro pa1 ca1)
 (apply Ae 7;(· rfl);(· exact ⟨⟨by omega,by omega⟩,trivial,⟨by omega,by omega⟩,trivial,⟨by omega,by omega⟩,trivial,trivial,trivial⟩))
 (apply Ku;(· rfl);(· exact Bi fun _=>E0 0 ((((s) % (t))+(b)) % (t)) rfl rfl rfl Bj (by omega) (by omega) fun z1 hz1 b2 o1=>(Ky default hz1 0 rfl));intro b2 o1)
 (apply Ac;(· rfl);(· exact Bi fun _=>Aj 0 rfl rfl Bm fun ⟨r1,r2⟩=>Af))
 refine B7 rfl ?_
 simp only [List.map_cons,List.map_nil,List.cons_append,List.nil_append]
 refine wk 2 cz ?_
 rw [hgz]
 exact ge
end
structure CfOk (p m:Nat) (md:List Int) (N:Nat) (Aa:List (List Int)) (dd:Int) (sets:List (List Int)) (racks:List Int) (W:Int):Prop where
 CC:Cok p m md N Aa
 k1:1≤Aa.length
 cd:cdE p m md N Aa dd sets=0
 cum:O3 N (((dd-1) / 2).toNat+1)≤65536
 w1:1≤W
 w2:W≤16
 r1:1≤racks.length
 r2:racks.length≤64
 rp:∀ x∈racks,1≤x
 r3:Bq racks≤256
 r4:(N:Int)≤Bq racks
theorem AIR {P M N dd W:Int}{md racks:List Int}{Aa sets:List (List Int)}(h:cfE P M md N Aa dd sets racks W=0):∃ p m n:Nat,P=p∧M=m∧N=n∧CfOk p m md n Aa dd sets racks W:=by
 rw [cfE] at h
 by_cases hc:Xw P M md N Aa=0
 ·rw [if_neg (fun e=>e hc)] at h
  obtain ⟨p,m,n,rfl,rfl,rfl,CC⟩:=ACs hc
  refine ⟨p,m,n,rfl,rfl,rfl,?_⟩
  by_cases h0:Aa.length=0
  ·rw [if_pos h0] at h;cases h
  rw [if_neg h0] at h
  by_cases h1:cdE p m md n Aa dd sets=0
  ·rw [if_neg (fun e=>e h1),Int.toNat_natCast] at h
   by_cases h2:65536<O3 n (((dd-1) / 2).toNat+1)
   ·rw [if_pos h2] at h;cases h
   rw [if_neg h2] at h
   by_cases h3:W<1∨16<W∨racks.length<1∨64<racks.length∨∃ x∈racks,x<1
   ·rw [if_pos h3] at h;cases h
   rw [if_neg h3] at h
   by_cases h4:256<Bq racks
   ·rw [if_pos h4] at h;cases h
   rw [if_neg h4] at h
   by_cases h5:Bq racks<n
   ·rw [if_pos h5] at h;cases h
   refine ⟨CC,by omega,h1,by omega,?_,?_,?_,?_,fun x hx=>?_,by omega,by omega⟩
   ·by_cases h6:W<1
    ·exact absurd (.inl h6) h3
    ·omega
   ·by_cases h6:16<W
    ·exact absurd (.inr (.inl h6)) h3
    ·omega
   ·by_cases h6:racks.length<1
    ·exact absurd (.inr (.inr (.inl h6))) h3
    ·omega
   ·by_cases h6:64<racks.length
    ·exact absurd (.inr (.inr (.inr (.inl h6)))) h3
    ·omega
   ·by_cases h6:x<1
    ·exact absurd (.inr (.inr (.inr (.inr ⟨x,hx,h6⟩)))) h3
    ·omega
  ·rw [if_pos h1] at h;exact absurd h h1
 ·rw [if_pos hc] at h;exact absurd h hc
theorem CfOk.r0 {p m n:Nat}{dd W:Int}{md racks:List Int}{Aa sets:List (List Int)}(h:CfOk p m md n Aa dd sets racks W):∀ x∈racks,0≤x:=fun x hx=>by have:=h.rp x hx;omega
def Gr (racks:List Int) (s b:Nat):Int×Int:=(Cr racks).getD (plI (Cr racks).length s b) default
theorem CfOk.at {p m n:Nat}{dd W:Int}{md racks:List Int}{Aa sets:List (List Int)}(h:CfOk p m md n Aa dd sets racks W) (s b:Nat):(Cr racks)[plI (Cr racks).length s b]?=some (Gr racks s b):=by
 have h1:=Lr h.r0
 have h2:=h.r4
 have h3:=h.CC.n1
 have h4:plI (Cr racks).length s b<(Cr racks).length:=Nat.mod_lt _ (by omega)
 rw [Gr,List.getD_eq_getElem?_getD,List.getElem?_eq_getElem h4];rfl
theorem CfOk.inj {p m n:Nat}{dd W:Int}{md racks:List Int}{Aa sets:List (List Int)}(h:CfOk p m md n Aa dd sets racks W) {s b c:Nat}(hb:b<n) (hc:c<n) (he:(Gr racks s b).1=(Gr racks s c).1):b=c:=by
 have h1:=Lr h.r0
 have h2:=h.r4
 have hn:=Zd h.r0 (K:=(If 0 racks).toNat)
 rw [show Ep racks (If 0 racks).toNat=Cr racks from rfl] at hn
 have a1:=h.at s b
 have a2:=h.at s c
 have b1:((Cr racks).map Prod.fst)[plI (Cr racks).length s b]?=some (Gr racks s b).1:=by rw [List.getElem?_map,a1];rfl
 have b2:((Cr racks).map Prod.fst)[plI (Cr racks).length s c]?=some (Gr racks s c).1:=by rw [List.getElem?_map,a2];rfl
 rw [he,← b2] at b1
 have l1:plI (Cr racks).length s b<((Cr racks).map Prod.fst).length:=by rw [List.length_map];exact Nat.mod_lt _ (by omega)
 exact AJb (t:=(Cr racks).length) (s:=s) (by omega) (by omega) ((List.getElem?_inj l1 hn).1 b1)
section
variable {P M N dd W s b x e:Int}{n c nm cm nt ct nr cr:Nat}{pm ps pt pr:Option Addr}{md racks:List Int}{Aa sets:List (List Int)}
end
open Go Go.Fw
set_option maxRecDepth 100000
set_option linter.unusedVariables false
set_option linter.unusedSimpArgs false
set_option maxHeartbeats 0
abbrev AK6 (P M:Int) (pm:Option Addr) (nm cm:Nat) (N:Int) (ps:Option Addr) (n c:Nat) (dd:Int) (pt:Option Addr) (nt ct:Nat) (pr:Option Addr) (nr cr:Nat) (W:Int):List Value:=[.int .i64 P,.int .i64 M,.slice pm nm cm,.int .i64 N,.slice ps n c,.int .i64 dd,.slice pt nt ct,.slice pr nr cr,.int .i64 W]
section
variable {P M N dd W e:Int}{n c nm cm nt ct nr cr nb cb:Nat}{pm ps pt pr pb:Option Addr}{md racks:List Int}{Aa sets blocks:List (List Int)}
end
open Go Go.Fw
set_option maxRecDepth 100000
set_option linter.unusedVariables false
set_option linter.unusedSimpArgs false
set_option maxHeartbeats 0
def sw (L:List Int) (i j:Nat):List Int:=(L.set i (An L j)).set j (An L i)
theorem I8 {L:List Int}{i:Nat}(h:i<L.length):L[i]?=some (An L i):=by rw [An,List.getD_eq_getElem?_getD,List.getElem?_eq_getElem h];rfl
theorem AAG {L:List Int}{i:Nat}(h:i<L.length):An L i=L[i]:=Option.some.inj ((I8 h).symm.trans (List.getElem?_eq_getElem h))
theorem Mh {L:List Int}{i j a:Nat}(hi:i<L.length) (hj:j<L.length):An (sw L i j) a=if a=j then An L i else if a=i then An L j else An L a:=by
 rw [sw,An,List.getD_eq_getElem?_getD,List.getElem?_set,List.length_set,List.getElem?_set]
 by_cases h1:j=a
 ·rw [if_pos h1,if_pos hj,if_pos h1.symm];rfl
 ·rw [if_neg h1,if_neg (show ¬ a=j from fun e=>h1 e.symm)]
  by_cases h2:i=a
  ·rw [if_pos h2,if_pos hi,if_pos h2.symm];rfl
  ·rw [if_neg h2,if_neg (show ¬ a=i from fun e=>h2 e.symm),An,List.getD_eq_getElem?_getD]
theorem AEv {L:List Int}{i j:Nat}(hi:i<L.length) (hj:j<L.length):(sw L i j).Perm L:=by
 rw [sw,AAG hi,AAG hj]
 exact List.set_set_perm hi hj
structure Seg (a b:Nat) (L L':List Int):Prop where
 perm:L'.Perm L
 out:∀ i,i<a∨b≤i→An L' i=An L i
 inn:∀ i,a≤i→i<b→∃ j,a≤j∧j<b∧An L' i=An L j
theorem Seg.refl {a b:Nat}{L:List Int}:Seg a b L L:=⟨.refl _,fun _ _=>rfl,fun i h1 h2=>⟨i,h1,h2,rfl⟩⟩
theorem Seg.len {a b:Nat}{L L':List Int}(h:Seg a b L L'):L'.length=L.length:=h.perm.length_eq
theorem Seg.trans {a b:Nat}{L L' M:List Int}(h:Seg a b L L') (g:Seg a b L' M):Seg a b L M :=
 ⟨g.perm.trans h.perm,fun i hi=>(g.out i hi).trans (h.out i hi),fun i h1 h2=>by
  obtain ⟨j,j1,j2,e⟩:=g.inn i h1 h2
  obtain ⟨k,k1,k2,e'⟩:=h.inn j j1 j2
  exact ⟨k,k1,k2,e.trans e'⟩⟩
theorem Seg.wide {a b a' b':Nat}{L L':List Int}(h:Seg a b L L') (ha:a'≤a) (hb:b≤b'):Seg a' b' L L' :=
 ⟨h.perm,fun i hi=>h.out i (by omega),fun i h1 h2=>by
  by_cases hi:a≤i∧i<b
  ·obtain ⟨j,j1,j2,e⟩:=h.inn i hi.1 hi.2
   exact ⟨j,by omega,by omega,e⟩
  ·exact ⟨i,h1,h2,h.out i (by omega)⟩⟩
theorem H3 {L:List Int}{a b i j:Nat}(hb:b≤L.length) (i1:a≤i) (i2:i<b) (j1:a≤j) (j2:j<b):Seg a b L (sw L i j) :=
 ⟨AEv (by omega) (by omega),fun k hk=>by rw [Mh (by omega) (by omega),if_neg (by omega),if_neg (by omega)],fun k h1 h2=>by
  rw [Mh (by omega) (by omega)]
  split
  ·exact ⟨i,i1,i2,rfl⟩
  ·split
   ·exact ⟨j,j1,j2,rfl⟩
   ·exact ⟨k,h1,h2,rfl⟩⟩
theorem Seg.inR {a b:Nat}{L L':List Int}(h:Seg a b L L') (hr:∀ x∈L,Bf .i64 x):∀ x∈L',Bf .i64 x:=fun x hx=>hr x (h.perm.mem_iff.1 hx)
theorem Cu {L:List Int}(hr:∀ x∈L,Bf .i64 x) {i:Nat}(h:i<L.length):Bf .i64 (An L i):=hr _ (List.mem_of_getElem? (I8 h))
theorem Seg.all {a b:Nat}{L L':List Int}(h:Seg a b L L') {P:Int→Prop}(hp:∀ i,a≤i→i<b→P (An L i)):∀ i,a≤i→i<b→P (An L' i):=fun i h1 h2=>by
 obtain ⟨j,j1,j2,e⟩:=h.inn i h1 h2
 rw [e];exact hp j j1 j2
def Ft (L:List Int) (a b:Nat):Prop:=∀ i j,a≤i→i<j→j<b→An L i≤An L j
theorem Ft.short {L:List Int}{a b:Nat}(h:b≤a+1):Ft L a b:=fun i j h1 h2 h3=>by omega
def Zi (L:List Int) (a b:Nat):Prop:=a=0∨∀ i,a≤i→i<b→An L (a-1)≤An L i
theorem Zi.seg {a b:Nat}{L L':List Int}(h:Seg a b L L') (hl:Zi L a b):Zi L' a b:=by
 rcases hl with h0|hl
 ·exact .inl h0
 ·by_cases h0:a=0
  ·exact .inl h0
  ·refine .inr ?_
   rw [h.out (a-1) (by omega)]
   exact h.all (P:=fun x=>An L (a-1)≤x) hl
theorem Zi.sub {L:List Int}{a b b':Nat}(hl:Zi L a b) (hb:b'≤b):Zi L a b':=hl.imp id fun h i h1 h2=>h i h1 (by omega)
def ADm (L:List Int) (a i j:Nat):Prop:=∀ u v,a≤u→u<v→v≤i→v≠j→An L u≤An L v
theorem Zy {L:List Int}{a i j:Nat}(h:ADm L a i j) (h0:a<j) (hj:i<L.length) (hji:j≤i) (hx:An L j<An L (j-1)):ADm (sw L j (j-1)) a i (j-1):=fun u v hu huv hv hn=>by
 rw [Mh (by omega) (by omega),Mh (by omega) (by omega),if_neg hn]
 have g:=h
 by_cases hbj:v=j
 ·rw [if_pos hbj]
  by_cases ha:u=j-1
  ·rw [if_pos ha];omega
  ·rw [if_neg ha,if_neg (by omega)];exact h u (j-1) hu (by omega) (by omega) (by omega)
 ·rw [if_neg hbj]
  by_cases ha:u=j-1
  ·rw [if_pos ha];exact h j v (by omega) (by omega) hv hbj
  ·rw [if_neg ha]
   by_cases ha2:u=j
   ·rw [if_pos ha2];exact h (j-1) v (by omega) (by omega) hv hbj
   ·rw [if_neg ha2];exact h u v hu huv hv hbj
theorem Su {L:List Int}{a i j:Nat}(h:ADm L a i j) (hja:a≤j) (hx:j=a∨¬ An L j<An L (j-1)):Ft L a (i+1):=fun u v hu huv hv=>by
 by_cases hbj:v=j
 ·subst hbj
  rcases hx with hx|hx
  ·omega
  ·by_cases ha:u=v-1
   ·subst ha;omega
   ·have:=h u (v-1) hu (by omega) (by omega) (by omega);omega
 ·exact h u v hu huv (by omega) hbj
theorem AAU {L:List Int}{a i:Nat}(h:Ft L a i):ADm L a i i:=fun u v hu huv hv hn=>h u v hu huv (by omega)
theorem ACI {L:List Int}{a m b:Nat}(hm:a≤m) (h1:Ft L a m) (h2:Ft L (m+1) b) (hl:∀ i,a≤i→i<m→An L i≤An L m) (hr:∀ i,m<i→i<b→An L m≤An L i):Ft L a b:=fun i j hi hij hj=>by
 by_cases c1:j<m
 ·exact h1 i j hi hij c1
 ·by_cases c2:j=m
  ·rw [c2];exact hl i hi (by omega)
  ·have h3:=hr j (by omega) hj
   by_cases c3:i<m
   ·have:=hl i hi c3;omega
   ·by_cases c4:i=m
    ·rw [c4];exact h3
    ·exact h2 i j (by omega) hij hj
theorem AI4 {L:List Int}{a m b:Nat}{x:Int}(h1:∀ i,a≤i→i<m→An L i=x) (h2:∀ i,m≤i→i<b→x≤An L i) (h3:Ft L m b):Ft L a b:=fun i j hi hij hj=>by
 by_cases c:i<m
 ·rw [h1 i hi c]
  by_cases c2:j<m
  ·rw [h1 j (by omega) c2];exact Int.le_refl x
  ·exact h2 j (by omega) hj
 ·exact h3 i j (by omega) hij hj
theorem Ft.out {a b c d:Nat}{L L':List Int}(h:Seg a b L L') (hs:Ft L c d) (hd:d≤a∨b≤c):Ft L' c d:=fun i j hi hij hj=>by
 rw [h.out i (by omega),h.out j (by omega)];exact hs i j hi hij hj
def HpQ (L:List Int) (f lo hi r:Nat):Prop:=∀ i c,lo≤i→i≠r→(c=2*i+1∨c=2*i+2)→c<hi→An L (f+c)≤An L (f+i)
def HpU (L:List Int) (f lo hi r:Nat):Prop:=∀ i c,lo≤i→(r=2*i+1∨r=2*i+2)→(c=2*r+1∨c=2*r+2)→c<hi→An L (f+c)≤An L (f+i)
def Hp (L:List Int) (f lo hi:Nat):Prop:=∀ i c,lo≤i→(c=2*i+1∨c=2*i+2)→c<hi→An L (f+c)≤An L (f+i)
theorem AEY {L:List Int}{f lo hi r:Nat}(h:HpQ L f lo hi r) (hc:∀ c,(c=2*r+1∨c=2*r+2)→c<hi→An L (f+c)≤An L (f+r)):Hp L f lo hi:=fun i c h1 h2 h3=>by
 by_cases e:i=r
 ·subst e;exact hc c h2 h3
 ·exact h i c h1 e h2 h3
theorem AH7 {L:List Int}{f lo hi r c:Nat}(h:HpQ L f lo hi r) (hu:HpU L f lo hi r) (hr:lo≤r) (hc:c=2*r+1∨c=2*r+2) (hch:c<hi) (hl:f+hi≤L.length) (hm:∀ d,(d=2*r+1∨d=2*r+2)→d<hi→An L (f+d)≤An L (f+c)) (hx:An L (f+r)<An L (f+c)) :
  HpQ (sw L (f+r) (f+c)) f lo hi c∧HpU (sw L (f+r) (f+c)) f lo hi c:=by
 have key:∀ k,An (sw L (f+r) (f+c)) (f+k)=if k=c then An L (f+r) else if k=r then An L (f+c) else An L (f+k):=fun k=>by
  rw [Mh (by omega) (by omega)]
  by_cases e1:k=c
  ·rw [if_pos e1,if_pos (by omega)]
  ·rw [if_neg e1,if_neg (by omega)]
   by_cases e2:k=r
   ·rw [if_pos e2,if_pos (by omega)]
   ·rw [if_neg e2,if_neg (by omega)]
 refine ⟨fun i d h1 h2 h3 h4=>?_,fun i d h1 h2 h3 h4=>?_⟩
 ·rw [key,key,if_neg h2]
  by_cases e:i=r
  ·subst e
   rw [if_pos rfl]
   by_cases ed:d=c
   ·rw [if_pos ed];omega
   ·rw [if_neg ed,if_neg (by omega)];exact hm d h3 h4
  ·rw [if_neg e]
   by_cases ed:d=c
   ·omega
   ·rw [if_neg ed]
    by_cases ed2:d=r
    ·subst ed2
     rw [if_pos rfl]
     exact hu i c h1 h3 hc hch
    ·rw [if_neg ed2];exact h i d h1 e h3 h4
 ·obtain rfl:i=r:=by omega
  rw [key,key,if_neg (by omega),if_neg (by omega),if_neg (by omega),if_pos rfl]
  exact h c d (by omega) (by omega) h3 h4
theorem AJF {L:List Int}{f hi:Nat}(h:Hp L f 0 hi):∀ i,i<hi→An L (f+i)≤An L f:=by
 intro i
 induction i using Nat.strongRecOn with
 | _ i ih =>
  intro hi'
  by_cases e:i=0
  ·subst e;exact Int.le_refl _
  ·have h1:=ih ((i-1) / 2) (by omega) (by omega)
   have h2:=h ((i-1) / 2) i (Nat.zero_le _) (by omega) hi'
   omega
def AE3 (L:List Int) (r:Nat):List Int:=L.set r (An L r+1)
def I9 (racks:List Int) (s:Nat):Nat→List Int
 | 0=>List.replicate racks.length 0
 | k+1=>AE3 (I9 racks s k) (Gr racks s k).2.toNat
theorem AGG {L:List Int}{r:Nat}:(AE3 L r).length=L.length:=by rw [AE3,List.length_set]
theorem Ii {racks:List Int}{s:Nat}:∀ k,(I9 racks s k).length=racks.length
 | 0=>by rw [I9,List.length_replicate]
 | k+1=>by rw [I9,AGG,Ii k]
theorem Qj {L:List Int}{k:Int}(hk:0≤k) (h:∀ x∈L,0≤x∧x≤k) (i:Nat):0≤An L i∧An L i≤k:=by
 by_cases hi:i<L.length
 ·exact h _ (List.mem_of_getElem? (I8 hi))
 ·rw [An,List.getD_eq_getElem?_getD,List.getElem?_eq_none (by omega)];exact ⟨Int.le_refl _,hk⟩
theorem Kn {racks:List Int}{s:Nat}:∀ k,∀ x∈I9 racks s k,0≤x∧x≤(k:Int)
 | 0=>fun x hx=>by
  rw [I9] at hx
  have:=(List.mem_replicate.1 hx).2
  omega
 | k+1=>fun x hx=>by
  have ih:=Kn (racks:=racks) (s:=s) k
  rw [I9,AE3] at hx
  rcases List.mem_or_eq_of_mem_set hx with h|h
  ·have:=ih x h;omega
  ·have:=Qj (by omega) ih (Gr racks s k).2.toNat;omega
def W1 (L:List Int):List Int:=L.mergeSort fun a b=>decide (b≤a)
theorem Te {L:List Int}:(W1 L).Perm L:=List.mergeSort_perm _ _
theorem AGn {L M:List Int}(hp:M.Perm L) (h:∀ i j,i<j→j<M.length→An M j≤An M i):M=W1 L:=by
 refine List.Perm.eq_of_pairwise (le:=fun a b=>b≤a) (fun a b _ _ h1 h2=>by omega) ?_ ?_ (hp.trans Te.symm)
 ·refine List.pairwise_iff_getElem.2 fun i j hi hj hij=>?_
  rw [← AAG hi,← AAG hj];exact h i j hij hj
 ·have:=List.pairwise_mergeSort (le:=fun a b:Int=>decide (b≤a)) (fun a b c h1 h2=>by simp only [decide_eq_true_eq] at *;omega) (fun a b=>by simp only [Bool.or_eq_true,decide_eq_true_eq];omega) L
  exact this.imp (fun h=>by simpa using h)
theorem AHV {l L:List Int}{n:Nat}(hl:l.length=n) (hS:Seg 0 n l L) (ho:Ft L 0 n):L.reverse=W1 l:=by
 have hL:L.length=n:=hS.len.trans hl
 refine AGn ((List.reverse_perm L).trans hS.perm) fun i j hij hj=>?_
 rw [List.length_reverse] at hj
 have e:∀ k,k<L.length→An L.reverse k=An L (L.length-1-k):=fun k hk=>by
  rw [AAG (by rw [List.length_reverse];exact hk),List.getElem_reverse,← AAG]
 rw [e i (by omega),e j (by omega)]
 exact ho _ _ (Nat.zero_le _) (by omega) (by omega)
def tlI (D:Int):List Int→Int→Nat
 | [],_=>0
 | x::r,s=>if D≤s+x then 0 else 1+tlI D r (s+x)
def Mt (racks:List Int) (N:Nat) (D:Int):Nat→Nat
 | 0=>racks.length
 | t+1=>min (Mt racks N D t) (tlI D (W1 (I9 racks t N)) 0)
theorem ACf {racks:List Int}{N:Nat}{D:Int}:∀ t,Mt racks N D t≤racks.length
 | 0=>Nat.le_refl _
 | t+1=>by have:=ACf (racks:=racks) (N:=N) (D:=D) t;rw [Mt];omega
theorem CfOk.rack {p m n:Nat}{dd W:Int}{md racks:List Int}{Aa sets:List (List Int)}(h:CfOk p m md n Aa dd sets racks W) (s b:Nat):0≤(Gr racks s b).2∧(Gr racks s b).2.toNat<racks.length:=by
 have:=ACG h.r0 (K:=(If 0 racks).toNat) (List.mem_of_getElem? (h.at s b))
 omega
end Go.Proofs.YteadncphjconmaaGreat
namespace Go.Fw
set_option linter.unusedVariables false
variable {P:Program}
section
variable {P:Program}{C:Cx}{σ:Fr}{ty:TypeId}{β:List Bb}{Γ:List Fact}{K:Value→List Bb→List Fact→Prop}
theorem AF1 (n:Nat):IntKind.wrap .u64 (n:Int)=((n % 18446744073709551616:Nat):Int):=by
 simp [IntKind.wrap,IntKind.bits,IntKind.signed]
theorem AEw {x y:Operand}{t u:TypeId}{m:Int}{ku:IntKind}(a c:Nat) (hx:ev σ x=some (.int .u64 m)) (hy:ev σ y=some (.int ku (c:Int))) (hm:m=(a:Int)) (hc:c≤64)
  (h:K (.int .u64 ((a*2 ^ c % 18446744073709551616:Nat):Int)) β Γ):Ej P C (.binOp .shl t x y u) ty σ β Γ K :=
 Dg (fun w ρ hρ=>by
  subst hm
  have e:IntKind.wrap .u64 ((a:Int)*2 ^ c)=((a*2 ^ c % 18446744073709551616:Nat):Int):=by
   rw [← AF1,Int.natCast_mul,Int.natCast_pow];rfl
  have hc0:¬ ((c:Int)<0):=by omega
  have hmin:min c 64=c:=Nat.min_eq_left hc
  simp [execOp,Cp,hρ _ _ hx,hρ _ _ hy,eqGuard,Go.binOp,Op.shift,IntKind.bits,hc0,hmin,e]) h
theorem AB5 {x y:Operand}{t u:TypeId}{m n:Int}(a b:Nat) (hx:ev σ x=some (.int .u64 m)) (hy:ev σ y=some (.int .u64 n)) (hm:m=(a:Int)) (hn:n=(b:Int)) (ha:a<18446744073709551616) (hb:b<18446744073709551616)
  (h:K (.int .u64 ((a ^^^ b:Nat):Int)) β Γ):Ej P C (.binOp .xor t x y u) ty σ β Γ K :=
 Dg (fun w ρ hρ=>by
  subst hm;subst hn
  have h1:a ^^^ b<18446744073709551616:=Nat.xor_lt_two_pow (n:=64) ha hb
  have h2:IntKind.wrap .u64 ((a ^^^ b:Nat):Int)=((a ^^^ b:Nat):Int):=by rw [AF1,Nat.mod_eq_of_lt h1]
  simp only [execOp,Cp,hρ _ _ hx,hρ _ _ hy,eqGuard,Go.binOp,Op.intBits]
  have e:(BitVec.ofNat 64 a ^^^ BitVec.ofNat 64 b).toNat=a ^^^ b:=by rw [BitVec.toNat_xor,BitVec.toNat_ofNat,BitVec.toNat_ofNat,Nat.mod_eq_of_lt (by omega),Nat.mod_eq_of_lt (by omega)]
  simp [IntKind.bits]
  exact (congrArg (fun z:Nat=>IntKind.wrap .u64 (z:Int)) e).trans h2) h
end
def Fun.inR (F:Fun P) (l:Nat):Fun P:={ F with rnd:=some l,dfs:=[] }
section
variable {C:Cx}{l:Nat}{o:Obj}{w:World}{β:List Bb}{Γ:List Fact}{X:Nat→Prop}
end
section
variable {F:Fun P}{C:Cx}{S:List It}{σ:Fr}{β:List Bb}{Γ:List Fact}{R:Value→World→Prop}{l:Nat}{r:Loop}{Q0:Value→List Fact→List Bb→Prop}
end
def Rdy (r:Loop):Prop:=r.state = .ready∧r.pending=none
theorem Rdy.same {r:Loop}(h:Rdy r):{ r with state:=.ready,pending:=none }=r:=by
 obtain ⟨h1,h2⟩:=h
 cases r;subst h1;subst h2;rfl
section
variable {F:Fun P}{C:Cx}{S:List It}{σ:Fr}{β:List Bb}{Γ:List Fact}{R:Value→World→Prop}{l:Nat}{r:Loop}{B:Code}{Q:List Fact→List Bb→Prop}{Qs:List Nat→List Fact→List Bb→Prop}
end
section
variable {F:Fun P}{C:Cx}{S:List It}{σ:Fr}{β:List Bb}{Γ:List Fact}{R:Value→World→Prop}
end
end Go.Fw
namespace Go.Proofs.YteadncphjconmaaGreat
set_option maxRecDepth 100000
set_option linter.unusedVariables false
set_option linter.unusedSimpArgs false
def Q9 (n:Nat):Nat:=if _h:n=0 then 0 else Q9 (n / 2)+1
termination_by n
decreasing_by omega
theorem O4:Q9 0=0:=by rw [Q9];rfl
theorem Yv {n:Nat}(h:n≠0):Q9 n=Q9 (n / 2)+1:=by rw [Q9,dif_neg h]
def AEB:Nat→Nat→Nat
 | 0,_=>0
 | f+1,n=>if n=0 then 0 else AEB f (n / 2)+1
theorem AG4 (f:Nat):∀ n,n<2 ^ f→AEB f n=Q9 n:=by
 induction f with
 | zero => intro n h; have : n = 0 := by simpa using h
           subst this; rw [O4]; rfl
 | succ f ih =>
  intro n h
  rw [AEB]
  by_cases h0:n=0
  ·subst h0;rw [if_pos rfl,O4]
  ·rw [if_neg h0,Yv h0,ih _ (by rw [Nat.pow_succ] at h;omega)]
theorem ABX {n k:Nat}(h:n<2 ^ k):Q9 n≤k:=by
 induction k generalizing n with
 | zero => have : n = 0 := by simpa using h
           subst this; rw [O4]; omega
 | succ k ih =>
  by_cases h0:n=0
  ·subst h0;rw [O4];omega
  ·rw [Yv h0];have:=ih (n:=n / 2) (by rw [Nat.pow_succ] at h;omega);omega
def AIS (s:ByteArray):Bool:=(List.range 256).all fun n=>match s[n]? with
 | some b=>b.toNat == AEB 8 n
 | none=>false
theorem AHR {s:ByteArray}(h:AIS s=true) {n:Nat}(hn:n<256):s[n]?=some (UInt8.ofNat (Q9 n)):=by
 unfold AIS at h
 have:=List.all_eq_true.1 h n (List.mem_range.2 hn)
 cases hs:s[n]? with
 | none=>rw [hs] at this;simp at this
 | some b =>
  rw [hs] at this
  simp only [beq_iff_eq] at this
  rw [AG4 8 n (by simpa using hn)] at this
  rw [← this];simp
open Go Go.Fw
set_option maxHeartbeats 0
theorem W4 {x:Int}:Br Tryz.prog 139 [.int .i64 x] [] [] (Rv (.bool false) []):=by
 refine Ad (F:=Xc) rfl fun C=>?_
 have hd:(!decide (x=x))=false:=by simp
 refine wk 5 cz ?_
 rw [hd]
 exact ge
theorem As {x y:Int}:Br Tryz.prog 107 [.int .i64 x,.int .i64 y] [] [] (Rv (.bool (decide (x<y))) []):=by
 refine Ad (F:=X9) rfl fun C=>?_
 refine wk 7 (ct @W4 cz) ?_
 exact ge
theorem ABU {x:Nat}(hx:x<256):Br Tryz.prog 111 [.int .u64 x] [] [] (Rv (.int .i64 (Q9 x)) []):=by
 refine Ad (F:=ABK) rfl fun C=>?_
 refine Be [_,_] rfl ?_
 refine Au it 1 rfl (by simp) ?_
 refine Be [_,_,_] rfl ?_
 refine Au it 2 rfl (by simp) ?_
 refine Be [_,_] rfl ?_
 refine M1 rfl rfl (fun h1=>by exfalso;omega) (fun h1=>?_)
 refine Be [_,_,_] rfl ?_
 refine Au it 2 rfl (by simp) ?_
 refine Be [_,_] rfl ?_
 refine M1 rfl rfl (fun h2=>by exfalso;omega) (fun h2=>?_)
 refine Be [_,_,_] rfl ?_
 refine Au it 2 rfl (by simp) ?_
 refine Be [_,_] rfl ?_
 refine M1 rfl rfl (fun h3=>by exfalso;omega) (fun h3=>?_)
 refine Be [_,_] rfl ?_
 refine Au it 3 rfl ⟨⟨by omega,by omega⟩,trivial,trivial,trivial⟩ ?_ --ok
 refine Ab rfl (AJH x rfl rfl rfl rfl (AHR (by decide +kernel) hx) ?_)
 have h8:=ABX (n:=x) (k:=8) (by simpa using hx)
 have e:(UInt8.ofNat (Q9 x)).toNat=Q9 x:=by
  simp only [UInt8.toNat_ofNat'];omega
 rw [e]
 refine wk 2 cz ?_
 rw [show (0:Int)+((Q9 x:Nat):Int)=((Q9 x:Nat):Int) by omega]
 exact ge
theorem Y9 {x:Nat}(hx:x<256):Br Tryz.prog 69 [.int .u64 x] [] [] (Rv (.int .i64 (Q9 x)) []):=by
 refine Ad (F:=ADO) rfl fun C=>?_
 refine wk 9 (ct @ABU cz) ?_
 exact ge
section
variable {b cap n:Nat}{cs:List Value}{l K:List Int}
end
open Go Go.Fw
set_option maxRecDepth 100000
set_option linter.unusedVariables false
set_option linter.unusedSimpArgs false
set_option maxHeartbeats 0
abbrev U3 (b cap n:Nat) (P:List Int→Prop):Value→List Fact→List Bb→Prop:=fun v Φ β=>∃ cs' L,P L∧v = .tuple #[]∧Φ=[Aw Ak ⟨some b,cap,cs'⟩ n L]∧β=[(some b,3,cs')]
section
variable {b cap n a e:Nat}{cs:List Value}{l:List Int}
theorem Pc (hn:n≤1000000) (hr:∀ x∈l,Bf .i64 x) (hl:l.length=n) (hae:a≤e) (he:e≤n) :
  Br Tryz.prog 101 [.slice (some ⟨b,0,none⟩) n cap,.int .i64 a,.int .i64 e] [(some b,3,cs)] [Aw Ak ⟨some b,cap,cs⟩ n l] (U3 b cap n fun L=>Seg a e l L∧Ft L a e):=by
 refine Ad (F:=H0) rfl fun C=>?_
 refine wk 3 cz ?_
 refine Ag (X:=Nat×List Value×List Int) [0,1,2] [0] (fun x=>[(6,.int .i64 (x.1:Int))]) (fun x=>[(some b,3,x.2.1)]) (fun x=>[Aw Ak ⟨some b,cap,x.2.1⟩ n x.2.2]) (fun x=>a+1≤x.1∧(x.1≤e∨x.1=a+1)∧Seg a e l x.2.2∧Ft x.2.2 a x.1) (fun x=>e-x.1) (a+1,cs,l) [0] rfl rfl rfl ⟨Nat.le_refl _,.inr rfl,.refl,.short (Nat.le_refl _)⟩ (by repeat (first|exact Fr.sub_nil _|refine Fr.sub_cons rfl ?_)) rfl rfl ?_
 rintro ⟨i,cs,L⟩ ⟨hi1,hi,hS,ho⟩ ih
 simp only [List.cons_append,List.nil_append] at hi1 hi hS ho ih ⊢
 by_cases hin:i<e
 ·refine wk 7 cz ?_
  intro h1
  refine Ag (X:=Nat×List Value×List Int) [0,1,2,6,10,11,12,15] [0,1] (fun x=>[(7,.int .i64 (x.1:Int))]) (fun x=>[(some b,3,x.2.1)]) (fun x=>[Aw Ak ⟨some b,cap,x.2.1⟩ n x.2.2]) (fun x=>x.1≤i∧a≤x.1∧Seg a e l x.2.2∧ADm x.2.2 a i x.1) (fun x=>x.1) (i,cs,L) [0] rfl rfl rfl ⟨Nat.le_refl _,by omega,hS,AAU ho⟩ (by repeat (first|exact Fr.sub_nil _|refine Fr.sub_cons rfl ?_)) rfl rfl ?_
  rintro ⟨j,cs,L⟩ ⟨hji,haj,hS,ho⟩ ihj
  simp only [List.cons_append,List.nil_append] at hji haj hS ho ihj ⊢
  have hLl:L.length=n:=hS.len.trans hl
  by_cases hj0:a<j
  ·have at_u:=I8 (L:=L) (i:=j) (by omega)
   have at_v:=I8 (L:=L) (i:=j-1) (by omega)
   have hu:=Cu (hS.inR hr) (i:=j) (by omega)
   have hv:=Cu (hS.inR hr) (i:=j-1) (by omega)
   simp only [Bf] at hu hv
   by_cases hx:An L j<An L (j-1)
   ·have ihj':=fun cs=>ihj (j-1,cs,sw L j (j-1)) (by dsimp only;omega) ⟨by dsimp only;omega,by dsimp only;omega,hS.trans (H3 (by omega) (by omega) (by omega) (by omega) (by omega)),Zy ho hj0 (by omega) hji hx⟩
    dsimp only at ihj'
    rw [sw] at ihj'
    generalize An L j=u at *
    generalize An L (j-1)=v at *
    refine wk 5 (ct @As cz) ?_
    intro h2
    (apply Cy (x0:=none) it mx 0 15 [2,3,4] 1;(· rfl);(· rfl);(· rfl);(· decide))
    simp only [List.drop_zero]
    (apply Ae 5;(· rfl);(· exact ⟨⟨by omega,by omega⟩,trivial,trivial,trivial,trivial,trivial⟩))
    (apply Ae 2;(· rfl);(· simp))
    (apply Ac (v:=Value.int IntKind.i64 ((((j)-1:Nat)):Int));(· rfl);(· exact Bi fun _=>V0 it _ rfl ⟨by omega,by omega⟩ (by omega) Af))
    simp only [Nat.add_sub_cancel]
    (apply Ac;(· rfl);(· exact Bi fun _=>Ah (j-1) (j-1) rfl rfl Bj rfl (by omega) (Nat.mul_one _) Af))
    (apply Ac;(· rfl);(· exact A6 0 0 (j-1) rfl rfl rfl Bm rfl (by assumption)))
    (apply Ae 2;(· rfl);(· simp))
    (apply Ac;(· rfl);(· exact Bi fun _=>Ah (j) (j) rfl rfl Bj rfl (by omega) (Nat.mul_one _) Af))
    (apply Ac;(· rfl);(· exact A6 0 0 (j) rfl rfl rfl Bm rfl (by assumption)))
    (apply Ac;(· rfl);(· exact Bi fun _=>Ah (j) (j) rfl rfl Bj rfl (by omega) (Nat.mul_one _) Af)) --ok
    refine Cz rfl ?_
    rotate_left
    rfl
    simp only [List.map_nil,List.nil_append]
    refine C4 it rfl rfl ⟨⟨_,_,_,_,rfl,rfl,rfl,rfl,rfl,rfl,(by first|trivial|(repeat' first|exact trivial|apply And.intro|omega))⟩,⟨⟨_,_,_,_,rfl,rfl,rfl,rfl,rfl,rfl,(by first|trivial|(repeat' first|exact trivial|apply And.intro|omega))⟩,⟨⟨_,_,_,_,rfl,rfl,rfl,rfl,rfl,rfl,(by first|trivial|(repeat' first|exact trivial|apply And.intro|omega))⟩,trivial⟩⟩⟩ (Cb (vs:=[Value.int IntKind.i64 v]) (z:=(v:Int)) 0 0 (j) rfl rfl rfl rfl rfl Bm (Nat.mul_one _).symm (by omega) (fun w A hG=>(Bh (by first|(simp only [Bf];omega)|(simp [Bf];done)))) fun cs1=>?_)
    refine Dw it ⟨⟨_,_,_,_,rfl,rfl,rfl,rfl,rfl,rfl,(by first|trivial|(repeat' first|exact trivial|apply And.intro|omega))⟩,⟨⟨_,_,_,_,rfl,rfl,rfl,rfl,rfl,rfl,(by first|trivial|(repeat' first|exact trivial|apply And.intro|omega))⟩,⟨⟨_,_,_,_,rfl,rfl,rfl,rfl,rfl,rfl,(by first|trivial|(repeat' first|exact trivial|apply And.intro|omega))⟩,trivial⟩⟩⟩ ?_
    refine wk 1 cz ?_
    refine Ab rfl (Cb (vs:=[Value.int IntKind.i64 u]) (z:=(u:Int)) 0 0 (j-1) rfl rfl rfl rfl rfl Bm (Nat.mul_one _).symm (by omega) (fun w A hG=>(Bh (by first|(simp only [Bf];omega)|(simp [Bf];done)))) fun cs2=>?_)
    refine wk 3 cz ?_
    exact tw (ihj' cs2)
   ·have stop':=Su ho haj (.inr hx)
    generalize An L j=u at *
    generalize An L (j-1)=v at *
    refine wk 7 (ct @As cz) ?_
    intro h2
    exact tw (ih (i+1,cs,L) (by dsimp only;omega) ⟨by dsimp only;omega,.inl (by dsimp only;omega),hS,stop'⟩)
  ·refine wk 7 cz ?_
   exact tw (ih (i+1,cs,L) (by dsimp only;omega) ⟨by dsimp only;omega,.inl (by dsimp only;omega),hS,Su ho haj (.inl (by omega))⟩)
 ·clear ih
  refine wk 5 cz ?_
  intro h1
  refine Cj [0] rfl rfl ⟨cs,L,⟨hS,fun u v h1 h2 h3=>ho u v h1 h2 (by omega)⟩,rfl,rfl,rfl⟩
end
open Go Go.Fw
set_option maxRecDepth 100000
set_option linter.unusedVariables false
set_option linter.unusedSimpArgs false
set_option maxHeartbeats 0
structure PtI (l L:List Int) (a e:Nat) (p:Int) (i j:Nat):Prop where
 seg:Seg a e l L
 p0:An L a=p
 i1:a+1≤i
 ij:i≤j+1
 je:j<e
 lo:∀ k,a+1≤k→k<i→An L k<p
 hi:∀ k,j<k→k<e→p≤An L k
section
variable {l L:List Int}{a e i j:Nat}{p:Int}
theorem PtI.next (h:PtI l L a e p i j) (hij:i≤j) (hx:An L i<p):PtI l L a e p (i+1) j:=⟨h.seg,h.p0,by have:=h.i1;omega,by omega,h.je,fun k k1 k2=>by
 by_cases c:k=i
 ·rw [c];exact hx
 ·exact h.lo k k1 (by omega),h.hi⟩
theorem PtI.prev (h:PtI l L a e p i j) (hij:i≤j) (hx:¬ An L j<p):PtI l L a e p i (j-1):=⟨h.seg,h.p0,h.i1,by have:=h.i1;omega,by have:=h.je;omega,h.lo,fun k k1 k2=>by
 by_cases c:k=j
 ·rw [c];omega
 ·exact h.hi k (by omega) k2⟩
theorem PtI.swap (h:PtI l L a e p i j) (he:e≤l.length) (hij:i≤j) (hx:¬ An L i<p) (hy:An L j<p):i<j∧PtI l (sw L i j) a e p (i+1) (j-1):=by
 have hL:=h.seg.len
 have h1:=h.i1
 have h2:=h.je
 have hne:i≠j:=fun c=>by rw [c] at hx;exact hx hy
 have hsw:∀ k,An (sw L i j) k=if k=j then An L i else if k=i then An L j else An L k:=fun k=>Mh (by omega) (by omega)
 refine ⟨by omega,h.seg.trans (H3 (by omega) (by omega) (by omega) (by omega) (by omega)),?_,by omega,by omega,by omega,fun k k1 k2=>?_,fun k k1 k2=>?_⟩
 ·rw [hsw,if_neg (by omega),if_neg (by omega)];exact h.p0
 ·rw [hsw,if_neg (by omega)]
  by_cases c:k=i
  ·rw [if_pos c];exact hy
  ·rw [if_neg c];exact h.lo k k1 (by omega)
 ·rw [hsw]
  by_cases c:k=j
  ·rw [if_pos c];omega
  ·rw [if_neg c,if_neg (by omega)];exact h.hi k (by omega) k2
structure PtE (l L:List Int) (a e m:Nat):Prop where
 seg:Seg a e l L
 am:a≤m
 me:m<e
 lo:∀ k,a≤k→k<m→An L k≤An L m
 hi:∀ k,m<k→k<e→An L m≤An L k
theorem PtI.fin (h:PtI l L a e p i j) (he:e≤l.length) (hij:¬ i≤j):PtE l (sw L j a) a e j:=by
 have hL:=h.seg.len
 have h1:=h.i1
 have h2:=h.je
 have h3:=h.ij
 have hsw:∀ k,An (sw L j a) k=if k=a then An L j else if k=j then An L a else An L k:=fun k=>Mh (by omega) (by omega)
 have hm:An (sw L j a) j=p:=by
  rw [hsw]
  by_cases c:j=a
  ·rw [if_pos c,c];exact h.p0
  ·rw [if_neg c,if_pos rfl];exact h.p0
 refine ⟨h.seg.trans (H3 (by omega) (by omega) (by omega) (by omega) (by omega)),by omega,h2,fun k k1 k2=>?_,fun k k1 k2=>?_⟩
 ·rw [hm,hsw]
  by_cases c:k=a
  ·rw [if_pos c];exact Int.le_of_lt (h.lo j (by omega) (by omega))
  ·rw [if_neg c,if_neg (by omega)];exact Int.le_of_lt (h.lo k (by omega) (by omega))
 ·rw [hm,hsw,if_neg (by omega),if_neg (by omega)]
  exact h.hi k k1 k2
theorem PtI.start {pv:Nat}(he:e≤l.length) (h1:a≤pv) (h2:pv<e):PtI l (sw l a pv) a e (An l pv) (a+1) (e-1) :=
 ⟨H3 he (Nat.le_refl a) (by omega) h1 h2,by
  rw [Mh (by omega) (by omega)]
  by_cases c:a=pv
  ·rw [if_pos c,c]
  ·rw [if_neg c,if_pos rfl],Nat.le_refl _,by omega,by omega,fun k k1 k2=>by omega,fun k k1 k2=>by omega⟩
end
open Go Go.Fw
set_option maxRecDepth 100000
set_option linter.unusedVariables false
set_option linter.unusedSimpArgs false
set_option maxHeartbeats 0
structure PeI (l L:List Int) (a e:Nat) (p:Int) (i j:Nat):Prop where
 seg:Seg a e l L
 p0:An L a=p
 i1:a+1≤i
 ij:i≤j+1
 je:j<e
 lo:∀ k,a+1≤k→k<i→An L k≤p
 hi:∀ k,j<k→k<e→p<An L k
section
variable {l L:List Int}{a e i j:Nat}{p:Int}
theorem PeI.next (h:PeI l L a e p i j) (hij:i≤j) (hx:¬ p<An L i):PeI l L a e p (i+1) j:=⟨h.seg,h.p0,by have:=h.i1;omega,by omega,h.je,fun k k1 k2=>by
 by_cases c:k=i
 ·rw [c];omega
 ·exact h.lo k k1 (by omega),h.hi⟩
theorem PeI.prev (h:PeI l L a e p i j) (hij:i≤j) (hx:p<An L j):PeI l L a e p i (j-1):=⟨h.seg,h.p0,h.i1,by have:=h.i1;omega,by have:=h.je;omega,h.lo,fun k k1 k2=>by
 by_cases c:k=j
 ·rw [c];exact hx
 ·exact h.hi k (by omega) k2⟩
theorem PeI.swap (h:PeI l L a e p i j) (he:e≤l.length) (hij:i≤j) (hx:p<An L i) (hy:¬ p<An L j):i<j∧PeI l (sw L i j) a e p (i+1) (j-1):=by
 have hL:=h.seg.len
 have h1:=h.i1
 have h2:=h.je
 have hne:i≠j:=fun c=>by rw [c] at hx;exact hy hx
 have hsw:∀ k,An (sw L i j) k=if k=j then An L i else if k=i then An L j else An L k:=fun k=>Mh (by omega) (by omega)
 refine ⟨by omega,h.seg.trans (H3 (by omega) (by omega) (by omega) (by omega) (by omega)),?_,by omega,by omega,by omega,fun k k1 k2=>?_,fun k k1 k2=>?_⟩
 ·rw [hsw,if_neg (by omega),if_neg (by omega)];exact h.p0
 ·rw [hsw,if_neg (by omega)]
  by_cases c:k=i
  ·rw [if_pos c];omega
  ·rw [if_neg c];exact h.lo k k1 (by omega)
 ·rw [hsw]
  by_cases c:k=j
  ·rw [if_pos c];exact hx
  ·rw [if_neg c,if_neg (by omega)];exact h.hi k (by omega) k2
structure PeE (l L:List Int) (a e m:Nat) (p:Int):Prop where
 seg:Seg a e l L
 am:a<m
 me:m≤e
 lo:∀ k,a≤k→k<m→An L k≤p
 hi:∀ k,m≤k→k<e→p<An L k
theorem PeI.fin (h:PeI l L a e p i j) (hij:¬ i≤j):PeE l L a e i p:=by
 have h1:=h.i1
 have h2:=h.je
 have h3:=h.ij
 refine ⟨h.seg,by omega,by omega,fun k k1 k2=>?_,fun k k1 k2=>h.hi k (by omega) k2⟩
 by_cases c:k=a
 ·rw [c,h.p0];exact Int.le_refl _
 ·exact h.lo k (by omega) k2
theorem PeI.start {pv:Nat}(he:e≤l.length) (h1:a≤pv) (h2:pv<e):PeI l (sw l a pv) a e (An l pv) (a+1) (e-1) :=
 ⟨H3 he (Nat.le_refl a) (by omega) h1 h2,by
  rw [Mh (by omega) (by omega)]
  by_cases c:a=pv
  ·rw [if_pos c,c]
  ·rw [if_neg c,if_pos rfl],Nat.le_refl _,by omega,by omega,fun k k1 k2=>by omega,fun k k1 k2=>by omega⟩
end
open Go Go.Fw
set_option maxRecDepth 100000
set_option linter.unusedVariables false
set_option linter.unusedSimpArgs false
set_option maxHeartbeats 0
structure PdI (l L:List Int) (a0 e0 a e:Nat):Prop where
 seg:Seg a0 e0 l L
 aa:a0≤a
 ae:a≤e
 ee:e≤e0
 low:Zi L a e
 fin:∀ L',Seg a e L L'→Ft L' a e→Ft L' a0 e0
section
variable {l L L2 L3:List Int}{a0 e0 a e m:Nat}{p:Int}
theorem PdI.start (h:a≤e) (hl:Zi l a e):PdI l l a e a e:=⟨.refl,Nat.le_refl _,h,Nat.le_refl _,hl,fun _ _ s=>s⟩
theorem PdI.seg2 (h:PdI l L a0 e0 a e) (s:Seg a e L L2):PdI l L2 a0 e0 a e :=
 ⟨h.seg.trans (s.wide h.aa h.ee),h.aa,h.ae,h.ee,h.low.seg s,fun L' t u=>h.fin L' (s.trans t) u⟩
theorem PdI.done (h:PdI l L a0 e0 a e) (s:Seg a e L L2) (u:Ft L2 a e):Seg a0 e0 l L2∧Ft L2 a0 e0 :=
 ⟨h.seg.trans (s.wide h.aa h.ee),h.fin _ s u⟩
theorem PdI.eq (h:PdI l L a0 e0 a e) (h0:0<a) (hp:p≤An L (a-1)) (q:PeE L L2 a e m p):PdI l L2 a0 e0 m e:=by
 have hlow:∀ i,a≤i→i<e→p≤An L i:=fun i h1 h2=>by
  rcases h.low with h3|h3
  ·omega
  ·have:=h3 i h1 h2;omega
 have hall:=q.seg.all (P:=fun x=>p≤x) hlow
 have am:=q.am
 have me:=q.me
 have heq:∀ i,a≤i→i<m→An L2 i=p:=fun i h1 h2=>Int.le_antisymm (q.lo i h1 h2) (hall i h1 (by omega))
 have h2:=h.seg2 q.seg
 refine ⟨h2.seg,by have:=h.aa;omega,me,h.ee,.inr fun i h1 h3=>?_,fun L' s u=>?_⟩
 ·rw [heq (m-1) (by omega) (by omega)];exact Int.le_of_lt (q.hi i h1 h3)
 ·refine h2.fin L' (s.wide (by omega) (Nat.le_refl _)) (AI4 (m:=m) (x:=p) (fun i h1 h3=>?_) (fun i h1 h3=>?_) u)
  ·rw [s.out i (.inl h3)];exact heq i h1 h3
  ·exact s.all (P:=fun x=>p≤x) (fun j j1 j2=>Int.le_of_lt (q.hi j j1 j2)) i h1 h3
theorem PdI.left (h:PdI l L a0 e0 a e) (q:PtE L L2 a e m) (s:Seg a m L2 L3) (u:Ft L3 a m):PdI l L3 a0 e0 (m+1) e:=by
 have am:=q.am
 have me:=q.me
 have h3:=(h.seg2 q.seg).seg2 (s.wide (Nat.le_refl _) (by omega))
 have hm:An L3 m=An L2 m:=s.out m (.inr (Nat.le_refl _))
 have hlo:=s.all (P:=fun x=>x≤An L2 m) q.lo
 have hhi:∀ k,m<k→k<e→An L2 m≤An L3 k:=fun k k1 k2=>by rw [s.out k (.inr (by omega))];exact q.hi k k1 k2
 refine ⟨h3.seg,by have:=h.aa;omega,by omega,h.ee,.inr fun i h1 h2=>?_,fun L' t v=>?_⟩
 ·rw [Nat.add_sub_cancel,hm];exact hhi i (by omega) h2
 ·have hm':An L' m=An L2 m:=(t.out m (.inl (by omega))).trans hm
  refine h3.fin L' (t.wide (by omega) (Nat.le_refl _)) (ACI (m:=m) am (u.out t (.inl (by omega))) v (fun i h1 h2=>?_) (fun i h1 h2=>?_))
  ·rw [t.out i (.inl (by omega)),hm'];exact hlo i h1 h2
  ·rw [hm'];exact t.all (P:=fun x=>An L2 m≤x) (fun j j1 j2=>hhi j (by omega) j2) i (by omega) h2
theorem PdI.right (h:PdI l L a0 e0 a e) (q:PtE L L2 a e m) (s:Seg (m+1) e L2 L3) (u:Ft L3 (m+1) e):PdI l L3 a0 e0 a m:=by
 have am:=q.am
 have me:=q.me
 have h3:=(h.seg2 q.seg).seg2 (s.wide (by omega) (Nat.le_refl _))
 have hm:An L3 m=An L2 m:=s.out m (.inl (by omega))
 have hhi:=s.all (P:=fun x=>An L2 m≤x) (fun k k1 k2=>q.hi k (by omega) k2)
 have hlo:∀ k,a≤k→k<m→An L3 k≤An L2 m:=fun k k1 k2=>by rw [s.out k (.inl (by omega))];exact q.lo k k1 k2
 refine ⟨h3.seg,h.aa,am,by have:=h.ee;omega,h3.low.sub (by omega),fun L' t v=>?_⟩
 have hm':An L' m=An L2 m:=(t.out m (.inr (Nat.le_refl _))).trans hm
 refine h3.fin L' (t.wide (Nat.le_refl _) (by omega)) (ACI (m:=m) am v (u.out t (.inr (by omega))) (fun i h1 h2=>?_) (fun i h1 h2=>?_))
 ·rw [hm'];exact t.all (P:=fun x=>x≤An L2 m) hlo i h1 h2
 ·rw [t.out i (.inr (by omega)),hm'];exact hhi i (by omega) h2
end
open Go Go.Fw
set_option maxRecDepth 100000
set_option linter.unusedVariables false
set_option linter.unusedSimpArgs false
set_option maxHeartbeats 0
section
variable {b s cap n a e k:Nat}{cs:List Value}{l:List Int}
abbrev OrQ (b s cap n k:Nat) (cs:List Value) (l:List Int) (x y:Nat):Value→List Fact→List Bb→Prop:=fun v Φ β=>∃ x' y' k':Nat,((x'=x∧y'=y)∨(x'=y∧y'=x))∧k'≤k+1∧v = .tuple #[.int .i64 x',.int .i64 y']∧Φ=[Aw Ak ⟨some b,cap,cs⟩ n l]∧β=[(some s,3,[.int .i64 k']),(some b,3,cs)]
abbrev MeQ (b s cap n k:Nat) (cs:List Value) (l:List Int) (lo hi:Nat):Value→List Fact→List Bb→Prop:=fun v Φ β=>∃ x' k':Nat,lo≤x'∧x'≤hi∧k'≤k+3∧v = .int .i64 x'∧Φ=[Aw Ak ⟨some b,cap,cs⟩ n l]∧β=[(some s,3,[.int .i64 k']),(some b,3,cs)]
theorem Lb {x y:Nat}(hn:n≤1000000) (hl:l.length=n) (hx:x<n) (hy:y<n) (hk:k≤1000) :
  Br Tryz.prog 159 [.slice (some ⟨b,0,none⟩) n cap,.int .i64 x,.int .i64 y,.pointer (some ⟨s,0,none⟩)] [(some s,3,[.int .i64 k]),(some b,3,cs)] [Aw Ak ⟨some b,cap,cs⟩ n l] (OrQ b s cap n k cs l x y):=by
 refine Ad (F:=K5) rfl fun C=>?_
 have at_u:=I8 (L:=l) (i:=x) (by omega)
 have at_v:=I8 (L:=l) (i:=y) (by omega)
 by_cases h:An l y<An l x
 ·generalize An l x=u at *
  generalize An l y=v at *
  refine wk 14 (ct @As cz) ?_
  intro h1 --ok
  exact E4 [0] rfl rfl rfl ⟨y,x,k+1,.inr ⟨rfl,rfl⟩,Nat.le_refl _,rfl,rfl,rfl⟩
 ·generalize An l x=u at *
  generalize An l y=v at *
  refine wk 9 (ct @As cz) ?_
  intro h1 --ok
  exact E4 [0] rfl rfl rfl ⟨x,y,k,.inl ⟨rfl,rfl⟩,by omega,rfl,rfl,rfl⟩
theorem Dd {x y z lo hi:Nat}(hn:n≤1000000) (hl:l.length=n) (hx:lo≤x∧x≤hi) (hy:lo≤y∧y≤hi) (hz:lo≤z∧z≤hi) (hh:hi<n) (hk:k≤100) :
  Br Tryz.prog 138 [.slice (some ⟨b,0,none⟩) n cap,.int .i64 x,.int .i64 y,.int .i64 z,.pointer (some ⟨s,0,none⟩)] [(some s,3,[.int .i64 k]),(some b,3,cs)] [Aw Ak ⟨some b,cap,cs⟩ n l] (MeQ b s cap n k cs l lo hi):=by
 refine Ad (F:=Ll) rfl fun C=>?_
 have Ee:=fun {x y k:Nat}(hx:x<n) (hy:y<n) (hk:k≤1000)=>Lb (b:=b) (s:=s) (cap:=cap) (cs:=cs) (x:=x) (y:=y) (k:=k) hn hl hx hy hk
 refine wk 4 cz ?_
 refine Ab rfl (F1 2 [0] rfl rfl (Ee (by omega) (by omega) (by omega)) rfl ?_)
 rintro _ _ _ ⟨x'1,y'1,k'1,h1,h2,rfl,rfl,rfl⟩
 simp only [List.cons_append,List.nil_append]
 refine wk 3 cz ?_
 refine Ab rfl (F1 2 [0] rfl rfl (Ee (by omega) (by omega) (by omega)) rfl ?_)
 rintro _ _ _ ⟨x'2,y'2,k'2,h3,h4,rfl,rfl,rfl⟩
 simp only [List.cons_append,List.nil_append]
 refine wk 3 cz ?_
 refine Ab rfl (F1 2 [0] rfl rfl (Ee (by omega) (by omega) (by omega)) rfl ?_)
 rintro _ _ _ ⟨x'3,y'3,k'3,h5,h6,rfl,rfl,rfl⟩
 simp only [List.cons_append,List.nil_append]
 refine wk 4 cz ?_ --ok
 exact E4 [0] rfl rfl rfl ⟨_,_,by omega,by omega,by omega,rfl,rfl,rfl⟩
theorem C6 {x:Nat}(hn:n≤1000000) (hl:l.length=n) (h0:1≤x) (hx:x+1<n) (hk:k≤100) :
  Br Tryz.prog 137 [.slice (some ⟨b,0,none⟩) n cap,.int .i64 x,.pointer (some ⟨s,0,none⟩)] [(some s,3,[.int .i64 k]),(some b,3,cs)] [Aw Ak ⟨some b,cap,cs⟩ n l] (MeQ b s cap n k cs l (x-1) (x+1)):=by
 refine Ad (F:=Hm) rfl fun C=>?_
 have Bk:=Dd (b:=b) (s:=s) (cap:=cap) (cs:=cs) (x:=x-1) (y:=x) (z:=x+1) (lo:=x-1) (hi:=x+1) (k:=k) (l:=l) (n:=n) hn hl (by omega) (by omega) (by omega) hx hk
 have e1:(x:Int)-1=((x-1:Nat):Int):=by omega
 have e2:(x:Int)+1=((x+1:Nat):Int):=rfl
 refine Be [_,_] rfl ?_
 refine Au it 1 rfl (by simp) ?_
 refine Be [_,_] rfl ?_
 refine Au it 7 rfl ⟨trivial,⟨by omega,by omega⟩,trivial,trivial,⟨by omega,by omega⟩,trivial,trivial,trivial⟩ ?_ --ok
 rw [e1]
 refine Ab rfl (F1 2 [0] rfl rfl (Bk) rfl ?_)
 rintro _ _ _ ⟨x'1,k'1,h1,h2,h3,rfl,rfl,rfl⟩
 simp only [List.cons_append,List.nil_append]
 refine wk 2 cz ?_ --ok
 exact E4 [0] rfl rfl rfl ⟨_,_,by omega,by omega,by omega,rfl,rfl,rfl⟩
theorem Iz (hn:n≤1000000) (hl:l.length=n) (hae:a+8≤e) (he:e≤n) :
  Br Tryz.prog 104 [.slice (some ⟨b,0,none⟩) n cap,.int .i64 a,.int .i64 e] [(some b,3,cs)] [Aw Ak ⟨some b,cap,cs⟩ n l]
   (fun v Φ β=>∃ x h:Nat,a≤x∧x<e∧h≤2∧v = .tuple #[.int .i64 x,.int .i64 h]∧Φ=[Aw Ak ⟨some b,cap,cs⟩ n l]∧β=[(some b,3,cs)]):=by
 refine Ad (F:=Ir) rfl fun C=>?_
 have Bk:=fun {s x y z k:Nat}(hx:a≤x∧x≤e-1) (hy:a≤y∧y≤e-1) (hz:a≤z∧z≤e-1) (hk:k≤100)=>Dd (b:=b) (s:=s) (cap:=cap) (cs:=cs) (x:=x) (y:=y) (z:=z) (k:=k) (lo:=a) (hi:=e-1) hn hl hx hy hz (by omega) hk
 have Av:=fun {s x k:Nat}(h0:1≤x) (hx:x+1<n) (hk:k≤100)=>C6 (b:=b) (s:=s) (cap:=cap) (cs:=cs) (x:=x) (k:=k) hn hl h0 hx hk
 obtain ⟨g,hg⟩:∃ g,e-a=g:=⟨_,rfl⟩
 have e1:(e:Int)-(a:Int)=(g:Int):=by omega
 obtain ⟨q,hq⟩:∃ q,g / 4=q:=⟨_,rfl⟩
 have e2:(g:Int) / 4=(q:Int):=by omega
 have hq1:4*q≤g∧g<4*q+4:=by omega
 have f1:(a:Int)+(q:Int)*1=((a+q:Nat):Int):=by omega
 have f2:(a:Int)+(q:Int)*2=((a+q*2:Nat):Int):=by omega
 have f3:(a:Int)+(q:Int)*3=((a+q*3:Nat):Int):=by omega
 have Av:=fun {s x k:Nat}(h0:1≤x) (hx:x+1<n) (hk:k≤100)=>C6 (b:=b) (s:=s) (cap:=cap) (cs:=cs) (x:=x) (k:=k) hn hl h0 hx hk
 have Bk:=fun {s x y z k:Nat}(hx:a≤x∧x≤e-1) (hy:a≤y∧y≤e-1) (hz:a≤z∧z≤e-1) (hk:k≤100)=>Dd (b:=b) (s:=s) (cap:=cap) (cs:=cs) (x:=x) (y:=y) (z:=z) (k:=k) (lo:=a) (hi:=e-1) hn hl hx hy hz (by omega) hk
 refine wk 4 cz ?_
 rw [e1]
 refine wk 8 cz ?_
 intro b1
 rw [e2,f1,f2,f3]
 refine Xt (σ':=[(0,.slice (some ⟨b,0,none⟩) n cap),(8,.int .i64 g),(9,.pointer (some ⟨b1,0,none⟩)),(10,.int .i64 ((a+q:Nat):Int)),(11,.int .i64 ((a+q*2:Nat):Int)),(12,.int .i64 ((a+q*3:Nat):Int))]) (Zr rfl) ?_
 obtain ⟨x1,hx1⟩:∃ x1,a+q=x1:=⟨_,rfl⟩
 obtain ⟨x2,hx2⟩:∃ x2,a+q*2=x2:=⟨_,rfl⟩
 obtain ⟨x3,hx3⟩:∃ x3,a+q*3=x3:=⟨_,rfl⟩
 rw [hx1,hx2,hx3]
 have hb2:x3+1<e∧x2<x3∧x1<x2∧a+1<x1:=by omega
 have hg8:8≤g:=by omega
 clear f1 f2 f3 e1 e2 hq1 hx1 hx2 hx3 hq hg
 have cA:=fun {s x k:Nat}(hk:k≤100) (h0:1≤x) (hx:x+1<n)=>C6 (b:=b) (s:=s) (cap:=cap) (cs:=cs) (x:=x) (k:=k) hn hl h0 hx hk
 have cM:=fun {s x y z k:Nat}(hk:k≤100) (hx:a≤x∧x≤e-1) (hy:a≤y∧y≤e-1) (hz:a≤z∧z≤e-1)=>Dd (b:=b) (s:=s) (cap:=cap) (cs:=cs) (x:=x) (y:=y) (z:=z) (k:=k) (lo:=a) (hi:=e-1) hn hl hx hy hz (by omega) hk
 clear Av Bk
 by_cases h50:50≤g
 ·have Av:=fun {s x:Nat}=>@cA s x 0 (by omega)
  refine Be [_,_,_] rfl ?_
  refine Au it 2 rfl (by simp) ?_
  refine Be [_,_] rfl ?_
  refine M1 rfl rfl (fun h1=>?_) (fun h1=>by exfalso;omega)
  refine Be [_,_,_,_] rfl ?_
  refine Au it 2 rfl (by simp) ?_
  refine Be [_,_,_] rfl ?_
  refine M1 rfl rfl (fun h2=>?_) (fun h2=>by exfalso;omega)
  refine Be [_,_,_,_] rfl ?_
  refine Au it 2 rfl (by simp) ?_
  refine Ab rfl (F1 2 [0] rfl rfl (Av (by omega) (by omega)) rfl ?_)
  rintro _ _ _ ⟨x'1,k'1,h3,h4,h5,rfl,rfl,rfl⟩
  simp only [List.cons_append,List.nil_append]
  refine Au it 1 rfl (by simp) ?_
  refine Be [_,_,_,_] rfl ?_
  refine Au it 2 rfl (by simp) ?_ --ok
  clear Av
  have Av:=fun {s x:Nat}=>@cA s x k'1 (by omega)
  refine Ab rfl (F1 2 [0] rfl rfl (Av (by omega) (by omega)) rfl ?_)
  rintro _ _ _ ⟨x'2,k'2,h6,h7,h8,rfl,rfl,rfl⟩
  simp only [List.cons_append,List.nil_append]
  refine Au it 1 rfl (by simp) ?_
  refine Be [_,_,_] rfl ?_
  refine Au it 2 rfl (by simp) ?_ --ok
  clear Av
  have Av:=fun {s x:Nat}=>@cA s x k'2 (by omega)
  refine Ab rfl (F1 2 [0] rfl rfl (Av (by omega) (by omega)) rfl ?_)
  rintro _ _ _ ⟨x'3,k'3,h9,h10,h11,rfl,rfl,rfl⟩
  simp only [List.cons_append,List.nil_append]
  refine wk 3 cz ?_
  refine Ab rfl (F1 2 [0] rfl rfl (Bk (by omega) (by omega) (by omega) (by omega)) rfl ?_)
  rintro _ _ _ ⟨x'4,k'4,h12,h13,h14,rfl,rfl,rfl⟩
  simp only [List.cons_append,List.nil_append]
  refine wk 6 cz ?_
  refine M1 rfl rfl (fun h15=>?_) (fun h15=>?_) --ok
  have Bk:=fun {s x y z:Nat}=>@cM s x y z k'3 (by omega)
  refine wk 3 cz ?_ --ok
  ·skip --ok
   exact B0 2 [1] [0] rfl (.tmp rfl (.tmp rfl .nil)) rfl rfl rfl ⟨_,1,by omega,by omega,by omega,rfl,rfl,rfl⟩
  ·refine wk 3 cz ?_
   refine M1 rfl rfl (fun h16=>?_) (fun h16=>?_) --ok
   ·refine wk 3 cz ?_ --ok
    exact B0 2 [1] [0] rfl (.tmp rfl (.tmp rfl .nil)) rfl rfl rfl ⟨_,2,by omega,by omega,by omega,rfl,rfl,rfl⟩
   ·refine wk 3 cz ?_ --ok
    exact B0 2 [1] [0] rfl (.tmp rfl (.tmp rfl .nil)) rfl rfl rfl ⟨_,0,by omega,by omega,by omega,rfl,rfl,rfl⟩
 ·have Bk:=fun {s x y z:Nat}=>@cM s x y z 0 (by omega)
  refine wk 10 cz ?_
  intro h1 h2
  refine Ab rfl (F1 2 [0] rfl rfl (Bk (by omega) (by omega) (by omega)) rfl ?_)
  rintro _ _ _ ⟨x'1,k'1,h3,h4,h5,rfl,rfl,rfl⟩
  simp only [List.cons_append,List.nil_append]
  refine wk 6 cz ?_
  refine M1 rfl rfl (fun h6=>?_) (fun h6=>?_) --ok
  ·refine wk 3 cz ?_ --ok
   exact B0 2 [1] [0] rfl (.tmp rfl (.tmp rfl .nil)) rfl rfl rfl ⟨_,1,by omega,by omega,by omega,rfl,rfl,rfl⟩
  ·refine wk 7 cz ?_
   intro h7 --ok
   exact B0 2 [1] [0] rfl (.tmp rfl (.tmp rfl .nil)) rfl rfl rfl ⟨_,0,by omega,by omega,by omega,rfl,rfl,rfl⟩
end
open Go Go.Fw
set_option maxRecDepth 100000
set_option linter.unusedVariables false
set_option linter.unusedSimpArgs false
set_option maxHeartbeats 0
section
variable {b cap n a e f lo hi:Nat}{cs:List Value}{l:List Int}
theorem Ig (hn:n≤1000000) (hr:∀ x∈l,Bf .i64 x) (hl:l.length=n) (hae:a<e) (he:e≤n) :
  Br Tryz.prog 105 [.slice (some ⟨b,0,none⟩) n cap,.int .i64 a,.int .i64 e] [(some b,3,cs)] [Aw Ak ⟨some b,cap,cs⟩ n l] (U3 b cap n fun L=>Seg a e l L):=by
 refine Ad (F:=Ie) rfl fun C=>?_
 have e1:(e:Int)-1=((e-1:Nat):Int):=by omega
 refine wk 5 cz ?_ --ok
 rw [e1]
 refine Ag (X:=Nat×Nat×List Value×List Int) [0] [0] (fun x=>[(6,.int .i64 (x.1:Int)),(7,.int .i64 (x.2.1:Int))]) (fun x=>[(some b,3,x.2.2.1)]) (fun x=>[Aw Ak ⟨some b,cap,x.2.2.1⟩ n x.2.2.2]) (fun x=>a≤x.1∧x.2.1<e∧x.1≤e∧(a≤x.2.1∨x.2.1<x.1)∧Seg a e l x.2.2.2) (fun x=>e-x.1) (a,e-1,cs,l) [0] rfl rfl rfl ⟨Nat.le_refl _,by dsimp only;omega,by dsimp only;omega,by dsimp only;omega,.refl⟩ (by repeat (first|exact Fr.sub_nil _|refine Fr.sub_cons rfl ?_)) rfl rfl ?_
 rintro ⟨i,j,cs,L⟩ ⟨hi,hj,hie,haj,hS⟩ ih
 simp only [List.cons_append,List.nil_append] at hi hj hie haj hS ih ⊢
 by_cases hij:i<j
 ·have hLl:L.length=n:=hS.len.trans hl
  have at_u:=I8 (L:=L) (i:=i) (by omega)
  have at_v:=I8 (L:=L) (i:=j) (by omega)
  have hu:=Cu (hS.inR hr) (i:=i) (by omega)
  have hv:=Cu (hS.inR hr) (i:=j) (by omega)
  simp only [Bf] at hu hv
  have ih':=fun cs=>ih (i+1,j-1,cs,sw L i j) (by dsimp only;omega) ⟨by dsimp only;omega,by dsimp only;omega,by dsimp only;omega,by dsimp only;omega,hS.trans (H3 (by omega) (by omega) (by omega) (by omega) (by omega))⟩
  dsimp only at ih'
  rw [sw] at ih'
  generalize An L i=u at *
  generalize An L j=v at *
  clear ih
  refine wk 5 cz ?_
  intro h1
  (apply Cy (x0:=none) it mx 0 13 [2,3] 1;(· rfl);(· rfl);(· rfl);(· decide))
  simp only [List.drop_zero]
  (apply Ae 6;(· rfl);(· simp))
  (apply Ac;(· rfl);(· exact Bi fun _=>Ah (j) (j) rfl rfl Bj rfl (by omega) (Nat.mul_one _) Af))
  (apply Ac;(· rfl);(· exact A6 0 0 (j) rfl rfl rfl Bm rfl (by assumption)))
  (apply Ae 2;(· rfl);(· simp))
  (apply Ac;(· rfl);(· exact Bi fun _=>Ah (i) (i) rfl rfl Bj rfl (by omega) (Nat.mul_one _) Af))
  (apply Ac;(· rfl);(· exact A6 0 0 (i) rfl rfl rfl Bm rfl (by assumption)))
  (apply Ac;(· rfl);(· exact Bi fun _=>Ah (i) (i) rfl rfl Bj rfl (by omega) (Nat.mul_one _) Af))
  refine Cz rfl ?_
  (rotate_left;rfl;rotate_right)
  simp only [List.map_cons,List.map_nil,List.cons_append,List.nil_append]
  refine C4 it rfl rfl ⟨⟨_,_,_,_,rfl,rfl,rfl,rfl,rfl,rfl,(by first|trivial|(repeat' first|exact trivial|apply And.intro|omega))⟩,⟨⟨_,_,_,_,rfl,rfl,rfl,rfl,rfl,rfl,(by first|trivial|(repeat' first|exact trivial|apply And.intro|omega))⟩,trivial⟩⟩ (Cb (vs:=[Value.int IntKind.i64 v]) (z:=(v:Int)) 0 0 (i) rfl rfl rfl rfl rfl Bm (Nat.mul_one _).symm (by omega) (fun w A hG=>(Bh (by first|(simp only [Bf];omega)|(simp [Bf];done)))) fun cs1=>?_)
  refine Dw it ⟨⟨_,_,_,_,rfl,rfl,rfl,rfl,rfl,rfl,(by first|trivial|(repeat' first|exact trivial|apply And.intro|omega))⟩,⟨⟨_,_,_,_,rfl,rfl,rfl,rfl,rfl,rfl,(by first|trivial|(repeat' first|exact trivial|apply And.intro|omega))⟩,trivial⟩⟩ ?_
  refine wk 1 cz ?_
  refine Ab rfl (Cb (vs:=[Value.int IntKind.i64 u]) (z:=(u:Int)) 0 0 (j) rfl rfl rfl rfl rfl Bm (Nat.mul_one _).symm (by omega) (fun w A hG=>(Bh (by first|(simp only [Bf];omega)|(simp [Bf];done)))) fun cs2=>?_)
  refine wk 5 cz ?_
  exact tw (ih' cs2)
 ·clear ih
  refine wk 5 cz ?_
  intro h1
  exact Cj [0] rfl rfl ⟨cs,L,hS,rfl,rfl,rfl⟩
theorem Fv (hn:n≤1000000) (hr:∀ x∈l,Bf .i64 x) (hl:l.length=n) (hlo:lo≤1000000) (hf:f+hi≤n) (hH:HpQ l f lo hi lo) :
  Br Tryz.prog 134 [.slice (some ⟨b,0,none⟩) n cap,.int .i64 lo,.int .i64 hi,.int .i64 f] [(some b,3,cs)] [Aw Ak ⟨some b,cap,cs⟩ n l] (U3 b cap n fun L=>Seg (f+lo) (f+hi) l L∧Hp L f lo hi):=by
 refine Ad (F:=Fy) rfl fun C=>?_
 refine wk 3 cz ?_ --ok
 refine Ag (X:=Nat×List Value×List Int) [0,2,3] [] (fun x=>[(8,.int .i64 (x.1:Int))]) (fun x=>[(some b,3,x.2.1)]) (fun x=>[Aw Ak ⟨some b,cap,x.2.1⟩ n x.2.2]) (fun x=>lo≤x.1∧x.1≤1000000∧Seg (f+lo) (f+hi) l x.2.2∧HpQ x.2.2 f lo hi x.1∧HpU x.2.2 f lo hi x.1) (fun x=>hi-x.1) (lo,cs,l) [0] rfl rfl rfl ⟨Nat.le_refl _,hlo,.refl,hH,fun i c h1 h2=>by omega⟩ (by repeat (first|exact Fr.sub_nil _|refine Fr.sub_cons rfl ?_)) rfl rfl ?_
 rintro ⟨r,cs,L⟩ ⟨hr1,hr2,hS,hQ,hU⟩ ih
 simp only [List.cons_append,List.nil_append] at hr1 hr2 hS hQ hU ih ⊢
 have hLl:L.length=n:=hS.len.trans hl
 have key:∀ c:Nat,c<hi→(c=2*r+1∨c=2*r+2)→(∀ d,(d=2*r+1∨d=2*r+2)→d<hi→An L (f+d)≤An L (f+c)) →
   J Fy C [.c (pL 796),.c (pL 797),.c (pL 399),.blk 1,.lp [1,0,0],.blk 0] [(9,.int .i64 (c:Int)),(8,.int .i64 (r:Int)),(0,.slice (some ⟨b,0,none⟩) n cap),(2,.int .i64 (hi:Int)),(3,.int .i64 (f:Int))] [(some b,3,cs)] [Aw Ak ⟨some b,cap,cs⟩ n L] (Ga C (U3 b cap n fun L=>Seg (f+lo) (f+hi) l L∧Hp L f lo hi)):=by
  intro c h1 h2 h3
  have at_u:=I8 (L:=L) (i:=f+r) (by omega)
  have at_v:=I8 (L:=L) (i:=f+c) (by omega)
  have hu:=Cu (hS.inR hr) (i:=f+r) (by omega)
  have hv:=Cu (hS.inR hr) (i:=f+c) (by omega)
  simp only [Bf] at hu hv
  by_cases hx:An L (f+r)<An L (f+c)
  ·have hsk:=AH7 hQ hU hr1 h2 h1 (by omega) h3 hx
   have ih':=fun cs=>ih (c,cs,sw L (f+r) (f+c)) (by dsimp only;omega) ⟨by dsimp only;omega,by dsimp only;omega,hS.trans (H3 (by omega) (by omega) (by omega) (by omega) (by omega)),hsk.1,hsk.2⟩
   dsimp only at ih'
   rw [sw] at ih'
   clear hsk ih h3
   generalize An L (f+r)=u at *
   generalize An L (f+c)=v at *
   refine wk 4 (ct @As cz) ?_
   intro h3
   (apply Cy (x0:=none) it mx 0 21 [4,5,6,7] 1;(· rfl);(· rfl);(· rfl);(· decide))
   simp only [List.drop_zero]
   (apply Ae 12;(· rfl);(· exact ⟨⟨by omega,by omega⟩,trivial,trivial,trivial,⟨by omega,by omega⟩,trivial,trivial,trivial,⟨by omega,by omega⟩,trivial,trivial,trivial,trivial⟩))
   (apply Ac;(· rfl);(· exact Bi fun _=>Ah ((f)+(c)) ((f)+(c)) rfl rfl Bj (by omega) (by omega) (Nat.mul_one _) Af))
   (apply Ac;(· rfl);(· exact A6 0 0 (f+c) rfl rfl rfl Bm rfl (by assumption)))
   (apply Ae 4;(· rfl);(· exact ⟨⟨by omega,by omega⟩,trivial,trivial,trivial,trivial⟩))
   (apply Ac;(· rfl);(· exact Bi fun _=>Ah ((f)+(r)) ((f)+(r)) rfl rfl Bj (by omega) (by omega) (Nat.mul_one _) Af))
   (apply Ac;(· rfl);(· exact A6 0 0 (f+r) rfl rfl rfl Bm rfl (by assumption)))
   (apply Ac;(· rfl);(· exact Bi fun _=>Ah ((f)+(r)) ((f)+(r)) rfl rfl Bj (by omega) (by omega) (Nat.mul_one _) Af))
   refine Cz rfl ?_
   (rotate_left;rfl;rotate_right)
   simp only [List.map_cons,List.map_nil,List.cons_append,List.nil_append]
   refine C4 it rfl rfl ⟨⟨_,_,_,_,rfl,rfl,rfl,rfl,rfl,rfl,(by first|trivial|(repeat' first|exact trivial|apply And.intro|omega))⟩,⟨⟨_,_,_,_,rfl,rfl,rfl,rfl,rfl,rfl,(by first|trivial|(repeat' first|exact trivial|apply And.intro|omega))⟩,⟨⟨_,_,_,_,rfl,rfl,rfl,rfl,rfl,rfl,(by first|trivial|(repeat' first|exact trivial|apply And.intro|omega))⟩,⟨⟨_,_,_,_,rfl,rfl,rfl,rfl,rfl,rfl,(by first|trivial|(repeat' first|exact trivial|apply And.intro|omega))⟩,trivial⟩⟩⟩⟩ (Cb (vs:=[Value.int IntKind.i64 v]) (z:=(v:Int)) 0 0 (f+r) rfl rfl rfl rfl rfl Bm (Nat.mul_one _).symm (by omega) (fun w A hG=>(Bh (by first|(simp only [Bf];omega)|(simp [Bf];done)))) fun cs1=>?_)
   refine Dw it ⟨⟨_,_,_,_,rfl,rfl,rfl,rfl,rfl,rfl,(by first|trivial|(repeat' first|exact trivial|apply And.intro|omega))⟩,⟨⟨_,_,_,_,rfl,rfl,rfl,rfl,rfl,rfl,(by first|trivial|(repeat' first|exact trivial|apply And.intro|omega))⟩,⟨⟨_,_,_,_,rfl,rfl,rfl,rfl,rfl,rfl,(by first|trivial|(repeat' first|exact trivial|apply And.intro|omega))⟩,⟨⟨_,_,_,_,rfl,rfl,rfl,rfl,rfl,rfl,(by first|trivial|(repeat' first|exact trivial|apply And.intro|omega))⟩,trivial⟩⟩⟩⟩ ?_
   refine wk 1 cz ?_
   refine Ab rfl (Cb (vs:=[Value.int IntKind.i64 u]) (z:=(u:Int)) 0 0 (f+c) rfl rfl rfl rfl rfl Bm (Nat.mul_one _).symm (by omega) (fun w A hG=>(Bh (by first|(simp only [Bf];omega)|(simp [Bf];done)))) fun cs2=>?_)
   refine wk 3 cz ?_
   exact tw (ih' cs2)
  ·have hst:Hp L f lo hi:=AEY hQ fun d d1 d2=>by have:=h3 d d1 d2;omega
   clear ih h3
   generalize An L (f+r)=u at *
   generalize An L (f+c)=v at *
   refine wk 3 (ct @As cz) ?_
   intro h3 --ok
   exact E4 [0] rfl rfl rfl ⟨cs,L,⟨hS,hst⟩,rfl,rfl,rfl⟩
 clear ih
 obtain ⟨c1,hc1⟩:∃ c1,2*r+1=c1:=⟨_,rfl⟩
 have e1:2*(r:Int)+1=(c1:Int):=by omega
 refine wk 2 cz ?_
 rw [e1]
 by_cases hch:hi≤c1
 ·clear key
  refine wk 5 cz ?_
  intro h1 --ok
  exact Cj [0] rfl rfl ⟨cs,L,⟨hS,AEY hQ fun d d1 d2=>by omega⟩,rfl,rfl,rfl⟩
 ·by_cases h2:c1+1<hi
  ·have at_u:=I8 (L:=L) (i:=f+c1) (by omega)
   have at_v:=I8 (L:=L) (i:=f+c1+1) (by omega)
   by_cases hx:An L (f+c1)<An L (f+c1+1)
   ·have key':=key (c1+1) (by omega) (by omega) (fun d d1 d2=>by
     rcases d1 with d1|d1
     ·obtain rfl:d=c1:=by omega
      exact Int.le_of_lt hx
     ·obtain rfl:d=c1+1:=by omega
      exact Int.le_refl _)
    clear key
    generalize An L (f+c1)=u at *
    generalize An L (f+c1+1)=v at *
    refine wk 11 (ct @As cz) ?_
    intro h1 h3
    exact tw (key')
   ·have key':=key c1 (by omega) (by omega) (fun d d1 d2=>by
     rcases d1 with d1|d1
     ·obtain rfl:d=c1:=by omega
      exact Int.le_refl _
     ·obtain rfl:d=c1+1:=by omega
      have:An L (f+(c1+1))=An L (f+c1+1):=by rw [Nat.add_assoc]
      omega)
    clear key
    generalize An L (f+c1)=u at *
    generalize An L (f+c1+1)=v at *
    refine wk 9 (ct @As cz) ?_
    intro h1 h3
    exact tw (key')
  ·have key':=key c1 (by omega) (by omega) (fun d d1 d2=>by
    obtain rfl:d=c1:=by omega
    exact Int.le_refl _)
   clear key
   refine wk 9 cz ?_
   intro h1
   exact tw (key')
end
open Go Go.Fw
set_option maxRecDepth 100000
set_option linter.unusedVariables false
set_option linter.unusedSimpArgs false
set_option maxHeartbeats 0
theorem AH3 {L:List Int}{a e i:Nat}(hH:Hp L a 0 (i+1)) (hi:a+i<e) (hlen:e≤L.length):HpQ (sw L a (a+i)) a 0 i 0:=fun j c h1 h2 h3 h4=>by
 rw [Mh (by omega) (by omega),Mh (by omega) (by omega),if_neg (by omega),if_neg (by omega),if_neg (by omega),if_neg (by omega)]
 exact hH j c h1 h3 (by omega)
theorem AIm {L L2:List Int}{a e i:Nat}(hH:Hp L a 0 (i+1)) (ht:Ft L (a+(i+1)) e) (hlo:∀ j k,j<i+1→a+(i+1)≤k→k<e→An L (a+j)≤An L k) (hi:a+i<e) (hlen:e≤L.length)
  (hS:Seg (a+0) (a+i) (sw L a (a+i)) L2):Ft L2 (a+i) e∧∀ j k,j<i→a+i≤k→k<e→An L2 (a+j)≤An L2 k:=by
 have hsw:∀ k,An (sw L a (a+i)) k=if k=a+i then An L a else if k=a then An L (a+i) else An L k:=fun k=>Mh (by omega) (by omega)
 have htop:=AJF hH
 have hout:∀ k,a+i≤k→An L2 k=if k=a+i then An L a else An L k:=fun k hk=>by
  rw [hS.out k (.inr hk),hsw]
  by_cases e1:k=a+i
  ·rw [if_pos e1,if_pos e1]
  ·rw [if_neg e1,if_neg e1,if_neg (by omega)]
 have h0:=fun k h1 h2=>hlo 0 k (by omega) h1 h2
 refine ⟨fun u v h1 h2 h3=>?_,fun j k h1 h2 h3=>?_⟩
 ·rw [hout u h1,hout v (by omega),if_neg (show ¬ v=a+i by omega)]
  by_cases e1:u=a+i
  ·rw [if_pos e1];exact h0 v (by omega) h3
  ·rw [if_neg e1];exact ht u v (by omega) h2 h3
 ·refine hS.all (P:=fun x=>x≤An L2 k) (fun x x1 x2=>?_) (a+j) (by omega) (by omega)
  rw [hsw,hout k h2,if_neg (show ¬ x=a+i by omega)]
  obtain ⟨y,rfl⟩:∃ y,x=a+y:=⟨x-a,by omega⟩
  by_cases e1:k=a+i
  ·rw [if_pos e1]
   by_cases e2:a+y=a
   ·rw [if_pos e2];exact htop i (by omega)
   ·rw [if_neg e2];exact htop y (by omega)
  ·rw [if_neg e1]
   by_cases e2:a+y=a
   ·rw [if_pos e2];exact hlo i k (by omega) (by omega) h3
   ·rw [if_neg e2];exact hlo y k (by omega) (by omega) h3
section
variable {b cap n a e:Nat}{cs:List Value}{l:List Int}
theorem Ka (hn:n≤1000000) (hr:∀ x∈l,Bf .i64 x) (hl:l.length=n) (hae:a<e) (he:e≤n) :
  Br Tryz.prog 102 [.slice (some ⟨b,0,none⟩) n cap,.int .i64 a,.int .i64 e] [(some b,3,cs)] [Aw Ak ⟨some b,cap,cs⟩ n l] (U3 b cap n fun L=>Seg a e l L∧Ft L a e):=by
 refine Ad (F:=J2) rfl fun C=>?_
 obtain ⟨m,hm⟩:∃ m,e-a=m:=⟨_,rfl⟩
 have e1:(e:Int)-(a:Int)=(m:Int):=by omega
 obtain ⟨x0,hx0⟩:∃ x0,(m-1) / 2+1=x0:=⟨_,rfl⟩
 have e2:((m:Int)-1) / 2=(x0:Int)-1:=by omega
 have hem:a+m=e:=by omega
 refine wk 6 cz ?_
 rw [e1]
 refine wk 3 cz ?_ --ok
 rw [e2]
 refine Ag (X:=Nat×List Value×List Int) [0,6,7,8] [] (fun x=>[(9,.int .i64 ((x.1:Int)-1))]) (fun x=>[(some b,3,x.2.1)]) (fun x=>[Aw Ak ⟨some b,cap,x.2.1⟩ n x.2.2]) (fun x=>x.1≤x0∧Seg a e l x.2.2∧Hp x.2.2 a x.1 m) (fun x=>x.1) (x0,cs,l) [0] rfl rfl rfl ⟨Nat.le_refl _,.refl,fun i c h1 h2 h3=>by dsimp only at h1;omega⟩ (by repeat (first|exact Fr.sub_nil _|refine Fr.sub_cons rfl ?_)) rfl rfl ?_
 rintro ⟨x,cs,L⟩ ⟨hx,hS,hH⟩ ih
 simp only [List.cons_append,List.nil_append] at hx hS hH ih ⊢
 cases x with
 | succ i =>
  have ei:((i+1:Nat):Int)-1=(i:Int):=by omega
  rw [ei]
  have D1:=Fv (b:=b) (cap:=cap) (cs:=cs) (l:=L) (lo:=i) (hi:=m) (f:=a) (n:=n) hn (hS.inR hr) (hS.len.trans hl) (by omega) (by omega) (fun j c h1 h2 h3 h4=>hH j c (by omega) h3 h4)
  have ih':=fun cs L' (h:Seg (a+i) (a+m) L L'∧Hp L' a i m)=>ih (i,cs,L') (by dsimp only;omega) ⟨by dsimp only;omega,hS.trans (h.1.wide (by omega) (by omega)),h.2⟩
  clear ih
  refine wk 6 cz ?_
  intro h1
  refine Ab rfl (Bt 0 [0] rfl rfl (D1) rfl ?_)
  rintro _ _ _ ⟨cs'1,L1,h2,h3,rfl,rfl,rfl⟩
  simp only [List.cons_append,List.nil_append]
  refine wk 3 cz ?_
  exact tw (ih' cs'1 L1 (by assumption))
 | zero =>
  clear ih
  refine wk 7 cz ?_
  intro h1 --ok
  refine Ag (X:=Nat×List Value×List Int) [0,6,7] [] (fun x=>[(10,.int .i64 ((x.1:Int)-1))]) (fun x=>[(some b,3,x.2.1)]) (fun x=>[Aw Ak ⟨some b,cap,x.2.1⟩ n x.2.2]) (fun x=>x.1≤m∧Seg a e l x.2.2∧Hp x.2.2 a 0 x.1∧Ft x.2.2 (a+x.1) e∧∀ j k,j<x.1→a+x.1≤k→k<e→An x.2.2 (a+j)≤An x.2.2 k) (fun x=>x.1) (m,cs,L) [0] rfl rfl rfl ⟨Nat.le_refl _,hS,hH,.short (by dsimp only;omega),fun j k h1 h2 h3=>by dsimp only at h2;omega⟩ (by repeat (first|exact Fr.sub_nil _|refine Fr.sub_cons rfl ?_)) rfl rfl ?_
  rintro ⟨y,cs,L⟩ ⟨hy,hS,hH,hT,hlo⟩ ih
  simp only [List.cons_append,List.nil_append] at hy hS hH hT hlo ih ⊢
  cases y with
  | succ i =>
   have ei:((i+1:Nat):Int)-1=(i:Int):=by omega
   rw [ei]
   have hLl:L.length=n:=hS.len.trans hl
   have hS1:Seg a e l (sw L a (a+i)):=hS.trans (H3 (by omega) (by omega) (by omega) (by omega) (by omega))
   have cS:=fun {cs:List Value}=>Fv (b:=b) (cap:=cap) (cs:=cs) (l:=sw L a (a+i)) (lo:=0) (hi:=i) (f:=a) (n:=n) hn (hS1.inR hr) (hS1.len.trans hl) (by omega) (by omega) (AH3 hH (by omega) (show e≤L.length by omega))
   have ih':=fun cs L' (h:Seg (a+0) (a+i) (sw L a (a+i)) L'∧Hp L' a 0 i)=>ih (i,cs,L') (by dsimp only;omega) ⟨by dsimp only;omega,hS1.trans (h.1.wide (by omega) (by omega)),h.2,AIm hH hT hlo (by omega) (by omega) h.1⟩
   have at_u:=I8 (L:=L) (i:=a) (by omega)
   have at_v:=I8 (L:=L) (i:=a+i) (by omega)
   have hu:=Cu (hS.inR hr) (i:=a) (by omega)
   have hv:=Cu (hS.inR hr) (i:=a+i) (by omega)
   simp only [Bf] at hu hv
   rw [sw] at cS ih'
   have D1:=fun {cs:List Value}=>@cS cs
   clear ih cS hS1 hlo hT hH
   generalize An L a=u at *
   generalize An L (a+i)=v at *
   refine wk 5 cz ?_
   intro h2
   (apply Cy (x0:=none) it mx 0 17 [2,3,4,5] 1;(· rfl);(· rfl);(· rfl);(· decide))
   simp only [List.drop_zero]
   (apply Ae 10;(· rfl);(· exact ⟨⟨by omega,by omega⟩,trivial,trivial,trivial,⟨by omega,by omega⟩,trivial,trivial,trivial,trivial,trivial,trivial⟩))
   (apply Ac;(· rfl);(· exact Bi fun _=>Ah ((a)+(i)) ((a)+(i)) rfl rfl Bj (by omega) (by omega) (Nat.mul_one _) Af))
   (apply Ac;(· rfl);(· exact A6 0 0 (a+i) rfl rfl rfl Bm rfl (by assumption)))
   (apply Ae 2;(· rfl);(· simp))
   (apply Ac;(· rfl);(· exact Bi fun _=>Ah (a) (a) rfl rfl Bj rfl (by omega) (Nat.mul_one _) Af))
   (apply Ac;(· rfl);(· exact A6 0 0 (a) rfl rfl rfl Bm rfl (by assumption)))
   (apply Ac;(· rfl);(· exact Bi fun _=>Ah (a) (a) rfl rfl Bj rfl (by omega) (Nat.mul_one _) Af))
   refine Cz rfl ?_
   (rotate_left;rfl;rotate_right)
   simp only [List.map_cons,List.map_nil,List.cons_append,List.nil_append]
   refine C4 it rfl rfl ⟨⟨_,_,_,_,rfl,rfl,rfl,rfl,rfl,rfl,(by first|trivial|(repeat' first|exact trivial|apply And.intro|omega))⟩,⟨⟨_,_,_,_,rfl,rfl,rfl,rfl,rfl,rfl,(by first|trivial|(repeat' first|exact trivial|apply And.intro|omega))⟩,⟨⟨_,_,_,_,rfl,rfl,rfl,rfl,rfl,rfl,(by first|trivial|(repeat' first|exact trivial|apply And.intro|omega))⟩,⟨⟨_,_,_,_,rfl,rfl,rfl,rfl,rfl,rfl,(by first|trivial|(repeat' first|exact trivial|apply And.intro|omega))⟩,trivial⟩⟩⟩⟩ (Cb (vs:=[Value.int IntKind.i64 v]) (z:=(v:Int)) 0 0 (a) rfl rfl rfl rfl rfl Bm (Nat.mul_one _).symm (by omega) (fun w A hG=>(Bh (by first|(simp only [Bf];omega)|(simp [Bf];done)))) fun cs1=>?_)
   refine Dw it ⟨⟨_,_,_,_,rfl,rfl,rfl,rfl,rfl,rfl,(by first|trivial|(repeat' first|exact trivial|apply And.intro|omega))⟩,⟨⟨_,_,_,_,rfl,rfl,rfl,rfl,rfl,rfl,(by first|trivial|(repeat' first|exact trivial|apply And.intro|omega))⟩,⟨⟨_,_,_,_,rfl,rfl,rfl,rfl,rfl,rfl,(by first|trivial|(repeat' first|exact trivial|apply And.intro|omega))⟩,⟨⟨_,_,_,_,rfl,rfl,rfl,rfl,rfl,rfl,(by first|trivial|(repeat' first|exact trivial|apply And.intro|omega))⟩,trivial⟩⟩⟩⟩ ?_
   refine wk 1 cz ?_
   refine Ab rfl (Cb (vs:=[Value.int IntKind.i64 u]) (z:=(u:Int)) 0 0 (a+i) rfl rfl rfl rfl rfl Bm (Nat.mul_one _).symm (by omega) (fun w A hG=>(Bh (by first|(simp only [Bf];omega)|(simp [Bf];done)))) fun cs2=>?_)
   refine wk 2 cz ?_
   refine Ab rfl (Bt 0 [0] rfl rfl (D1) rfl ?_)
   rintro _ _ _ ⟨cs'1,L1,h3,h4,rfl,rfl,rfl⟩
   simp only [List.cons_append,List.nil_append]
   refine wk 3 cz ?_
   exact tw (ih' cs'1 L1 (by assumption))
  | zero =>
   clear ih
   refine wk 5 cz ?_
   intro h2
   exact Cj [0] rfl rfl ⟨cs,L,⟨hS,hT⟩,rfl,rfl,rfl⟩
end
open Go Go.Fw
set_option maxRecDepth 100000
set_option linter.unusedVariables false
set_option linter.unusedSimpArgs false
set_option maxHeartbeats 0
abbrev PaQ (b cap n:Nat) (l:List Int) (a e:Nat):Value→List Fact→List Bb→Prop:=fun v Φ β=>∃ cs' L,∃ m:Nat,∃ bo:Bool,PtE l L a e m∧v = .tuple #[.int .i64 m,.bool bo]∧Φ=[Aw Ak ⟨some b,cap,cs'⟩ n L]∧β=[(some b,3,cs')]
section
variable {b cap n a e pv:Nat}{cs:List Value}{l:List Int}
theorem Jn (hn:n≤1000000) (hr:∀ x∈l,Bf .i64 x) (hl:l.length=n) (hap:a≤pv) (hpe:pv<e) (he:e≤n) :
  Br Tryz.prog 109 [.slice (some ⟨b,0,none⟩) n cap,.int .i64 a,.int .i64 e,.int .i64 pv] [(some b,3,cs)] [Aw Ak ⟨some b,cap,cs⟩ n l] (PaQ b cap n l a e):=by
 refine Ad (F:=Dp) rfl fun C=>?_
 have e1:(e:Int)-1=((e-1:Nat):Int):=by omega
 have hst:=PtI.start (l:=l) (a:=a) (e:=e) (pv:=pv) (by omega) hap hpe
 obtain ⟨L0,hL0⟩:∃ L0,sw l a pv=L0:=⟨_,rfl⟩
 have hsw:(l.set a (An l pv)).set pv (An l a)=L0:=hL0
 rw [hL0] at hst
 clear hL0
 have at_u:=I8 (L:=l) (i:=a) (by omega)
 have at_v:=I8 (L:=l) (i:=pv) (by omega)
 have hu:=Cu hr (i:=a) (by omega)
 have hv:=Cu hr (i:=pv) (by omega)
 simp only [Bf] at hu hv
 generalize An l a=u0 at *
 generalize An l pv=p at *
 have k1:∀ (cs:List Value) (i:Nat),a+1≤i→PtI l L0 a e p i (e-1)→(i≤e-1→¬ An L0 i<p)→J Dp C [.c (pL 124),.blk 2,.c [1,1,1,1,1]] [(0,.slice (some ⟨b,0,none⟩) n cap),(1,.int .i64 (a:Int)),(10,.int .i64 (i:Int)),(11,.int .i64 ((e-1:Nat):Int))] [(some b,3,cs)] [Aw Ak ⟨some b,cap,cs⟩ n L0] (Ga C (PaQ b cap n l a e)):=by
  intro cs i hi0 hP0 hs
  clear hst hsw at_u at_v
  refine Ag (X:=Nat) [0,1,10] [0] (fun y=>[(11,.int .i64 (y:Int))]) (fun _=>_) (fun _=>[]) (fun y=>PtI l L0 a e p i y∧y≤(e-1)) (fun y=>y) (e-1) [] rfl rfl rfl ⟨hP0,Nat.le_refl _⟩ (by repeat (first|exact Fr.sub_nil _|refine Fr.sub_cons rfl ?_)) rfl rfl ?_
  rintro j ⟨hP,hjj⟩ ih
  simp only [List.cons_append,List.nil_append] at ih ⊢
  have hLl:L0.length=n:=hP.seg.len.trans hl
  have hje:=hP.je
  have hi1:=hP.i1
  by_cases hij:i≤j
  ·have at_v:=I8 (L:=L0) (i:=j) (by omega)
   have at_w:=I8 (L:=L0) (i:=a) (by omega)
   rw [hP.p0] at at_w
   by_cases hx:An L0 j<p
   ·clear ih
    have at_u:=I8 (L:=L0) (i:=i) (by omega)
    obtain ⟨hlt,hsn⟩:=hP.swap (by omega) hij (hs (by omega)) hx
    have hu:=Cu (hP.seg.inR hr) (i:=i) (by omega)
    have hv:=Cu (hP.seg.inR hr) (i:=j) (by omega)
    simp only [Bf] at hu hv
    obtain ⟨L1,hL1⟩:∃ L1,sw L0 i j=L1:=⟨_,rfl⟩
    have hsw:(L0.set i (An L0 j)).set j (An L0 i)=L1:=hL1
    rw [hL1] at hsn
    clear hL1
    generalize An L0 i=u at *
    generalize An L0 j=v at *
    have e2:(j:Int)-1=((j-1:Nat):Int):=by omega
    refine wk 9 (ct @As cz) ?_
    intro h1 h2
    (apply Cy (x0:=none) it mx 0 13 [2,3] 1;(· rfl);(· rfl);(· rfl);(· decide))
    simp only [List.drop_zero]
    (apply Ae 6;(· rfl);(· simp))
    (apply Ac;(· rfl);(· exact Bi fun _=>Ah (j) (j) rfl rfl Bj rfl (by omega) (Nat.mul_one _) Af))
    (apply Ac;(· rfl);(· exact A6 0 0 (j) rfl rfl rfl Bm rfl (by assumption)))
    (apply Ae 2;(· rfl);(· simp))
    (apply Ac;(· rfl);(· exact Bi fun _=>Ah (i) (i) rfl rfl Bj rfl (by omega) (Nat.mul_one _) Af))
    (apply Ac;(· rfl);(· exact A6 0 0 (i) rfl rfl rfl Bm rfl (by assumption)))
    (apply Ac;(· rfl);(· exact Bi fun _=>Ah (i) (i) rfl rfl Bj rfl (by omega) (Nat.mul_one _) Af))
    refine Cz rfl ?_
    (rotate_left;rfl;rotate_right)
    simp only [List.map_cons,List.map_nil,List.cons_append,List.nil_append]
    refine C4 it rfl rfl ⟨⟨_,_,_,_,rfl,rfl,rfl,rfl,rfl,rfl,(by first|trivial|(repeat' first|exact trivial|apply And.intro|omega))⟩,⟨⟨_,_,_,_,rfl,rfl,rfl,rfl,rfl,rfl,(by first|trivial|(repeat' first|exact trivial|apply And.intro|omega))⟩,trivial⟩⟩ (Cb (vs:=[Value.int IntKind.i64 v]) (z:=(v:Int)) 0 0 (i) rfl rfl rfl rfl rfl Bm (Nat.mul_one _).symm (by omega) (fun w A hG=>(Bh (by first|(simp only [Bf];omega)|(simp [Bf];done)))) fun cs1=>?_)
    refine Dw it ⟨⟨_,_,_,_,rfl,rfl,rfl,rfl,rfl,rfl,(by first|trivial|(repeat' first|exact trivial|apply And.intro|omega))⟩,⟨⟨_,_,_,_,rfl,rfl,rfl,rfl,rfl,rfl,(by first|trivial|(repeat' first|exact trivial|apply And.intro|omega))⟩,trivial⟩⟩ ?_
    refine wk 1 cz ?_
    refine Ab rfl (Cb (vs:=[Value.int IntKind.i64 u]) (z:=(u:Int)) 0 0 (j) rfl rfl rfl rfl rfl Bm (Nat.mul_one _).symm (by omega) (fun w A hG=>(Bh (by first|(simp only [Bf];omega)|(simp [Bf];done)))) fun cs2=>?_)
    refine wk 5 cz ?_ --ok
    rw [hsw,e2]
    refine Ag (X:=Nat×Nat×List Value×List Int) [0,1] [] (fun x=>[(10,.int .i64 (x.1:Int)),(11,.int .i64 (x.2.1:Int))]) (fun x=>[(some b,3,x.2.2.1)]) (fun x=>[Aw Ak ⟨some b,cap,x.2.2.1⟩ n x.2.2.2]) (fun x=>PtI l x.2.2.2 a e p x.1 x.2.1) (fun x=>x.2.1+1-x.1) (i+1,j-1,cs2,L1) [0] rfl rfl rfl hsn (by repeat (first|exact Fr.sub_nil _|refine Fr.sub_cons rfl ?_)) rfl rfl ?_
    clear hsn hsw hP hs hP0 at_u at_v at_w hu hv hx hij hLl hje hi1 hlt e2
    clear L1 L0
    rintro ⟨i,j,cs,L⟩ hP iho
    simp only [List.cons_append,List.nil_append] at hP iho ⊢
    have k2:∀ i':Nat,i≤i'→PtI l L a e p i' j→(i'≤j→¬ An L i'<p)→J Dp C [.c (pL 130948),.blk 8,.c (pL 65475),.blk 5,.lp (pL 8184),.blk 4,.c (pL 2047)] [(0,.slice (some ⟨b,0,none⟩) n cap),(1,.int .i64 (a:Int)),(10,.int .i64 (i':Int)),(11,.int .i64 (j:Int))] [(some b,3,cs)] [Aw Ak ⟨some b,cap,cs⟩ n L] (Ga C (PaQ b cap n l a e)):=by
     intro i' hi0 hP0 hs
     refine Ag (X:=Nat) [0,1,10] [0] (fun y=>[(11,.int .i64 (y:Int))]) (fun _=>_) (fun _=>[]) (fun y=>PtI l L a e p i' y∧y≤j) (fun y=>y) j [] rfl rfl rfl ⟨hP0,Nat.le_refl _⟩ (by repeat (first|exact Fr.sub_nil _|refine Fr.sub_cons rfl ?_)) rfl rfl ?_
     rintro j ⟨hP,hjj⟩ ih
     simp only [List.cons_append,List.nil_append] at ih ⊢
     have hLl:L.length=n:=hP.seg.len.trans hl
     have hje:=hP.je
     have hi1:=hP.i1
     by_cases hij:i'≤j
     ·have at_v:=I8 (L:=L) (i:=j) (by omega)
      have at_w:=I8 (L:=L) (i:=a) (by omega)
      rw [hP.p0] at at_w
      by_cases hx:An L j<p
      ·clear ih
       have at_u:=I8 (L:=L) (i:=i') (by omega)
       obtain ⟨hlt,hsn⟩:=hP.swap (by omega) hij (hs (by omega)) hx
       have hu:=Cu (hP.seg.inR hr) (i:=i') (by omega)
       have hv:=Cu (hP.seg.inR hr) (i:=j) (by omega)
       simp only [Bf] at hu hv
       have ih':=fun cs=>iho (i'+1,j-1,cs,sw L i' j) (by dsimp only;omega) hsn
       dsimp only at ih'
       rw [sw] at ih'
       clear iho hsn hP0 hs
       generalize An L i'=u at *
       generalize An L j=v at *
       refine wk 9 (ct @As cz) ?_
       intro h3 h4
       (apply Cy (x0:=none) it mx 0 13 [2,3] 1;(· rfl);(· rfl);(· rfl);(· decide))
       simp only [List.drop_zero]
       (apply Ae 6;(· rfl);(· simp))
       (apply Ac;(· rfl);(· exact Bi fun _=>Ah (j) (j) rfl rfl Bj rfl (by omega) (Nat.mul_one _) Af))
       (apply Ac;(· rfl);(· exact A6 0 0 (j) rfl rfl rfl Bm rfl (by assumption)))
       (apply Ae 2;(· rfl);(· simp))
       (apply Ac;(· rfl);(· exact Bi fun _=>Ah (i') (i') rfl rfl Bj rfl (by omega) (Nat.mul_one _) Af))
       (apply Ac;(· rfl);(· exact A6 0 0 (i') rfl rfl rfl Bm rfl (by assumption)))
       (apply Ac;(· rfl);(· exact Bi fun _=>Ah (i') (i') rfl rfl Bj rfl (by omega) (Nat.mul_one _) Af))
       refine Cz rfl ?_
       (rotate_left;rfl;rotate_right)
       simp only [List.map_cons,List.map_nil,List.cons_append,List.nil_append]
       refine C4 it rfl rfl ⟨⟨_,_,_,_,rfl,rfl,rfl,rfl,rfl,rfl,(by first|trivial|(repeat' first|exact trivial|apply And.intro|omega))⟩,⟨⟨_,_,_,_,rfl,rfl,rfl,rfl,rfl,rfl,(by first|trivial|(repeat' first|exact trivial|apply And.intro|omega))⟩,trivial⟩⟩ (Cb (vs:=[Value.int IntKind.i64 v]) (z:=(v:Int)) 0 0 (i') rfl rfl rfl rfl rfl Bm (Nat.mul_one _).symm (by omega) (fun w A hG=>(Bh (by first|(simp only [Bf];omega)|(simp [Bf];done)))) fun cs3=>?_)
       refine Dw it ⟨⟨_,_,_,_,rfl,rfl,rfl,rfl,rfl,rfl,(by first|trivial|(repeat' first|exact trivial|apply And.intro|omega))⟩,⟨⟨_,_,_,_,rfl,rfl,rfl,rfl,rfl,rfl,(by first|trivial|(repeat' first|exact trivial|apply And.intro|omega))⟩,trivial⟩⟩ ?_
       refine wk 1 cz ?_
       refine Ab rfl (Cb (vs:=[Value.int IntKind.i64 u]) (z:=(u:Int)) 0 0 (j) rfl rfl rfl rfl rfl Bm (Nat.mul_one _).symm (by omega) (fun w A hG=>(Bh (by first|(simp only [Bf];omega)|(simp [Bf];done)))) fun cs4=>?_)
       refine wk 5 cz ?_
       exact tw (ih' cs4)
      ·have ih':=ih (j-1) (by omega) ⟨hP.prev hij hx,by omega⟩
       clear ih
       generalize An L j=v at *
       refine wk 7 (ct @As cz) ?_
       intro h3
       exact tw (ih')
     ·clear ih
      clear iho
      have hfin:=hP.fin (by omega) hij
      have at_v:=I8 (L:=L) (i:=j) (by omega)
      have at_w:=I8 (L:=L) (i:=a) (by omega)
      have hv:=Cu (hP.seg.inR hr) (i:=j) (by omega)
      have hw:=Cu (hP.seg.inR hr) (i:=a) (by omega)
      simp only [Bf] at hv hw
      rw [sw] at hfin
      generalize An L j=v at *
      generalize An L a=w at *
      refine wk 9 cz ?_
      intro h3
      (apply Cy (x0:=none) it mx 0 13 [2,3] 1;(· rfl);(· rfl);(· rfl);(· decide))
      simp only [List.drop_zero]
      (apply Ae 6;(· rfl);(· simp))
      (apply Ac;(· rfl);(· exact Bi fun _=>Ah (a) (a) rfl rfl Bj rfl (by omega) (Nat.mul_one _) Af))
      (apply Ac;(· rfl);(· exact A6 0 0 (a) rfl rfl rfl Bm rfl (by assumption)))
      (apply Ae 2;(· rfl);(· simp))
      (apply Ac;(· rfl);(· exact Bi fun _=>Ah (j) (j) rfl rfl Bj rfl (by omega) (Nat.mul_one _) Af))
      (apply Ac;(· rfl);(· exact A6 0 0 (j) rfl rfl rfl Bm rfl (by assumption)))
      (apply Ac;(· rfl);(· exact Bi fun _=>Ah (j) (j) rfl rfl Bj rfl (by omega) (Nat.mul_one _) Af))
      refine Cz rfl ?_
      (rotate_left;rfl;rotate_right)
      simp only [List.map_cons,List.map_nil,List.cons_append,List.nil_append]
      refine C4 it rfl rfl ⟨⟨_,_,_,_,rfl,rfl,rfl,rfl,rfl,rfl,(by first|trivial|(repeat' first|exact trivial|apply And.intro|omega))⟩,⟨⟨_,_,_,_,rfl,rfl,rfl,rfl,rfl,rfl,(by first|trivial|(repeat' first|exact trivial|apply And.intro|omega))⟩,trivial⟩⟩ (Cb (vs:=[Value.int IntKind.i64 w]) (z:=(w:Int)) 0 0 (j) rfl rfl rfl rfl rfl Bm (Nat.mul_one _).symm (by omega) (fun w A hG=>(Bh (by first|(simp only [Bf];omega)|(simp [Bf];done)))) fun cs3=>?_)
      refine Dw it ⟨⟨_,_,_,_,rfl,rfl,rfl,rfl,rfl,rfl,(by first|trivial|(repeat' first|exact trivial|apply And.intro|omega))⟩,⟨⟨_,_,_,_,rfl,rfl,rfl,rfl,rfl,rfl,(by first|trivial|(repeat' first|exact trivial|apply And.intro|omega))⟩,trivial⟩⟩ ?_
      refine wk 1 cz ?_
      refine Ab rfl (Cb (vs:=[Value.int IntKind.i64 v]) (z:=(v:Int)) 0 0 (a) rfl rfl rfl rfl rfl Bm (Nat.mul_one _).symm (by omega) (fun w A hG=>(Bh (by first|(simp only [Bf];omega)|(simp [Bf];done)))) fun cs4=>?_)
      refine wk 3 cz ?_ --ok
      exact E4 [0] rfl rfl rfl ⟨_,_,j,false,hfin,rfl,rfl,rfl⟩
    refine wk 1 cz ?_ --ok
    refine Ag (X:=Nat) [0,1,11] [0] (fun y=>[(10,.int .i64 (y:Int))]) (fun _=>_) (fun _=>[]) (fun y=>PtI l L a e p y j∧i≤y) (fun y=>e-y) i [] rfl rfl rfl ⟨hP,Nat.le_refl _⟩ (by repeat (first|exact Fr.sub_nil _|refine Fr.sub_cons rfl ?_)) rfl rfl ?_
    rintro i ⟨hP,hii⟩ ih
    simp only [List.cons_append,List.nil_append] at ih ⊢
    have hLl:L.length=n:=hP.seg.len.trans hl
    have hje:=hP.je
    have hi1:=hP.i1
    by_cases hij:i≤j
    ·have at_u:=I8 (L:=L) (i:=i) (by omega)
     have at_w:=I8 (L:=L) (i:=a) (by omega)
     rw [hP.p0] at at_w
     by_cases hx:An L i<p
     ·have ih':=ih (i+1) (by omega) ⟨hP.next hij hx,by omega⟩
      clear ih k2
      generalize An L i=u at *
      refine wk 7 (ct @As cz) ?_
      intro h3
      exact tw (ih')
     ·have k':=k2 i hii hP fun _=>hx
      clear ih k2
      generalize An L i=u at *
      refine wk 5 (ct @As cz) ?_
      intro h3 --ok
      exact tw (k')
    ·have k':=k2 i hii hP fun h=>absurd h hij
     clear ih k2
     refine wk 5 cz ?_ --ok
     exact tw (k')
   ·have ih':=ih (j-1) (by omega) ⟨hP.prev hij hx,by omega⟩
    clear ih
    generalize An L0 j=v at *
    refine wk 7 (ct @As cz) ?_
    intro h1
    exact tw (ih')
  ·clear ih
   have hfin:=hP.fin (by omega) hij
   have at_v:=I8 (L:=L0) (i:=j) (by omega)
   have at_w:=I8 (L:=L0) (i:=a) (by omega)
   have hv:=Cu (hP.seg.inR hr) (i:=j) (by omega)
   have hw:=Cu (hP.seg.inR hr) (i:=a) (by omega)
   simp only [Bf] at hv hw
   rw [sw] at hfin
   generalize An L0 j=v at *
   generalize An L0 a=w at *
   refine wk 9 cz ?_
   intro h1
   (apply Cy (x0:=none) it mx 0 13 [2,3] 1;(· rfl);(· rfl);(· rfl);(· decide))
   simp only [List.drop_zero]
   (apply Ae 6;(· rfl);(· simp))
   (apply Ac;(· rfl);(· exact Bi fun _=>Ah (a) (a) rfl rfl Bj rfl (by omega) (Nat.mul_one _) Af))
   (apply Ac;(· rfl);(· exact A6 0 0 (a) rfl rfl rfl Bm rfl (by assumption)))
   (apply Ae 2;(· rfl);(· simp))
   (apply Ac;(· rfl);(· exact Bi fun _=>Ah (j) (j) rfl rfl Bj rfl (by omega) (Nat.mul_one _) Af))
   (apply Ac;(· rfl);(· exact A6 0 0 (j) rfl rfl rfl Bm rfl (by assumption)))
   (apply Ac;(· rfl);(· exact Bi fun _=>Ah (j) (j) rfl rfl Bj rfl (by omega) (Nat.mul_one _) Af))
   refine Cz rfl ?_
   (rotate_left;rfl;rotate_right)
   simp only [List.map_cons,List.map_nil,List.cons_append,List.nil_append]
   refine C4 it rfl rfl ⟨⟨_,_,_,_,rfl,rfl,rfl,rfl,rfl,rfl,(by first|trivial|(repeat' first|exact trivial|apply And.intro|omega))⟩,⟨⟨_,_,_,_,rfl,rfl,rfl,rfl,rfl,rfl,(by first|trivial|(repeat' first|exact trivial|apply And.intro|omega))⟩,trivial⟩⟩ (Cb (vs:=[Value.int IntKind.i64 w]) (z:=(w:Int)) 0 0 (j) rfl rfl rfl rfl rfl Bm (Nat.mul_one _).symm (by omega) (fun w A hG=>(Bh (by first|(simp only [Bf];omega)|(simp [Bf];done)))) fun cs1=>?_)
   refine Dw it ⟨⟨_,_,_,_,rfl,rfl,rfl,rfl,rfl,rfl,(by first|trivial|(repeat' first|exact trivial|apply And.intro|omega))⟩,⟨⟨_,_,_,_,rfl,rfl,rfl,rfl,rfl,rfl,(by first|trivial|(repeat' first|exact trivial|apply And.intro|omega))⟩,trivial⟩⟩ ?_
   refine wk 1 cz ?_
   refine Ab rfl (Cb (vs:=[Value.int IntKind.i64 v]) (z:=(v:Int)) 0 0 (a) rfl rfl rfl rfl rfl Bm (Nat.mul_one _).symm (by omega) (fun w A hG=>(Bh (by first|(simp only [Bf];omega)|(simp [Bf];done)))) fun cs2=>?_)
   refine wk 3 cz ?_ --ok
   exact E4 [0] rfl rfl rfl ⟨_,_,j,true,hfin,rfl,rfl,rfl⟩
 refine wk 3 cz ?_
 (apply Cy (x0:=none) it mx 0 13 [2,3] 1;(· rfl);(· rfl);(· rfl);(· decide))
 simp only [List.drop_zero]
 (apply Ae 6;(· rfl);(· simp))
 (apply Ac;(· rfl);(· exact Bi fun _=>Ah (pv) (pv) rfl rfl Bj rfl (by omega) (Nat.mul_one _) Af))
 (apply Ac;(· rfl);(· exact A6 0 0 (pv) rfl rfl rfl Bm rfl (by assumption)))
 (apply Ae 2;(· rfl);(· simp))
 (apply Ac;(· rfl);(· exact Bi fun _=>Ah (a) (a) rfl rfl Bj rfl (by omega) (Nat.mul_one _) Af))
 (apply Ac;(· rfl);(· exact A6 0 0 (a) rfl rfl rfl Bm rfl (by assumption)))
 (apply Ac;(· rfl);(· exact Bi fun _=>Ah (a) (a) rfl rfl Bj rfl (by omega) (Nat.mul_one _) Af))
 refine Cz rfl ?_
 (rotate_left;rfl;rotate_right)
 simp only [List.map_cons,List.map_nil,List.cons_append,List.nil_append]
 refine C4 it rfl rfl ⟨⟨_,_,_,_,rfl,rfl,rfl,rfl,rfl,rfl,(by first|trivial|(repeat' first|exact trivial|apply And.intro|omega))⟩,⟨⟨_,_,_,_,rfl,rfl,rfl,rfl,rfl,rfl,(by first|trivial|(repeat' first|exact trivial|apply And.intro|omega))⟩,trivial⟩⟩ (Cb (vs:=[Value.int IntKind.i64 p]) (z:=(p:Int)) 0 0 (a) rfl rfl rfl rfl rfl Bm (Nat.mul_one _).symm (by omega) (fun w A hG=>(Bh (by first|(simp only [Bf];omega)|(simp [Bf];done)))) fun cs1=>?_)
 refine Dw it ⟨⟨_,_,_,_,rfl,rfl,rfl,rfl,rfl,rfl,(by first|trivial|(repeat' first|exact trivial|apply And.intro|omega))⟩,⟨⟨_,_,_,_,rfl,rfl,rfl,rfl,rfl,rfl,(by first|trivial|(repeat' first|exact trivial|apply And.intro|omega))⟩,trivial⟩⟩ ?_
 refine wk 1 cz ?_
 refine Ab rfl (Cb (vs:=[Value.int IntKind.i64 u0]) (z:=(u0:Int)) 0 0 (pv) rfl rfl rfl rfl rfl Bm (Nat.mul_one _).symm (by omega) (fun w A hG=>(Bh (by first|(simp only [Bf];omega)|(simp [Bf];done)))) fun cs2=>?_)
 refine wk 3 cz ?_ --ok
 rw [hsw,e1]
 refine Ag (X:=Nat) [0,1,8,9,11] [0,1,2] (fun y=>[(10,.int .i64 (y:Int))]) (fun _=>_) (fun _=>[]) (fun y=>PtI l L0 a e p y (e-1)∧(a+1)≤y) (fun y=>e-y) (a+1) [] rfl rfl rfl ⟨hst,Nat.le_refl _⟩ (by repeat (first|exact Fr.sub_nil _|refine Fr.sub_cons rfl ?_)) rfl rfl ?_
 rintro i ⟨hP,hii⟩ ih
 simp only [List.cons_append,List.nil_append] at ih ⊢
 have hLl:L0.length=n:=hP.seg.len.trans hl
 have hje:=hP.je
 have hi1:=hP.i1
 by_cases hij:i≤(e-1)
 ·have at_u:=I8 (L:=L0) (i:=i) (by omega)
  have at_w:=I8 (L:=L0) (i:=a) (by omega)
  rw [hP.p0] at at_w
  by_cases hx:An L0 i<p
  ·have ih':=ih (i+1) (by omega) ⟨hP.next hij hx,by omega⟩
   clear ih k1
   generalize An L0 i=u at *
   refine wk 7 (ct @As cz) ?_
   intro h1
   exact tw (ih')
  ·have k':=k1 cs2 i hii hP fun _=>hx
   clear ih k1
   generalize An L0 i=u at *
   refine wk 5 (ct @As cz) ?_
   intro h1 --ok
   exact tw (k')
 ·have k':=k1 cs2 i hii hP fun h=>absurd h hij
  clear ih k1
  refine wk 5 cz ?_ --ok
  exact tw (k')
end
open Go Go.Fw
set_option maxRecDepth 100000
set_option linter.unusedVariables false
set_option linter.unusedSimpArgs false
set_option maxHeartbeats 0
abbrev PeQ (b cap n:Nat) (l:List Int) (a e:Nat) (p:Int):Value→List Fact→List Bb→Prop:=fun v Φ β=>∃ cs' L,∃ m:Nat,PeE l L a e m p∧v = .int .i64 m∧Φ=[Aw Ak ⟨some b,cap,cs'⟩ n L]∧β=[(some b,3,cs')]
section
variable {b cap n a e pv:Nat}{cs:List Value}{l:List Int}{p:Int}
theorem Hq (hn:n≤1000000) (hr:∀ x∈l,Bf .i64 x) (hl:l.length=n) (hap:a≤pv) (hpe:pv<e) (he:e≤n) (hp:An l pv=p) :
  Br Tryz.prog 108 [.slice (some ⟨b,0,none⟩) n cap,.int .i64 a,.int .i64 e,.int .i64 pv] [(some b,3,cs)] [Aw Ak ⟨some b,cap,cs⟩ n l] (PeQ b cap n l a e p):=by
 refine Ad (F:=Ei) rfl fun C=>?_
 have e1:(e:Int)-1=((e-1:Nat):Int):=by omega
 have hst:=PeI.start (l:=l) (a:=a) (e:=e) (pv:=pv) (by omega) hap hpe
 obtain ⟨L0,hL0⟩:∃ L0,sw l a pv=L0:=⟨_,rfl⟩
 have hsw:(l.set a (An l pv)).set pv (An l a)=L0:=hL0
 rw [hL0] at hst
 clear hL0
 have at_u:=I8 (L:=l) (i:=a) (by omega)
 have at_v:=I8 (L:=l) (i:=pv) (by omega)
 have hu:=Cu hr (i:=a) (by omega)
 have hv:=Cu hr (i:=pv) (by omega)
 simp only [Bf] at hu hv
 rw [hp] at hst hsw at_v hv
 generalize An l a=u0 at *
 refine wk 3 cz ?_
 (apply Cy (x0:=none) it mx 0 13 [2,3] 1;(· rfl);(· rfl);(· rfl);(· decide))
 simp only [List.drop_zero]
 (apply Ae 6;(· rfl);(· simp))
 (apply Ac;(· rfl);(· exact Bi fun _=>Ah (pv) (pv) rfl rfl Bj rfl (by omega) (Nat.mul_one _) Af))
 (apply Ac;(· rfl);(· exact A6 0 0 (pv) rfl rfl rfl Bm rfl (by assumption)))
 (apply Ae 2;(· rfl);(· simp))
 (apply Ac;(· rfl);(· exact Bi fun _=>Ah (a) (a) rfl rfl Bj rfl (by omega) (Nat.mul_one _) Af))
 (apply Ac;(· rfl);(· exact A6 0 0 (a) rfl rfl rfl Bm rfl (by assumption)))
 (apply Ac;(· rfl);(· exact Bi fun _=>Ah (a) (a) rfl rfl Bj rfl (by omega) (Nat.mul_one _) Af))
 refine Cz rfl ?_
 (rotate_left;rfl;rotate_right)
 simp only [List.map_cons,List.map_nil,List.cons_append,List.nil_append]
 refine C4 it rfl rfl ⟨⟨_,_,_,_,rfl,rfl,rfl,rfl,rfl,rfl,(by first|trivial|(repeat' first|exact trivial|apply And.intro|omega))⟩,⟨⟨_,_,_,_,rfl,rfl,rfl,rfl,rfl,rfl,(by first|trivial|(repeat' first|exact trivial|apply And.intro|omega))⟩,trivial⟩⟩ (Cb (vs:=[Value.int IntKind.i64 p]) (z:=(p:Int)) 0 0 (a) rfl rfl rfl rfl rfl Bm (Nat.mul_one _).symm (by omega) (fun w A hG=>(Bh (by first|(simp only [Bf];omega)|(simp [Bf];done)))) fun cs1=>?_)
 refine Dw it ⟨⟨_,_,_,_,rfl,rfl,rfl,rfl,rfl,rfl,(by first|trivial|(repeat' first|exact trivial|apply And.intro|omega))⟩,⟨⟨_,_,_,_,rfl,rfl,rfl,rfl,rfl,rfl,(by first|trivial|(repeat' first|exact trivial|apply And.intro|omega))⟩,trivial⟩⟩ ?_
 refine wk 1 cz ?_
 refine Ab rfl (Cb (vs:=[Value.int IntKind.i64 u0]) (z:=(u0:Int)) 0 0 (pv) rfl rfl rfl rfl rfl Bm (Nat.mul_one _).symm (by omega) (fun w A hG=>(Bh (by first|(simp only [Bf];omega)|(simp [Bf];done)))) fun cs2=>?_)
 refine wk 3 cz ?_ --ok
 rw [hsw,e1]
 refine Ag (X:=Nat×Nat×List Value×List Int) [0,1] [] (fun x=>[(9,.int .i64 (x.1:Int)),(10,.int .i64 (x.2.1:Int))]) (fun x=>[(some b,3,x.2.2.1)]) (fun x=>[Aw Ak ⟨some b,cap,x.2.2.1⟩ n x.2.2.2]) (fun x=>PeI l x.2.2.2 a e p x.1 x.2.1) (fun x=>x.2.1+1-x.1) (a+1,e-1,cs2,L0) [0] rfl rfl rfl hst (by repeat (first|exact Fr.sub_nil _|refine Fr.sub_cons rfl ?_)) rfl rfl ?_
 clear hst hsw at_u at_v hu hv e1
 clear L0
 rintro ⟨i,j,cs,L⟩ hP iho
 simp only [List.cons_append,List.nil_append] at hP iho ⊢
 have k2:∀ i':Nat,i≤i'→PeI l L a e p i' j→(i'≤j→p<An L i')→J Ei C [.c (pL 1924),.blk 4,.c (pL 963),.blk 1,.lp (pL 120),.blk 0,.c [1,1,1,1]] [(0,.slice (some ⟨b,0,none⟩) n cap),(1,.int .i64 (a:Int)),(9,.int .i64 (i':Int)),(10,.int .i64 (j:Int))] [(some b,3,cs)] [Aw Ak ⟨some b,cap,cs⟩ n L] (Ga C (PeQ b cap n l a e p)):=by
  intro i' hi0 hP0 hs
  refine Ag (X:=Nat) [0,1,9] [0] (fun y=>[(10,.int .i64 (y:Int))]) (fun _=>_) (fun _=>[]) (fun y=>PeI l L a e p i' y∧y≤j) (fun y=>y) j [] rfl rfl rfl ⟨hP0,Nat.le_refl _⟩ (by repeat (first|exact Fr.sub_nil _|refine Fr.sub_cons rfl ?_)) rfl rfl ?_
  rintro j ⟨hP,hjj⟩ ih
  simp only [List.cons_append,List.nil_append] at ih ⊢
  have hLl:L.length=n:=hP.seg.len.trans hl
  have hje:=hP.je
  have hi1:=hP.i1
  by_cases hij:i'≤j
  ·have at_v:=I8 (L:=L) (i:=j) (by omega)
   have at_w:=I8 (L:=L) (i:=a) (by omega)
   rw [hP.p0] at at_w
   by_cases hx:p<An L j
   ·have ih':=ih (j-1) (by omega) ⟨hP.prev hij hx,by omega⟩
    clear ih iho
    generalize An L j=v at *
    refine wk 7 (ct @As cz) ?_
    intro h1
    exact tw (ih')
   ·clear ih
    have at_u:=I8 (L:=L) (i:=i') (by omega)
    obtain ⟨hlt,hsn⟩:=hP.swap (by omega) hij (hs (by omega)) hx
    have hu:=Cu (hP.seg.inR hr) (i:=i') (by omega)
    have hv:=Cu (hP.seg.inR hr) (i:=j) (by omega)
    simp only [Bf] at hu hv
    have ih':=fun cs=>iho (i'+1,j-1,cs,sw L i' j) (by dsimp only;omega) hsn
    dsimp only at ih'
    rw [sw] at ih'
    clear iho hsn hP0 hs
    generalize An L i'=u at *
    generalize An L j=v at *
    refine wk 9 (ct @As cz) ?_
    intro h1 h2
    (apply Cy (x0:=none) it mx 0 13 [2,3] 1;(· rfl);(· rfl);(· rfl);(· decide))
    simp only [List.drop_zero]
    (apply Ae 6;(· rfl);(· simp))
    (apply Ac;(· rfl);(· exact Bi fun _=>Ah (j) (j) rfl rfl Bj rfl (by omega) (Nat.mul_one _) Af))
    (apply Ac;(· rfl);(· exact A6 0 0 (j) rfl rfl rfl Bm rfl (by assumption)))
    (apply Ae 2;(· rfl);(· simp))
    (apply Ac;(· rfl);(· exact Bi fun _=>Ah (i') (i') rfl rfl Bj rfl (by omega) (Nat.mul_one _) Af))
    (apply Ac;(· rfl);(· exact A6 0 0 (i') rfl rfl rfl Bm rfl (by assumption)))
    (apply Ac;(· rfl);(· exact Bi fun _=>Ah (i') (i') rfl rfl Bj rfl (by omega) (Nat.mul_one _) Af))
    refine Cz rfl ?_
    (rotate_left;rfl;rotate_right)
    simp only [List.map_cons,List.map_nil,List.cons_append,List.nil_append]
    refine C4 it rfl rfl ⟨⟨_,_,_,_,rfl,rfl,rfl,rfl,rfl,rfl,(by first|trivial|(repeat' first|exact trivial|apply And.intro|omega))⟩,⟨⟨_,_,_,_,rfl,rfl,rfl,rfl,rfl,rfl,(by first|trivial|(repeat' first|exact trivial|apply And.intro|omega))⟩,trivial⟩⟩ (Cb (vs:=[Value.int IntKind.i64 v]) (z:=(v:Int)) 0 0 (i') rfl rfl rfl rfl rfl Bm (Nat.mul_one _).symm (by omega) (fun w A hG=>(Bh (by first|(simp only [Bf];omega)|(simp [Bf];done)))) fun cs3=>?_)
    refine Dw it ⟨⟨_,_,_,_,rfl,rfl,rfl,rfl,rfl,rfl,(by first|trivial|(repeat' first|exact trivial|apply And.intro|omega))⟩,⟨⟨_,_,_,_,rfl,rfl,rfl,rfl,rfl,rfl,(by first|trivial|(repeat' first|exact trivial|apply And.intro|omega))⟩,trivial⟩⟩ ?_
    refine wk 1 cz ?_
    refine Ab rfl (Cb (vs:=[Value.int IntKind.i64 u]) (z:=(u:Int)) 0 0 (j) rfl rfl rfl rfl rfl Bm (Nat.mul_one _).symm (by omega) (fun w A hG=>(Bh (by first|(simp only [Bf];omega)|(simp [Bf];done)))) fun cs4=>?_)
    refine wk 5 cz ?_
    exact tw (ih' cs4)
  ·have hfin:=hP.fin hij
   clear ih iho
   refine wk 11 cz ?_
   intro h1 --ok
   exact E4 [0] rfl rfl rfl ⟨_,_,i',hfin,rfl,rfl,rfl⟩
 refine wk 1 cz ?_ --ok
 refine Ag (X:=Nat) [0,1,10] [0] (fun y=>[(9,.int .i64 (y:Int))]) (fun _=>_) (fun _=>[]) (fun y=>PeI l L a e p y j∧i≤y) (fun y=>e-y) i [] rfl rfl rfl ⟨hP,Nat.le_refl _⟩ (by repeat (first|exact Fr.sub_nil _|refine Fr.sub_cons rfl ?_)) rfl rfl ?_
 rintro i ⟨hP,hii⟩ ih
 simp only [List.cons_append,List.nil_append] at ih ⊢
 have hLl:L.length=n:=hP.seg.len.trans hl
 have hje:=hP.je
 have hi1:=hP.i1
 by_cases hij:i≤j
 ·have at_u:=I8 (L:=L) (i:=i) (by omega)
  have at_w:=I8 (L:=L) (i:=a) (by omega)
  rw [hP.p0] at at_w
  by_cases hx:p<An L i
  ·have k':=k2 i hii hP fun _=>hx
   clear ih k2 iho
   generalize An L i=u at *
   refine wk 5 (ct @As cz) ?_
   intro h1 --ok
   exact tw (k')
  ·have ih':=ih (i+1) (by omega) ⟨hP.next hij hx,by omega⟩
   clear ih k2 iho
   generalize An L i=u at *
   refine wk 7 (ct @As cz) ?_
   intro h1
   exact tw (ih')
 ·have k':=k2 i hii hP fun h=>absurd h hij
  clear ih k2 iho
  refine wk 5 cz ?_ --ok
  exact tw (k')
end
open Go Go.Fw
set_option maxRecDepth 100000
set_option linter.unusedVariables false
set_option linter.unusedSimpArgs false
set_option maxHeartbeats 0
theorem AHB {L:List Int}{a i:Nat}(h:Ft L a i) (h1:a+1≤i) (hx:¬ An L i<An L (i-1)):Ft L a (i+1):=fun u v hu huv hv=>by
 by_cases c:v=i
 ·subst c
  by_cases c2:u=v-1
  ·rw [c2];omega
  ·have:=h u (v-1) hu (by omega) (by omega);omega
 ·exact h u v hu huv (by omega)
theorem AFW {L:List Int}{a i:Nat}(h:Ft L a i) (h1:a+1≤i) (hi:i<L.length) (hx:An L i<An L (i-1)):ADm (sw L i (i-1)) a i (i-1):=Zy (AAU h) h1 hi (Nat.le_refl i) hx
theorem AIf {L:List Int}{a e:Nat}(h:Zi L a e) (h0:a≠0) (hae:a<e):¬ An L a<An L (a-1):=by
 rcases h with h|h
 ·exact absurd h h0
 ·have:=h a (Nat.le_refl a) hae;omega
abbrev PiQ (b cap n:Nat) (l:List Int) (a e:Nat):Value→List Fact→List Bb→Prop:=fun v Φ β=>∃ cs' L,∃ bo:Bool,(Seg a e l L∧(bo=true→Ft L a e))∧v = .bool bo∧Φ=[Aw Ak ⟨some b,cap,cs'⟩ n L]∧β=[(some b,3,cs')]
section
variable {b cap n a e:Nat}{cs:List Value}{l:List Int}
theorem Gb (hn:n≤1000000) (hr:∀ x∈l,Bf .i64 x) (hl:l.length=n) (hae:a<e) (he:e≤n) (hlow:Zi l a e) :
  Br Tryz.prog 106 [.slice (some ⟨b,0,none⟩) n cap,.int .i64 a,.int .i64 e] [(some b,3,cs)] [Aw Ak ⟨some b,cap,cs⟩ n l] (PiQ b cap n l a e):=by
 refine Ad (F:=Dk) rfl fun C=>?_
 refine wk 7 cz ?_ --ok
 refine Ag (X:=Nat×Nat×List Value×List Int) [0,1,2] [] (fun x=>[(8,.int .i64 (x.1:Int)),(7,.int .i64 (x.2.1:Int))]) (fun x=>[(some b,3,x.2.2.1)]) (fun x=>[Aw Ak ⟨some b,cap,x.2.2.1⟩ n x.2.2.2]) (fun x=>x.1≤5∧a+1≤x.2.1∧x.2.1≤e∧Seg a e l x.2.2.2∧Ft x.2.2.2 a x.2.1) (fun x=>5-x.1) (0,a+1,cs,l) [0] rfl rfl rfl ⟨Nat.zero_le _,Nat.le_refl _,hae,.refl,.short (Nat.le_refl _)⟩ (by repeat (first|exact Fr.sub_nil _|refine Fr.sub_cons rfl ?_)) rfl rfl ?_
 rintro ⟨t,i,cs,L⟩ ⟨ht,hi1,hi2,hS,hT⟩ ihm
 simp only [List.cons_append,List.nil_append] at ht hi1 hi2 hS hT ihm ⊢
 by_cases ht5:t<5
 ·have ihm':=fun i cs L h1 h2 h3 h4=>ihm (t+1,i,cs,L) (by dsimp only;omega) ⟨by dsimp only;omega,h1,h2,h3,h4⟩
  dsimp only at ihm'
  clear ihm
  refine wk 5 cz ?_
  intro h1 --ok
  refine Ag (X:=Nat) [0,1,2,8,13,14] [0] (fun y=>[(7,.int .i64 (y:Int))]) (fun _=>_) (fun _=>[]) (fun y=>a+1≤y∧y≤e∧Ft L a y) (fun y=>e-y) i [] rfl rfl rfl ⟨hi1,hi2,hT⟩ (by repeat (first|exact Fr.sub_nil _|refine Fr.sub_cons rfl ?_)) rfl rfl ?_
  clear hi1 hi2 hT
  clear i
  rintro i ⟨hi1,hi2,hT⟩ ih
  simp only [List.cons_append,List.nil_append] at ih ⊢
  have hLl:L.length=n:=hS.len.trans hl
  by_cases hie:i<e
  ·have at_u:=I8 (L:=L) (i:=i) (by omega)
   have at_v:=I8 (L:=L) (i:=i-1) (by omega)
   have hu:=Cu (hS.inR hr) (i:=i) (by omega)
   have hv:=Cu (hS.inR hr) (i:=i-1) (by omega)
   simp only [Bf] at hu hv
   by_cases hx:An L i<An L (i-1)
   ·clear ih
    by_cases h50:e-a<50
    ·clear ihm'
     generalize An L i=u at *
     generalize An L (i-1)=v at *
     refine wk 15 (ct @As cz) ?_
     intro h2 h3 h4 --ok
     exact E4 [0] rfl rfl rfl ⟨_,_,false,⟨hS,fun h=>by cases h⟩,rfl,rfl,rfl⟩
    ·have kR:∀ cs L,Seg a e l L→Ft L a (i+1)→J Dk C [.o (pL 59710) 0,.c (pL 59711),.blk 1,.c (pL 467),.lp (pL 116),.blk 0,.c [1,1,1]] [(0,.slice (some ⟨b,0,none⟩) n cap),(1,.int .i64 (a:Int)),(2,.int .i64 (e:Int)),(7,.int .i64 (i:Int)),(8,.int .i64 (t:Int))] [(some b,3,cs)] [Aw Ak ⟨some b,cap,cs⟩ n L] (Ga C (PiQ b cap n l a e)):=by
      clear at_u at_v hu hv hx hT hS hLl
      clear L
      intro cs L hS hT
      have hLl:L.length=n:=hS.len.trans hl
      have hT':Ft L a i:=fun u v h1 h2 h3=>hT u v h1 h2 (by omega)
      by_cases h2:2≤e-i
      ·refine wk 6 cz ?_
       intro h3 --ok
       refine Ag (X:=Nat×List Value×List Int) [0,1,2,7,8] [] (fun x=>[(10,.int .i64 (x.1:Int))]) (fun x=>[(some b,3,x.2.1)]) (fun x=>[Aw Ak ⟨some b,cap,x.2.1⟩ n x.2.2]) (fun x=>i+1≤x.1∧x.1≤e∧Seg a e l x.2.2∧Ft x.2.2 a i) (fun x=>e-x.1) (i+1,cs,L) [0] rfl rfl rfl ⟨Nat.le_refl _,by dsimp only;omega,hS,hT'⟩ (by repeat (first|exact Fr.sub_nil _|refine Fr.sub_cons rfl ?_)) rfl rfl ?_
       clear hS hT hT' hLl
       rintro ⟨j,cs,L⟩ ⟨hj1,hj2,hS,hT⟩ ihr
       simp only [List.cons_append,List.nil_append] at hj1 hj2 hS hT ihr ⊢
       have hLl:L.length=n:=hS.len.trans hl
       have ihn:=ihm' i cs L hi1 hi2 hS hT
       by_cases hje:j<e
       ·have at_u:=I8 (L:=L) (i:=j) (by omega)
        have at_v:=I8 (L:=L) (i:=j-1) (by omega)
        have hu:=Cu (hS.inR hr) (i:=j) (by omega)
        have hv:=Cu (hS.inR hr) (i:=j-1) (by omega)
        simp only [Bf] at hu hv
        by_cases hx:An L j<An L (j-1)
        ·have ihr':=fun cs=>ihr (j+1,cs,sw L j (j-1)) (by dsimp only;omega) ⟨by dsimp only;omega,by dsimp only;omega,hS.trans (H3 (by omega) (by omega) (by omega) (by omega) (by omega)),hT.out (H3 (a:=i) (b:=e) (by omega) (by omega) (by omega) (by omega) (by omega)) (.inl (Nat.le_refl _))⟩
         dsimp only at ihr'
         rw [sw] at ihr'
         clear ihr ihn ihm'
         generalize An L j=u at *
         generalize An L (j-1)=v at *
         refine wk 9 (ct @As cz) ?_
         intro h4 h5
         (apply Cy (x0:=none) it mx 0 15 [2,3,4] 1;(· rfl);(· rfl);(· rfl);(· decide))
         simp only [List.drop_zero]
         (apply Ae 5;(· rfl);(· exact ⟨⟨by omega,by omega⟩,trivial,trivial,trivial,trivial,trivial⟩))
         (apply Ae 2;(· rfl);(· simp))
         (apply Ac (v:=Value.int IntKind.i64 ((((j)-1:Nat)):Int));(· rfl);(· exact Bi fun _=>V0 it _ rfl ⟨by omega,by omega⟩ (by omega) Af))
         simp only [Nat.add_sub_cancel]
         (apply Ac;(· rfl);(· exact Bi fun _=>Ah (j-1) (j-1) rfl rfl Bj rfl (by omega) (Nat.mul_one _) Af))
         (apply Ac;(· rfl);(· exact A6 0 0 (j-1) rfl rfl rfl Bm rfl (by assumption)))
         (apply Ae 2;(· rfl);(· simp))
         (apply Ac;(· rfl);(· exact Bi fun _=>Ah (j) (j) rfl rfl Bj rfl (by omega) (Nat.mul_one _) Af))
         (apply Ac;(· rfl);(· exact A6 0 0 (j) rfl rfl rfl Bm rfl (by assumption)))
         (apply Ac;(· rfl);(· exact Bi fun _=>Ah (j) (j) rfl rfl Bj rfl (by omega) (Nat.mul_one _) Af)) --ok
         refine Cz rfl ?_
         rotate_left
         rfl
         simp only [List.map_nil,List.nil_append]
         refine C4 it rfl rfl ⟨⟨_,_,_,_,rfl,rfl,rfl,rfl,rfl,rfl,(by first|trivial|(repeat' first|exact trivial|apply And.intro|omega))⟩,⟨⟨_,_,_,_,rfl,rfl,rfl,rfl,rfl,rfl,(by first|trivial|(repeat' first|exact trivial|apply And.intro|omega))⟩,⟨⟨_,_,_,_,rfl,rfl,rfl,rfl,rfl,rfl,(by first|trivial|(repeat' first|exact trivial|apply And.intro|omega))⟩,trivial⟩⟩⟩ (Cb (vs:=[Value.int IntKind.i64 v]) (z:=(v:Int)) 0 0 (j) rfl rfl rfl rfl rfl Bm (Nat.mul_one _).symm (by omega) (fun w A hG=>(Bh (by first|(simp only [Bf];omega)|(simp [Bf];done)))) fun cs1=>?_)
         refine Dw it ⟨⟨_,_,_,_,rfl,rfl,rfl,rfl,rfl,rfl,(by first|trivial|(repeat' first|exact trivial|apply And.intro|omega))⟩,⟨⟨_,_,_,_,rfl,rfl,rfl,rfl,rfl,rfl,(by first|trivial|(repeat' first|exact trivial|apply And.intro|omega))⟩,⟨⟨_,_,_,_,rfl,rfl,rfl,rfl,rfl,rfl,(by first|trivial|(repeat' first|exact trivial|apply And.intro|omega))⟩,trivial⟩⟩⟩ ?_
         refine wk 1 cz ?_
         refine Ab rfl (Cb (vs:=[Value.int IntKind.i64 u]) (z:=(u:Int)) 0 0 (j-1) rfl rfl rfl rfl rfl Bm (Nat.mul_one _).symm (by omega) (fun w A hG=>(Bh (by first|(simp only [Bf];omega)|(simp [Bf];done)))) fun cs2=>?_)
         refine wk 3 cz ?_
         exact tw (ihr' cs2)
        ·clear ihr ihm'
         generalize An L j=u at *
         generalize An L (j-1)=v at *
         refine wk 11 (ct @As cz) ?_
         intro h4 h5
         exact tw (ihn)
       ·clear ihr ihm'
        refine wk 7 cz ?_
        intro h4
        exact tw (ihn)
      ·have ihn:=ihm' i cs L hi1 hi2 hS hT'
       clear ihm'
       refine wk 6 cz ?_
       intro h3
       exact tw (ihn)
     clear ihm'
     have hq:=AFW hT hi1 (by omega) hx
     have hS1:Seg a e l (sw L i (i-1)):=hS.trans (H3 (by omega) (by omega) (by omega) (by omega) (by omega))
     obtain ⟨L1,hL1⟩:∃ L1,sw L i (i-1)=L1:=⟨_,rfl⟩
     have hsw:(L.set i (An L (i-1))).set (i-1) (An L i)=L1:=hL1
     rw [hL1] at hq hS1
     clear hL1
     generalize An L i=u at *
     generalize An L (i-1)=v at *
     refine wk 13 (ct @As cz) ?_
     intro h2 h3 h4
     (apply Cy (x0:=none) it mx 0 15 [2,3,4] 1;(· rfl);(· rfl);(· rfl);(· decide))
     simp only [List.drop_zero]
     (apply Ae 5;(· rfl);(· exact ⟨⟨by omega,by omega⟩,trivial,trivial,trivial,trivial,trivial⟩))
     (apply Ae 2;(· rfl);(· simp))
     (apply Ac (v:=Value.int IntKind.i64 ((((i)-1:Nat)):Int));(· rfl);(· exact Bi fun _=>V0 it _ rfl ⟨by omega,by omega⟩ (by omega) Af))
     simp only [Nat.add_sub_cancel]
     (apply Ac;(· rfl);(· exact Bi fun _=>Ah (i-1) (i-1) rfl rfl Bj rfl (by omega) (Nat.mul_one _) Af))
     (apply Ac;(· rfl);(· exact A6 0 0 (i-1) rfl rfl rfl Bm rfl (by assumption)))
     (apply Ae 2;(· rfl);(· simp))
     (apply Ac;(· rfl);(· exact Bi fun _=>Ah (i) (i) rfl rfl Bj rfl (by omega) (Nat.mul_one _) Af))
     (apply Ac;(· rfl);(· exact A6 0 0 (i) rfl rfl rfl Bm rfl (by assumption)))
     (apply Ac;(· rfl);(· exact Bi fun _=>Ah (i) (i) rfl rfl Bj rfl (by omega) (Nat.mul_one _) Af)) --ok
     refine Cz rfl ?_
     rotate_left
     rfl
     simp only [List.map_nil,List.nil_append]
     by_cases h2:2≤i-a
     ·have e1:(i:Int)-1=((i-1:Nat):Int):=by omega
      refine C4 it rfl rfl ⟨⟨_,_,_,_,rfl,rfl,rfl,rfl,rfl,rfl,(by first|trivial|(repeat' first|exact trivial|apply And.intro|omega))⟩,⟨⟨_,_,_,_,rfl,rfl,rfl,rfl,rfl,rfl,(by first|trivial|(repeat' first|exact trivial|apply And.intro|omega))⟩,⟨⟨_,_,_,_,rfl,rfl,rfl,rfl,rfl,rfl,(by first|trivial|(repeat' first|exact trivial|apply And.intro|omega))⟩,trivial⟩⟩⟩ (Cb (vs:=[Value.int IntKind.i64 v]) (z:=(v:Int)) 0 0 (i) rfl rfl rfl rfl rfl Bm (Nat.mul_one _).symm (by omega) (fun w A hG=>(Bh (by first|(simp only [Bf];omega)|(simp [Bf];done)))) fun cs1=>?_)
      refine Dw it ⟨⟨_,_,_,_,rfl,rfl,rfl,rfl,rfl,rfl,(by first|trivial|(repeat' first|exact trivial|apply And.intro|omega))⟩,⟨⟨_,_,_,_,rfl,rfl,rfl,rfl,rfl,rfl,(by first|trivial|(repeat' first|exact trivial|apply And.intro|omega))⟩,⟨⟨_,_,_,_,rfl,rfl,rfl,rfl,rfl,rfl,(by first|trivial|(repeat' first|exact trivial|apply And.intro|omega))⟩,trivial⟩⟩⟩ ?_
      refine wk 1 cz ?_
      refine Ab rfl (Cb (vs:=[Value.int IntKind.i64 u]) (z:=(u:Int)) 0 0 (i-1) rfl rfl rfl rfl rfl Bm (Nat.mul_one _).symm (by omega) (fun w A hG=>(Bh (by first|(simp only [Bf];omega)|(simp [Bf];done)))) fun cs2=>?_)
      refine wk 7 cz ?_
      intro h5 --ok
      rw [hsw,e1]
      refine Ag (X:=Nat×List Value×List Int) [0,1,2,7,8] [] (fun x=>[(9,.int .i64 (x.1:Int))]) (fun x=>[(some b,3,x.2.1)]) (fun x=>[Aw Ak ⟨some b,cap,x.2.1⟩ n x.2.2]) (fun x=>a≤x.1∧x.1≤i-1∧Seg a e l x.2.2∧ADm x.2.2 a i x.1) (fun x=>x.1) (i-1,cs2,L1) [0] rfl rfl rfl ⟨by dsimp only;omega,Nat.le_refl _,hS1,hq⟩ (by repeat (first|exact Fr.sub_nil _|refine Fr.sub_cons rfl ?_)) rfl rfl ?_
      clear hq hS1 hsw at_u at_v hu hv hx hT hS hLl
      clear L L1
      rintro ⟨j,cs,L⟩ ⟨hj1,hj2,hS,hq⟩ ihl
      simp only [List.cons_append,List.nil_append] at hj1 hj2 hS hq ihl ⊢
      have hLl:L.length=n:=hS.len.trans hl
      by_cases hj0:1≤j
      ·have at_u:=I8 (L:=L) (i:=j) (by omega)
       have at_v:=I8 (L:=L) (i:=j-1) (by omega)
       have hu:=Cu (hS.inR hr) (i:=j) (by omega)
       have hv:=Cu (hS.inR hr) (i:=j-1) (by omega)
       simp only [Bf] at hu hv
       by_cases hx:An L j<An L (j-1)
       ·have hja:a<j:=Nat.lt_of_le_of_ne hj1 fun c=>by
         subst c
         exact AIf (hlow.seg hS) (by omega) hae hx
        have ihl':=fun cs=>ihl (j-1,cs,sw L j (j-1)) (by dsimp only;omega) ⟨by dsimp only;omega,by dsimp only;omega,hS.trans (H3 (by omega) (by omega) (by omega) (by omega) (by omega)),Zy hq hja (by omega) (by omega) hx⟩
        dsimp only at ihl'
        rw [sw] at ihl'
        clear ihl kR
        generalize An L j=u at *
        generalize An L (j-1)=v at *
        refine wk 9 (ct @As cz) ?_
        intro h6 h7
        (apply Cy (x0:=none) it mx 0 15 [2,3,4] 1;(· rfl);(· rfl);(· rfl);(· decide))
        simp only [List.drop_zero]
        (apply Ae 5;(· rfl);(· exact ⟨⟨by omega,by omega⟩,trivial,trivial,trivial,trivial,trivial⟩))
        (apply Ae 2;(· rfl);(· simp))
        (apply Ac (v:=Value.int IntKind.i64 ((((j)-1:Nat)):Int));(· rfl);(· exact Bi fun _=>V0 it _ rfl ⟨by omega,by omega⟩ (by omega) Af))
        simp only [Nat.add_sub_cancel]
        (apply Ac;(· rfl);(· exact Bi fun _=>Ah (j-1) (j-1) rfl rfl Bj rfl (by omega) (Nat.mul_one _) Af))
        (apply Ac;(· rfl);(· exact A6 0 0 (j-1) rfl rfl rfl Bm rfl (by assumption)))
        (apply Ae 2;(· rfl);(· simp))
        (apply Ac;(· rfl);(· exact Bi fun _=>Ah (j) (j) rfl rfl Bj rfl (by omega) (Nat.mul_one _) Af))
        (apply Ac;(· rfl);(· exact A6 0 0 (j) rfl rfl rfl Bm rfl (by assumption)))
        (apply Ac;(· rfl);(· exact Bi fun _=>Ah (j) (j) rfl rfl Bj rfl (by omega) (Nat.mul_one _) Af)) --ok
        refine Cz rfl ?_
        rotate_left
        rfl
        simp only [List.map_nil,List.nil_append]
        refine C4 it rfl rfl ⟨⟨_,_,_,_,rfl,rfl,rfl,rfl,rfl,rfl,(by first|trivial|(repeat' first|exact trivial|apply And.intro|omega))⟩,⟨⟨_,_,_,_,rfl,rfl,rfl,rfl,rfl,rfl,(by first|trivial|(repeat' first|exact trivial|apply And.intro|omega))⟩,⟨⟨_,_,_,_,rfl,rfl,rfl,rfl,rfl,rfl,(by first|trivial|(repeat' first|exact trivial|apply And.intro|omega))⟩,trivial⟩⟩⟩ (Cb (vs:=[Value.int IntKind.i64 v]) (z:=(v:Int)) 0 0 (j) rfl rfl rfl rfl rfl Bm (Nat.mul_one _).symm (by omega) (fun w A hG=>(Bh (by first|(simp only [Bf];omega)|(simp [Bf];done)))) fun cs3=>?_)
        refine Dw it ⟨⟨_,_,_,_,rfl,rfl,rfl,rfl,rfl,rfl,(by first|trivial|(repeat' first|exact trivial|apply And.intro|omega))⟩,⟨⟨_,_,_,_,rfl,rfl,rfl,rfl,rfl,rfl,(by first|trivial|(repeat' first|exact trivial|apply And.intro|omega))⟩,⟨⟨_,_,_,_,rfl,rfl,rfl,rfl,rfl,rfl,(by first|trivial|(repeat' first|exact trivial|apply And.intro|omega))⟩,trivial⟩⟩⟩ ?_
        refine wk 1 cz ?_
        refine Ab rfl (Cb (vs:=[Value.int IntKind.i64 u]) (z:=(u:Int)) 0 0 (j-1) rfl rfl rfl rfl rfl Bm (Nat.mul_one _).symm (by omega) (fun w A hG=>(Bh (by first|(simp only [Bf];omega)|(simp [Bf];done)))) fun cs4=>?_)
        refine wk 3 cz ?_
        exact tw (ihl' cs4)
       ·have k':=kR cs L hS (Su hq hj1 (.inr hx))
        clear ihl kR
        generalize An L j=u at *
        generalize An L (j-1)=v at *
        refine wk 9 (ct @As cz) ?_
        intro h6 h7
        exact tw (k')
      ·have k':=kR cs L hS (Su hq hj1 (.inl (by omega)))
       clear ihl kR
       refine wk 5 cz ?_
       intro h6
       exact tw (k')
     ·have k':=fun cs=>kR cs L1 hS1 (Su hq (by omega) (.inl (by omega)))
      clear kR
      refine C4 it rfl rfl ⟨⟨_,_,_,_,rfl,rfl,rfl,rfl,rfl,rfl,(by first|trivial|(repeat' first|exact trivial|apply And.intro|omega))⟩,⟨⟨_,_,_,_,rfl,rfl,rfl,rfl,rfl,rfl,(by first|trivial|(repeat' first|exact trivial|apply And.intro|omega))⟩,⟨⟨_,_,_,_,rfl,rfl,rfl,rfl,rfl,rfl,(by first|trivial|(repeat' first|exact trivial|apply And.intro|omega))⟩,trivial⟩⟩⟩ (Cb (vs:=[Value.int IntKind.i64 v]) (z:=(v:Int)) 0 0 (i) rfl rfl rfl rfl rfl Bm (Nat.mul_one _).symm (by omega) (fun w A hG=>(Bh (by first|(simp only [Bf];omega)|(simp [Bf];done)))) fun cs1=>?_)
      refine Dw it ⟨⟨_,_,_,_,rfl,rfl,rfl,rfl,rfl,rfl,(by first|trivial|(repeat' first|exact trivial|apply And.intro|omega))⟩,⟨⟨_,_,_,_,rfl,rfl,rfl,rfl,rfl,rfl,(by first|trivial|(repeat' first|exact trivial|apply And.intro|omega))⟩,⟨⟨_,_,_,_,rfl,rfl,rfl,rfl,rfl,rfl,(by first|trivial|(repeat' first|exact trivial|apply And.intro|omega))⟩,trivial⟩⟩⟩ ?_
      refine wk 1 cz ?_
      refine Ab rfl (Cb (vs:=[Value.int IntKind.i64 u]) (z:=(u:Int)) 0 0 (i-1) rfl rfl rfl rfl rfl Bm (Nat.mul_one _).symm (by omega) (fun w A hG=>(Bh (by first|(simp only [Bf];omega)|(simp [Bf];done)))) fun cs2=>?_)
      refine wk 5 cz ?_
      intro h5
      rw [hsw]
      exact tw (k' cs2)
   ·have ih':=ih (i+1) (by omega) ⟨by omega,by omega,AHB hT hi1 hx⟩
    clear ih ihm'
    generalize An L i=u at *
    generalize An L (i-1)=v at *
    refine wk 7 (ct @As cz) ?_
    intro h2
    exact tw (ih')
  ·obtain rfl:i=e:=by omega
   clear ih ihm'
   refine wk 11 cz ?_
   intro h2 --ok
   exact E4 [0] rfl rfl rfl ⟨_,_,true,⟨hS,fun _=>hT⟩,rfl,rfl,rfl⟩
 ·clear ihm
  refine wk 7 cz ?_
  intro h1 --ok
  exact E4 [0] rfl rfl rfl ⟨_,_,false,⟨hS,fun h=>by cases h⟩,rfl,rfl,rfl⟩
end
open Go Go.Fw
set_option maxRecDepth 100000
set_option linter.unusedVariables false
set_option linter.unusedSimpArgs false
set_option maxHeartbeats 0
noncomputable def ADk:Fun Tryz.prog:=⟨136,Tryz.f136,_,Tryz.func136,rfl,rfl,none,[]⟩
theorem Zt {a b:Nat}(ha:a<18446744073709551616) (hb:b<18446744073709551616):a ^^^ b<18446744073709551616:=Nat.xor_lt_two_pow (n:=64) ha hb
theorem Nb {s x:Nat}(hx:x<18446744073709551616):Br Tryz.prog 136 [.pointer (some ⟨s,0,none⟩)] [(some s,161,[.int .u64 x])] []
  (fun v Φ β=>∃ y:Nat,y<18446744073709551616∧v = .int .u64 y∧Φ=[]∧β=[(some s,161,[.int .u64 y])]):=by
 have h1:=Zt hx (Nat.mod_lt (x*2 ^ 13) (by decide:18446744073709551616 > 0))
 have h2:=Zt h1 (Nat.lt_of_le_of_lt (Nat.div_le_self _ (2 ^ 7)) h1)
 have h3:=Zt h2 (Nat.mod_lt (((x ^^^ x*2 ^ 13 % 18446744073709551616) ^^^ ((x ^^^ x*2 ^ 13 % 18446744073709551616) / 2 ^ 7))*2 ^ 17) (by decide:18446744073709551616 > 0))
 refine Ad (F:=ADk) rfl fun C=>?_
 refine wk 3 cz ?_
 (apply Ch it mx 9;(· rfl);(· rfl))
 (apply Ae 2;(· rfl);(· simp))
 (apply Ac;(· rfl);(· exact Bn 0 rfl rfl AAL rfl))
 (apply Ae 2;(· rfl);(· simp))
 (apply Ac;(· rfl);(· exact Bn 0 rfl rfl AAL rfl))
 (apply Ac;(· rfl);(· exact Bi fun _=>AEw (x) 13 rfl rfl (by first|rfl|omega) (by omega) Af))
 (apply Ac;(· rfl);(· exact Bi fun _=>AB5 (x) (x*2 ^ 13 % 18446744073709551616) rfl rfl (by first|rfl|omega) (by first|rfl|omega) (by omega) (by omega) Af))
 (apply Ae 1;(· rfl);(· simp))
 refine B7 rfl ?_
 simp only [List.map_cons,List.map_nil,List.cons_append,List.nil_append]
 refine wk 2 cz ?_
 (apply Ch it mx 9;(· rfl);(· rfl))
 (apply Ae 2;(· rfl);(· simp))
 (apply Ac;(· rfl);(· exact Bn 0 rfl rfl AAL rfl))
 (apply Ae 2;(· rfl);(· simp))
 (apply Ac;(· rfl);(· exact Bn 0 rfl rfl AAL rfl))
 (apply Ac;(· rfl);(· exact Bi fun _=>AFz (x ^^^ x*2 ^ 13 % 18446744073709551616) 7 rfl rfl (by first|rfl|omega) (by first|rfl|omega) (by first|decide|(simp only [IntKind.bits];omega)) Af))
 (apply Ac;(· rfl);(· exact Bi fun _=>AB5 (x ^^^ x*2 ^ 13 % 18446744073709551616) ((x ^^^ x*2 ^ 13 % 18446744073709551616) / 2 ^ 7) rfl rfl (by first|rfl|omega) (by first|rfl|omega) (by omega) (by omega) Af))
 (apply Ae 1;(· rfl);(· simp))
 refine B7 rfl ?_
 simp only [List.map_cons,List.map_nil,List.cons_append,List.nil_append]
 refine wk 2 cz ?_
 (apply Ch it mx 9;(· rfl);(· rfl))
 (apply Ae 2;(· rfl);(· simp))
 (apply Ac;(· rfl);(· exact Bn 0 rfl rfl AAL rfl))
 (apply Ae 2;(· rfl);(· simp))
 (apply Ac;(· rfl);(· exact Bn 0 rfl rfl AAL rfl))
 (apply Ac;(· rfl);(· exact Bi fun _=>AEw (x ^^^ x*2 ^ 13 % 18446744073709551616 ^^^ (x ^^^ x*2 ^ 13 % 18446744073709551616) / 2 ^ 7) 17 rfl rfl (by first|rfl|omega) (by omega) Af))
 (apply Ac;(· rfl);(· exact Bi fun _=>AB5 (x ^^^ x*2 ^ 13 % 18446744073709551616 ^^^ (x ^^^ x*2 ^ 13 % 18446744073709551616) / 2 ^ 7) ((x ^^^ x*2 ^ 13 % 18446744073709551616 ^^^ (x ^^^ x*2 ^ 13 % 18446744073709551616) / 2 ^ 7)*2 ^ 17 % 18446744073709551616) rfl rfl (by first|rfl|omega) (by first|rfl|omega) (by omega) (by omega) Af))
 (apply Ae 1;(· rfl);(· simp))
 refine B7 rfl ?_
 simp only [List.map_cons,List.map_nil,List.cons_append,List.nil_append]
 refine wk 6 cz ?_ --ok
 refine E4 [] rfl rfl rfl ⟨_,h3,rfl,rfl,rfl⟩
theorem AGm (n:Nat):0<n→2 ^ Q9 n≤2*n:=by
 induction n using Nat.strongRecOn with
 | _ n ih =>
  intro h
  rw [Yv (by omega),Nat.pow_succ]
  by_cases h1:n / 2=0
  ·rw [h1,O4];omega
  ·have:=ih (n / 2) (by omega) (by omega)
   omega
theorem Pi {m:Nat}(h0:0<m) (hm:m<256):Br Tryz.prog 135 [.int .i64 m] [] []
  (fun v Φ β=>∃ y:Nat,0<y∧y≤2*m∧v = .int .u64 y∧Φ=[]∧β=[]):=by
 have h8:=ABX (n:=m) (k:=8) (by simpa using hm)
 have h9:=AGm m h0
 have h7:=Nat.pow_pos (a:=2) (n:=Q9 m) (by decide)
 refine Ad (F:=P2) rfl fun C=>?_
 refine wk 5 (ct @Y9 cz) ?_
 refine Ab rfl (AFw 1 (Q9 m) rfl rfl (by first|rfl|omega) (by first|rfl|omega) (by first|decide|(simp only [IntKind.bits];omega)) (by first|assumption|(simp only [Bf];omega)) ?_)
 refine wk 2 cz ?_ --ok
 rw [Nat.one_mul]
 refine E4 [] rfl rfl rfl ⟨_,h7,h9,rfl,rfl,rfl⟩
section
variable {b cap n a e:Nat}{cs:List Value}{l:List Int}
theorem H1 (hn:n≤255) (hr:∀ x∈l,Bf .i64 x) (hl:l.length=n) (hae:a≤e) (he:e≤n) :
  Br Tryz.prog 103 [.slice (some ⟨b,0,none⟩) n cap,.int .i64 a,.int .i64 e] [(some b,3,cs)] [Aw Ak ⟨some b,cap,cs⟩ n l] (U3 b cap n fun L=>Seg a e l L):=by
 refine Ad (F:=C9) rfl fun C=>?_
 obtain ⟨m,hm⟩:∃ m,e-a=m:=⟨_,rfl⟩
 have e1:(e:Int)-(a:Int)=(m:Int):=by omega
 obtain ⟨x0,hx0⟩:∃ x0,a+m / 4*2-1=x0:=⟨_,rfl⟩
 refine wk 4 cz ?_
 rw [e1]
 by_cases h8:8≤m
 ·refine wk 8 cz ?_
  intro h1 b1
  refine Ab rfl (Ai [] rfl (Pi (by omega) (by omega)) rfl ?_)
  rintro _ _ _ ⟨y1,h2,h3,rfl,rfl,rfl⟩
  simp only [List.cons_append,List.nil_append]
  refine wk 4 cz ?_ --ok
  rw [show (a:Int)+(m:Int) / 4*2-1=(x0:Int) by omega]
  refine Ag (X:=Nat×Nat×List Value×List Int) [0,1,6,7,8] [] (fun x=>[(9,.int .i64 (x.1:Int))]) (fun x=>[(some b1,161,[.int .u64 (x.2.1:Int)]),(some b,3,x.2.2.1)]) (fun x=>[Aw Ak ⟨some b,cap,x.2.2.1⟩ n x.2.2.2]) (fun x=>x0≤x.1∧x.1≤x0+3∧x.2.1<18446744073709551616∧Seg a e l x.2.2.2) (fun x=>x0+3-x.1) (x0,m,cs,l) [0] rfl rfl rfl ⟨Nat.le_refl _,by dsimp only;omega,by dsimp only;omega,.refl⟩ (by repeat (first|exact Fr.sub_nil _|refine Fr.sub_cons rfl ?_)) rfl rfl ?_
  rintro ⟨i,y,cs,L⟩ ⟨hi1,hi2,hy,hS⟩ ih
  simp only [List.cons_append,List.nil_append] at hi1 hi2 hy hS ih ⊢
  have M2:=Nb (s:=b1) (x:=y) hy
  by_cases hin:i≤x0+2
  ·have key2:∀ (y2 o:Nat),y2<18446744073709551616→o<m→J C9 C [.c (pL 15251),.blk 1,.c (pL 1907),.lp (pL 476),.blk 0]
     [(10,.int .i64 (o:Int)),(9,.int .i64 (i:Int)),(0,.slice (some ⟨b,0,none⟩) n cap),(1,.int .i64 (a:Int)),(6,.int .i64 (m:Int)),(7,.pointer (some ⟨b1,0,none⟩)),(8,.int .u64 (y1:Int))]
     [(some b1,161,[.int .u64 (y2:Int)]),(some b,3,cs)] [Aw Ak ⟨some b,cap,cs⟩ n L] (Ga C (U3 b cap n fun L=>Seg a e l L)):=by
    intro y2 o h5 ho
    have hsw:=H3 (L:=L) (a:=a) (b:=e) (i:=i) (j:=a+o) (by rw [hS.len];omega) (by omega) (by omega) (by omega) (by omega)
    have at_u:=I8 (L:=L) (i:=i) (by rw [hS.len];omega)
    have at_v:=I8 (L:=L) (i:=a+o) (by rw [hS.len];omega)
    have ih':=fun cs'=>ih (i+1,y2,cs',sw L i (a+o)) (by dsimp only;omega) ⟨by dsimp only;omega,by dsimp only;omega,h5,hS.trans hsw⟩
    have hu:=Cu (hS.inR hr) (i:=i) (by rw [hS.len];omega)
    have hv:=Cu (hS.inR hr) (i:=a+o) (by rw [hS.len];omega)
    simp only [Bf] at hu hv
    dsimp only at ih'
    rw [sw] at ih'
    generalize An L i=u at *
    generalize An L (a+o)=v at *
    clear ih
    (apply Cy (x0:=none) it mx 0 17 [2,3,4,5] 1;(· rfl);(· rfl);(· rfl);(· decide))
    simp only [List.drop_zero]
    (apply Ae 10;(· rfl);(· exact ⟨⟨by omega,by omega⟩,trivial,trivial,trivial,⟨by omega,by omega⟩,trivial,trivial,trivial,trivial,trivial,trivial⟩))
    (apply Ac;(· rfl);(· exact Bi fun _=>Ah ((a)+(o)) ((a)+(o)) rfl rfl Bj (by omega) (by omega) (Nat.mul_one _) Af))
    (apply Ac;(· rfl);(· exact A6 1 0 (a+o) rfl rfl rfl Bm rfl (by assumption)))
    (apply Ae 2;(· rfl);(· simp))
    (apply Ac;(· rfl);(· exact Bi fun _=>Ah (i) (i) rfl rfl Bj rfl (by omega) (Nat.mul_one _) Af))
    (apply Ac;(· rfl);(· exact A6 1 0 (i) rfl rfl rfl Bm rfl (by assumption)))
    (apply Ac;(· rfl);(· exact Bi fun _=>Ah (i) (i) rfl rfl Bj rfl (by omega) (Nat.mul_one _) Af))
    refine Cz rfl ?_
    (rotate_left;rfl;rotate_right)
    simp only [List.map_cons,List.map_nil,List.cons_append,List.nil_append]
    refine C4 it rfl rfl ⟨⟨_,_,_,_,rfl,rfl,rfl,rfl,rfl,rfl,(by first|trivial|(repeat' first|exact trivial|apply And.intro|omega))⟩,⟨⟨_,_,_,_,rfl,rfl,rfl,rfl,rfl,rfl,(by first|trivial|(repeat' first|exact trivial|apply And.intro|omega))⟩,⟨⟨_,_,_,_,rfl,rfl,rfl,rfl,rfl,rfl,(by first|trivial|(repeat' first|exact trivial|apply And.intro|omega))⟩,⟨⟨_,_,_,_,rfl,rfl,rfl,rfl,rfl,rfl,(by first|trivial|(repeat' first|exact trivial|apply And.intro|omega))⟩,trivial⟩⟩⟩⟩ (Cb (vs:=[Value.int IntKind.i64 v]) (z:=(v:Int)) 1 0 (i) rfl rfl rfl rfl rfl Bm (Nat.mul_one _).symm (by omega) (fun w A hG=>(Bh (by first|(simp only [Bf];omega)|(simp [Bf];done)))) fun cs1=>?_)
    refine Dw it ⟨⟨_,_,_,_,rfl,rfl,rfl,rfl,rfl,rfl,(by first|trivial|(repeat' first|exact trivial|apply And.intro|omega))⟩,⟨⟨_,_,_,_,rfl,rfl,rfl,rfl,rfl,rfl,(by first|trivial|(repeat' first|exact trivial|apply And.intro|omega))⟩,⟨⟨_,_,_,_,rfl,rfl,rfl,rfl,rfl,rfl,(by first|trivial|(repeat' first|exact trivial|apply And.intro|omega))⟩,⟨⟨_,_,_,_,rfl,rfl,rfl,rfl,rfl,rfl,(by first|trivial|(repeat' first|exact trivial|apply And.intro|omega))⟩,trivial⟩⟩⟩⟩ ?_
    refine wk 1 cz ?_
    refine Ab rfl (Cb (vs:=[Value.int IntKind.i64 u]) (z:=(u:Int)) 1 0 (a+o) rfl rfl rfl rfl rfl Bm (Nat.mul_one _).symm (by omega) (fun w A hG=>(Bh (by first|(simp only [Bf];omega)|(simp [Bf];done)))) fun cs2=>?_)
    refine wk 3 cz ?_
    exact tw (ih' cs2)
   refine Be [_,_,_,_,_] rfl ?_
   refine Au it 8 rfl ⟨trivial,⟨by omega,by omega⟩,⟨by omega,by omega⟩,⟨by omega,by omega⟩,⟨by omega,by omega,by omega,by omega⟩,trivial,trivial,trivial,trivial⟩ ?_
   refine Be [_,_,_,_] rfl ?_
   refine M1 rfl rfl (fun h4=>?_) (fun h4=>by exfalso;omega)
   refine Be [_,_,_,_,_,_] rfl ?_
   refine Ab rfl (Bt 0 [] rfl rfl (M2) rfl ?_)
   rintro _ _ _ ⟨y2,h5,rfl,rfl,rfl⟩
   simp only [List.cons_append,List.nil_append]
   refine Au it 2 rfl ⟨⟨by omega,by omega⟩,trivial,trivial⟩ ?_
   refine Ab rfl (AFq (y2) ((y1) - 1) rfl rfl (by first | rfl | omega) (by first | rfl | omega) (by omega) (by omega) ?_) --ok
   obtain ⟨o,ho⟩:∃ o,y2 &&& (y1-1)=o:=⟨_,rfl⟩
   have ho1:o≤y1-1:=ho▸Nat.and_le_right
   rw [ho]
   by_cases hom:m≤o
   ·refine wk 8 cz ?_
    intro h6
    rw [show (o:Int)-(m:Int)=((o-m:Nat):Int) by omega]
    skip --ok
    exact tw (key2 y2 (o-m) h5 (by omega))
   ·refine wk 6 cz ?_
    intro h6 --ok
    exact tw (key2 y2 o h5 (by omega))
  ·have key:∀ cs' L',Seg a e l L'→J C9 C [] [] [(some b,3,cs')] [Aw Ak ⟨some b,cap,cs'⟩ n L'] (Ga C (U3 b cap n fun L=>Seg a e l L)):=fun cs' L' h=>Cj [0] rfl rfl ⟨_,_,h,rfl,rfl,rfl⟩
   refine wk 5 cz ?_
   intro h4 --ok
   refine S2 [false,true] [0] (by exact Zr rfl) rfl rfl (key cs L hS)
 ·refine wk 3 cz ?_
  intro h1 --ok
  refine Cj [0] rfl rfl ⟨_,_,.refl,rfl,rfl,rfl⟩
end
open Go Go.Fw
set_option maxRecDepth 100000
set_option linter.unusedVariables false
set_option linter.unusedSimpArgs false
set_option maxHeartbeats 0
section
variable {b cap n:Nat}
theorem Ks (hn:n≤255):∀ (d:Nat) {a0 e0 k:Nat}{cs:List Value}{l:List Int},e0-a0=d→(∀ x∈l,Bf .i64 x)→l.length=n→a0≤e0→e0≤n→Zi l a0 e0→k≤1000 →
  Br Tryz.prog 68 [.slice (some ⟨b,0,none⟩) n cap,.int .i64 a0,.int .i64 e0,.int .i64 k] [(some b,3,cs)] [Aw Ak ⟨some b,cap,cs⟩ n l] (U3 b cap n fun L=>Seg a0 e0 l L∧Ft L a0 e0):=by
 intro d
 induction d using Nat.strongRecOn with
 | _ d rec =>
 intro a0 e0 k cs l hd hr hl hae he hlow hk
 refine Ad (F:=Ce) rfl fun C=>?_
 refine wk 5 cz ?_ --ok
 refine Ag (X:=Nat×Nat×Nat×Bool×Bool×List Value×List Int) [0] [] (fun x=>[(1,.int .i64 (x.1:Int)),(2,.int .i64 (x.2.1:Int)),(3,.int .i64 (x.2.2.1:Int)),(8,.bool x.2.2.2.1),(9,.bool x.2.2.2.2.1)]) (fun x=>[(some b,3,x.2.2.2.2.2.1)]) (fun x=>[Aw Ak ⟨some b,cap,x.2.2.2.2.2.1⟩ n x.2.2.2.2.2.2]) (fun x=>x.2.2.1≤1000∧PdI l x.2.2.2.2.2.2 a0 e0 x.1 x.2.1) (fun x=>x.2.1-x.1) (a0,e0,k,true,true,cs,l) [0] rfl rfl rfl ⟨hk,.start hae hlow⟩ (by repeat (first|exact Fr.sub_nil _|refine Fr.sub_cons rfl ?_)) rfl rfl ?_
 rintro ⟨a,e,k,wb,wp,cs,L⟩ ⟨hk,hI⟩ ih
 simp only [List.cons_append,List.nil_append] at hk hI ih ⊢
 have ih':=fun a' e' k' wb wp cs L h1 h2 h3=>ih (a',e',k',wb,wp,cs,L) h1 ⟨h2,h3⟩
 dsimp only at ih'
 clear ih
 have hae2:=hI.ae
 have haa:=hI.aa
 have hee:=hI.ee
 have hin:=hI.seg.inR hr
 have hlen:=hI.seg.len.trans hl
 by_cases h12:e-a≤12
 ·have H2:=Pc (b:=b) (cap:=cap) (cs:=cs) (l:=L) (a:=a) (e:=e) (n:=n) (by omega) hin hlen hae2 (by omega)
  refine wk 8 cz ?_
  intro h1
  refine Ab rfl (Bt 0 [0] rfl rfl (H2) rfl ?_)
  rintro _ _ _ ⟨cs'1,L1,h2,h3,rfl,rfl,rfl⟩
  simp only [List.cons_append,List.nil_append]
  refine wk 1 cz ?_ --ok
  refine E4 [0] rfl rfl rfl ⟨cs'1,L1,hI.done h2.1 h2.2,rfl,rfl,rfl⟩
 ·by_cases hk0:k=0
  ·have Ko:=Ka (b:=b) (cap:=cap) (cs:=cs) (l:=L) (a:=a) (e:=e) (n:=n) (by omega) hin hlen (by omega) (by omega)
   refine wk 12 cz ?_
   intro h1 h2
   refine Ab rfl (Bt 0 [0] rfl rfl (Ko) rfl ?_)
   rintro _ _ _ ⟨cs'1,L1,h3,h4,rfl,rfl,rfl⟩
   simp only [List.cons_append,List.nil_append]
   refine wk 1 cz ?_ --ok
   refine E4 [0] rfl rfl rfl ⟨cs'1,L1,hI.done h3.1 h3.2,rfl,rfl,rfl⟩
  ·have KA:∀ (k2:Nat) (cs2:List Value) (L2:List Int),k2≤1000→PdI l L2 a0 e0 a e→J Ce C [.c (pL 911),.blk 1,.lp [1,1,0,0],.blk 0]
     [(0,.slice (some ⟨b,0,none⟩) n cap),(1,.int .i64 (a:Int)),(2,.int .i64 (e:Int)),(3,.int .i64 (k2:Int)),(8,.bool wb),(9,.bool wp),(10,.int .i64 ((e-a:Nat):Int))]
     [(some b,3,cs2)] [Aw Ak ⟨some b,cap,cs2⟩ n L2] (Ga C (U3 b cap n fun L=>Seg a0 e0 l L∧Ft L a0 e0)):=by
    clear hin hlen hI hk hk0
    intro k2 cs2 L2 hk hI
    have hin:=hI.seg.inR hr
    have hlen:=hI.seg.len.trans hl
    have KB : ∀ (x h : Nat) (cs3 : List Value) (L3 : List Int), a ≤ x → x < e → h ≤ 2 → PdI l L3 a0 e0 a e → J Ce C [.c (pL 3647), .blk 1, .lp [1,1,0,0], .blk 0]
                    [(0, .slice (some ⟨b, 0, none⟩) n cap), (1, .int .i64 (a:Int)), (2, .int .i64 (e:Int)), (3, .int .i64 (k2:Int)), (8, .bool wb), (9, .bool wp), (10, .int .i64 ((e-a:Nat):Int)), (11, .int .i64 (x:Int)), (12, .int .i64 (h:Int))]
                    [(some b, 3, cs3)] [Aw Ak ⟨some b, cap, cs3⟩ n L3] (Ga C (U3 b cap n fun L => Seg a0 e0 l L∧Ft L a0 e0)) := by
     clear hin hlen hI
     intro x h cs3 L3 hax hxe hh hI
     have KC : ∀ (cs4 : List Value) (L4 : List Int), PdI l L4 a0 e0 a e → J Ce C [.c (pL 7295), .blk 1, .lp [1,1,0,0], .blk 0]
                   [(0, .slice (some ⟨b, 0, none⟩) n cap), (1, .int .i64 (a:Int)), (2, .int .i64 (e:Int)), (3, .int .i64 (k2:Int)), (8, .bool wb), (9, .bool wp), (10, .int .i64 ((e-a:Nat):Int)), (11, .int .i64 (x:Int))]
                   [(some b, 3, cs4)] [Aw Ak ⟨some b, cap, cs4⟩ n L4] (Ga C (U3 b cap n fun L => Seg a0 e0 l L∧Ft L a0 e0)) := by
      clear hI
      intro cs4 L4 hI
      have hin:=hI.seg.inR hr
      have hlen:=hI.seg.len.trans hl
      have KD : J Ce C [.c (pL 14591), .blk 1, .lp [1,1,0,0], .blk 0]
                  [(0, .slice (some ⟨b, 0, none⟩) n cap), (1, .int .i64 (a:Int)), (2, .int .i64 (e:Int)), (3, .int .i64 (k2:Int)), (8, .bool wb), (9, .bool wp), (10, .int .i64 ((e-a:Nat):Int)), (11, .int .i64 (x:Int))]
                  [(some b, 3, cs4)] [Aw Ak ⟨some b, cap, cs4⟩ n L4] (Ga C (U3 b cap n fun L => Seg a0 e0 l L∧Ft L a0 e0)) := by
       have Jr:=Jn (b:=b) (cap:=cap) (cs:=cs4) (l:=L4) (a:=a) (e:=e) (pv:=x) (n:=n) (by omega) hin hlen hax hxe (by omega)
       refine Be [_,_,_,_,_] rfl ?_
       refine Au it 4 rfl (by simp) ?_
       refine Ab rfl (Bt 0 [0] rfl rfl (Jr) rfl ?_)
       rintro _ _ _ ⟨cs'1,L1,m1,bo1,h1,rfl,rfl,rfl⟩
       simp only [List.cons_append,List.nil_append]
       refine Au it 5 rfl (by simp) ?_
       refine Be [_,_,_,_,_] rfl ?_
       refine Au it 2 rfl (by simp) ?_
       refine Be [_,_,_,_,_] rfl ?_
       refine Au it 2 rfl (by simp) ?_ --ok
       have ham:=h1.am
       have hme:=h1.me
       have hin1:=h1.seg.inR hin
       have hlen1:=h1.seg.len.trans hlen
       by_cases hlt:m1-a<e-m1
       ·have Cf:=rec (m1-a) (by omega) (a0:=a) (e0:=m1) (k:=k2) (cs:=cs'1) (l:=L1) rfl hin1 hlen1 (by omega) (by omega) ((hI.low.seg h1.seg).sub (by omega)) hk
        refine wk 11 cz ?_
        intro h2
        refine Ab rfl (Bt 0 [0] rfl rfl (Cf) rfl ?_)
        rintro _ _ _ ⟨cs'2,L5,h3,h4,rfl,rfl,rfl⟩
        simp only [List.cons_append,List.nil_append]
        refine wk 3 cz ?_ --ok
        rw [show (m1:Int)+1=((m1+1:Nat):Int) by omega]
        exact tw (ih' (m1+1) e k2 _ bo1 _ _ (by omega) hk (hI.left h1 h3.1 h3.2))
       ·have Cf:=rec (e-(m1+1)) (by omega) (a0:=m1+1) (e0:=e) (k:=k2) (cs:=cs'1) (l:=L1) rfl hin1 hlen1 (by omega) (by omega) (.inr fun i h2 h3=>by rw [Nat.add_sub_cancel];exact h1.hi i (by omega) h3) hk
        refine wk 11 cz ?_
        intro h2
        refine Ab rfl (Bt 0 [0] rfl rfl (Cf) rfl ?_)
        rintro _ _ _ ⟨cs'2,L5,h3,h4,rfl,rfl,rfl⟩
        simp only [List.cons_append,List.nil_append]
        refine wk 3 cz ?_ --ok
        exact tw (ih' a m1 k2 _ bo1 _ _ (by omega) hk (hI.right h1 h3.1 h3.2))
      by_cases ha0:a=0
      ·subst ha0
       refine wk 4 cz ?_
       refine Mj 1 [.c (pL 14591),.blk 1,.lp [1,1,0,0],.blk 0] rfl ?_ --ok
       exact tw (KD)
      ·have Hj:=Hq (b:=b) (cap:=cap) (cs:=cs4) (l:=L4) (a:=a) (e:=e) (pv:=x) (n:=n) (by omega) hin hlen hax hxe (by omega) rfl
       have at_u:=I8 (L:=L4) (i:=a-1) (by omega)
       have at_v:=I8 (L:=L4) (i:=x) (by omega)
       have heq:=fun (L5:List Int) (m:Nat) (q:PeE L4 L5 a e m (An L4 x)) (h:¬ An L4 (a-1)<An L4 x)=>hI.eq (by omega) (by omega) q
       have hu:=Cu hin (i:=a-1) (by omega)
       have hv:=Cu hin (i:=x) (by omega)
       simp only [Bf] at hu hv
       generalize An L4 (a-1)=u at *
       generalize An L4 x=v at *
       by_cases huv:u<v
       ·refine wk 4 (ct @As cz) ?_
        intro h1
        refine Mj 1 [.c (pL 14591),.blk 1,.lp [1,1,0,0],.blk 0] rfl ?_ --ok
        exact tw (KD)
       ·refine wk 6 (ct @As cz) ?_
        intro h1
        refine Ab rfl (Bt 0 [0] rfl rfl (Hj) rfl ?_)
        rintro _ _ _ ⟨cs'1,L1,m1,h2,rfl,rfl,rfl⟩
        simp only [List.cons_append,List.nil_append]
        refine wk 4 cz ?_ --ok
        have ham:=h2.am
        exact tw (ih' m1 e k2 wb wp cs'1 L1 (by omega) hk (heq L1 m1 h2 huv))
     have hin:=hI.seg.inR hr
     have hlen:=hI.seg.len.trans hl
     cases wb with
     | false =>
      refine wk 4 cz ?_
      refine Mj 1 [.c (pL 7295),.blk 1,.lp [1,1,0,0],.blk 0] rfl ?_ --ok
      exact tw (KC cs3 L3 hI)
     | true =>
      cases wp with
      | false =>
       refine wk 4 cz ?_
       refine Mj 1 [.c (pL 7295),.blk 1,.lp [1,1,0,0],.blk 0] rfl ?_ --ok
       exact tw (KC cs3 L3 hI)
      | true =>
       by_cases h1:h=1
       ·have F7:=Gb (b:=b) (cap:=cap) (cs:=cs3) (l:=L3) (a:=a) (e:=e) (n:=n) (by omega) hin hlen (by omega) (by omega) hI.low
        refine Be [_,_,_,_,_,_] rfl ?_
        refine Au it 8 rfl (by simp) ?_
        refine Be [_,_,_,_,_] rfl ?_
        refine M1 rfl rfl (fun h2=>?_) (fun h2=>by exfalso;omega)
        refine Be [_,_,_,_,_,_] rfl ?_
        refine Au it 3 rfl (by simp) ?_
        refine Ab rfl (Bt 0 [0] rfl rfl (F7) rfl ?_)
        rintro _ _ _ ⟨cs'1,L1,bo1,h3,h4,rfl,rfl,rfl⟩
        simp only [List.cons_append,List.nil_append]
        refine Be [_,_,_,_,_] rfl ?_ --ok
        subst h4
        cases bo1 with
        | true =>
         refine wk 1 cz ?_ --ok
         refine E4 [0] rfl rfl rfl ⟨cs'1,L1,hI.done h3.1 (h3.2 rfl),rfl,rfl,rfl⟩
        | false =>
         refine wk 1 cz ?_
         refine Mj 1 [.c (pL 7295),.blk 1,.lp [1,1,0,0],.blk 0] rfl ?_ --ok
         exact tw (KC cs'1 L1 (hI.seg2 h3.1))
       ·refine wk 4 cz ?_
        intro h2
        refine Mj 1 [.c (pL 7295),.blk 1,.lp [1,1,0,0],.blk 0] rfl ?_ --ok
        exact tw (KC cs3 L3 hI)
    have I1:=Iz (b:=b) (cap:=cap) (cs:=cs2) (l:=L2) (a:=a) (e:=e) (n:=n) (by omega) hlen (by omega) (by omega)
    have Ic:=Ig (b:=b) (cap:=cap) (cs:=cs2) (l:=L2) (a:=a) (e:=e) (n:=n) (by omega) hin hlen (by omega) (by omega)
    refine wk 2 cz ?_
    refine Ab rfl (Bt 0 [0] rfl rfl (I1) rfl ?_)
    rintro _ _ _ ⟨x1,h1,h2,h3,h4,rfl,rfl,rfl⟩
    simp only [List.cons_append,List.nil_append]
    refine wk 4 cz ?_
    refine M1 rfl rfl (fun h5=>?_) (fun h5=>?_) --ok
    ·refine wk 2 cz ?_
     refine Ab rfl (Bt 0 [0] rfl rfl (Ic) rfl ?_)
     rintro _ _ _ ⟨cs'1,L1,h6,rfl,rfl,rfl⟩
     simp only [List.cons_append,List.nil_append]
     refine wk 4 cz ?_
     refine Mj 1 [.c (pL 3647),.blk 1,.lp [1,1,0,0],.blk 0] rfl ?_ --ok
     rw [show (e:Int)-1-((x1:Int)-(a:Int))=((e-1-(x1-a):Nat):Int) by omega]
     exact tw (KB (e-1-(x1-a)) 1 cs'1 L1 (by omega) (by omega) (by omega) (hI.seg2 (by assumption)))
    ·refine Mj 1 [.c (pL 3647),.blk 1,.lp [1,1,0,0],.blk 0] rfl ?_ --ok
     exact tw (KB x1 h1 cs2 L2 (by omega) (by omega) (by omega) hI)
   cases wb with
   | true =>
    refine wk 12 cz ?_
    intro h1 h2
    rw [show (e:Int)-(a:Int)=((e-a:Nat):Int) by omega]
    refine wk 2 cz ?_
    refine Mj 1 [.c (pL 911),.blk 1,.lp [1,1,0,0],.blk 0] rfl ?_ --ok
    exact tw (KA k cs L hk hI)
   | false =>
    have H5:=H1 (b:=b) (cap:=cap) (cs:=cs) (l:=L) (a:=a) (e:=e) (n:=n) (by omega) hin hlen hae2 (by omega)
    refine wk 16 cz ?_
    intro h1 h2
    refine Ab rfl (Bt 0 [0] rfl rfl (H5) rfl ?_)
    rintro _ _ _ ⟨cs'1,L1,h3,rfl,rfl,rfl⟩
    simp only [List.cons_append,List.nil_append]
    refine wk 2 cz ?_
    refine Mj 1 [.c (pL 911),.blk 1,.lp [1,1,0,0],.blk 0] rfl ?_ --ok
    rw [show (e:Int)-(a:Int)=((e-a:Nat):Int) by omega,show (k:Int)-1=((k-1:Nat):Int) by omega]
    exact tw (KA (k-1) cs'1 L1 (by omega) (hI.seg2 (by assumption)))
end
open Go Go.Fw
set_option maxRecDepth 100000
set_option linter.unusedVariables false
set_option linter.unusedSimpArgs false
set_option maxHeartbeats 0
structure RvI (l L:List Int) (i:Nat):Prop where
 seg:Seg 0 l.length l L
 val:∀ k,k<l.length→An L k=if k<i∨l.length-1-k<i then An l (l.length-1-k) else An l k
theorem RvI.start {l:List Int}:RvI l l 0:=⟨.refl,fun k hk=>by rw [if_neg (by omega)]⟩
theorem RvI.step {l L:List Int}{i:Nat}(h:RvI l L i) (hi:i<l.length-1-i):RvI l (sw L i (l.length-1-i)) (i+1):=by
 have hlen:=h.seg.len
 refine ⟨h.seg.trans (H3 (by omega) (by omega) (by omega) (by omega) (by omega)),fun k hk=>?_⟩
 rw [Mh (by omega) (by omega)]
 by_cases c1:k=l.length-1-i
 ·rw [if_pos c1,h.val i (by omega),if_neg (by omega),if_pos (by omega)];congr 1;omega
 ·by_cases c2:k=i
  ·rw [if_neg c1,if_pos c2,h.val _ (by omega),if_neg (by omega),if_pos (by omega),c2]
  ·rw [if_neg c1,if_neg c2,h.val k hk]
   by_cases c3:k<i∨l.length-1-k<i
   ·rw [if_pos c3,if_pos (by omega)]
   ·rw [if_neg c3,if_neg (by omega)]
theorem RvI.fin {l L:List Int}{i:Nat}(h:RvI l L i) (hi:¬ i<l.length-1-i):L=l.reverse:=by
 refine List.ext_getElem (h.seg.len.trans List.length_reverse.symm) fun k h1 h2=>?_
 have hlen:=h.seg.len
 rw [← AAG h1,List.getElem_reverse,← AAG,h.val k (by omega)]
 by_cases c3:k<i∨l.length-1-k<i
 ·rw [if_pos c3]
 ·rw [if_neg c3];congr 1;omega
section
variable {b cap n:Nat}{cs:List Value}{l:List Int}
theorem Y5 (hn:n≤255) (hr:∀ x∈l,Bf .i64 x) (hl:l.length=n) :
  Br Tryz.prog 37 [.slice (some ⟨b,0,none⟩) n cap] [(some b,3,cs)] [Aw Ak ⟨some b,cap,cs⟩ n l] (U3 b cap n fun L=>Seg 0 n l L∧Ft L 0 n):=by
 refine Ad (F:=Nz) rfl fun C=>?_
 have h8:=ABX (n:=n) (k:=8) (by simpa using (show n<256 by omega))
 have Cf:=Ks (b:=b) (cap:=cap) (n:=n) hn (n-0) (a0:=0) (e0:=n) (k:=Q9 n) (cs:=cs) (l:=l) rfl hr hl (Nat.zero_le _) (Nat.le_refl _) (.inl rfl) (by omega)
 refine wk 7 (ct @Y9 cz) ?_
 refine Ab rfl (Bt 0 [0] rfl rfl (Cf) rfl ?_)
 rintro _ _ _ ⟨cs'1,L1,h1,h2,rfl,rfl,rfl⟩
 simp only [List.cons_append,List.nil_append]
 refine wk 1 cz ?_ --ok
 refine Cj [0] rfl rfl ⟨cs'1,L1,h1,rfl,rfl,rfl⟩
theorem V8 (hn:n≤1000000) (hr:∀ x∈l,Bf .i64 x) (hl:l.length=n) :
  Br Tryz.prog 38 [.slice (some ⟨b,0,none⟩) n cap] [(some b,3,cs)] [Aw Ak ⟨some b,cap,cs⟩ n l] (U3 b cap n fun L=>L=l.reverse):=by
 refine Ad (F:=Lh) rfl fun C=>?_
 refine wk 5 cz ?_ --ok
 rw [show (n:Int)-1=(n:Int)-1-((0:Nat):Int) by omega]
 refine Ag (X:=Nat×List Value×List Int) [0] [] (fun x=>[(2,.int .i64 (x.1:Int)),(3,.int .i64 ((n:Int)-1-(x.1:Int)))]) (fun x=>[(some b,3,x.2.1)]) (fun x=>[Aw Ak ⟨some b,cap,x.2.1⟩ n x.2.2]) (fun x=>x.1≤n∧RvI l x.2.2 x.1) (fun x=>n-x.1) (0,cs,l) [0] rfl rfl rfl ⟨Nat.zero_le _,.start⟩ (by repeat (first|exact Fr.sub_nil _|refine Fr.sub_cons rfl ?_)) rfl rfl ?_
 rintro ⟨i,cs,L⟩ ⟨hi,hI⟩ ih
 simp only [List.cons_append,List.nil_append] at hi hI ih ⊢
 by_cases hij:i<n-1-i
 ·have hLl:L.length=n:=hI.seg.len.trans hl
  obtain ⟨j,hj⟩:∃ j,n-1-i=j:=⟨_,rfl⟩
  rw [show (n:Int)-1-(i:Int)=(j:Int) by omega]
  have at_u:=I8 (L:=L) (i:=i) (by omega)
  have at_v:=I8 (L:=L) (i:=j) (by omega)
  have hu:=Cu (hI.seg.inR hr) (i:=i) (by omega)
  have hv:=Cu (hI.seg.inR hr) (i:=j) (by omega)
  simp only [Bf] at hu hv
  have ih':=fun cs=>ih (i+1,cs,sw L i j) (by dsimp only;omega) ⟨by dsimp only;omega,by have:=hI.step (by omega);rwa [hl,hj] at this⟩
  dsimp only at ih'
  rw [sw] at ih'
  generalize An L i=u at *
  generalize An L j=v at *
  clear ih
  refine wk 5 cz ?_
  intro h1
  (apply Cy (x0:=none) it mx 0 13 [2,3] 1;(· rfl);(· rfl);(· rfl);(· decide))
  simp only [List.drop_zero]
  (apply Ae 6;(· rfl);(· simp))
  (apply Ac;(· rfl);(· exact Bi fun _=>Ah (j) (j) rfl rfl Bj rfl (by omega) (Nat.mul_one _) Af))
  (apply Ac;(· rfl);(· exact A6 0 0 (j) rfl rfl rfl Bm rfl (by assumption)))
  (apply Ae 2;(· rfl);(· simp))
  (apply Ac;(· rfl);(· exact Bi fun _=>Ah (i) (i) rfl rfl Bj rfl (by omega) (Nat.mul_one _) Af))
  (apply Ac;(· rfl);(· exact A6 0 0 (i) rfl rfl rfl Bm rfl (by assumption)))
  (apply Ac;(· rfl);(· exact Bi fun _=>Ah (i) (i) rfl rfl Bj rfl (by omega) (Nat.mul_one _) Af))
  refine Cz rfl ?_
  (rotate_left;rfl;rotate_right)
  simp only [List.map_cons,List.map_nil,List.cons_append,List.nil_append]
  refine C4 it rfl rfl ⟨⟨_,_,_,_,rfl,rfl,rfl,rfl,rfl,rfl,(by first|trivial|(repeat' first|exact trivial|apply And.intro|omega))⟩,⟨⟨_,_,_,_,rfl,rfl,rfl,rfl,rfl,rfl,(by first|trivial|(repeat' first|exact trivial|apply And.intro|omega))⟩,trivial⟩⟩ (Cb (vs:=[Value.int IntKind.i64 v]) (z:=(v:Int)) 0 0 (i) rfl rfl rfl rfl rfl Bm (Nat.mul_one _).symm (by omega) (fun w A hG=>(Bh (by first|(simp only [Bf];omega)|(simp [Bf];done)))) fun cs1=>?_)
  refine Dw it ⟨⟨_,_,_,_,rfl,rfl,rfl,rfl,rfl,rfl,(by first|trivial|(repeat' first|exact trivial|apply And.intro|omega))⟩,⟨⟨_,_,_,_,rfl,rfl,rfl,rfl,rfl,rfl,(by first|trivial|(repeat' first|exact trivial|apply And.intro|omega))⟩,trivial⟩⟩ ?_
  refine wk 1 cz ?_
  refine Ab rfl (Cb (vs:=[Value.int IntKind.i64 u]) (z:=(u:Int)) 0 0 (j) rfl rfl rfl rfl rfl Bm (Nat.mul_one _).symm (by omega) (fun w A hG=>(Bh (by first|(simp only [Bf];omega)|(simp [Bf];done)))) fun cs2=>?_)
  refine wk 3 cz ?_ --ok
  rw [show (j:Int)-1=(n:Int)-1-((i+1:Nat):Int) by omega]
  exact tw (ih' cs2)
 ·clear ih
  have hfin:=hI.fin (by omega)
  refine wk 5 cz ?_
  intro h1 --ok
  refine Cj [0] rfl rfl ⟨cs,L,hfin,rfl,rfl,rfl⟩
end
open Go Go.Fw
set_option maxRecDepth 100000
set_option linter.unusedVariables false
set_option linter.unusedSimpArgs false
set_option maxHeartbeats 0
theorem AEs {n:Nat}{w:World}{A:Nat→Prop}:Fu Ak (List.replicate n [Value.int .i64 0]) (List.replicate n (0:Int)) w A :=
 ⟨by simp,fun i us y hu hy=>by
  rw [List.getElem?_replicate] at hu hy
  split at hu
  ·rw [if_pos (by assumption)] at hy
   obtain rfl:=Option.some.inj hu
   obtain rfl:=Option.some.inj hy
   exact Bh (by simp only [Bf];omega)
  ·cases hu⟩
theorem AAj {n:Nat}:(List.replicate n [Value.int .i64 0]).flatten=Ap .i64 (List.replicate n 0):=by
 simp [Ap]
theorem Zk {D:Int}:∀ {L:List Int}{j:Nat}(s:Int),j<L.length→tlI D (L.drop j) s=if D≤s+An L j then 0 else 1+tlI D (L.drop (j+1)) (s+An L j)
 | [],_,_,h=>absurd h (Nat.not_lt_zero _)
 | x::r,0,s,_=>by rw [List.drop_zero,tlI];rfl
 | x::r,j+1,s,h=>by
  rw [List.drop_succ_cons,List.drop_succ_cons,Zk s (by simpa using h)]
  rfl
noncomputable def tlE (P M:Int) (md:List Int) (N:Int) (Aa:List (List Int)) (dd:Int) (sets:List (List Int)) (racks:List Int) (W:Int):Int×Int :=
 if cfE P M md N Aa dd sets racks W≠0 then (0,cfE P M md N Aa dd sets racks W) else ((Mt racks N.toNat dd (Cr racks).length:Int),0)
section
variable {P M N dd W s b x e:Int}{n c nm cm nt ct nr cr:Nat}{pm ps pt pr:Option Addr}{md racks:List Int}{Aa sets:List (List Int)}
theorem Vl (hN:Bf .i64 N) (hd:Bf .i64 dd) (h:tlE P M md N Aa dd sets racks W=(x,e)):Br Tryz.prog 15 [.agg #[.int .i64 P,.int .i64 M,.slice pm nm cm,.int .i64 N,.slice ps n c,.int .i64 dd,.slice pt nt ct,.slice pr nr cr,.int .i64 W]] [] [A2 Ak pm nm cm md,A2 (Ar Ak) ps n c Aa,A2 (Ar Ak) pt nt ct sets,A2 Ak pr nr cr racks] (Rv (.tuple #[.int .i64 x,.int .i64 e]) []):=by
 refine Ad (F:=Vp) rfl fun C=>?_
 refine Bd 3 rfl fun hnr hb _=>?_
 have hcr:=AEG (P:=P) (M:=M) (N:=N) (dd:=dd) (md:=md) (Aa:=Aa) (sets:=sets) (racks:=racks) (W:=W)
 have D9:=fun {n c nm cm nt ct nr cr:Nat}{pm ps pt pr:Option Addr}=>Kz (P:=P) (M:=M) (N:=N) (dd:=dd) (md:=md) (Aa:=Aa) (sets:=sets) (racks:=racks) (W:=W) (n:=n) (c:=c) (nm:=nm) (cm:=cm) (nt:=nt) (ct:=ct) (nr:=nr) (cr:=cr) (pm:=pm) (ps:=ps) (pt:=pt) (pr:=pr) hN hd rfl
 rw [tlE] at h
 by_cases h0:cfE P M md N Aa dd sets racks W=0
 ·rw [if_neg (fun e=>e h0)] at h
  rw [h0] at D9
  obtain ⟨p,m,N,rfl,rfl,rfl,K⟩:=AIR h0
  have h64:=K.CC.n64
  obtain ⟨rfl,rfl⟩:=Prod.mk.inj h
  rw [Int.toNat_natCast]
  have hrf:=Lr K.r0
  have hr3:=K.r3
  have hr1:=K.r1
  have hr2:=K.r2
  have hr0:=K.r0
  subst hnr
  have hn1:=K.CC.n1
  have hr4:=K.r4
  refine wk 5 cz ?_
  intro b1
  refine Ab rfl (Ai [0,1,2,3] rfl (D9) rfl ?_)
  rintro _ _ _ ⟨rfl,rfl,rfl⟩
  simp only [List.cons_append,List.nil_append]
  refine wk 7 cz ?_
  intro h1
  refine Ab rfl (Ai [3] rfl (AB3 (by omega) (by omega) (by omega) (by omega)) rfl ?_)
  rintro _ _ _ ⟨pb1,cb1,rfl,rfl,rfl⟩
  simp only [List.cons_append,List.nil_append]
  simp only [decide_true]
  refine wk 11 cz ?_ --ok
  refine Ag (X:=Nat) [1,2,3,5,24] [0,1,2,3,4] (fun t=>[(25,.int .i64 (t:Int)),(6,.int .i64 (Mt racks N dd t:Int))]) (fun _=>_) (fun _=>[]) (fun t=>t≤(Cr racks).length) (fun t=>(Cr racks).length-t) 0 [] rfl rfl rfl (Nat.zero_le _) (by repeat (first|exact Fr.sub_nil _|refine Fr.sub_cons rfl ?_)) rfl rfl ?_
  rintro t ht ih
  simp only [List.cons_append,List.nil_append] at ht ih ⊢
  by_cases htl:t<(Cr racks).length
  ·refine wk 18 cz ?_
   intro h2 b2 --ok
   refine He (n:=racks.length) (E:=Ak) (List.replicate racks.length [Value.int .i64 0]) (List.replicate racks.length 0) 0 (fun w A _=>AEs) rfl AAj List.length_replicate.symm (by rw [Ap,List.length_map,List.length_replicate];exact (Nat.mul_one _).symm) (by omega) ?_
   refine Ag (X:=Nat×List Value) [1,2,3,5,6,7,8,24,25,26,27,28,29,30,31,32,33,34] [1,2,3,4,5] (fun x=>[(35,.int .i64 (x.1:Int))]) (fun x=>(some b2,3,x.2)::_) (fun x=>[Aw Ak ⟨some b2,racks.length,x.2⟩ racks.length (I9 racks t x.1)]) (fun x=>x.1≤N) (fun x=>N-x.1) (0,_) [0] rfl rfl rfl (Nat.zero_le _) (by repeat (first|exact Fr.sub_nil _|refine Fr.sub_cons rfl ?_)) rfl rfl ?_
   rintro ⟨i,cs⟩ hi ih2
   simp only [List.cons_append,List.nil_append] at hi ih2 ⊢
   by_cases hiN:i<N
   ·have hat:=K.at t i
    have hrk:=K.rack t i
    have ADZ:=fun {po:Option Addr}{no co:Nat}=>ADy (po:=po) (no:=no) (co:=co) (by omega) (by omega) hat
    have at_u:=I8 (L:=I9 racks t i) (i:=(Gr racks t i).2.toNat) (by rw [Ii];exact hrk.2)
    have hu:=Qj (by omega) (Kn (racks:=racks) (s:=t) i) (Gr racks t i).2.toNat
    have ih':=fun cs=>ih2 (i+1,cs) (by dsimp only;omega) (by dsimp only;omega)
    dsimp only at ih'
    rw [I9,AE3] at ih'
    clear ih2 ih
    generalize An (I9 racks t i) (Gr racks t i).2.toNat=u at *
    refine wk 8 cz ?_
    intro h3
    refine Ab rfl (Ai [1] rfl (ADZ) rfl ?_)
    rintro _ _ _ ⟨rfl,rfl,rfl⟩
    simp only [List.cons_append,List.nil_append]
    refine Ab rfl (AFe rfl rfl rfl rfl rfl ?_)
    refine wk 4 cz ?_
    intro hr5
    refine Ab rfl (Cb (vs:=[Value.int IntKind.i64 (u+1)]) (z:=(u+1:Int)) 0 0 ((Gr racks t i).snd.toNat) rfl rfl rfl rfl rfl Bm (Nat.mul_one _).symm (by omega) (fun w A hG=>(Bh (by first|(simp only [Bf];omega)|(simp [Bf];done)))) fun cs1=>?_)
    refine wk 3 cz ?_ --ok
    exact tw (ih' _)
   ·obtain rfl:i=N:=by omega
    clear ih2
    have Nx:=Y5 (b:=b2) (cap:=racks.length) (n:=racks.length) (cs:=cs) (l:=I9 racks t i) (by omega) (fun x hx=>by have:=Kn i x hx;simp only [Bf];omega) (Ii i)
    refine Be [_,_,_,_,_,_,_,_,_,_] rfl ?_
    refine Au it 1 rfl (by simp) ?_
    refine Be [_,_,_,_,_,_,_,_,_,_] rfl ?_
    refine M1 rfl rfl (fun h3=>by exfalso;omega) (fun h3=>?_)
    refine Be [_,_,_,_,_,_,_] rfl ?_
    refine Au it 1 rfl (by simp) ?_
    refine Ab rfl (Bt 0 [0] rfl rfl (Nx) rfl ?_)
    rintro _ _ _ ⟨cs'1,L1,h4,h5,rfl,rfl,rfl⟩
    simp only [List.cons_append,List.nil_append]
    refine Be [_,_,_,_,_,_,_] rfl ?_
    refine Au it 1 rfl (by simp) ?_ --ok
    have hdsc:=AHV (Ii i) h4.1 h4.2
    have hL1:=h4.1.len.trans (Ii i)
    have Gj:=V8 (b:=b2) (cap:=racks.length) (n:=racks.length) (cs:=cs'1) (l:=L1) (by omega) (h4.1.inR (fun x hx=>by have:=Kn i x hx;simp only [Bf];omega)) hL1
    rw [hdsc] at Gj
    have hQl:(W1 (I9 racks t i)).length=racks.length:=Te.length_eq.trans (Ii i)
    have hQr:∀ x∈W1 (I9 racks t i),0≤x∧x≤(i:Int):=fun x hx=>Kn i x (Te.mem_iff.1 hx)
    have htol:Mt racks i dd (t+1)=min (Mt racks i dd t) (tlI dd (W1 (I9 racks t i)) 0):=rfl
    have htl2:=ACf (racks:=racks) (N:=i) (D:=dd) t
    have ih':=ih (t+1) (by omega) (by omega)
    refine Ab rfl (Bt 0 [0] rfl rfl (Gj) rfl ?_)
    rintro _ _ _ ⟨cs'2,L2,rfl,rfl,rfl,rfl⟩
    simp only [List.cons_append,List.nil_append]
    refine wk 7 cz ?_ --ok
    generalize W1 (I9 racks t i)=Q at *
    refine Ag (X:=Nat×Int) [1,2,3,5,7,8,24,25,26,27,28,29,30,31,32,33,34,35,36,49,51,53,54] [0,3,4,5,6,7] (fun x=>[(55,.int .i64 (x.1:Int)),(10,.int .i64 x.2),(6,.int .i64 (Mt racks i dd t:Int))]) (fun _=>_) (fun _=>[]) (fun x=>x.1≤racks.length∧0≤x.2∧x.2≤64*(x.1:Int)∧tlI dd Q 0=x.1+tlI dd (Q.drop x.1) x.2) (fun x=>racks.length-x.1) (0,0) [] rfl rfl rfl ⟨Nat.zero_le _,Int.le_refl _,by dsimp only;omega,by simp⟩ (by repeat (first|exact Fr.sub_nil _|refine Fr.sub_cons rfl ?_)) rfl rfl ?_
    rintro ⟨j,s⟩ ⟨hj,hs0,hs1,hs⟩ ih3
    simp only [List.cons_append,List.nil_append] at hj hs0 hs1 hs ih3 ⊢
    by_cases hjl:j<racks.length
    ·have at_u:=I8 (L:=Q) (i:=j) (by omega)
     have hu:=Qj (by omega) hQr j
     have hst:=Zk (D:=dd) (L:=Q) (j:=j) s (by omega)
     generalize An Q j=u at *
     by_cases hD:dd≤s+u
     ·rw [if_pos hD] at hst
      rw [hst,Nat.add_zero] at hs
      rw [hs] at htol
      rw [htol] at ih'
      clear ih3 ih
      refine wk 20 cz ?_
      intro h6 hr5 h7
      refine Ab rfl (AA9 rfl rfl ?_)
      refine wk 4 cz ?_ --ok
      rw [show (if (j:Int)<(Mt racks i dd t:Int) then (j:Int) else (Mt racks i dd t:Int))=((min (Mt racks i dd t) j:Nat):Int) by by_cases hm:(j:Int)<(Mt racks i dd t:Int) <;> simp only [hm,if_true,if_false] <;> omega]
      refine S2 [false,true] [1,2,3,4,5] (by exact Zr rfl) rfl rfl (ih')
     ·rw [if_neg hD] at hst
      have ih3':=ih3 (j+1,s+u) (by dsimp only;omega) ⟨by dsimp only;omega,by dsimp only;omega,by dsimp only;omega,by dsimp only;omega⟩
      clear ih3 ih ih'
      refine wk 21 cz ?_
      intro h6 hr5 h7 --ok
      exact tw (ih3')
    ·obtain rfl:j=racks.length:=by omega
     rw [List.drop_of_length_le (by omega),tlI,Nat.add_zero] at hs
     rw [htol,hs,Nat.min_eq_left htl2] at ih'
     clear ih3 ih
     refine wk 7 cz ?_
     intro h6 --ok
     refine S2 [false,true] [1,2,3,4,5] (by exact Zr rfl) rfl rfl (ih')
  ·obtain rfl:t=(Cr racks).length:=by omega
   clear ih
   refine wk 7 cz ?_
   intro h2
   exact ge
 ·rw [if_pos h0] at h
  obtain ⟨rfl,rfl⟩:=Prod.mk.inj h
  refine wk 5 cz ?_
  intro b1
  refine Ab rfl (Ai [0,1,2,3] rfl (D9) rfl ?_)
  rintro _ _ _ ⟨rfl,rfl,rfl⟩
  simp only [List.cons_append,List.nil_append]
  refine wk 8 cz ?_
  intro h1
  exact ge
end
open Go Go.Fw
set_option maxRecDepth 100000
set_option linter.unusedVariables false
set_option linter.unusedSimpArgs false
set_option maxHeartbeats 0
theorem AFr {l:List Int}{r:Nat}(h:r<l.length):Bq (l.drop r)=An l r+Bq (l.drop (r+1)):=by
 rw [List.drop_eq_getElem_cons h,Bq,AAG h]
theorem AGr {l:List Int}{r:Nat}{y:Int}(h:r<l.length):rkL (l.drop r) y=if y<An l r then 0 else rkL (l.drop (r+1)) (y-An l r)+1:=by
 rw [List.drop_eq_getElem_cons h,rkL,AAG h]
section
variable {P M N dd W s b x e:Int}{n c nm cm nt ct nr cr:Nat}{pm ps pt pr:Option Addr}{md racks:List Int}{Aa sets:List (List Int)}
theorem Qc {z:Int}(h0:∀ x∈racks,0≤x) (hs:Bq racks≤256) (hz:0≤z) (hzs:z<Bq racks):Br Tryz.prog 70 [.agg #[.int .i64 P,.int .i64 M,.slice pm nm cm,.int .i64 N,.slice ps n c,.int .i64 dd,.slice pt nt ct,.slice pr nr cr,.int .i64 W],.int .i64 z] [] [A2 Ak pr nr cr racks] (Rv (.int .i64 (rkL racks z)) []):=by
 refine Ad (F:=Qp) rfl fun C=>?_
 refine Bd 0 rfl fun hnr hb _=>?_
 subst hnr
 have hb:racks.length*8≤140737488355328:=hb
 refine wk 6 cz ?_
 intro b1 --ok
 refine Ag (X:=Nat×Int) [2,4] [0] (fun x=>[(5,.int .i64 (x.1:Int)),(1,.int .i64 x.2)]) (fun _=>_) (fun _=>[]) (fun x=>x.1≤racks.length∧0≤x.2∧x.2≤z∧x.2<Bq (racks.drop x.1)∧rkL racks z=x.1+rkL (racks.drop x.1) x.2) (fun x=>racks.length-x.1) (0,z) [] rfl rfl rfl ⟨Nat.zero_le _,hz,Int.le_refl _,hzs,by simp⟩ (by repeat (first|exact Fr.sub_nil _|refine Fr.sub_cons rfl ?_)) rfl rfl ?_
 rintro ⟨r,y⟩ ⟨hr,hy0,hy1,hys,hrk⟩ ih
 simp only [List.cons_append,List.nil_append] at hr hy0 hy1 hys hrk ih ⊢
 have hrl:r<racks.length:=by
  by_cases h:r<racks.length
  ·exact h
  ·rw [List.drop_of_length_le (by omega),Bq] at hys;omega
 have at_u:=I8 (L:=racks) (i:=r) hrl
 have hu0:=h0 _ (List.mem_of_getElem? at_u)
 have hsd:=AFr hrl
 have hrd:=AGr (y:=y) hrl
 rw [hsd] at hys
 rw [hrd] at hrk
 clear hsd hrd
 generalize An racks r=u at *
 by_cases hyu:y<u
 ·rw [if_pos hyu] at hrk
  clear ih
  rw [show rkL racks z=r by omega]
  refine wk 6 cz ?_
  intro b2 o1 hz1
  refine Ab rfl (Aj 0 rfl rfl Bm fun ⟨r1,r2⟩=>?_)
  refine wk 6 cz ?_
  intro h1
  exact ge
 ·rw [if_neg hyu] at hrk
  have ih':=ih (r+1,y-u) (by dsimp only;omega) ⟨by dsimp only;omega,by dsimp only;omega,by dsimp only;omega,by dsimp only;omega,by dsimp only;omega⟩
  clear ih
  refine wk 6 cz ?_
  intro b2 o1 hz1
  refine Ab rfl (Aj 0 rfl rfl Bm fun ⟨r1,r2⟩=>?_)
  refine wk 9 cz ?_
  intro h1 b3 o2 hz2
  refine Ab rfl (Aj 0 rfl rfl Bm fun ⟨r3,r4⟩=>?_)
  refine wk 4 cz ?_ --ok
  exact tw (ih')
end
open Go Go.Fw
set_option maxRecDepth 100000
set_option linter.unusedVariables false
set_option linter.unusedSimpArgs false
set_option maxHeartbeats 0
def DsS (L:List Int) (i:Nat):Prop:=∀ u v,u<v→v<i→An L v≤An L u
theorem AIa {L:List Int}{i j:Nat}(h:DsS L i) (hj:j<i) (hi:i<L.length) (hk:∀ k,k<j→An L i≤An L k) (hx:An L j<An L i) :
  DsS (sw L i j) i∧∀ k,k<j+1→An (sw L i j) i≤An (sw L i j) k:=by
 have e:∀ a,An (sw L i j) a=if a=j then An L i else if a=i then An L j else An L a:=fun a=>Mh (by omega) (by omega)
 refine ⟨fun u v huv hv=>?_,fun k hk2=>?_⟩
 ·rw [e,e,if_neg (show ¬ v=i by omega),if_neg (show ¬ u=i by omega)]
  by_cases c1:v=j
  ·rw [if_pos c1,if_neg (by omega)];exact hk u (by omega)
  ·rw [if_neg c1]
   by_cases c2:u=j
   ·rw [if_pos c2];have:=h j v (by omega) hv;omega
   ·rw [if_neg c2];exact h u v huv hv
 ·rw [e,e,if_neg (show ¬ i=j by omega),if_pos rfl,if_neg (show ¬ k=i by omega)]
  by_cases c1:k=j
  ·rw [if_pos c1];omega
  ·rw [if_neg c1];exact h k j (by omega) hj
theorem AHT {L:List Int}{i:Nat}(h:DsS L i) (hk:∀ k,k<i→An L i≤An L k):DsS L (i+1):=fun u v huv hv=>by
 by_cases c:v=i
 ·rw [c];exact hk u (by omega)
 ·exact h u v huv (by omega)
section
variable {dd W:Int}{p m N n c nm cm nt ct nr cr s:Nat}{pm ps pt pr:Option Addr}{md racks:List Int}{Aa sets:List (List Int)}
theorem Pf (K:CfOk p m md N Aa dd sets racks W) (hs:s≤1000):Br Tryz.prog 39 [.agg #[.int .i64 p,.int .i64 m,.slice pm nm cm,.int .i64 N,.slice ps n c,.int .i64 dd,.slice pt nt ct,.slice pr nr cr,.int .i64 W],.int .i64 s] [] [A2 Ak pr nr cr racks]
  (fun v Φ β=>∃ pa,v = .slice pa racks.length racks.length∧Φ=[A2 Ak pa racks.length racks.length (W1 (I9 racks s N))]∧β=[]):=by
 refine Ad (F:=O9) rfl fun C=>?_
 refine Bd 0 rfl fun hnr hb _=>?_
 subst hnr
 have hrf:=Lr K.r0
 have hr3:=K.r3
 have hr2:=K.r2
 have hr1:=K.r1
 have h64:=K.CC.n64
 refine wk 12 cz ?_
 intro b1 b2 --ok
 refine He (n:=racks.length) (E:=Ak) (List.replicate racks.length [Value.int .i64 0]) (List.replicate racks.length 0) 0 (fun w A _=>AEs) rfl AAj List.length_replicate.symm (by rw [Ap,List.length_map,List.length_replicate];exact (Nat.mul_one _).symm) (by omega) ?_
 refine Ag (X:=Nat×List Value) [1,2,4,5] [1] (fun x=>[(6,.int .i64 (x.1:Int))]) (fun x=>(some b2,3,x.2)::_) (fun x=>[Aw Ak ⟨some b2,racks.length,x.2⟩ racks.length (I9 racks s x.1)]) (fun x=>x.1≤N) (fun x=>N-x.1) (0,_) [0] rfl rfl rfl (Nat.zero_le _) (by repeat (first|exact Fr.sub_nil _|refine Fr.sub_cons rfl ?_)) rfl rfl ?_
 rintro ⟨i,cs⟩ hi ih
 simp only [List.cons_append,List.nil_append] at hi ih ⊢
 by_cases hiN:i<N
 ·have hat:=K.at s i
  have hrk:=K.rack s i
  have hmem:=List.mem_of_getElem? hat
  have hrg:=ACG K.r0 (K:=(If 0 racks).toNat) hmem
  have hrr:=AHG K.r0 (K:=(If 0 racks).toNat) hmem
  have Ti:=fun {P M N dd W:Int}{n c nm cm nt ct nr cr:Nat}{pm ps pt pr:Option Addr}=>Tj (P:=P) (M:=M) (N:=N) (dd:=dd) (W:=W) (n:=n) (c:=c) (nm:=nm) (cm:=cm) (nt:=nt) (ct:=ct) (nr:=nr) (cr:=cr) (pm:=pm) (ps:=ps) (pt:=pt) (pr:=pr) K.r0 K.r3 (show i≤1000 by omega) hat
  have Im:=fun {P M N dd W:Int}{n c nm cm nt ct nr cr:Nat}{pm ps pt pr:Option Addr}=>Qc (P:=P) (M:=M) (N:=N) (dd:=dd) (W:=W) (n:=n) (c:=c) (nm:=nm) (cm:=cm) (nt:=nt) (ct:=ct) (nr:=nr) (cr:=cr) (pm:=pm) (ps:=ps) (pt:=pt) (pr:=pr) K.r0 K.r3 hrg.1 hrg.2.1
  rw [show rkL racks (Gr racks s i).1=(Gr racks s i).2.toNat by omega] at Im
  have at_u:=I8 (L:=I9 racks s i) (i:=(Gr racks s i).2.toNat) (by rw [Ii];exact hrk.2)
  have hu:=Qj (by omega) (Kn (racks:=racks) (s:=s) i) (Gr racks s i).2.toNat
  have ih':=fun cs=>ih (i+1,cs) (by dsimp only;omega) (by dsimp only;omega)
  dsimp only at ih'
  rw [I9,AE3] at ih'
  clear ih
  have hro:=hrk.2
  generalize An (I9 racks s i) (Gr racks s i).2.toNat=u at *
  refine wk 9 cz ?_
  intro h1
  (apply Ch it mx 10;(· rfl);(· rfl))
  (apply Ae 1;(· rfl);(· simp))
  (apply Ac;(· rfl);(· exact B2 1 rfl rfl AF4 rfl))
  (apply Ac;(· rfl);(· exact B2 1 rfl rfl AF4 rfl))
  (apply Ae 2;(· rfl);(· simp))
  (apply Ac;(· rfl);(· exact Bi fun _=>Ai [1] rfl (Ti) rfl (by rintro _ _ _ ⟨rfl,rfl,rfl⟩;exact Af)))
  (apply Ac;(· rfl);(· exact Bi fun _=>Ai [1] rfl (Im) rfl (by rintro _ _ _ ⟨rfl,rfl,rfl⟩;exact Af)))
  (apply Ac;(· rfl);(· exact Bi fun _=>Ah ((Gr racks s i).snd.toNat) ((Gr racks s i).snd.toNat) rfl rfl Bj rfl (by omega) (Nat.mul_one _) Af))
  (apply Ac;(· rfl);(· exact A6 0 0 ((Gr racks s i).snd.toNat) rfl rfl rfl Bm rfl (by assumption)))
  (apply Ae 1;(· rfl);(· exact ⟨⟨by omega,by omega⟩,trivial⟩))
  refine B7 rfl ?_
  simp only [List.map_cons,List.map_nil,List.cons_append,List.nil_append]
  refine wk 1 cz ?_
  refine Ab rfl (Cb (vs:=[Value.int IntKind.i64 (u+1)]) (z:=(u+1:Int)) 0 0 ((Gr racks s i).snd.toNat) rfl rfl rfl rfl rfl Bm (Nat.mul_one _).symm (by omega) (fun w A hG=>(Bh (by first|(simp only [Bf];omega)|(simp [Bf];done)))) fun cs1=>?_)
  refine wk 3 cz ?_ --ok
  exact tw (ih' _)
 ·obtain rfl:i=N:=by omega
  clear ih
  refine wk 11 cz ?_
  intro h1 --ok
  have hQl:(I9 racks s i).length=racks.length:=Ii i
  have hQr:=Kn (racks:=racks) (s:=s) i
  generalize I9 racks s i=Q at *
  refine Ag (X:=Nat×List Value×List Int) [4,5] [] (fun x=>[(7,.int .i64 (x.1:Int))]) (fun x=>(some b2,3,x.2.1)::_) (fun x=>[Aw Ak ⟨some b2,racks.length,x.2.1⟩ racks.length x.2.2]) (fun x=>x.1≤racks.length∧x.2.2.Perm Q∧DsS x.2.2 x.1) (fun x=>racks.length-x.1) (0,cs,Q) [0] rfl rfl rfl ⟨Nat.zero_le _,.refl _,fun u v h1 h2=>absurd h2 (Nat.not_lt_zero _)⟩ (by repeat (first|exact Fr.sub_nil _|refine Fr.sub_cons rfl ?_)) rfl rfl ?_
  rintro ⟨a,cs,L⟩ ⟨ha,hp,hds⟩ ih
  simp only [List.cons_append,List.nil_append] at ha hp hds ih ⊢
  by_cases hal:a<racks.length
  ·refine wk 9 cz ?_
   intro h2 --ok
   refine Ag (X:=Nat×List Value×List Int) [4,5,7,32,33,34,35] [] (fun x=>[(8,.int .i64 (x.1:Int))]) (fun x=>(some b2,3,x.2.1)::_) (fun x=>[Aw Ak ⟨some b2,racks.length,x.2.1⟩ racks.length x.2.2]) (fun x=>x.1≤a∧x.2.2.Perm Q∧DsS x.2.2 a∧∀ k,k<x.1→An x.2.2 a≤An x.2.2 k) (fun x=>a-x.1) (0,cs,L) [0] rfl rfl rfl ⟨Nat.zero_le _,hp,hds,fun k h1=>absurd h1 (Nat.not_lt_zero _)⟩ (by repeat (first|exact Fr.sub_nil _|refine Fr.sub_cons rfl ?_)) rfl rfl ?_
   clear hp hds
   rintro ⟨j,cs,L⟩ ⟨hj,hp,hds,hk⟩ ih2
   simp only [List.cons_append,List.nil_append] at hj hp hds hk ih2 ⊢
   have hLl:L.length=racks.length:=hp.length_eq.trans hQl
   have hLr:∀ x∈L,0≤x∧x≤(i:Int):=fun x hx=>hQr x (hp.mem_iff.1 hx)
   by_cases hja:j<a
   ·have at_u:=I8 (L:=L) (i:=a) (by omega)
    have at_v:=I8 (L:=L) (i:=j) (by omega)
    have hu:=Qj (by omega) hLr a
    have hv:=Qj (by omega) hLr j
    by_cases hx:An L j<An L a
    ·have hsw:=AIa hds hja (by omega) hk hx
     have ih':=fun cs=>ih2 (j+1,cs,sw L a j) (by dsimp only;omega) ⟨by dsimp only;omega,(AEv (by omega) (by omega)).trans hp,hsw.1,hsw.2⟩
     dsimp only at ih'
     rw [sw] at ih'
     have at_w:(L.set a (An L j))[j]?=some (An L j):=by rw [List.getElem?_set_ne (by omega)];exact at_v
     clear ih2 ih hsw
     generalize An L a=u at *
     generalize An L j=v at *
     refine wk 18 cz ?_
     intro h3 h4 hr4 hr5
     refine Ab rfl (Cb (vs:=[Value.int IntKind.i64 v]) (z:=(v:Int)) 0 0 (a) rfl rfl rfl rfl rfl Bm (Nat.mul_one _).symm (by omega) (fun w A hG=>(Bh (by first|(simp only [Bf];omega)|(simp [Bf];done)))) fun cs1=>?_)
     refine wk 3 cz ?_
     refine Ab rfl (Cb (vs:=[Value.int IntKind.i64 u]) (z:=(u:Int)) 0 0 (j) rfl rfl rfl rfl rfl Bm (Nat.mul_one _).symm (by omega) (fun w A hG=>(Bh (by first|(simp only [Bf];omega)|(simp [Bf];done)))) fun cs2=>?_)
     refine wk 3 cz ?_ --ok
     exact tw (ih' _)
    ·have ih':=ih2 (j+1,cs,L) (by dsimp only;omega) ⟨by dsimp only;omega,hp,hds,fun k h1=>by
      by_cases c:k=j
      ·subst c;exact Int.not_lt.1 hx
      ·exact hk k (by dsimp only at h1;omega)⟩
     clear ih2 ih
     generalize An L a=u at *
     generalize An L j=v at *
     refine wk 11 cz ?_
     intro h3 h4 --ok
     exact tw (ih')
   ·obtain rfl:j=a:=by omega
    have ih':=ih (j+1,cs,L) (by dsimp only;omega) ⟨by dsimp only;omega,hp,AHT hds hk⟩
    clear ih ih2
    refine wk 7 cz ?_
    intro h3 --ok
    exact tw (ih')
  ·obtain rfl:a=racks.length:=by omega
   clear ih
   have hfin:=AGn hp (fun u v h1 h2=>hds u v h1 (by rw [hp.length_eq,hQl] at h2;exact h2))
   rw [hfin]
   refine wk 9 cz ?_
   intro h2 --ok
   refine Ev 0 0 rfl rfl (by show racks.length*8≤140737488355328;omega) ?_
   simp only [List.eraseIdx_cons_zero,List.eraseIdx_cons_succ]
   refine Gl [0] rfl rfl rfl ⟨_,rfl,rfl,rfl⟩
end
open Go Go.Fw
set_option maxRecDepth 100000
set_option linter.unusedVariables false
set_option linter.unusedSimpArgs false
set_option maxHeartbeats 0
section
variable {P M N dd W:Int}{x e:Int}{n c nm cm nt ct nr cr:Nat}{pm ps pt pr:Option Addr}{md racks:List Int}{Aa sets:List (List Int)}
theorem K7 (hN:Bf .i64 N) (hd:Bf .i64 dd) (h:tlE P M md N Aa dd sets racks W=(x,e)):Br Tryz.prog 16 [.agg #[.int .i64 P,.int .i64 M,.slice pm nm cm,.int .i64 N,.slice ps n c,.int .i64 dd,.slice pt nt ct,.slice pr nr cr,.int .i64 W]] [] [A2 Ak pm nm cm md,A2 (Ar Ak) ps n c Aa,A2 (Ar Ak) pt nt ct sets,A2 Ak pr nr cr racks] (Rv (.tuple #[.int .i64 x,.int .i64 e]) []):=by
 refine Ad (F:=K2) rfl fun C=>?_
 refine Bd 3 rfl fun hnr hb _=>?_
 have hcr:=AEG (P:=P) (M:=M) (N:=N) (dd:=dd) (md:=md) (Aa:=Aa) (sets:=sets) (racks:=racks) (W:=W)
 have Dx:=fun {n c nm cm nt ct nr cr:Nat}{pm ps pt pr:Option Addr}=>J5 (P:=P) (M:=M) (N:=N) (dd:=dd) (md:=md) (Aa:=Aa) (sets:=sets) (racks:=racks) (W:=W) (n:=n) (c:=c) (nm:=nm) (cm:=cm) (nt:=nt) (ct:=ct) (nr:=nr) (cr:=cr) (pm:=pm) (ps:=ps) (pt:=pt) (pr:=pr) hN hd rfl
 rw [tlE] at h
 by_cases h0:cfE P M md N Aa dd sets racks W=0
 ·rw [if_neg (fun e=>e h0)] at h
  rw [h0] at Dx
  obtain ⟨p,m,N,rfl,rfl,rfl,K⟩:=AIR h0
  have h64:=K.CC.n64
  obtain ⟨rfl,rfl⟩:=Prod.mk.inj h
  rw [Int.toNat_natCast]
  have hrf:=Lr K.r0
  have hr3:=K.r3
  have hr1:=K.r1
  have hr2:=K.r2
  subst hnr
  have A4:=fun {P M N dd W:Int}{n c nm cm nt ct nr cr:Nat}{pm ps pt pr:Option Addr}=>D6 (P:=P) (M:=M) (N:=N) (dd:=dd) (W:=W) (n:=n) (c:=c) (nm:=nm) (cm:=cm) (nt:=nt) (ct:=ct) (nr:=nr) (cr:=cr) (pm:=pm) (ps:=ps) (pt:=pt) (pr:=pr) K.r0 (by omega)
  rw [← hrf] at A4
  refine wk 5 cz ?_
  intro b1
  refine Ab rfl (Ai [0,1,2,3] rfl (Dx) rfl ?_)
  rintro _ _ _ ⟨rfl,rfl,rfl⟩
  simp only [List.cons_append,List.nil_append]
  refine wk 13 cz ?_
  intro h1 --ok
  refine Ag (X:=Nat) [1,2,3] [0,1,2,3] (fun t=>[(6,.int .i64 (t:Int)),(5,.int .i64 (Mt racks N dd t:Int))]) (fun _=>_) (fun _=>[]) (fun t=>t≤(Cr racks).length) (fun t=>(Cr racks).length-t) 0 [] rfl rfl rfl (Nat.zero_le _) (by repeat (first|exact Fr.sub_nil _|refine Fr.sub_cons rfl ?_)) rfl rfl ?_
  rintro t ht ih
  simp only [List.cons_append,List.nil_append] at ht ih ⊢
  by_cases htl:t<(Cr racks).length
  ·have P6:=fun {n c nm cm nt ct nr cr:Nat}{pm ps pt pr:Option Addr}=>Pf (n:=n) (c:=c) (nm:=nm) (cm:=cm) (nt:=nt) (ct:=ct) (nr:=nr) (cr:=cr) (pm:=pm) (ps:=ps) (pt:=pt) (pr:=pr) K (s:=t) (by omega)
   have hQl:(W1 (I9 racks t N)).length=racks.length:=Te.length_eq.trans (Ii N)
   have hQr:∀ x∈W1 (I9 racks t N),0≤x∧x≤(N:Int):=fun x hx=>Kn N x (Te.mem_iff.1 hx)
   have htol:Mt racks N dd (t+1)=min (Mt racks N dd t) (tlI dd (W1 (I9 racks t N)) 0):=rfl
   have htl2:=ACf (racks:=racks) (N:=N) (D:=dd) t
   have ih':=ih (t+1) (by omega) (by omega)
   generalize W1 (I9 racks t N)=Q at *
   refine wk 3 cz ?_
   refine Ab rfl (Ai [3] rfl (A4) rfl ?_)
   rintro _ _ _ ⟨rfl,rfl,rfl⟩
   simp only [List.cons_append,List.nil_append]
   refine wk 6 cz ?_
   intro h2
   refine Ab rfl (Ai [3] rfl (P6) rfl ?_)
   rintro _ _ _ ⟨pa1,rfl,rfl,rfl⟩
   simp only [List.cons_append,List.nil_append]
   refine wk 6 cz ?_ --ok
   refine Ag (X:=Nat×Int) [1,2,3,5,6,7,18,19,20,21,24,25,26] [0,1,2,3,4] (fun x=>[(9,.int .i64 (x.1:Int)),(8,.int .i64 x.2)]) (fun _=>_) (fun _=>[]) (fun x=>x.1≤racks.length∧0≤x.2∧x.2≤64*(x.1:Int)∧tlI dd Q 0=x.1+tlI dd (Q.drop x.1) x.2) (fun x=>racks.length-x.1) (0,0) [] rfl rfl rfl ⟨Nat.zero_le _,Int.le_refl _,by dsimp only;omega,by simp⟩ (by repeat (first|exact Fr.sub_nil _|refine Fr.sub_cons rfl ?_)) rfl rfl ?_
   rintro ⟨j,s⟩ ⟨hj,hs0,hs1,hs⟩ ih3
   simp only [List.cons_append,List.nil_append] at hj hs0 hs1 hs ih3 ⊢
   by_cases hjl:j<racks.length
   ·have at_u:Q[j]?=some (Q.getD j default):=I8 (L:=Q) (i:=j) (by omega)
    have hu:0≤Q.getD j default∧Q.getD j default≤(N:Int):=Qj (by omega) hQr j
    have hst:tlI dd (Q.drop j) s=if dd≤s+Q.getD j default then 0 else 1+tlI dd (Q.drop (j+1)) (s+Q.getD j default):=Zk (D:=dd) (L:=Q) (j:=j) s (by omega)
    by_cases hD:dd≤s+Q.getD j default
    ·rw [if_pos hD] at hst
     rw [hst,Nat.add_zero] at hs
     rw [hs] at htol
     rw [htol] at ih'
     clear ih3 ih
     refine wk 6 cz ?_
     intro b2 o1
     refine Ab rfl (AA9 rfl rfl ?_)
     refine wk 4 cz ?_ --ok
     rw [show (if (j:Int)<(Mt racks N dd t:Int) then (j:Int) else (Mt racks N dd t:Int))=((min (Mt racks N dd t) j:Nat):Int) by by_cases hm:(j:Int)<(Mt racks N dd t:Int) <;> simp only [hm,if_true,if_false] <;> omega]
     exact tw (ih')
    ·rw [if_neg hD] at hst
     have ih3':=ih3 (j+1,s+Q.getD j default) (by dsimp only;omega) ⟨by dsimp only;omega,by dsimp only;omega,by dsimp only;omega,by dsimp only;omega⟩
     clear ih3 ih ih'
     refine wk 7 cz ?_
     intro b2 o1 b3 o2 hz1
     refine Ab rfl (Aj 0 rfl rfl Bm fun ⟨r1,r2⟩=>?_)
     refine wk 4 cz ?_ --ok
     exact tw (ih3')
   ·obtain rfl:j=racks.length:=by omega
    rw [List.drop_of_length_le (by omega),tlI,Nat.add_zero] at hs
    rw [hs] at htol
    rw [htol] at ih'
    clear ih3 ih
    refine wk 6 cz ?_
    refine Ab rfl (AA9 rfl rfl ?_)
    refine wk 4 cz ?_ --ok
    rw [show (if (racks.length:Int)<(Mt racks N dd t:Int) then (racks.length:Int) else (Mt racks N dd t:Int))=((min (Mt racks N dd t) racks.length:Nat):Int) by by_cases hm:(racks.length:Int)<(Mt racks N dd t:Int) <;> simp only [hm,if_true,if_false] <;> omega]
    exact tw (ih')
  ·obtain rfl:t=(Cr racks).length:=by omega
   clear ih
   refine wk 3 cz ?_
   refine Ab rfl (Ai [3] rfl (A4) rfl ?_)
   rintro _ _ _ ⟨rfl,rfl,rfl⟩
   simp only [List.cons_append,List.nil_append]
   refine wk 6 cz ?_
   intro h2
   exact ge
 ·rw [if_pos h0] at h
  obtain ⟨rfl,rfl⟩:=Prod.mk.inj h
  refine wk 5 cz ?_
  intro b1
  refine Ab rfl (Ai [0,1,2,3] rfl (Dx) rfl ?_)
  rintro _ _ _ ⟨rfl,rfl,rfl⟩
  simp only [List.cons_append,List.nil_append]
  refine wk 8 cz ?_
  intro h1
  exact ge
end
open Go Go.Fw
set_option maxRecDepth 100000
set_option linter.unusedVariables false
set_option linter.unusedSimpArgs false
set_option maxHeartbeats 0
section
variable {P M N dd W:Int}{n c nm cm nt ct nr cr:Nat}{pm ps pt pr:Option Addr}{md racks:List Int}{Aa sets:List (List Int)}
theorem Il (hN:Bf .i64 N) (hd:Bf .i64 dd):Br Tryz.prog 5 [.agg (AK6 P M pm nm cm N ps n c dd pt nt ct pr nr cr W).toArray] [] [A2 Ak pm nm cm md,A2 (Ar Ak) ps n c Aa,A2 (Ar Ak) pt nt ct sets,A2 Ak pr nr cr racks] (Rv (.bool true) []):=by
 refine Ad (F:=Ij) rfl fun C=>?_
 have H8:=Ol
 have Je:=fun {P M N dd W:Int}{n c nm cm nt ct nr cr:Nat}{pm ps pt pr:Option Addr}{res:Bool}(hr:(decide ((sets.length:Int)≤300) && decide (N≤8))=res)=>R4 (P:=P) (M:=M) (N:=N) (dd:=dd) (W:=W) (n:=n) (c:=c) (nm:=nm) (cm:=cm) (nt:=nt) (ct:=ct) (nr:=nr) (cr:=cr) (pm:=pm) (ps:=ps) (pt:=pt) (pr:=pr) hr
 cases hf:(decide ((sets.length:Int)≤300) && decide (N≤8)) with
 | false =>
  refine wk 5 cz ?_
  intro b1
  refine Ab rfl (Ai [2] rfl (Je (by omega)) rfl ?_)
  rintro _ _ _ ⟨rfl,rfl,rfl⟩
  simp only [List.cons_append,List.nil_append]
  refine wk 4 cz ?_
  refine Ab rfl (Ai [] rfl (H8) rfl ?_)
  rintro _ _ _ ⟨rfl,rfl,rfl⟩
  simp only [List.cons_append,List.nil_append]
  refine wk 2 cz ?_
  exact ge
 | true =>
  obtain ⟨x,e,hq⟩:∃ x e,tlE P M md N Aa dd sets racks W=(x,e):=⟨_,_,rfl⟩
  have Vg:=fun {n c nm cm nt ct nr cr:Nat}{pm ps pt pr:Option Addr}=>Vl (n:=n) (c:=c) (nm:=nm) (cm:=cm) (nt:=nt) (ct:=ct) (nr:=nr) (cr:=cr) (pm:=pm) (ps:=ps) (pt:=pt) (pr:=pr) hN hd hq
  have La:=fun {n c nm cm nt ct nr cr:Nat}{pm ps pt pr:Option Addr}=>K7 (n:=n) (c:=c) (nm:=nm) (cm:=cm) (nt:=nt) (ct:=ct) (nr:=nr) (cr:=cr) (pm:=pm) (ps:=ps) (pt:=pt) (pr:=pr) hN hd hq
  refine wk 5 cz ?_
  intro b1
  refine Ab rfl (Ai [2] rfl (Je (by omega)) rfl ?_)
  rintro _ _ _ ⟨rfl,rfl,rfl⟩
  simp only [List.cons_append,List.nil_append]
  refine wk 5 cz ?_
  refine Ab rfl (Ai [0,1,2,3] rfl (Vg) rfl ?_)
  rintro _ _ _ ⟨rfl,rfl,rfl⟩
  simp only [List.cons_append,List.nil_append]
  refine wk 3 cz ?_
  refine Ab rfl (Ai [0,1,2,3] rfl (La) rfl ?_)
  rintro _ _ _ ⟨rfl,rfl,rfl⟩
  simp only [List.cons_append,List.nil_append]
  refine wk 13 cz ?_
  intro h1 h2
  refine Bg rfl rfl (Ai [] rfl (H8) rfl ?_)
  rintro _ _ _ ⟨rfl,rfl,rfl⟩
  simp only [List.cons_append,List.nil_append]
  simp only [decide_true]
  refine wk 2 cz ?_ --ok
  exact ge
end
end Go.Proofs.YteadncphjconmaaGreat
