/-
Powers of the characteristic, behind a pointer to a field. Solving a square system, in place. The system of the conjugates. Bases of a field. The elements of a field, one by one; normal elements. Values of polynomials. The roots of a polynomial. A small field in a big one. A small field in a big one, for codes. Medians, in the library. Reversing a part, in the library. Heap sort, in the library. A part is split, in the library. A part is split into what is no greater and what is, in the library. Partial insertion, in the library. Numbers drawn, in the library. Patterns broken, in the library. Lists put in order by pivots, in the library. Lists put in order and turned round, in the library. Trace codes. Trace codes and subfield subcodes; what is refused. Lifted codes. The examples of the chapter: fields and codes. The chapter is awake. ModifySums: the program and the document make the same codes.
-/
import Derived.Test.YtpienolhkccpnaaGreatXA7
set_option linter.unusedVariables false
set_option linter.unusedSimpArgs false
namespace Go.Proofs.YtpienolhkccpnaaGreat
open Go Go.Fw
set_option maxRecDepth 100000
set_option linter.unusedVariables false
set_option linter.unusedSimpArgs false
set_option maxHeartbeats 0
def Nj (M:Nat→Nat→Nat) (p:Nat):Nat→Nat→Nat
 | 0,x=>x
 | k+1,x=>B6 M (Nj M p k x) p
def No (f:Nat→Nat):Nat→Nat→Nat
 | 0,x=>x
 | k+1,x=>f (No f k x)
def Sf (M:Nat→Nat→Nat) (p m d x:Nat):List Nat:=(List.range (m / d)).map fun i=>No (Nj M p (d % m)) i x
def dgB (m d:Nat):Bool:=decide (d≤m∧m % d=0)
theorem ALn {p m:Nat}{md:List Int}(K:Fok p m md) {x:Nat}(hx:x<p ^ m) (k:Nat):B6 (fM p (Az m md)) x k<p ^ m:=K.rng'.pw_lt hx k
theorem Oh {p m:Nat}{md:List Int}(K:Fok p m md) {x:Nat}(hx:x<p ^ m):∀ k,Nj (fM p (Az m md)) p k x<p ^ m
 | 0=>hx
 | k+1=>ALn K (Oh K hx k) p
theorem P9 {q:Nat}{f:Nat→Nat}(hf:∀ x,x<q→f x<q) {x:Nat}(hx:x<q):∀ k,No f k x<q
 | 0=>hx
 | k+1=>hf _ (P9 hf hx k)
theorem AIM {p m:Nat}{md:List Int}(K:Fok p m md) {x:Nat}(hx:x<p ^ m):Ad (fA p m) (x:Int) 0=(x:Int):=K.fi.a0 _ (by omega) (by exact_mod_cast hx)
section
variable {p m b ng cg ce cl:Nat}{pg pe pl:Option Addr}{md:List Int}
theorem Kb {ne nl cg:Nat}(K:Fok p m md):Bn Tryz.prog 161 [.pointer (some ⟨b,0,none⟩)] [] [Jp b p m (p ^ m) pg md.length cg pe ne ce pl nl cl,Ap Aj pg md.length cg md] (Rv (.tuple #[.int .i64 p,.int .i64 m]) []):=by
 refine Ab (F:=ABx) rfl fun C=>?_
 have h8:md.length≤8:=by
  by_cases h:m=1
  ·rw [K.one h];exact Nat.zero_le _
  ·rw [K.len h];exact K.m8
 have hp:=K.p256
 have hm:=K.m8
 have Vr:=fun {b q ne ce nl cl:Nat}{pg pe pl:Option Addr}{cg:Nat}=>W3 (p:=p) (m:=m) (q:=q) (b:=b) (ne:=ne) (ce:=ce) (nl:=nl) (cl:=cl) (pg:=pg) (pe:=pe) (pl:=pl) (md:=md) (cg:=cg) h8 hp hm
 refine wk 11 (ct @Vr cz) ?_
 intro pb1 nb1 cb1 b1
 exact ge
theorem Gg {ne nl cg d:Nat}(K:Fok p m md) (d1:1≤d) (d8:d≤8):Bn Tryz.prog 162 [.pointer (some ⟨b,0,none⟩),.int .i64 (d:Int)] [] [Jp b p m (p ^ m) pg md.length cg pe ne ce pl nl cl,Ap Aj pg md.length cg md] (Rv (.bool (dgB m d)) []):=by
 refine Ab (F:=Xp) rfl fun C=>?_
 have hm:=K.m8
 have Eg:=fun {b ne ce nl cl cg:Nat}{pg pe pl:Option Addr}=>Kb (b:=b) (ne:=ne) (ce:=ce) (nl:=nl) (cl:=cl) (cg:=cg) (pg:=pg) (pe:=pe) (pl:=pl) K
 have hr0:0≤(m:Int) % (d:Int):=Int.emod_nonneg _ (by omega)
 have hr1:(m:Int) % (d:Int)<(d:Int):=Int.emod_lt_of_pos _ (by omega)
 by_cases h1:d≤m
 ·have e:dgB m d=decide ((m:Int) % (d:Int)=0):=by
   rw [dgB,decide_eq_decide]
   constructor
   ·intro h;have:=h.2;omega
   ·intro h;exact ⟨h1,by omega⟩
  rw [e]
  refine wk 19 (ct @Eg cz) ?_
  intro h2 h3
  exact ge
 ·have e:dgB m d=false:=decide_eq_false fun h=>h1 h.1
  rw [e]
  refine wk 19 (ct @Eg cz) ?_
  intro h2 h3
  exact ge
theorem Nl {cg x k:Nat}(K:Fok p m md) (hx:x<p ^ m) (hk:k≤64):Bn Tryz.prog 171 [.pointer (some ⟨b,0,none⟩),.int .i64 (x:Int),.int .i64 (k:Int)] [] [Jp b p m (p ^ m) pg md.length cg pe (p ^ m-1) ce pl (p ^ m) cl,Ap Aj pg md.length cg md,Ap Aj pe (p ^ m-1) ce (J8 p m md),Ap Aj pl (p ^ m) cl (J3 p m md)] (Rv (.int .i64 ((Nj (fM p (Az m md)) p (k % m) x:Nat):Int)) []):=by
 refine Ab (F:=W5) rfl fun C=>?_
 have hm:=K.m8
 have hm1:=K.m1
 have hp:=K.p256
 have hp2:=K.p2
 have hq:=K.q
 have Eg:=fun {b ne ce nl cl cg:Nat}{pg pe pl:Option Addr}=>Kb (b:=b) (ne:=ne) (ce:=ce) (nl:=nl) (cl:=cl) (cg:=cg) (pg:=pg) (pe:=pe) (pl:=pl) K
 have Y1:=fun {b ng cg ce cl:Nat}{pg pe pl:Option Addr}{a:Nat}(h:a<p ^ m)=>Y3 (b:=b) (ng:=ng) (cg:=cg) (ce:=ce) (cl:=cl) (pg:=pg) (pe:=pe) (pl:=pl) (a:=a) (k:=p) K h (by omega) hp
 have Br:=fun {b ng cg ne ce nl cl:Nat}{pg pe pl:Option Addr}{x y:Int}=>Dn (p:=p) (m:=m) (b:=b) (ng:=ng) (cg:=cg) (ne:=ne) (ce:=ce) (nl:=nl) (cl:=cl) (pg:=pg) (pe:=pe) (pl:=pl) (x:=x) (y:=y) K.p2 K.m1 hq
 have hlt:=Oh K hx
 have haz:=fun y (h:y<p ^ m)=>AIM K h
 generalize J8 p m md=ex at *
 generalize J3 p m md=lg at *
 generalize fM p (Az m md)=M at *
 generalize Ad (fA p m)=A at *
 generalize p ^ m=q at *
 have hr0:0≤(k:Int) % (m:Int):=Int.emod_nonneg _ (by omega)
 have hr1:(k:Int) % (m:Int)<(m:Int):=Int.emod_lt_of_pos _ (by omega)
 have hs:((k:Int) % (m:Int)+(m:Int)) % (m:Int)=((k % m:Nat):Int):=by rw [Int.add_emod_right,Int.emod_emod,Int.natCast_emod]
 have hs1:k % m<m:=Nat.mod_lt _ (by omega)
 have hs0:((k:Int) % (m:Int)+(m:Int)) % (m:Int)≤8∧0≤((k:Int) % (m:Int)+(m:Int)) % (m:Int):=by omega
 refine wk 9 (ct @Eg cz) ?_
 simp only [hs]
 refine Af (X:=Nat) [0,6,7,20] [0,1,2,3] (fun i=>[(21,.int .i64 (i:Int)),(1,.int .i64 ((Nj M p i x:Nat):Int))]) (fun _=>_) (fun _=>[]) (fun i=>i≤k % m) (fun i=>k % m-i) 0 [] rfl rfl rfl (Nat.zero_le _) (by repeat (first|exact Fr.sub_nil _|refine Fr.sub_cons rfl ?_)) rfl rfl ?_
 rintro i hi ih
 simp only [List.cons_append,List.nil_append] at hi ih ⊢
 have hli:=hlt i
 by_cases h9:i<k % m
 ·have ih':=ih (i+1) (by omega) (by omega)
  rw [Nj] at ih'
  have hl2:=hlt (i+1)
  rw [Nj] at hl2
  generalize Nj M p i x=y at *
  refine wk 11 (ct @Y1 cz) ?_
  intro h1
  exact tw (ih')
 ·obtain rfl:i=k % m:=by omega
  clear ih
  have e:=haz _ hli
  generalize Nj M p (k % m) x=y at *
  refine wk 9 (ct @Br cz) ?_
  intro h1
  rw [e]
  exact ge
theorem ACx {M:Nat→Nat→Nat}{d x:Nat}:(Sf M p m d x).length=m / d:=by simp [Sf]
theorem AKX {M:Nat→Nat→Nat}{d x i:Nat}(hi:i<m / d):(Sf M p m d x)[i]?=some (No (Nj M p (d % m)) i x):=by
 rw [Sf,List.getElem?_map,List.getElem?_range hi];rfl
theorem Ln {cg x d:Nat}(K:Fok p m md) (hx:x<p ^ m) (d1:1≤d) (d8:d≤8):Bn Tryz.prog 170 [.pointer (some ⟨b,0,none⟩),.int .i64 (x:Int),.int .i64 (d:Int)] [] [Jp b p m (p ^ m) pg md.length cg pe (p ^ m-1) ce pl (p ^ m) cl,Ap Aj pg md.length cg md,Ap Aj pe (p ^ m-1) ce (J8 p m md),Ap Aj pl (p ^ m) cl (J3 p m md)] (RwI (m / d) (Bc (Sf (fM p (Az m md)) p m d x))):=by
 refine Ab (F:=ACk) rfl fun C=>?_
 have hm:=K.m8
 have hq:=K.q
 have Eg:=fun {b ne ce nl cl cg:Nat}{pg pe pl:Option Addr}=>Kb (b:=b) (ne:=ne) (ce:=ce) (nl:=nl) (cl:=cl) (cg:=cg) (pg:=pg) (pe:=pe) (pl:=pl) K
 have Br:=fun {b ng cg ne ce nl cl:Nat}{pg pe pl:Option Addr}{x y:Int}=>Dn (p:=p) (m:=m) (b:=b) (ng:=ng) (cg:=cg) (ne:=ne) (ce:=ce) (nl:=nl) (cl:=cl) (pg:=pg) (pe:=pe) (pl:=pl) (x:=x) (y:=y) K.p2 K.m1 hq
 have Hj:=fun {b cg ce cl x k:Nat}{pg pe pl:Option Addr}=>Nl (b:=b) (cg:=cg) (ce:=ce) (cl:=cl) (pg:=pg) (pe:=pe) (pl:=pl) (x:=x) (k:=k) K
 have hlt:=fun i=>P9 (f:=Nj (fM p (Az m md)) p (d % m)) (fun y hy=>Oh K hy (d % m)) hx i
 have haz:=AIM K hx
 have hdv:m / d≤8:=Nat.le_trans (Nat.div_le_self m d) hm
 have hdi:(m:Int) / (d:Int)=((m / d:Nat):Int):=(Int.natCast_ediv m d).symm
 have hLl:=ACx (p:=p) (m:=m) (M:=fM p (Az m md)) (d:=d) (x:=x)
 have hLa:=fun i (h:i<m / d)=>AKX (p:=p) (m:=m) (M:=fM p (Az m md)) (d:=d) (x:=x) h
 generalize hL:Sf (fM p (Az m md)) p m d x=L at *
 generalize J8 p m md=ex at *
 generalize J3 p m md=lg at *
 generalize fM p (Az m md)=M at *
 generalize Ad (fA p m)=A at *
 generalize p ^ m=q at *
 clear hL
 have h0:0≤(m:Int) / (d:Int)∧(m:Int) / (d:Int)≤8:=by omega
 refine wk 19 (ct @Eg (ct @Br cz)) ?_
 intro b1
 simp only [hdi,Int.toNat_natCast]
 rw [haz,show Ao .i64 (List.replicate (m / d) 0)=Ak .i64 ((Bc L).take 0++List.replicate (m / d-0) 0) by simp [Ao,Ak]]
 refine Af (X:=Nat) [0,2,6,9,25] [0,1,2,3] (fun i=>[(26,.int .i64 (i:Int)),(10,.int .i64 ((No (Nj M p (d % m)) i x:Nat):Int))]) (fun i=>[(some b1,3,Ak .i64 ((Bc L).take i++List.replicate (m / d-i) 0))]) (fun _=>[]) (fun i=>i≤m / d) (fun i=>m / d-i) 0 [] rfl rfl rfl (Nat.zero_le _) (by repeat (first|exact Fr.sub_nil _|refine Fr.sub_cons rfl ?_)) rfl rfl ?_
 rintro i hi ih
 simp only [List.cons_append,List.nil_append] at hi ih ⊢
 have hli:=hlt i
 by_cases h9:i<m / d
 ·have ih':=ih (i+1) (by omega) (by omega)
  have eT:(Bc L)[i]?=some ((No (Nj M p (d % m)) i x:Nat):Int):=by rw [Bc,List.getElem?_map,hLa i h9];rfl
  have hl2:=hlt (i+1)
  rw [No] at ih' hl2
  rw [← take_set eT h9] at ih'
  have hln:((Bc L).take i++List.replicate (m / d-i) 0).length=m / d:=by simp [Bc];omega
  generalize (Bc L).take i++List.replicate (m / d-i) 0=T at *
  generalize No (Nj M p (d % m)) i x=y at *
  clear ih
  refine wk 17 (ct @Hj cz) ?_
  intro h1
  exact tw (ih')
 ·obtain rfl:i=m / d:=by omega
  have hTl:(Bc L).length=m / d:=by rw [Bc,List.length_map];exact hLl
  rw [Nat.sub_self,List.replicate_zero,List.append_nil,List.take_of_length_le (by omega)]
  clear ih
  refine wk 7 cz ?_
  intro h1
  have hall:∀ z∈Bc L,Bx .i64 z:=fun z hz=>by
   obtain ⟨j,hj⟩:=List.getElem?_of_mem hz
   have hj':j<m / d:=by have:=(List.getElem?_eq_some_iff.1 hj).1;omega
   rw [Bc,List.getElem?_map,hLa j hj'] at hj
   have:=hlt j
   have e:((No (Nj M p (d % m)) j x:Nat):Int)=z:=Option.some.inj hj
   simp only [Bx];omega
  generalize Bc L=T at *
  refine Bk 0 rfl hTl.symm hall (by omega) ?_
  refine Dp 1 [0] [0] rfl (.tmp rfl .nil) rfl rfl rfl ⟨⟨some b1,m / d,Ak .i64 T⟩,rfl,rfl,rfl⟩
theorem AIl {d x:Nat}(K:Fok p m md) (hx:x<p ^ m):∀ z∈Bc (Sf (fM p (Az m md)) p m d x),0≤z∧z<((p ^ m:Nat):Int):=fun z hz=>by
 obtain ⟨y,hy,rfl⟩:=List.mem_map.1 hz
 obtain ⟨i,_,rfl⟩:=List.mem_map.1 hy
 have:=P9 (f:=Nj (fM p (Az m md)) p (d % m)) (fun y hy=>Oh K hy (d % m)) hx i
 omega
theorem AA6 {cg x d:Nat}(K:Fok p m md) (hx:x<p ^ m) (d1:1≤d) (d8:d≤8) (hd:dgB m d=true):Bn Tryz.prog 130 [.pointer (some ⟨b,0,none⟩),.int .i64 (x:Int),.int .i64 (d:Int)] [] [Jp b p m (p ^ m) pg md.length cg pe (p ^ m-1) ce pl (p ^ m) cl,Ap Aj pg md.length cg md,Ap Aj pe (p ^ m-1) ce (J8 p m md),Ap Aj pl (p ^ m) cl (J3 p m md)] (Rv (.tuple #[.int .i64 (Q3 (Ad (fA p m)) (Bc (Sf (fM p (Az m md)) p m d x))),.int .i64 0]) []):=by
 refine Ab (F:=ABj) rfl fun C=>?_
 have hm:=K.m8
 have hdv:m / d≤8:=Nat.le_trans (Nat.div_le_self m d) hm
 have Bg:=fun {b ne ce nl cl cg:Nat}{pg pe pl:Option Addr}=>Gg (b:=b) (ne:=ne) (ce:=ce) (nl:=nl) (cl:=cl) (cg:=cg) (pg:=pg) (pe:=pe) (pl:=pl) K d1 d8
 have Cz:=fun {b cg ce cl:Nat}{pg pe pl:Option Addr}=>(Ln (b:=b) (cg:=cg) (ce:=ce) (cl:=cl) (pg:=pg) (pe:=pe) (pl:=pl) K hx d1 d8).pubR (by show m / d*8≤140737488355328;omega)
 have K1:=fun {b ng cg ne ce nl cl nu cu:Nat}{pg pe pl pu:Option Addr}=>Rf (b:=b) (ng:=ng) (cg:=cg) (ne:=ne) (ce:=ce) (nl:=nl) (cl:=cl) (pg:=pg) (pe:=pe) (pl:=pl) (pu:=pu) (nu:=nu) (cu:=cu) K (AIl (d:=d) K hx)
 rw [hd] at Bg
 generalize Bc (Sf (fM p (Az m md)) p m d x)=T at *
 refine wk 14 (ct @Bg (ct @Cz (ct @K1 cz))) ?_
 intro pa1 ca1
 exact ge
theorem Vc {cg x d:Nat}(K:Fok p m md) (hx:x<p ^ m) (d1:1≤d) (d8:d≤8) (hd:dgB m d=true) (hc:No (Nj (fM p (Az m md)) p (d % m)) (m / d) x=x):Bn Tryz.prog 128 [.pointer (some ⟨b,0,none⟩),.int .i64 (x:Int),.int .i64 (d:Int)] [] [Jp b p m (p ^ m) pg md.length cg pe (p ^ m-1) ce pl (p ^ m) cl,Ap Aj pg md.length cg md,Ap Aj pe (p ^ m-1) ce (J8 p m md),Ap Aj pl (p ^ m) cl (J3 p m md)]
  (fun v Φ β=>∃ (r:Row) (k:Nat),v = .tuple #[.slice (ad r.bo) k r.cap,.int .i64 0]∧Φ=[A5 Aj r k (Bc ((List.range k).map fun i=>No (Nj (fM p (Az m md)) p (d % m)) i x))]∧β=[(r.bo,3,r.cs)]∧1≤k∧k≤m / d∧No (Nj (fM p (Az m md)) p (d % m)) k x=x∧∀ i,1≤i→i<k→No (Nj (fM p (Az m md)) p (d % m)) i x≠x):=by
 refine Ab (F:=Vj) rfl fun C=>?_
 have hm:=K.m8
 have hq:=K.q
 have hdv:m / d≤8:=Nat.le_trans (Nat.div_le_self m d) hm
 have hdv1:1≤m / d:=Nat.div_pos (of_decide_eq_true hd).1 d1
 have Bg:=fun {b ne ce nl cl cg:Nat}{pg pe pl:Option Addr}=>Gg (b:=b) (ne:=ne) (ce:=ce) (nl:=nl) (cl:=cl) (cg:=cg) (pg:=pg) (pe:=pe) (pl:=pl) K d1 d8
 rw [hd] at Bg
 have Br:=fun {b ng cg ne ce nl cl:Nat}{pg pe pl:Option Addr}{x y:Int}=>Dn (p:=p) (m:=m) (b:=b) (ng:=ng) (cg:=cg) (ne:=ne) (ce:=ce) (nl:=nl) (cl:=cl) (pg:=pg) (pe:=pe) (pl:=pl) (x:=x) (y:=y) K.p2 K.m1 hq
 have Hj:=fun {b cg ce cl x k:Nat}{pg pe pl:Option Addr}=>Nl (b:=b) (cg:=cg) (ce:=ce) (cl:=cl) (pg:=pg) (pe:=pe) (pl:=pl) (x:=x) (k:=k) K
 have hlt:=fun i=>P9 (f:=Nj (fM p (Az m md)) p (d % m)) (fun y hy=>Oh K hy (d % m)) hx i
 have haz:=AIM K hx
 generalize J8 p m md=ex at *
 generalize J3 p m md=lg at *
 generalize fM p (Az m md)=M at *
 generalize Ad (fA p m)=A at *
 generalize p ^ m=q at *
 have hh1:=hlt 1
 refine wk 17 (ct @Bg (ct @Br cz)) ?_
 intro b1
 simp only [haz,List.nil_append,List.append_nil]
 (apply Mf (E:=Aj) (n:=1) [[.int .i64 (x:Int)]] [(x:Int)] 0 (fun w A hG=>⟨rfl,fun i vs y hv hy=>by
  cases i with
  | zero=>cases hv;cases hy;exact ⟨rfl,by simp only [Bx];omega⟩
  | succ i=>simp at hv⟩);(· rfl);(· rfl);(· rfl);(· rfl);(· decide))
 refine wk 4 (ct @Hj cz) ?_
 generalize hf:Nj M p (d % m)=f at *
 have hfs:∀ y,Nj M p (d % m) y=f y:=fun y=>by rw [hf]
 simp only [List.cons_append,List.nil_append]
 refine Af (X:=Nat×Row) [0,1,2,6,7] [0,1,2,3,4] (fun z=>[(9,.int .i64 ((No f z.1 x:Nat):Int)),(8,.slice (ad z.2.bo) z.1 z.2.cap)]) (fun z=>[(z.2.bo,3,z.2.cs)]) (fun z=>[A5 Aj z.2 z.1 (Bc ((List.range z.1).map fun i=>No f i x))]) (fun z=>1≤z.1∧z.1≤m / d∧∀ i,1≤i→i<z.1→No f i x≠x) (fun z=>m / d-z.1) (1,⟨some b1,1,[.int .i64 (x:Int)]⟩) [0] rfl rfl rfl ⟨Nat.le_refl 1,hdv1,fun i h1 h2=>by dsimp only at h2;omega⟩ (by repeat (first|exact Fr.sub_nil _|refine Fr.sub_cons rfl ?_)) rfl rfl ?_
 rintro ⟨j,r⟩ hj ih
 simp only [List.cons_append,List.nil_append] at hj ih ⊢
 obtain ⟨hj1,hj2,hj3⟩:=hj
 have hlj:=hlt j
 have hls:=hlt (j+1)
 rw [No] at hls
 by_cases hx0:No f j x=x
 ·clear ih
  generalize hT:Bc ((List.range j).map fun i=>No f i x)=T at *
  have hd0:((No f j x:Nat):Int)=(x:Int):=by omega
  refine wk 7 cz ?_
  intro h1
  refine Dp 1 [0] [0] rfl (.tmp rfl (.tmp rfl .nil)) rfl rfl rfl ⟨r,j,rfl,by rw [← hT],rfl,hj1,hj2,hx0,hj3⟩
 ·have hd0:((No f j x:Nat):Int)≠(x:Int):=by omega
  have hjm:j≠m / d:=fun e=>hx0 (by rw [e];exact hc)
  have ih':=fun r=>ih (j+1,r) (by dsimp only;omega) ⟨by dsimp only;omega,by dsimp only;omega,fun i h1 h2=>by
   dsimp only at h2
   by_cases e:i=j
   ·rw [e];exact hx0
   ·exact hj3 i h1 (by omega)⟩
  dsimp only at ih'
  have hTs:Bc ((List.range (j+1)).map fun i=>No f i x)=Bc ((List.range j).map fun i=>No f i x)++[((No f j x:Nat):Int)]:=by simp [Bc,List.range_succ]
  rw [hTs,No] at ih'
  generalize Bc ((List.range j).map fun i=>No f i x)=T at *
  generalize No f j x=y at *
  clear ih
  refine wk 7 cz ?_
  intro h1 b2
  refine Aa rfl (Fi (z:=(↑y:Int)) 1 0 0 rfl rfl rfl rfl rfl Ce Ee rfl (fun w A hG=>(Dz (by first|(simp only [Bx];omega)|(simp [Bx];done)))) (by omega) _ G5 (by omega) fun r1=>?_)
  refine wk 6 (ct @Hj cz) ?_
  rw [hf]
  refine Jw [true,false] [0,2,3,4,5,6] (by exact T8 rfl) rfl rfl (ih' r1)
end
open Go Go.Fw
set_option maxRecDepth 100000
set_option linter.unusedVariables false
set_option linter.unusedSimpArgs false
set_option maxHeartbeats 0
theorem Z3 {A M:Int→Int→Int}{N V:Int→Int}:∀ (n c t:Nat) (rows:List (List Int)),(D0 A M N V n c t rows).2.length≤n
 | 0,_,_,_=>Nat.le_refl _
 | n+1,c,t,rows=>by
  rw [D0]
  cases H5 rows t c with
  | none=>exact Nat.le_succ_of_le (Z3 n (c+1) t rows)
  | some k=>exact Nat.succ_le_succ (Z3 n (c+1) (t+1) _)
theorem FO.nml {q:Nat}{A M:Int→Int→Int}{N V:Int→Int}(O:FO q A M N V) {z y:Int}(z0:0≤z) (z1:z<q) (y0:0≤y) (y1:y<q):N (M z y)=M (N z) y:=by
 have F:=O.fi
 obtain ⟨⟨n0,n1⟩,nz⟩:=O.ng z z0 z1
 have h1:=F.ml z y z0 z1 y0 y1
 obtain ⟨⟨k0,k1⟩,nk⟩:=O.ng _ h1.1 h1.2
 have h2:=F.ml (N z) y n0 n1 y0 y1
 refine F.cancel (x:=M z y) h1.1 h1.2 k0 k1 h2.1 h2.2 ?_
 rw [nk,F.mc z y z0 z1 y0 y1,F.mc (N z) y n0 n1 y0 y1,← F.md y z (N z) y0 y1 z0 z1 n0 n1,nz,F.m0 y0 y1]
def axK (A M:Int→Int→Int) (a:Int) (r u:List Int) (j:Nat):List Int:=(F7 A M a r u).take j++u.drop j
theorem AJg {A M:Int→Int→Int}{a:Int}{r u:List Int}{n j:Nat}(hr:r.length=n) (hu:u.length=n):(axK A M a r u j).length=n:=by
 simp only [axK,F7,List.length_append,List.length_take,List.length_zipWith,List.length_drop,hr,hu];omega
theorem AHY {A M:Int→Int→Int}{a:Int}{r u:List Int}:axK A M a r u 0=u:=by simp [axK]
theorem AJd {A M:Int→Int→Int}{a:Int}{r u:List Int}{n:Nat}(hr:r.length=n) (hu:u.length=n):axK A M a r u n=F7 A M a r u:=by
 rw [axK,List.take_of_length_le (by simp only [F7,List.length_zipWith,hr,hu];omega),List.drop_of_length_le (by omega),List.append_nil]
theorem ALx {A M:Int→Int→Int}{a:Int}{r u:List Int}{n j:Nat}(hr:r.length=n) (hu:u.length=n) (hj:j<n):(axK A M a r u j)[j]?=some (Bh u j):=by
 have h1:((F7 A M a r u).take j).length=j:=by simp only [F7,List.length_take,List.length_zipWith,hr,hu];omega
 rw [axK,List.getElem?_append_right (by omega),h1,Nat.sub_self,List.getElem?_drop,Nat.add_zero,Bh,List.getD_eq_getElem?_getD,List.getElem?_eq_getElem (by omega)];rfl
theorem AJ1 {A M:Int→Int→Int}{a:Int}{r u:List Int}{n j:Nat}(hr:r.length=n) (hu:u.length=n) (hj:j<n):(axK A M a r u j).set j (A (Bh u j) (M a (Bh r j)))=axK A M a r u (j+1):=by
 have hl:(F7 A M a r u).length=n:=by simp only [F7,List.length_zipWith,hr,hu];omega
 have h1:((F7 A M a r u).take j).length=j:=by rw [List.length_take];omega
 rw [axK,axK,List.take_succ_eq_append_getElem (by omega),List.drop_eq_getElem_cons (by omega),List.set_append_right _ _ (by omega),h1,Nat.sub_self,List.set_cons_zero,List.append_assoc,List.singleton_append]
 congr 2
 simp only [F7,List.getElem_zipWith,Bh,List.getD_eq_getElem?_getD]
 rw [List.getElem?_eq_getElem (by omega),List.getElem?_eq_getElem (by omega)];rfl
section
variable {b p m n W ng cg ce cl:Nat}{pg pe pl:Option Addr}{rh:Row}{hd:Nat→Hd}{cs:Nat→List Value}{rows:List (List Int)}{md:List Int}
abbrev ALP (ok:Bool):Value→List Fact→List A3→Prop:=fun v Φ β=>∃ (pa:Option Addr) (k c:Nat),v = .tuple #[.slice pa k c,.bool ok]∧Φ=[]∧β=[]
theorem AA4 (K:Fok p m md) (hn0:0<n) (hn:n≤64) (hl:rows.length=n) (hM:Da (p ^ m) (n+1) rows) :
  Bn Tryz.prog 216 [.pointer (some ⟨b,0,none⟩),.slice (ad rh.bo) n rh.cap] ((rh.bo,22,rh.cs)::Dd 3 hd cs n [])
   [Jp b p m (p ^ m) pg ng cg pe (p ^ m-1) ce pl (p ^ m) cl,Ap Aj pe (p ^ m-1) ce (J8 p m md),Ap Aj pl (p ^ m) cl (J3 p m md),A5 Sg rh n (Jf hd n),Ep Aj hd cs (Ar rows) n []]
   (ALP (decide ((Kr p m md n 0 0 rows).2.length=n))):=by
 refine Ab (F:=Uo) rfl fun C=>?_
 have O:=Dx K
 have q2:=O.q2
 have hq:=K.q
 have FF:=K.fi
 generalize hEE:(Kr p m md n 0 0 rows).2.length=EE
 refine D1 3 rfl hn0 fun bh caph csh hr=>?_
 subst hr
 dsimp only
 refine wk 9 cz ?_
 refine Af (X:=Nat×List Value×(Nat→Hd)×(Nat→List Value)×List (List Int)) [0,1,6,19] [0,1,2] (fun x=>[(20,.int .i64 (x.1:Int))])
  (fun x=>(some bh,22,x.2.1)::Dd 3 x.2.2.1 x.2.2.2.1 n [])
  (fun x=>[A5 Sg ⟨some bh,caph,x.2.1⟩ n (Jf x.2.2.1 n),Ep Aj x.2.2.1 x.2.2.2.1 (Ar x.2.2.2.2) n []])
  (fun x=>x.1≤n∧x.2.2.2.2.length=n∧Da (p ^ m) (n+1) x.2.2.2.2∧(Kr p m md (n-x.1) x.1 x.1 x.2.2.2.2).2.length+x.1=EE) (fun x=>n-x.1)
  (0,csh,hd,cs,rows) [3,4] rfl rfl rfl ⟨Nat.zero_le _,hl,hM,by dsimp only;rw [Nat.sub_zero];exact hEE⟩ (by repeat (first|exact Fr.sub_nil _|refine Fr.sub_cons rfl ?_)) rfl rfl ?_
 clear hl hM hEE rows
 rintro ⟨c,ch,hd,cs,rws⟩ ⟨hcN,hl,hM,hE⟩ ih
 simp only [List.cons_append,List.nil_append] at hcN hl hM hE ih ⊢
 by_cases hcl:c<n
 ·have hrl:∀ k,k<n→(Ar rws k).length=n+1:=fun k hk=>(hM.row (by omega)).1
  have hre:∀ k,k<n→(Ar rws k)[c]?=some (en rws k c):=fun k hk=>by
   rw [en,Bh,List.getD_eq_getElem?_getD,List.getElem?_eq_getElem (by rw [hrl k hk];omega)];rfl
  have hen:∀ k,k<n→0≤en rws k c∧en rws k c<((p ^ m:Nat):Int):=fun k hk=>Bm (by omega) (hM.row (by omega)) c
  refine wk 9 cz ?_
  intro h1
  refine Af (X:=Nat×(Nat→List Value)) [0,1,6,7,19,20,21,22,23] [0,2,3,4] (fun k=>[(8,.int .i64 (k.1:Int))]) (fun k=>(some bh,22,ch)::Dd 3 hd k.2 n []) (fun k=>[Ep Aj hd k.2 (Ar rws) n []]) (fun k=>c≤k.1∧k.1≤n∧∀ j,c≤j→j<k.1→en rws j c=0) (fun k=>n-k.1) (c,cs) [1] rfl rfl rfl ⟨Nat.le_refl _,hcN,fun j h1 h2=>by dsimp only at h2;omega⟩ (by repeat (first|exact Fr.sub_nil _|refine Fr.sub_cons rfl ?_)) rfl rfl ?_
  rintro ⟨k,cs⟩ ⟨hk1,hk2,hk3⟩ ihk
  simp only [List.cons_append,List.nil_append] at hk1 hk2 hk3 ihk ⊢
  by_cases hkn:k<n
  ·refine Hk 0 rfl fun hlen=>?_
   have hhd:∀ k,k<n→(hd k).2.1=n+1:=fun k hk=>by rw [hlen k hk rfl];exact hrl k hk
   have hhk:=hhd k hkn
   have hz:=hre k hkn
   have hrk:=hrl k hkn
   refine Dw 1 (k) 0 (n+1) rfl rfl (by first|assumption|omega) (by first|rfl|assumption|(simp [Ag,Bd];done)|(simp [Ag,Bd];omega)) (by first|assumption|omega) fun r1 hr1=>?_
   simp only [List.take_succ_cons,List.take_zero,List.cons_append,List.nil_append]
   by_cases hz0:en rws k c=0
   ·refine wk 10 cz ?_
    intro h2
    refine D1 0 rfl (by omega) fun b1 cap1 cs1 hr2=>?_
    subst hr2
    dsimp only
    refine wk 8 cz ?_
    intro hr2 h3
    refine Bw 1 (k) 0 0 1 rfl rfl rfl rfl (by first|assumption|omega) (by first|rfl|assumption|(simp [Ag,Bd];done)|(simp [Ag,Bd];omega)) ?_
    simp only [List.eraseIdx_cons_zero,List.eraseIdx_cons_succ,List.take_succ_cons,List.take_zero,List.cons_append,List.nil_append]
    rw [Eb (F5 hr1 hkn),show Er (Ar rws) k (Ar rws k)=Ar rws from Eb rfl]
    exact tw (ihk (k+1,Er cs k cs1) (by dsimp only;omega) ⟨by dsimp only;omega,by dsimp only;omega,fun j h1 h2=>by
     dsimp only at h2
     rcases Nat.lt_succ_iff_lt_or_eq.1 h2 with h|rfl
     ·exact hk3 j h1 h
     ·exact hz0⟩)
   ·clear ihk
    have hkne:¬ k=n:=by omega
    refine wk 10 cz ?_
    intro h2
    refine D1 0 rfl (by omega) fun b1 cap1 cs1 hr2=>?_
    subst hr2
    dsimp only
    refine wk 6 cz ?_
    intro hr2 h3
    refine Bw 1 (k) 0 0 1 rfl rfl rfl rfl (by first|assumption|omega) (by first|rfl|assumption|(simp [Ag,Bd];done)|(simp [Ag,Bd];omega)) ?_
    simp only [List.eraseIdx_cons_zero,List.eraseIdx_cons_succ,List.take_succ_cons,List.take_zero,List.cons_append,List.nil_append]
    rw [Eb (F5 hr1 hkn),show Er (Ar rws) k (Ar rws k)=Ar rws from Eb rfl]
    have z1:(Jf hd n)[k]?=some ((hd k).1,(hd k).2.1,(hd k).2.2):=Lr hkn
    have z2:(Jf hd n)[c]?=some ((hd c).1,(hd c).2.1,(hd c).2.2):=Lr hcl
    have key:∀ (ch':List Value) (hd':Nat→Hd) (cs':Nat→List Value),J Uo C [It.c (pL 59807),It.blk 1,It.c (pL 935),It.lp (pL 116),It.blk 0,It.c [1,1,1]]
      [(0,.pointer (some ⟨b,0,none⟩)),(1,.slice (ad (some bh)) n caph),(6,.int .i64 n),(7,.int .i64 c),(19,.int .i64 n),(20,.int .i64 c)]
      ((some bh,22,ch')::Dd 3 hd' cs' n [])
      [Ep Aj hd' cs' (Ar (Ck rws c k)) n [],A5 Sg ⟨some bh,caph,ch'⟩ n (Jf hd' n),Jp b p m (p ^ m) pg ng cg pe (p ^ m-1) ce pl (p ^ m) cl,Ap Aj pe (p ^ m-1) ce (J8 p m md),Ap Aj pl (p ^ m) cl (J3 p m md)] (Fv C (ALP (decide (EE=n)))):=by
     clear hz hrk hlen hhd hhk hr1 z1 z2
     intro ch' hd' cs'
     have hsl:(Ck rws c k).length=n:=by rw [Ck,List.length_set,List.length_set,hl]
     have hsW:∀ i,i<n→Wd (p ^ m) (n+1) (Ar (Ck rws c k) i):=fun i hi=>Mz hM (by omega) (by omega) (by omega)
     have hsrl:∀ i,i<n→(Ar (Ck rws c k) i).length=n+1:=fun i hi=>(hsW i hi).1
     have hsre:∀ i,i<n→(Ar (Ck rws c k) i)[c]?=some (en (Ck rws c k) i c):=fun i hi=>by
      rw [en,Bh,List.getD_eq_getElem?_getD,List.getElem?_eq_getElem (by rw [hsrl i hi];omega)];rfl
     have hsen:∀ i,i<n→0≤en (Ck rws c k) i c∧en (Ck rws c k) i c<((p ^ m:Nat):Int):=fun i hi=>Bm (by omega) (hsW i hi) c
     have het:en (Ck rws c k) c c=en rws k c:=by
      rw [en,Fe (by omega) (by omega)]
      split
      ·rename_i e;rw [← e]
      ·rw [if_pos rfl]
     obtain ⟨a0,a1⟩:=hen k hkn
     refine Hk 0 rfl fun hlen=>?_
     have hht:(hd' c).2.1=n+1:=by rw [hlen _ hcl rfl];exact hsrl _ hcl
     have hzt:=hsre _ hcl
     rw [het] at hzt
     have hrt:=hsrl _ hcl
     have Fo:=fun {b ng cg ce cl:Nat}{pg pe pl:Option Addr}{x:Int}=>Q5 (b:=b) (ng:=ng) (cg:=cg) (ce:=ce) (cl:=cl) (pg:=pg) (pe:=pe) (pl:=pl) (x:=x) K
     have hap:0<en rws k c:=by omega
     obtain ⟨⟨v0,v1⟩,hiv⟩:=O.iv _ a0 a1 hz0
     have wt:=hsW c hcl
     refine Dw 1 (c) 0 (n+1) rfl rfl (by first|assumption|omega) (by first|rfl|assumption|(simp [Ag,Bd];done)|(simp [Ag,Bd];omega)) (by first|assumption|omega) fun r1 hr1=>?_
     simp only [List.take_succ_cons,List.take_zero,List.cons_append,List.nil_append]
     have Es:=fun {b ng cg ce cl b9 cap9:Nat}{cs9:List Value}{pg pe pl:Option Addr}=>Mu (b:=b) (ng:=ng) (cg:=cg) (ce:=ce) (cl:=cl) (pg:=pg) (pe:=pe) (pl:=pl) (r:=⟨some b9,cap9,cs9⟩) K v0 v1 wt (by omega)
     refine wk 5 cz ?_
     refine D1 0 rfl (by omega) fun b2 cap2 cs2 hr3=>?_
     subst hr3
     dsimp only
     refine wk 10 (ct @Fo (ct @Es cz)) ?_
     intro hr3 r'1
     refine Aa rfl (Hg (vs:=[Value.slice (ad r'1.bo) (n+1) r'1.cap]) (z:=(r'1.bo,n+1,r'1.cap)) 1 4 (c) rfl rfl rfl rfl rfl E6 (Nat.mul_one _).symm (by omega) (fun w A hG=>(Ua _ _ _)) fun cs3=>?_)
     refine wk 5 cz ?_
     simp only [setB,List.set_cons_succ,List.set_cons_zero]
     rw [Lh]
     refine Bw 1 (c) 0 1 3 rfl rfl rfl rfl (by first|assumption|omega) (by first|rfl|assumption|(simp [Ag,Bd];done)|(simp [Ag,Bd];omega)) ?_
     simp only [List.eraseIdx_cons_zero,List.eraseIdx_cons_succ,List.take_succ_cons,List.take_zero,List.cons_append,List.nil_append]
     have hprW:=O.scl_wd v0 v1 (hsW _ hcl)
     generalize hpr:C0 (Ad (fM p (Az m md))) ((iF (p ^ m) (fM p (Az m md)) (en rws k c).toNat:Nat):Int) (Ar (Ck rws c k) c)=pr at *
     let clr:Nat→Nat→List Int:=fun i j=>if j=c then pr else if j<i then F7 (Ad (fA p m)) (Ad (fM p (Az m md))) (B9 p m (en (Ck rws c k) j c)) pr (Ar (Ck rws c k) j) else Ar (Ck rws c k) j
     have hclW:∀ i j,j<n→Wd (p ^ m) (n+1) (clr i j):=fun i j hj=>by
      show Wd _ _ (if _ then _ else if _ then _ else _)
      split
      ·exact hprW
      ·split
       ·obtain ⟨x0,x1⟩:=hsen j hj
        have:=AD0 (show 0<p by have:=K.p2;omega) m (en (Ck rws c k) j c).toNat
        exact FF.axw (Int.natCast_nonneg _) (Int.ofNat_lt.2 this) hprW (hsW j hj)
       ·exact hsW j hj
     refine Bs (clr 0) 0 rfl (fun g hg=>by
      show _=if _ then _ else if _ then _ else _
      by_cases e:g=c
      ·subst e;rw [Bp,if_pos rfl]
      ·rw [C5 e,if_neg e,if_neg (Nat.not_lt_zero g)]) ?_
     simp only [setB,List.set_cons_succ,List.set_cons_zero,List.eraseIdx_cons_zero,List.take_succ_cons,List.take_zero,List.cons_append,List.nil_append]
     clear hlen hht hzt hrt wt Fo Es hr3 hr1
     generalize Er hd' c (r'1.bo,n+1,r'1.cap)=hd2 at *
     generalize Er cs' c r'1.cs=cs2 at *
     refine Af (X:=Nat×(Nat→List Value)) [0,1,6,7,19,20,79] [2,8,9,10] (fun x=>[(80,.int .i64 (x.1:Int))]) (fun x=>(some bh,22,cs3)::Dd 3 hd2 x.2 n []) (fun x=>[Ep Aj hd2 x.2 (clr x.1) n []]) (fun x=>x.1≤n) (fun x=>n-x.1) (0,cs2) [0] rfl rfl rfl (Nat.zero_le _) (by repeat (first|exact Fr.sub_nil _|refine Fr.sub_cons rfl ?_)) rfl rfl ?_
     rintro ⟨i,cs2⟩ hi ihi
     simp only [List.cons_append,List.nil_append] at hi ihi ⊢
     by_cases hin:i<n
     ·refine Hk 0 rfl fun hlen=>?_
      have hhi:(hd2 i).2.1=n+1:=by rw [hlen i hin rfl];exact (hclW i i hin).1
      have hhc:(hd2 c).2.1=n+1:=by rw [hlen c hcl rfl];exact (hclW i c hcl).1
      have hli:=(hclW i i hin).1
      obtain ⟨z,at_z⟩:∃ z,(clr i i)[c]?=some z:=⟨_,List.getElem?_eq_getElem (by rw [hli];omega)⟩
      have nxt:∀ j,j<n→j≠i→clr (i+1) j=clr i j:=fun j hj hji=>by
       show (if _ then _ else if _ then _ else _)=(if _ then _ else if _ then _ else _)
       by_cases g1:j<i
       ·rw [if_pos g1,if_pos (show j<i+1 by omega)]
       ·rw [if_neg g1,if_neg (show ¬ j<i+1 by omega)]
      by_cases hit:i=c
      ·have nxi:clr (i+1) i=clr i i:=by
        show (if _ then _ else if _ then _ else _)=(if _ then _ else if _ then _ else _)
        rw [if_pos hit,if_pos hit]
       clear_value clr
       refine Dw 1 (i) 0 (n+1) rfl rfl (by first|assumption|omega) (by first|rfl|assumption|(simp [Ag,Bd];done)|(simp [Ag,Bd];omega)) (by first|assumption|omega) fun r1 hr1=>?_
       simp only [List.take_succ_cons,List.take_zero,List.cons_append,List.nil_append]
       refine wk 11 cz ?_
       intro h4
       refine D1 0 rfl (by omega) fun b3 cap3 cs4 hr3=>?_
       subst hr3
       dsimp only
       refine wk 15 cz ?_
       intro hr3 h5
       refine Bw 1 (i) 0 0 1 rfl rfl rfl rfl (by first|assumption|omega) (by first|rfl|assumption|(simp [Ag,Bd];done)|(simp [Ag,Bd];omega)) ?_
       simp only [List.eraseIdx_cons_zero,List.eraseIdx_cons_succ,List.take_succ_cons,List.take_zero,List.cons_append,List.nil_append]
       rw [Eb (F5 (by assumption) hin)]
       refine Bs (clr (i+1)) 0 rfl (fun g hg=>by
        by_cases e:g=i
        ·subst e;rw [Bp,nxi]
        ·rw [C5 e,nxt g hg e]) ?_
       exact tw (ihi (i+1,Er cs2 i cs4) (by dsimp only;omega) (by dsimp only;omega))
      ·have cli:clr i i=Ar (Ck rws c k) i:=by
        show (if _ then _ else if _ then _ else _)=_
        rw [if_neg hit,if_neg (Nat.lt_irrefl i)]
       have nxi:clr (i+1) i=F7 (Ad (fA p m)) (Ad (fM p (Az m md))) (B9 p m (en (Ck rws c k) i c)) pr (Ar (Ck rws c k) i):=by
        show (if _ then _ else if _ then _ else _)=_
        rw [if_neg hit,if_pos (Nat.lt_succ_self i)]
       have clt:clr i c=pr:=if_pos rfl
       have ez:z=en (Ck rws c k) i c:=by
        rw [cli,hsre i hin] at at_z;exact (Option.some.inj at_z).symm
       obtain ⟨z0,z1⟩:=hsen i hin
       rw [← ez] at nxi z0 z1
       have clL:=(hclW i c hcl).1
       have hprL:=hprW.1
       clear_value clr
       by_cases hz9:z=0
       ·rw [hz9,show B9 p m 0=0 by rw [B9];exact congrArg Int.ofNat (AJq p m),AFe FF hprW (hsW i hin),← cli] at nxi
        refine Dw 1 (i) 0 (n+1) rfl rfl (by first|assumption|omega) (by first|rfl|assumption|(simp [Ag,Bd];done)|(simp [Ag,Bd];omega)) (by first|assumption|omega) fun r1 hr1=>?_
        simp only [List.take_succ_cons,List.take_zero,List.cons_append,List.nil_append]
        refine wk 11 cz ?_
        intro h4
        refine D1 0 rfl (by omega) fun b3 cap3 cs4 hr3=>?_
        subst hr3
        dsimp only
        refine wk 15 cz ?_
        intro hr3 h5 h6
        refine Bw 1 (i) 0 0 1 rfl rfl rfl rfl (by first|assumption|omega) (by first|rfl|assumption|(simp [Ag,Bd];done)|(simp [Ag,Bd];omega)) ?_
        simp only [List.eraseIdx_cons_zero,List.eraseIdx_cons_succ,List.take_succ_cons,List.take_zero,List.cons_append,List.nil_append]
        rw [Eb (F5 (by assumption) hin)]
        refine Bs (clr (i+1)) 0 rfl (fun g hg=>by
         by_cases e:g=i
         ·subst e;rw [Bp,nxi]
         ·rw [C5 e,nxt g hg e]) ?_
        exact tw (ihi (i+1,Er cs2 i cs4) (by dsimp only;omega) (by dsimp only;omega))
       ·have hmb:Bd c [i]=false:=by
         rw [Ag,decide_eq_false (fun e=>hit e.symm)];rfl
        refine Dw 1 (i) 0 (n+1) rfl rfl (by first|assumption|omega) (by first|rfl|assumption|(simp [Ag,Bd];done)|(simp [Ag,Bd];omega)) (by first|assumption|omega) fun r1 hr1=>?_
        simp only [List.take_succ_cons,List.take_zero,List.cons_append,List.nil_append]
        refine Dw 2 (c) 1 (n+1) rfl rfl (by first|assumption|omega) (by first|rfl|assumption|(simp [Ag,Bd];done)|(simp [Ag,Bd];omega)) (by first|assumption|omega) fun r2 hr3=>?_
        simp only [List.take_succ_cons,List.take_zero,List.cons_append,List.nil_append]
        refine wk 11 cz ?_
        intro h4
        refine D1 2 rfl (by omega) fun b3 cap3 cs4 hr4=>?_
        subst hr4
        dsimp only
        refine wk 19 cz ?_
        intro hr4 h5 h6
        have eqi:=F5 (by assumption) hin
        have eqc:=F5 (by assumption) hcl
        rw [show clr i i=axK (Ad (fA p m)) (Ad (fM p (Az m md))) (B9 p m z) pr (clr i i) 0 from AHY.symm]
        refine Af (X:=Nat×List Value) [0,1,6,7,11,12,19,20,79,80,100,101] [0,1,5,6,7,8] (fun x=>[(102,.int .i64 (x.1:Int))]) (fun x=>(r2.bo,3,r2.cs)::(some b3,3,x.2)::(some bh,22,cs3)::Dd 3 hd2 cs2 n [c,i]) (fun x=>[A5 Aj ⟨some b3,cap3,x.2⟩ (n+1) (axK (Ad (fA p m)) (Ad (fM p (Az m md))) (B9 p m z) pr (clr i i) x.1)]) (fun x=>x.1≤n+1) (fun x=>n+1-x.1) (0,cs4) [2] rfl rfl rfl (Nat.zero_le _) (by repeat (first|exact Fr.sub_nil _|refine Fr.sub_cons rfl ?_)) rfl rfl ?_
        rintro ⟨j,cs5⟩ hj ihj
        simp only [List.cons_append,List.nil_append] at hj ihj ⊢
        have hKl:=AJg (A:=Ad (fA p m)) (M:=Ad (fM p (Az m md))) (a:=B9 p m z) (j:=j) hprL hli
        by_cases hjn:j<n+1
        ·have at_x:=ALx (A:=Ad (fA p m)) (M:=Ad (fM p (Az m md))) (a:=B9 p m z) hprL hli hjn
         have at_y:(clr i c)[j]?=some (Bh pr j):=by rw [clt,Bh,List.getD_eq_getElem?_getD,List.getElem?_eq_getElem (by omega)];rfl
         obtain ⟨x0,x1⟩:=Bm (show 0<p ^ m by omega) (hclW i i hin) j
         obtain ⟨y0,y1⟩:=Bm (show 0<p ^ m by omega) hprW j
         obtain ⟨p0,p1⟩:=FF.ml z (Bh pr j) z0 z1 y0 y1
         have ih':=fun cs=>ihj (j+1,cs) (by dsimp only;omega) (by dsimp only;omega)
         dsimp only at ih'
         rw [← AJ1 hprL hli hjn,← FO.nml O z0 z1 y0 y1] at ih'
         obtain ⟨⟨v0',v1'⟩,_⟩:=O.ng _ p0 p1
         obtain ⟨s0,s1⟩:=FF.al (Bh (clr i i) j) _ x0 x1 v0' v1'
         have A6:=fun {b ng cg ce cl:Nat}{pg pe pl:Option Addr}=>C6 (b:=b) (ng:=ng) (cg:=cg) (ce:=ce) (cl:=cl) (pg:=pg) (pe:=pe) (pl:=pl) (x:=z) (y:=Bh pr j) K z0 z1 y0 y1
         have K2:=fun {b ng cg ne ce nl cl:Nat}{pg pe pl:Option Addr}=>Q2 (b:=b) (ng:=ng) (cg:=cg) (ne:=ne) (ce:=ce) (nl:=nl) (cl:=cl) (pg:=pg) (pe:=pe) (pl:=pl) (x:=Bh (clr i i) j) (y:=Ad (fM p (Az m md)) z (Bh pr j)) K x0 x1 p0 p1
         generalize Ad (fM p (Az m md)) z (Bh pr j)=v at *
         generalize Bh pr j=y at *
         generalize axK (Ad (fA p m)) (Ad (fM p (Az m md))) (B9 p m z) pr (clr i i) j=L at *
         generalize Bh (clr i i) j=x at *
         generalize hs9:Ad (fA p m) x (B9 p m v)=s9 at *
         refine wk 6 cz ?_
         intro h7
         refine D1 1 rfl (by omega) fun b4 cap4 cs6 hr5=>?_
         subst hr5
         dsimp only
         refine wk 6 (ct @A6 (ct @K2 cz)) ?_
         intro hr5
         refine Aa rfl (Hg (vs:=[Value.int IntKind.i64 s9]) (z:=(s9:Int)) 1 0 (j) rfl rfl rfl rfl rfl Ci (Nat.mul_one _).symm (by omega) (fun w A hG=>(Dz (by first|(simp only [Bx];omega)|(simp [Bx];done)))) fun cs7=>?_)
         refine wk 3 cz ?_
         exact tw (ih' cs7)
        ·obtain rfl:j=n+1:=by omega
         rw [AJd hprL hli]
         clear ihj
         refine wk 7 cz ?_
         intro h7
         refine Bw 2 (c) 0 1 2 rfl rfl rfl rfl (by first|assumption|omega) (by first|rfl|assumption|(simp [Ag,Bd];done)|(simp [Ag,Bd];omega)) ?_
         simp only [List.eraseIdx_cons_zero,List.eraseIdx_cons_succ,List.take_succ_cons,List.take_zero,List.cons_append,List.nil_append]
         refine Bw 1 (i) 0 1 0 rfl rfl rfl rfl (by first|assumption|omega) (by first|rfl|assumption|(simp [Ag,Bd];done)|(simp [Ag,Bd];omega)) ?_
         simp only [List.eraseIdx_cons_zero,List.eraseIdx_cons_succ,List.take_succ_cons,List.take_zero,List.cons_append,List.nil_append]
         rw [← eqc,Eb rfl,← clt,Eb rfl,Eb eqi]
         refine Bs (clr (i+1)) 0 rfl (fun g hg=>by
          by_cases e:g=i
          ·subst e;rw [Bp,nxi,clt,cli]
          ·rw [C5 e,nxt g hg e]) ?_
         exact tw (ihi (i+1,Er (Er cs2 c r2.cs) i cs5) (by dsimp only;omega) (by dsimp only;omega))
     ·obtain rfl:i=n:=by omega
      have eF:H5 rws c c=some k:=AAG hk1 (by omega) hz0 hk3
      have eC:i-c=i-(c+1)+1:=by omega
      rw [eC,Kr,D0,eF] at hE
      dsimp only at hE
      rw [List.length_cons] at hE
      refine Bs (Ar (Kl (Ad (fA p m)) (Ad (fM p (Az m md))) (B9 p m) (Hw p m md) c k c rws)) 0 rfl (fun g hg=>by
       rw [Nt (by omega)]
       show (if _ then _ else if _ then _ else _)=_
       have hcc:Ar (Ck rws c k) c=Ar rws k:=by
        rw [Fe (by omega) (by omega)]
        split
        ·rename_i e;rw [← e]
        ·rw [if_pos rfl]
       by_cases e:g=c
       ·rw [if_pos e,if_pos e,← hpr,hcc]
       ·rw [if_neg e,if_neg e,if_pos hg,← hpr,hcc]) ?_
      have hpw:=O.piv_wd hM (t:=c) (k:=k) (c:=c) (by omega) (by omega) hz0
      have ih':=ih (c+1,cs3,hd2,cs2,Kl (Ad (fA p m)) (Ad (fM p (Az m md))) (B9 p m) (Hw p m md) c k c rws) (by dsimp only;omega) ⟨by dsimp only;omega,by dsimp only;rw [Ht];exact hl,hpw,by dsimp only;rw [Kr];omega⟩
      clear ihi ih
      refine wk 7 cz ?_
      intro h4
      exact tw (ih')
    refine wk 4 cz ?_
    intro h4
    (apply Gn (x0:=none) it mx 0 13 [2,3] 1;(· rfl);(· rfl);(· rfl);(· decide))
    simp only [List.drop_zero]
    (apply A1 6;(· rfl);(· simp))
    (apply Ac;(· rfl);(· exact Bz fun _=>Bf (k) (k) rfl rfl Df rfl (by omega) (Nat.mul_one _) Al))
    (apply Ac;(· rfl);(· exact Gd 0 4 (k) rfl rfl rfl E6 rfl (by assumption)))
    dsimp only
    (apply A1 2;(· rfl);(· simp))
    (apply Ac;(· rfl);(· exact Bz fun _=>Bf (c) (c) rfl rfl Df rfl (by omega) (Nat.mul_one _) Al))
    (apply Ac;(· rfl);(· exact Gd 0 4 (c) rfl rfl rfl E6 rfl (by assumption)))
    dsimp only
    (apply Ac;(· rfl);(· exact Bz fun _=>Bf (c) (c) rfl rfl Df rfl (by omega) (Nat.mul_one _) Al))
    refine F1 rfl ?_
    (rotate_left;rfl;rotate_right)
    simp only [List.map_cons,List.map_nil,List.cons_append,List.nil_append]
    refine G7 it rfl rfl ⟨⟨_,_,_,_,rfl,rfl,rfl,rfl,rfl,rfl,(by first|trivial|(repeat' first|exact trivial|apply And.intro|omega))⟩,⟨⟨_,_,_,_,rfl,rfl,rfl,rfl,rfl,rfl,(by first|trivial|(repeat' first|exact trivial|apply And.intro|omega))⟩,trivial⟩⟩ (Hg (vs:=[Value.slice (ad (hd k).fst) (hd k).snd.fst (hd k).snd.snd]) (z:=((hd k).fst,(hd k).snd.fst,(hd k).snd.snd)) 0 4 (c) rfl rfl rfl rfl rfl E6 (Nat.mul_one _).symm (by omega) (fun w A hG=>(Ua _ _ _)) fun cs2=>?_)
    refine Is it ⟨⟨_,_,_,_,rfl,rfl,rfl,rfl,rfl,rfl,(by first|trivial|(repeat' first|exact trivial|apply And.intro|omega))⟩,⟨⟨_,_,_,_,rfl,rfl,rfl,rfl,rfl,rfl,(by first|trivial|(repeat' first|exact trivial|apply And.intro|omega))⟩,trivial⟩⟩ ?_
    refine wk 1 cz ?_
    refine Aa rfl (Hg (vs:=[Value.slice (ad (hd c).fst) (hd c).snd.fst (hd c).snd.snd]) (z:=((hd c).fst,(hd c).snd.fst,(hd c).snd.snd)) 0 0 (k) rfl rfl rfl rfl rfl E6 (Nat.mul_one _).symm (by omega) (fun w A hG=>(Ua _ _ _)) fun cs3=>?_)
    refine Yu 1 [.c (pL 59807),.blk 1,.c (pL 935),.lp (pL 116),.blk 0,.c [1,1,1]] rfl ?_
    simp only [setB,List.set_cons_succ,List.set_cons_zero]
    rw [Lh,Lh]
    by_cases hkt:k=c
    ·refine Bs (Ar (Ck rws c k)) 2 rfl (fun g hg=>by
      rw [Fe (by omega) (by omega),hkt]
      split
      ·rename_i e;rw [e]
      ·rfl) ?_
     rw [show Er (Er hd c ((hd k).1,(hd k).2.1,(hd k).2.2)) k ((hd c).1,(hd c).2.1,(hd c).2.2)=hd from by
      subst hkt;exact (Eb (f:=Er hd k _) (Bp ..)).trans (Eb rfl)]
     exact tw (key cs3 hd (Er cs k cs1))
    ·have hht:=hhd c hcl
     have hmb:Bd k [c]=false:=by
      rw [Ag,decide_eq_false hkt];rfl
     refine Dw 1 (c) 2 (n+1) rfl rfl (by first|assumption|omega) (by first|rfl|assumption|(simp [Ag,Bd];done)|(simp [Ag,Bd];omega)) (by first|assumption|omega) fun r1 hr3=>?_
     simp only [List.take_succ_cons,List.take_zero,List.cons_append,List.nil_append]
     refine Dw 2 (k) 1 (n+1) rfl rfl (by first|assumption|omega) (by first|rfl|assumption|(simp [Ag,Bd];done)|(simp [Ag,Bd];omega)) (by first|assumption|omega) fun r2 hr4=>?_
     simp only [List.take_succ_cons,List.take_zero,List.cons_append,List.nil_append]
     refine Bw 2 k 1 2 1 rfl rfl rfl rfl hkn hmb ?_
     simp only [List.eraseIdx_cons_zero,List.eraseIdx_cons_succ,List.take_succ_cons,List.take_zero,List.cons_append,List.nil_append]
     refine Bw 1 c 0 1 0 rfl rfl rfl rfl hcl rfl ?_
     simp only [List.eraseIdx_cons_zero,List.eraseIdx_cons_succ,List.take_succ_cons,List.take_zero,List.cons_append,List.nil_append]
     have e1:hd c=(r1.bo,n+1,r1.cap):=F5 (by assumption) hcl
     have e2:hd k=(r2.bo,n+1,r2.cap):=F5 (by assumption) hkn
     rw [show Er (Er hd k (r1.bo,n+1,r1.cap)) c (r2.bo,n+1,r2.cap)=Er (Er hd c ((hd k).1,(hd k).2.1,(hd k).2.2)) k ((hd c).1,(hd c).2.1,(hd c).2.2) from by
      show Er (Er hd k (r1.bo,n+1,r1.cap)) c (r2.bo,n+1,r2.cap)=Er (Er hd c (hd k)) k (hd c)
      rw [← e1,← e2]
      funext j
      by_cases g1:j=k
      ·subst g1
       rw [Bp,C5 hkt,Bp]
      ·rw [C5 g1]
       by_cases g2:j=c
       ·rw [g2,Bp,Bp]
       ·rw [C5 g2,C5 g2,C5 g1]]
     refine Bs (Ar (Ck rws c k)) 0 rfl (fun g hg=>by
      rw [Fe (by omega) (by omega)]
      by_cases g1:g=k
      ·subst g1
       rw [if_pos rfl,C5 hkt,Bp]
      ·rw [if_neg g1]
       by_cases g2:g=c
       ·rw [if_pos g2,g2,Bp]
       ·rw [if_neg g2,C5 g2,C5 g1]) ?_
     exact tw (key cs3 (Er (Er hd c ((hd k).1,(hd k).2.1,(hd k).2.2)) k ((hd c).1,(hd c).2.1,(hd c).2.2)) (Er (Er (Er cs k cs1) k r1.cs) c r2.cs))
  ·obtain rfl:k=n:=by omega
   have hF:H5 rws c c=none:=AAc fun j h1 h2=>hk3 j h1 (by omega)
   have hne:¬ EE=k:=by
    have h1:k-c=(k-c-1)+1:=by omega
    rw [h1,Kr,D0,hF] at hE
    have:=Z3 (A:=Ad (fA p m)) (M:=Ad (fM p (Az m md))) (N:=B9 p m) (V:=Hw p m md) (k-c-1) (c+1) c rws
    dsimp only at hE
    omega
   rw [decide_eq_false hne]
   clear ihk ih
   refine wk 16 cz ?_
   intro h2 h3
   refine Bb [] rfl (.tmp rfl (.tmp rfl .nil)) rfl ⟨none,0,0,rfl,rfl,rfl⟩
 ·obtain rfl:c=n:=by omega
  have:EE=c:=by rw [Nat.sub_self] at hE;rw [← hE,Kr,D0];simp
  rw [decide_eq_true this]
  clear ih
  refine wk 13 cz ?_
  intro h1 b1
  rw [show Ao .i64 (List.replicate c 0)=Ak .i64 (List.replicate c 0) by simp [Ao,Ak]]
  refine Af (X:=Nat×(Nat→List Value)×List Int) [0,1,6,15,131,132] [0,2,3,4] (fun x=>[(133,.int .i64 (x.1:Int))]) (fun x=>(some b1,3,Ak .i64 x.2.2)::(some bh,22,ch)::Dd 3 hd x.2.1 c []) (fun x=>[Ep Aj hd x.2.1 (Ar rws) c []]) (fun x=>x.1≤c∧x.2.2.length=c) (fun x=>c-x.1) (0,cs,List.replicate c 0) [1] rfl rfl rfl ⟨Nat.zero_le _,by simp⟩ (by repeat (first|exact Fr.sub_nil _|refine Fr.sub_cons rfl ?_)) rfl rfl ?_
  rintro ⟨i,cs,L⟩ ⟨hi,hLl⟩ ih
  simp only [List.cons_append,List.nil_append] at hi hLl ih ⊢
  by_cases hin:i<c
  ·refine Hk 0 rfl fun hlen=>?_
   have hrw:=hM.row (i:=i) (by omega)
   have hhi:(hd i).2.1=c+1:=by rw [hlen i hin rfl];exact hrw.1
   have hrl:=hrw.1
   have at_z:(Ar rws i)[c]?=some (en rws i c):=by
    rw [en,Bh,List.getD_eq_getElem?_getD,List.getElem?_eq_getElem (by omega)];rfl
   obtain ⟨z0,z1⟩:=Bm (by omega) hrw c
   have ih':=fun cs'=>ih (i+1,cs',L.set i (en rws i c)) (by dsimp only;omega) ⟨by dsimp only;omega,by dsimp only;rw [List.length_set];exact hLl⟩
   clear ih
   generalize en rws i c=z at *
   refine Dw 2 (i) 0 (c+1) rfl rfl (by first|assumption|omega) (by first|rfl|assumption|(simp [Ag,Bd];done)|(simp [Ag,Bd];omega)) (by first|assumption|omega) fun r1 hr1=>?_
   simp only [List.take_succ_cons,List.take_zero,List.cons_append,List.nil_append]
   refine wk 11 cz ?_
   intro h2
   refine D1 0 rfl (by omega) fun b2 cap1 cs1 hr2=>?_
   subst hr2
   dsimp only
   refine wk 7 cz ?_
   intro hr2
   refine Bw 2 (i) 0 0 1 rfl rfl rfl rfl (by first|assumption|omega) (by first|rfl|assumption|(simp [Ag,Bd];done)|(simp [Ag,Bd];omega)) ?_
   simp only [List.eraseIdx_cons_zero,List.eraseIdx_cons_succ,List.take_succ_cons,List.take_zero,List.cons_append,List.nil_append]
   simp only [setB,List.set_cons_succ,List.set_cons_zero,List.eraseIdx_cons_zero,List.take_succ_cons,List.take_zero,List.cons_append,List.nil_append]
   rw [Eb (F5 (by assumption) hin),show Er (Ar rws) i (Ar rws i)=Ar rws from Eb rfl]
   exact tw (ih' (Er cs i cs1))
  ·obtain rfl:i=c:=by omega
   clear ih
   refine wk 7 cz ?_
   intro h2
   refine Bb [] rfl (.tmp rfl (.tmp rfl .nil)) rfl ⟨_,_,_,rfl,rfl,rfl⟩
end
open Go Go.Fw
set_option maxRecDepth 100000
set_option linter.unusedVariables false
set_option linter.unusedSimpArgs false
set_option maxHeartbeats 0
def syL (M:Nat→Nat→Nat) (p m d:Nat) (l:List Nat) (r:List Int):List (List Int):=(List.range (m / d)).map fun i=>(l.map fun x=>((No (Nj M p (d % m)) i x:Nat):Int))++[Bh r i]
def syS (T:List Int) (k j:Nat):List Int:=T.take j++(List.replicate (k-j) 0++T.drop k)
theorem AF3 {T:List Int}{k j:Nat}(hT:T.length=k+1) (hj:j≤k):(syS T k j).length=k+1:=by
 simp only [syS,List.length_append,List.length_take,List.length_replicate,List.length_drop,hT];omega
theorem AI1 {T:List Int}{k:Nat}:syS T k k=T:=by rw [syS,Nat.sub_self,List.replicate_zero,List.nil_append,List.take_append_drop]
theorem AIq {T:List Int}{k:Nat}{z:Int}(hT:T.length=k+1) (hz:T[k]?=some z):(List.replicate (k+1) (0:Int)).set k z=syS T k 0:=by
 rw [syS,List.take_zero,List.nil_append,Nat.sub_zero,List.replicate_succ',List.set_append_right _ _ (by simp),List.length_replicate,Nat.sub_self,List.set_cons_zero]
 congr 1
 rw [List.drop_eq_getElem_cons (by omega),List.drop_of_length_le (by omega)]
 rw [List.getElem?_eq_getElem (by omega)] at hz
 rw [Option.some.inj hz]
theorem AJ2 {T:List Int}{k j:Nat}{y:Int}(hT:T.length=k+1) (hj:j<k) (hy:T[j]?=some y):(syS T k j).set j y=syS T k (j+1):=by
 have h1:(T.take j).length=j:=by rw [List.length_take];omega
 obtain ⟨e,he⟩:∃ e,k-j=e+1:=⟨k-j-1,by omega⟩
 rw [syS,syS,List.set_append_right _ _ (by omega),h1,Nat.sub_self,he,List.replicate_succ,List.cons_append,List.set_cons_zero,show k-(j+1)=e by omega,List.take_succ_eq_append_getElem (by omega),List.append_assoc,List.singleton_append]
 rw [List.getElem?_eq_getElem (by omega)] at hy
 rw [Option.some.inj hy]
theorem AKd {T:List Int}{k j:Nat}(hT:∀ z∈T,Bx .i64 z):∀ z∈syS T k j,Bx .i64 z:=fun z hz=>by
 rcases List.mem_append.1 hz with hz|hz
 ·exact hT z (List.mem_of_mem_take hz)
 rcases List.mem_append.1 hz with hz|hz
 ·rw [(List.mem_replicate.1 hz).2];simp [Bx]
 ·exact hT z (List.mem_of_mem_drop hz)
section
variable {b p m n k ng cg ce cl d cL cR:Nat}{pg pe pl pX0 pR:Option Addr}{l:List Nat}{r md:List Int}
theorem AAT (K:Fok p m md) (d1:1≤d) (d8:d≤8) (hn:m / d=n) (hn0:0<n) (hlk:l.length=k) (hk:k≤64) (hlq:∀ x∈l,x<p ^ m) (hrl:r.length=n) (hrr:∀ z∈r,Bx .i64 z) :
  Bn Tryz.prog 217 [.pointer (some ⟨b,0,none⟩),.slice pX0 k cL,.int .i64 (d:Int),.slice pR n cR] []
   [Jp b p m (p ^ m) pg md.length cg pe (p ^ m-1) ce pl (p ^ m) cl,Ap Aj pg md.length cg md,Ap Aj pe (p ^ m-1) ce (J8 p m md),Ap Aj pl (p ^ m) cl (J3 p m md),Ap Aj pX0 k cL (Bc l),Ap Aj pR n cR r]
   (fun v Φ β=>∃ (rh:Row) (hd:Nat→Hd) (cs:Nat→List Value),v = .slice (ad rh.bo) n rh.cap∧Φ=[A5 Sg rh n (Jf hd n),Ep Aj hd cs (Ar (syL (fM p (Az m md)) p m d l r)) n []]∧β=(rh.bo,22,rh.cs)::Dd 3 hd cs n []):=by
 refine Ab (F:=AAF) rfl fun C=>?_
 have hm:=K.m8
 have hn8:n≤8:=by have:=Nat.div_le_self m d;omega
 have hq:=K.q
 have hTl:∀ i,i<n→(Ar (syL (fM p (Az m md)) p m d l r) i).length=k+1:=fun i hi=>by
  rw [Ar,syL,List.getD_eq_getElem?_getD,List.getElem?_map,List.getElem?_range (by omega)];simp [hlk]
 have hTk:∀ i,i<n→(Ar (syL (fM p (Az m md)) p m d l r) i)[k]?=some (Bh r i):=fun i hi=>by
  rw [Ar,syL,List.getD_eq_getElem?_getD,List.getElem?_map,List.getElem?_range (by omega)]
  show (_++[Bh r i])[k]?=_
  rw [List.getElem?_append_right (by simp [hlk]),List.length_map,hlk,Nat.sub_self];rfl
 have hTj:∀ i,i<n→∀ (j x:Nat),l[j]?=some x→(Ar (syL (fM p (Az m md)) p m d l r) i)[j]?=some ((No (Nj (fM p (Az m md)) p (d % m)) i x:Nat):Int):=fun i hi j x hx=>by
  rw [Ar,syL,List.getD_eq_getElem?_getD,List.getElem?_map,List.getElem?_range (by omega)]
  show (_++[Bh r i])[j]?=_
  have:=(List.getElem?_eq_some_iff.1 hx).1
  rw [List.getElem?_append_left (by rw [List.length_map];exact this),List.getElem?_map,hx];rfl
 have hTr:∀ i,i<n→∀ z∈Ar (syL (fM p (Az m md)) p m d l r) i,Bx .i64 z:=fun i hi z hz=>by
  rw [Ar,syL,List.getD_eq_getElem?_getD,List.getElem?_map,List.getElem?_range (by omega)] at hz
  rcases List.mem_append.1 hz with hz|hz
  ·obtain ⟨x,hx,rfl⟩:=List.mem_map.1 hz
   have:=P9 (f:=Nj (fM p (Az m md)) p (d % m)) (fun y hy=>Oh K hy (d % m)) (hlq x hx) i
   simp only [Bx];omega
  ·rw [List.mem_singleton.1 hz,Bh,List.getD_eq_getElem?_getD,List.getElem?_eq_getElem (by omega)]
   exact hrr _ (List.getElem_mem _)
 have Cz:=fun {b cg ce cl x:Nat}{pg pe pl:Option Addr}(hx:x<p ^ m)=>(Ln (b:=b) (cg:=cg) (ce:=ce) (cl:=cl) (pg:=pg) (pe:=pe) (pl:=pl) K hx d1 d8).pubR (by show m / d*8≤140737488355328;omega)
 have hE:∀ x,Sf (fM p (Az m md)) p m d x=(List.range n).map fun i=>No (Nj (fM p (Az m md)) p (d % m)) i x:=fun x=>by rw [Sf,hn]
 rw [hn] at Cz
 generalize syL (fM p (Az m md)) p m d l r=T at *
 have hk1:(k+1:Int).toNat=k+1:=by omega
 refine wk 5 cz ?_
 refine Aa rfl (ADa (n) _ rfl rfl Df Gr rfl rfl Jx (by omega) (by omega) (by omega) fun b1=>?_)
 refine wk 6 cz ?_
 refine AIb 0 rfl (by omega) fun csA=>?_
 refine AAS Aj 3 0 ?_
 simp only [setB,List.cons_append,List.nil_append]
 refine Bs (fun i=>syS (Ar T i) k 0) 0 rfl (fun g hg=>absurd hg (Nat.not_lt_zero g)) ?_
 refine Af (X:=Nat×List Value×(Nat→Hd)×(Nat→List Value)) [0,1,2,3,8,9,19] [3,4,5,6,7,8] (fun x=>[(20,.int .i64 (x.1:Int))])
  (fun x=>(some b1,22,x.2.1)::Dd 3 x.2.2.1 x.2.2.2 x.1 [])
  (fun x=>[A5 Sg ⟨some b1,n,x.2.1⟩ n (Jf x.2.2.1 n),Ep Aj x.2.2.1 x.2.2.2 (fun i=>syS (Ar T i) k 0) x.1 []])
  (fun x=>x.1≤n) (fun x=>n-x.1) (0,csA,fun _=>(none,0,0),fun _=>[]) [2,0] rfl rfl rfl (Nat.zero_le _) (by repeat (first|exact Fr.sub_nil _|refine Fr.sub_cons rfl ?_)) rfl rfl ?_
 rintro ⟨i,ch,hd,cs⟩ hi ih
 simp only [List.cons_append,List.nil_append] at hi ih ⊢
 by_cases hil:i<n
 ·have at_y:r[i]?=some (Bh r i):=by
   rw [Bh,List.getD_eq_getElem?_getD,List.getElem?_eq_getElem (by omega)];rfl
  refine wk 12 cz ?_
  intro h1 b2
  refine Aa rfl (Hg (vs:=[Value.slice (some { block:=b2,off:=0 }) (k+1) (k+1)]) (z:=(some b2,k+1,k+1)) 1 0 (i) rfl rfl rfl rfl rfl E6 (Nat.mul_one _).symm (by omega) (fun w A hG=>(Ua (some _) _ _)) fun cs1=>?_)
  refine wk 1 cz ?_
  simp only [setB]
  rw [Lh]
  have hz:(Jf (Er hd i (some b2,k+1,k+1)) n)[i]?=some (some b2,k+1,k+1):=by
   rw [Jf,List.getElem?_map,List.getElem?_range hil,Option.map_some,Bp]
  rw [show Ao .i64 (List.replicate (k+1) 0)=Ak .i64 (List.replicate (k+1) 0) by simp [Ao,Ak]]
  have hrl2:(List.replicate (k+1) (0:Int)).length=k+1:=List.length_replicate
  have hs0:(List.replicate (k+1) (0:Int)).set k (r.getD i default)=syS (Ar T i) k 0:=AIq (hTl i hil) (hTk i hil)
  have hsl:=AF3 (hTl i hil) (Nat.zero_le k)
  have hsr:=AKd (k:=k) (j:=0) (hTr i hil)
  generalize List.replicate (k+1) (0:Int)=Z at *
  (apply E5 it mx 10;(· rfl);(· rfl))
  (apply A1 2;(· rfl);(· simp))
  (apply Ac;(· rfl);(· exact Bz fun _=>Bf (i) (i) rfl rfl Df rfl (by omega) (Nat.mul_one _) Al))
  (apply Ac;(· rfl);(· exact Gd 1 0 (i) rfl rfl rfl E6 rfl (by assumption)))
  dsimp only
  (apply A1 1;(· rfl);(· simp))
  (apply Ac;(· rfl);(· exact Bz fun _=>Hn Ce rfl Al))
  (apply A1 2;(· rfl);(· simp))
  (apply Yd;(· rfl);(· exact Bz fun _=>Ia 8 (i) rfl rfl rfl Ce rfl (by omega) fun z1 hz1 b3 o1=>(Xk default hz1 0 rfl));intro b3 o1)
  (apply Ac;(· rfl);(· exact Bz fun _=>Av 0 rfl rfl Ci fun ⟨r1,r2⟩=>Al))
  refine Et rfl ?_
  simp only [List.map_cons,List.map_nil,List.cons_append,List.nil_append]
  refine Aa rfl (Bf (k) (k) rfl rfl Ce rfl (by omega) (Nat.mul_one _) ?_)
  refine Aa rfl (Xf 0 rfl rfl rfl Ci (by first|omega|(simp;omega)) ?_)
  refine Aq [_,_,_,_] rfl ?_
  refine Ai it 2 rfl ⟨trivial,⟨by omega,by omega⟩,trivial⟩ ?_
  refine Yu 1 [.lp (pL 116),.blk 0,.c [1,1,1]] rfl ?_
  simp only [setB,List.set_cons_zero]
  rw [hs0]
  refine Bk 0 rfl hsl.symm hsr (by omega) ?_
  refine AE7 1 0 0 4 rfl rfl rfl rfl ?_
  simp only [List.eraseIdx_cons_zero,List.eraseIdx_cons_succ,List.take_succ_cons,List.take_zero,List.cons_append,List.nil_append]
  refine Bs (fun i=>syS (Ar T i) k 0) 0 rfl (fun g hg=>by
   by_cases e:g=i
   ·subst e
    rw [Bp]
   ·rw [C5 e]) ?_
  exact tw (ih (i+1,cs1,Er hd i (some b2,k+1,k+1),Er cs i (Ak .i64 (syS (Ar T i) k 0))) (by dsimp only;omega) (by dsimp only;omega))
 ·obtain rfl:i=n:=by omega
  clear ih
  refine wk 9 cz ?_
  intro h1
  refine Af (X:=Nat×(Nat→List Value)) [0,2,8,9,42,43] [0,2,3,4,5,6,7] (fun x=>[(44,.int .i64 (x.1:Int))])
   (fun x=>(some b1,22,ch)::Dd 3 hd x.2 i []) (fun x=>[Ep Aj hd x.2 (fun g=>syS (Ar T g) k x.1) i []])
   (fun x=>x.1≤k) (fun x=>k-x.1) (0,cs) [1] rfl rfl rfl (Nat.zero_le _) (by repeat (first|exact Fr.sub_nil _|refine Fr.sub_cons rfl ?_)) rfl rfl ?_
  rintro ⟨j,cs⟩ hj ih
  simp only [List.cons_append,List.nil_append] at hj ih ⊢
  by_cases hjk:j<k
  ·obtain ⟨x,hx⟩:∃ x,l[j]?=some x:=⟨_,List.getElem?_eq_getElem (by omega)⟩
   have at_x:(Bc l)[j]?=some ((x:Nat):Int):=by rw [Bc,List.getElem?_map,hx];rfl
   have hxq:=hlq x (List.mem_of_getElem? hx)
   have Cz:=fun {b cg ce cl:Nat}{pg pe pl:Option Addr}=>Cz (b:=b) (cg:=cg) (ce:=ce) (cl:=cl) (pg:=pg) (pe:=pe) (pl:=pl) hxq
   have hEL:(Sf (fM p (Az m md)) p m d x).length=i:=by rw [hE];simp
   have hEa:∀ g,g<i→(Bc (Sf (fM p (Az m md)) p m d x))[g]?=some ((No (Nj (fM p (Az m md)) p (d % m)) g x:Nat):Int):=fun g hg=>by
    rw [hE,Bc,List.getElem?_map,List.getElem?_map,List.getElem?_range hg];rfl
   have hTx:=fun g (hg:g<i)=>hTj g hg j x hx
   have hit:=fun g=>P9 (f:=Nj (fM p (Az m md)) p (d % m)) (fun y hy=>Oh K hy (d % m)) hxq g
   have ih':=fun cs=>ih (j+1,cs) (by dsimp only;omega) (by dsimp only;omega)
   clear ih
   generalize Sf (fM p (Az m md)) p m d x=L at *
   refine wk 7 cz ?_
   intro h2 b2 o1 hz1
   refine Aa rfl (Av 0 rfl rfl Ci fun ⟨r1,r2⟩=>?_)
   refine wk 7 (ct @Cz cz) ?_
   intro pa1 ca1
   refine Bs (fun g=>syS (Ar T g) k (if g<0 then j+1 else j)) 2 rfl (fun g hg=>by rw [if_neg (Nat.not_lt_zero g)]) ?_
   simp only [List.cons_append,List.nil_append]
   refine Af (X:=Nat×(Nat→List Value)) [0,2,8,9,11,12,42,43,44,45,46,47,48,49,50,51,52,53] [1,4,5,6,7,8,9,10] (fun x=>[(54,.int .i64 (x.1:Int))])
    (fun x=>(some b1,22,ch)::Dd 3 hd x.2 i []) (fun x=>[Ep Aj hd x.2 (fun g=>syS (Ar T g) k (if g<x.1 then j+1 else j)) i []])
    (fun x=>x.1≤i) (fun x=>i-x.1) (0,cs) [0] rfl rfl rfl (Nat.zero_le _) (by repeat (first|exact Fr.sub_nil _|refine Fr.sub_cons rfl ?_)) rfl rfl ?_
   rintro ⟨g,cs⟩ hg ih
   simp only [List.cons_append,List.nil_append] at hg ih ⊢
   by_cases hgi:g<i
   ·refine Hk 0 rfl fun hlen=>?_
    have hT1:=hTl g hgi
    have hl1:=AF3 hT1 (show j≤k by omega)
    have hgg:syS (Ar T g) k (if g<g then j+1 else j)=syS (Ar T g) k j:=by rw [if_neg (Nat.lt_irrefl g)]
    have hhg:(hd g).2.1=k+1:=by rw [hlen g hgi rfl,hgg];exact hl1
    have at_y:=hEa g hgi
    have hst:=AJ2 hT1 hjk (hTx g hgi)
    have hyi:=hit g
    have ih2:=fun cs=>ih (g+1,cs) (by dsimp only;omega) (by dsimp only;omega)
    clear ih
    generalize No (Nj (fM p (Az m md)) p (d % m)) g x=y at *
    refine Dw 1 (g) 0 (k+1) rfl rfl (by first|assumption|omega) (by first|rfl|assumption|(simp [Ag,Bd];done)|(simp [Ag,Bd];omega)) (by first|assumption|omega) fun r3 hr1=>?_
    simp only [List.take_succ_cons,List.take_zero,List.cons_append,List.nil_append]
    rw [hgg]
    refine wk 7 cz ?_
    intro h3 b3 o2 hz2
    refine Aa rfl (Av 0 rfl rfl Ci fun ⟨r4,r5⟩=>?_)
    refine wk 6 cz ?_
    refine D1 1 rfl (by omega) fun b4 cap1 cs1 hr2=>?_
    subst hr2
    dsimp only
    refine wk 1 cz ?_
    refine Aa rfl (Hg (vs:=[Value.int IntKind.i64 ↑y]) (z:=(↑y:Int)) 0 1 (j) rfl rfl rfl rfl rfl Ci (Nat.mul_one _).symm (by omega) (fun w A hG=>(Dz (by first|(simp only [Bx];omega)|(simp [Bx];done)))) fun cs2=>?_)
    refine wk 3 cz ?_
    refine Bw 1 (g) 0 0 3 rfl rfl rfl rfl (by first|assumption|omega) (by first|rfl|assumption|(simp [Ag,Bd];done)|(simp [Ag,Bd];omega)) ?_
    simp only [List.eraseIdx_cons_zero,List.eraseIdx_cons_succ,List.take_succ_cons,List.take_zero,List.cons_append,List.nil_append]
    simp only [setB,List.set_cons_zero,List.eraseIdx_cons_zero,List.take_succ_cons,List.take_zero,List.cons_append,List.nil_append]
    rw [Eb (F5 (by assumption) hgi),hst]
    refine Bs (fun f=>syS (Ar T f) k (if f<g+1 then j+1 else j)) 0 rfl (fun f hf=>by
     by_cases e:f=g
     ·subst e
      rw [Bp,if_pos (by omega)]
     ·rw [C5 e]
      by_cases h9:f<g
      ·rw [if_pos h9,if_pos (by omega)]
      ·rw [if_neg h9,if_neg (by omega)]) ?_
    exact tw (ih2 (Er cs g cs2))
   ·obtain rfl:g=i:=by omega
    clear ih
    refine Bs (fun f=>syS (Ar T f) k (j+1)) 0 rfl (fun f hf=>by rw [if_pos hf]) ?_
    refine wk 7 cz ?_
    intro h3
    exact tw (ih' cs)
  ·obtain rfl:j=k:=by omega
   clear ih
   refine Bs (Ar T) 0 rfl (fun f hf=>by rw [AI1]) ?_
   refine wk 7 cz ?_
   intro h2
   refine Dp 1 [0] [2,0] rfl (.tmp rfl .nil) rfl rfl rfl ⟨⟨some b1,i,ch⟩,hd,cs,rfl,rfl,rfl⟩
end
open Go Go.Fw
set_option maxRecDepth 100000
set_option linter.unusedVariables false
set_option linter.unusedSimpArgs false
set_option maxHeartbeats 0
def nsB (p m d:Nat) (md:List Int) (l:List Nat):Bool:=decide ((Kr p m md (m / d) 0 0 (syL (fM p (Az m md)) p m d l (Bc (Sf (fM p (Az m md)) p m d 0)))).2.length=m / d)
theorem AJk {d:Nat}{l:List Nat}{r md:List Int}{p m n k:Nat}(K:Fok p m md) (hn:m / d=n) (hlk:l.length=k) (hlq:∀ x∈l,x<p ^ m) (hrl:r.length=n) (hr:∀ z∈r,0≤z∧z<((p ^ m:Nat):Int)) :
  (syL (fM p (Az m md)) p m d l r).length=n∧Da (p ^ m) (k+1) (syL (fM p (Az m md)) p m d l r):=by
 refine ⟨by simp [syL,hn],fun s hs=>?_⟩
 obtain ⟨i,hi,rfl⟩:=List.mem_map.1 hs
 have hi:=List.mem_range.1 hi
 refine ⟨by simp [hlk],fun z hz=>?_⟩
 rcases List.mem_append.1 hz with hz|hz
 ·obtain ⟨x,hx,rfl⟩:=List.mem_map.1 hz
  have:=P9 (f:=Nj (fM p (Az m md)) p (d % m)) (fun y hy=>Oh K hy (d % m)) (hlq x hx) i
  omega
 ·rw [List.mem_singleton.1 hz,Bh,List.getD_eq_getElem?_getD,List.getElem?_eq_getElem (by omega)]
  exact hr _ (List.getElem_mem _)
section
variable {b p m n ng cg ce cl d cL:Nat}{pg pe pl pX0:Option Addr}{l:List Nat}{md:List Int}
theorem ABp (K:Fok p m md) (d1:1≤d) (d8:d≤8) (hd:dgB m d=true) (hn:m / d=n) (hn0:0<n) (hlk:l.length=n) (hlq:∀ x∈l,x<p ^ m) :
  Bn Tryz.prog 200 [.pointer (some ⟨b,0,none⟩),.slice pX0 n cL,.int .i64 (d:Int)] []
   [Jp b p m (p ^ m) pg md.length cg pe (p ^ m-1) ce pl (p ^ m) cl,Ap Aj pg md.length cg md,Ap Aj pe (p ^ m-1) ce (J8 p m md),Ap Aj pl (p ^ m) cl (J3 p m md),Ap Aj pX0 n cL (Bc l)]
   (Rv (.int .i64 (if nsB p m d md l then 0 else 9)) []):=by
 refine Ab (F:=ABr) rfl fun C=>?_
 have hm:=K.m8
 have hn8:n≤8:=by have:=Nat.div_le_self m d;omega
 have hq:=K.q
 have q0:0<p ^ m:=Nat.pow_pos (by have:=K.p2;omega)
 have h0:=AIl (d:=d) K q0
 have h0l:(Bc (Sf (fM p (Az m md)) p m d 0)).length=n:=by rw [Co,ACx,hn]
 have hsy:=AJk K hn hlk hlq h0l h0
 have Bg:=fun {b ne ce nl cl cg:Nat}{pg pe pl:Option Addr}=>Gg (b:=b) (ne:=ne) (ce:=ce) (nl:=nl) (cl:=cl) (cg:=cg) (pg:=pg) (pe:=pe) (pl:=pl) K d1 d8
 have Cz:=fun {b cg ce cl:Nat}{pg pe pl:Option Addr}=>(Ln (b:=b) (cg:=cg) (ce:=ce) (cl:=cl) (pg:=pg) (pe:=pe) (pl:=pl) K q0 d1 d8).pubR (by show m / d*8≤140737488355328;omega)
 have S1:=fun {b cg ce cl cL cR:Nat}{pg pe pl pX0 pR:Option Addr}=>AAT (b:=b) (cg:=cg) (ce:=ce) (cl:=cl) (cL:=cL) (cR:=cR) (pg:=pg) (pe:=pe) (pl:=pl) (pX0:=pX0) (pR:=pR) K d1 d8 hn hn0 hlk (by omega) hlq h0l fun z hz=>by have:=h0 z hz;simp only [Bx];omega
 have G8:=fun {b ng cg ce cl:Nat}{pg pe pl:Option Addr}{rh:Row}{hd:Nat→Hd}{cs:Nat→List Value}=>AA4 (b:=b) (ng:=ng) (cg:=cg) (ce:=ce) (cl:=cl) (pg:=pg) (pe:=pe) (pl:=pl) (rh:=rh) (hd:=hd) (cs:=cs) K hn0 (by omega) hsy.1 hsy.2
 rw [hd] at Bg
 have hns:nsB p m d md l=decide ((Kr p m md (m / d) 0 0 (syL (fM p (Az m md)) p m d l (Bc (Sf (fM p (Az m md)) p m d 0)))).2.length=m / d):=rfl
 rw [hn] at *
 generalize Sf (fM p (Az m md)) p m d 0=Z at *
 have h0:((0:Nat):Int)=0:=rfl
 rw [h0] at Cz
 generalize Kr p m md n 0 0 (syL (fM p (Az m md)) p m d l (Bc Z))=EE at *
 by_cases he:EE.2.length=n
 ·rw [decide_eq_true he] at *
  rw [hns,if_pos rfl]
  refine wk 23 (ct @Bg (ct @Cz (ct @S1 cz))) ?_
  intro pa1 ca1 h1 rh1 hd1 cs1
  simp only [List.append_nil]
  have G8:=fun {b ng cg ce cl:Nat}{pg pe pl:Option Addr}=>G8 (b:=b) (ng:=ng) (cg:=cg) (ce:=ce) (cl:=cl) (pg:=pg) (pe:=pe) (pl:=pl) (rh:=rh1) (hd:=hd1) (cs:=cs1)
  refine Aa rfl (Ns 0 [3,5,6,0,1] rfl rfl (G8) rfl ?_)
  rintro _ _ _ ⟨pa2,k1,c1,rfl,rfl,rfl⟩
  simp only [List.cons_append,List.nil_append]
  simp only [decide_true]
  refine wk 8 cz ?_
  exact ge
 ·rw [decide_eq_false he] at *
  rw [hns,if_neg Bool.false_ne_true]
  refine wk 23 (ct @Bg (ct @Cz (ct @S1 cz))) ?_
  intro pa1 ca1 h1 rh1 hd1 cs1
  simp only [List.append_nil]
  have G8:=fun {b ng cg ce cl:Nat}{pg pe pl:Option Addr}=>G8 (b:=b) (ng:=ng) (cg:=cg) (ce:=ce) (cl:=cl) (pg:=pg) (pe:=pe) (pl:=pl) (rh:=rh1) (hd:=hd1) (cs:=cs1)
  refine Aa rfl (Ns 0 [3,5,6,0,1] rfl rfl (G8) rfl ?_)
  rintro _ _ _ ⟨pa2,k1,c1,rfl,rfl,rfl⟩
  simp only [List.cons_append,List.nil_append]
  simp only [decide_true]
  refine wk 8 cz ?_
  exact ge
theorem Y6 (K:Fok p m md) (d1:1≤d) (d8:d≤8) (hd:dgB m d=true) (hn:m / d=n) (hn0:0<n) (hlk:l.length=n) (hlq:∀ x∈l,x<p ^ m) :
  Bn Tryz.prog 169 [.pointer (some ⟨b,0,none⟩),.slice pX0 n cL,.int .i64 (d:Int)] []
   [Jp b p m (p ^ m) pg md.length cg pe (p ^ m-1) ce pl (p ^ m) cl,Ap Aj pg md.length cg md,Ap Aj pe (p ^ m-1) ce (J8 p m md),Ap Aj pl (p ^ m) cl (J3 p m md),Ap Aj pX0 n cL (Bc l)]
   (Rv (.bool (nsB p m d md l)) []):=by
 refine Ab (F:=Zc) rfl fun C=>?_
 have hm:=K.m8
 have Kc:=fun {b cg ce cl cL:Nat}{pg pe pl pX0:Option Addr}=>ABp (b:=b) (cg:=cg) (ce:=ce) (cl:=cl) (cL:=cL) (pg:=pg) (pe:=pe) (pl:=pl) (pX0:=pX0) K d1 d8 hd hn hn0 hlk hlq
 cases he:nsB p m d md l with
 | true =>
  rw [he,if_pos rfl] at Kc
  refine wk 7 (ct @Kc cz) ?_
  exact ge
 | false =>
  rw [he,if_neg Bool.false_ne_true] at Kc
  refine wk 7 (ct @Kc cz) ?_
  exact ge
end
open Go Go.Fw
set_option maxRecDepth 100000
set_option linter.unusedVariables false
set_option linter.unusedSimpArgs false
set_option maxHeartbeats 0
section
variable {b p m q ng cg ne ce nl cl:Nat}{pg pe pl:Option Addr}
theorem Ky:Bn Tryz.prog 168 [.pointer (some ⟨b,0,none⟩)] [] []
  (fun v Φ β=>∃ b2,v = .func (.func 199) #[] #[.pointer (some ⟨b2,0,none⟩)]∧Φ=[Jt b2 [.pointer (some ⟨b,0,none⟩)]]∧β=[]):=by
 refine Ab (F:=Si) rfl fun C=>?_
 refine wk 7 cz ?_
 intro b1 --ok
 refine Uz 0 rfl ?_
 simp only [List.eraseIdx_cons_zero]
 exact V4 [0] rfl rfl rfl ⟨_,rfl,rfl,rfl⟩
theorem V7 {b2 l:Nat}{r:Loop}{B:Code}{X:Type}{st:X→List A3}{gf:X→Fact}{I:Nat→X→Prop}{Qs:List Nat→List Fact→List A3→Prop}(x0:X) (h0:I 0 x0) (hq:q≤256) (hr:Rdy r)
  (hY:∀ i x,I i x→i<q→AGR Tryz.prog l r B [.int .i64 (i:Int)] (st x) [gf x] (AJn st gf I i Qs)) :
  AJ5 Tryz.prog 199 [.func (.yield l) #[] #[],.pointer (some ⟨b2,0,none⟩)] l r B (st x0) [Jt b2 [.pointer (some ⟨b,0,none⟩)],Jp b p m q pg ng cg pe ne ce pl nl cl,gf x0]
   (fun Φ β=>∃ x,I q x∧Φ=[gf x]∧β=st x) Qs:=by
 refine ABX (F:=Qe) rfl fun C hoff=>?_
 refine wk 7 cz ?_ --ok
 refine Af (X:=Nat×X) [0,7] [0,1,2] (fun z=>[(8,.int .i64 (z.1:Int))]) (fun z=>st z.2) (fun z=>[gf z.2]) (fun z=>I z.1 z.2∧z.1≤q) (fun z=>q-z.1) (0,x0) [2] rfl rfl rfl ⟨h0,Nat.zero_le _⟩ (by repeat (first|exact Fr.sub_nil _|refine Fr.sub_cons rfl ?_)) rfl rfl ?_
 rintro ⟨i,x⟩ ⟨hi,hi2⟩ ih
 simp only [List.cons_append,List.nil_append] at hi hi2 ih ⊢
 by_cases hl:i<q
 ·refine Aq [_,_,_,_] rfl ?_
  refine Ai it 1 rfl (by simp) ?_
  refine Aq [_,_,_,_] rfl ?_
  refine L7 rfl rfl (fun h1=>?_) (fun h1=>by exfalso;omega)
  refine Aq [_,_,_,_,_,_] rfl ?_
  refine Ai it 2 rfl (by simp) ?_
  refine Aq [_,_,_,_,_,_] rfl ?_
  refine Ai it 2 rfl (by simp) ?_ --ok
  refine AFB (n:=(st x).length) [0] hoff hr rfl rfl rfl (by rw [List.take_length];exact hY i x hi hl) rfl ?_ ?_
  ·intro Φ β' hq
   obtain ⟨x',hx',rfl,rfl⟩:=AHm hq
   rw [List.drop_length,List.append_nil]
   have ih':=ih (i+1,x') (by dsimp only;omega) ⟨hx',by dsimp only;omega⟩
   dsimp only at ih'
   clear ih
   refine wk 6 cz ?_
   exact tw (ih')
  ·intro q Φ β' C' hq
   have hq:=ADT hq
   rw [List.drop_length,List.append_nil]
   refine Ai it 1 rfl (by simp) ?_
   refine Aq [_,_,_,_,_] rfl ?_
   refine R2 rfl rfl ?_ --ok
   exact AEg rfl rfl hq fun g hg=>List.mem_append_left _ hg
 ·obtain rfl:i=q:=by omega
  clear ih
  refine wk 5 cz ?_
  intro h1 --ok
  refine AKu hoff hr ?_
  exact Cv [0] rfl rfl ⟨x,hi,rfl,rfl⟩
theorem AJS {d x:Nat}{md:List Int}(K:Fok p m md) (hx:x<p ^ m):∀ z∈Sf (fM p (Az m md)) p m d x,z<p ^ m:=fun z hz=>by
 obtain ⟨i,_,rfl⟩:=List.mem_map.1 hz
 exact P9 (f:=Nj (fM p (Az m md)) p (d % m)) (fun y hy=>Oh K hy (d % m)) hx i
theorem AAg {x0 d n:Nat}{md:List Int}(K:Fok p m md) (d1:1≤d) (d8:d≤8) (hd:dgB m d=true) (hn:m / d=n) (hn0:0<n) (hx0:x0<p ^ m) (hN:nsB p m d md (Sf (fM p (Az m md)) p m d x0)=true) (hmin:∀ y,y<x0→nsB p m d md (Sf (fM p (Az m md)) p m d y)=false) :
  Bn Tryz.prog 127 [.pointer (some ⟨b,0,none⟩),.int .i64 (d:Int)] []
   [Jp b p m (p ^ m) pg md.length cg pe (p ^ m-1) ce pl (p ^ m) cl,Ap Aj pg md.length cg md,Ap Aj pe (p ^ m-1) ce (J8 p m md),Ap Aj pl (p ^ m) cl (J3 p m md)]
   (Rv (.tuple #[.int .i64 (x0:Int),.int .i64 0]) []):=by
 refine Ab (F:=R4) rfl fun C=>?_
 have hm:=K.m8
 have hn8:n≤8:=by have:=Nat.div_le_self m d;omega
 have hq:=K.q
 have Bg:=fun {b ne ce nl cl cg:Nat}{pg pe pl:Option Addr}=>Gg (b:=b) (ne:=ne) (ce:=ce) (nl:=nl) (cl:=cl) (cg:=cg) (pg:=pg) (pe:=pe) (pl:=pl) K d1 d8
 rw [hd] at Bg
 refine Aq [_,_] rfl ?_
 refine Aa rfl (O9 rfl rfl fun b1=>?_)
 refine Aa rfl (O9 rfl rfl fun b2=>?_)
 refine Aa rfl (B2 zo3 fun b3=>?_)
 refine Aa rfl (B2 AM9 fun b4=>?_)
 refine Aq [_,_,_] rfl ?_
 refine Aa rfl (Bu 3 rfl rfl X5 rfl ?_)
 refine Aa rfl (Bu 2 rfl rfl Ci rfl ?_)
 refine Aa rfl (Aw [0,1] rfl (Bg) rfl ?_)
 rintro _ _ _ ⟨rfl,rfl,rfl⟩
 simp only [List.cons_append,List.nil_append]
 refine Ai it 1 rfl (by simp) ?_
 refine Aq [_,_] rfl ?_
 refine Nq rfl rfl ?_
 refine Aq [_,_,_] rfl ?_
 refine Aa rfl (Bu 3 rfl rfl X5 rfl ?_)
 refine Aa rfl (Aw [] rfl (Ky) rfl ?_)
 rintro _ _ _ ⟨b21,rfl,rfl,rfl⟩
 simp only [List.cons_append,List.nil_append]
 refine Aq [_,_,_] rfl ?_ --ok
 refine Uz 3 rfl ?_
 simp only [List.eraseIdx_cons_succ,List.eraseIdx_cons_zero]
 refine Uz 2 rfl ?_
 simp only [List.eraseIdx_cons_succ,List.eraseIdx_cons_zero]
 refine ACA [0,1,3,4,5,6] rfl ?_
 refine AAL (n:=2) (Γ1:=[Jt b21 [.pointer (some ⟨b,0,none⟩)],Jp b p m (p ^ m) pg md.length cg pe (p ^ m-1) ce pl (p ^ m) cl,AAJ [Jt b2 [.int .i64 (d:Int)],Jt b1 [.pointer (some ⟨b,0,none⟩)],Jp b p m (p ^ m) pg md.length cg pe (p ^ m-1) ce pl (p ^ m) cl,Ap Aj pg md.length cg md,Ap Aj pe (p ^ m-1) ce (J8 p m md),Ap Aj pl (p ^ m) cl (J3 p m md)]])
  (Qs:=fun q Φ β=>M1 R4.B q=true∧Φ=[]∧β=[(some b4,30,[.int .i64 0]),(some b3,3,[.int .i64 (x0:Int)])]) [3,4,0] rfl rfl rfl rfl
  (fun l r hr hY=>V7 (X:=Unit) (st:=fun _=>[(some b4,30,[.int .i64 0]),(some b3,3,[.int .i64 0])])
   (gf:=fun _=>AAJ [Jt b2 [.int .i64 (d:Int)],Jt b1 [.pointer (some ⟨b,0,none⟩)],Jp b p m (p ^ m) pg md.length cg pe (p ^ m-1) ce pl (p ^ m) cl,Ap Aj pg md.length cg md,Ap Aj pe (p ^ m-1) ce (J8 p m md),Ap Aj pl (p ^ m) cl (J3 p m md)])
   (I:=fun i _=>i≤x0) () (Nat.zero_le _) hq hr fun i x hi hlt=>hY _ _ _ _ rfl fun C hoff=>?_) ?_ ?_
 ·refine Un (σ':=[(13,.int .i64 (i:Int)),(5,.pointer (some ⟨b4,0,none⟩)),(4,.pointer (some ⟨b3,0,none⟩)),(3,.pointer (some ⟨b2,0,none⟩)),(2,.pointer (some ⟨b1,0,none⟩))]) (T8 rfl) ?_
  refine Aq [_,_,_] rfl ?_
  refine Ai it 1 rfl (by simp) ?_
  refine Aq [_,_] rfl ?_ --ok
  refine AK0 hoff hr.1 fun C'=>?_
  refine AAZ 0 rfl ?_
  simp only [List.cons_append,List.nil_append]
  have hE:=AJS (d:=d) K hlt
  have hEl:(Sf (fM p (Az m md)) p m d i).length=n:=by rw [ACx,hn]
  have Cz:=fun {b cg ce cl:Nat}{pg pe pl:Option Addr}=>(Ln (b:=b) (cg:=cg) (ce:=ce) (cl:=cl) (pg:=pg) (pe:=pe) (pl:=pl) K hlt d1 d8).pubR (by show m / d*8≤140737488355328;omega)
  have Iu:=fun {b cg ce cl cL:Nat}{pg pe pl pX0:Option Addr}=>Y6 (b:=b) (cg:=cg) (ce:=ce) (cl:=cl) (cL:=cL) (pg:=pg) (pe:=pe) (pl:=pl) (pX0:=pX0) K d1 d8 hd hn hn0 hEl hE
  rw [hn] at Cz
  have hmi:=hmin i
  by_cases he:i=x0
  ·subst he
   rw [hN] at Iu
   generalize Sf (fM p (Az m md)) p m d i=L at *
   refine wk 9 (ct @Cz (ct @Iu cz)) ?_
   intro pa1 ca1 --ok
   simp only [setB,List.set_cons_zero,List.set_cons_succ]
   exact ALf [] rfl rfl (.inr ⟨_,rfl,rfl,rfl,rfl⟩)
  ·rw [hmi (by omega)] at Iu
   generalize Sf (fM p (Az m md)) p m d i=L at *
   refine wk 5 (ct @Cz (ct @Iu cz)) ?_
   intro pa1 ca1 --ok
   exact ACb [7] rfl (.inl ⟨rfl,(),show i+1≤x0 by omega,rfl,rfl⟩)
 ·rintro Φ β' D C' ⟨x,hi,rfl,rfl⟩
  omega
 ·rintro q Φ β' D C' ⟨hq,rfl,rfl⟩
  simp only [List.cons_append,List.nil_append]
  exact Bb [] hq (.one 1 rfl rfl Ci (.one 0 rfl rfl AMU .nil)) rfl ⟨rfl,rfl,rfl⟩
end
open Go Go.Fw
set_option maxRecDepth 100000
set_option linter.unusedVariables false
set_option linter.unusedSimpArgs false
set_option maxHeartbeats 0
def hoE (A M:Int→Int→Int) (x:Int) (l:List Int):Int:=l.foldr (fun c y=>A (M y x) c) 0
theorem AFX {q:Nat}{A M:Int→Int→Int}(F:FI q A M) {x:Int}(x0:0≤x) (x1:x<q):∀ (l:List Int),(∀ c∈l,0≤c∧c<(q:Int))→0≤hoE A M x l∧hoE A M x l<q
 | [],_=>⟨Int.le_refl 0,F.z⟩
 | c::l,h=>by
  have ih:=AFX F x0 x1 l fun d hd=>h d (.tail _ hd)
  have hc:=h c (.head _)
  have h1:=F.ml _ _ ih.1 ih.2 x0 x1
  exact F.al _ _ h1.1 h1.2 hc.1 hc.2
section
variable {b p m q n c ng cg ne ce nl cl:Nat}{pg pe pl ps:Option Addr}{l md:List Int}
theorem ADC (hl:∀ x,l.getLast?=some x→x≠0):Bn Tryz.prog 215 [.slice ps n c] [] [Ap Aj ps n c l] (Rv (.slice ps n c) []):=by
 refine Ab (F:=ADQ) rfl fun C=>?_
 refine A9 0 rfl fun hn hb _=>?_
 subst hn
 have hb':l.length*8≤140737488355328:=hb
 by_cases h0:l.length=0
 ·refine wk 3 cz ?_
  refine Af (X:=Unit) [2] [0] (fun _=>[(0,.slice ps l.length c)]) (fun _=>_) (fun _=>[]) (fun _=>True) (fun _=>0) () [] rfl rfl rfl trivial (by repeat (first|exact Fr.sub_nil _|refine Fr.sub_cons rfl ?_)) rfl rfl ?_
  rintro _ _ ih
  simp only [List.cons_append,List.nil_append] at ih ⊢
  clear ih
  refine wk 12 cz ?_
  intro h1
  exact ge
 ·obtain ⟨x,at_x⟩:∃ x,l[l.length-1]?=some x:=⟨_,List.getElem?_eq_getElem (by omega)⟩
  have hx0:=hl x (by rw [List.getLast?_eq_getElem?,at_x])
  refine wk 3 cz ?_
  refine Af (X:=Unit) [2] [0] (fun _=>[(0,.slice ps l.length c)]) (fun _=>_) (fun _=>[]) (fun _=>True) (fun _=>0) () [] rfl rfl rfl trivial (by repeat (first|exact Fr.sub_nil _|refine Fr.sub_cons rfl ?_)) rfl rfl ?_
  rintro _ _ ih
  simp only [List.cons_append,List.nil_append] at ih ⊢
  clear ih
  refine wk 10 cz ?_
  intro h1 b1 o1 hz1
  refine Cg rfl rfl (Av 0 rfl rfl Ci fun ⟨r1,r2⟩=>?_)
  refine wk 6 cz ?_
  intro h2
  exact ge
theorem ADf {x:Int}(K:Fok p m md) (hx0:0≤x) (hx1:x<((p ^ m:Nat):Int)) (hlq:∀ c∈l,0≤c∧c<((p ^ m:Nat):Int)) :
  Bn Tryz.prog 198 [.pointer (some ⟨b,0,none⟩),.slice ps n c,.int .i64 x] [] [Jp b p m (p ^ m) pg ng cg pe (p ^ m-1) ce pl (p ^ m) cl,Ap Aj pe (p ^ m-1) ce (J8 p m md),Ap Aj pl (p ^ m) cl (J3 p m md),Ap Aj ps n c l]
   (Rv (.int .i64 (hoE (Ad (fA p m)) (Ad (fM p (Az m md))) x l)) []):=by
 refine Ab (F:=AEb) rfl fun C=>?_
 refine A9 3 rfl fun hn hb _=>?_
 subst hn
 have hb':l.length*8≤140737488355328:=hb
 have hq:=K.q
 have Br:=fun {b ng cg ne ce nl cl:Nat}{pg pe pl:Option Addr}{x y:Int}=>Dn (p:=p) (m:=m) (b:=b) (ng:=ng) (cg:=cg) (ne:=ne) (ce:=ce) (nl:=nl) (cl:=cl) (pg:=pg) (pe:=pe) (pl:=pl) (x:=x) (y:=y) K.p2 K.m1 hq
 have A6:=fun {b ng cg ce cl:Nat}{pg pe pl:Option Addr}{x y:Int}=>C6 (b:=b) (ng:=ng) (cg:=cg) (ce:=ce) (cl:=cl) (pg:=pg) (pe:=pe) (pl:=pl) (x:=x) (y:=y) K
 have hr:=fun i=>AFX K.fi hx0 hx1 (l.drop i) fun c hc=>hlq c (List.mem_of_mem_drop hc)
 have hml:=K.fi.ml
 have hes:∀ i (y:Int),l[i]?=some y→hoE (Ad (fA p m)) (Ad (fM p (Az m md))) x (l.drop i)=Ad (fA p m) (Ad (fM p (Az m md)) (hoE (Ad (fA p m)) (Ad (fM p (Az m md))) x (l.drop (i+1))) x) y:=fun i y hy=>by
  have h1:=(List.getElem?_eq_some_iff.1 hy)
  rw [List.drop_eq_getElem_cons h1.1,h1.2];rfl
 generalize Ad (fM p (Az m md))=M at *
 generalize Ad (fA p m)=A at *
 generalize J8 p m md=ex at *
 generalize J3 p m md=lg at *
 generalize p ^ m=q at *
 refine wk 9 cz ?_
 refine Af (X:=Nat×Int) [0,1,2,6] [0,1,2,3] (fun k=>[(8,.int .i64 ((k.1:Int)-1)),(7,.int .i64 k.2)]) (fun _=>_) (fun _=>[]) (fun k=>k.1≤l.length∧k.2=hoE A M x (l.drop k.1)) (fun k=>k.1) (l.length,0) [] rfl rfl rfl ⟨Nat.le_refl _,by dsimp only;rw [List.drop_length];rfl⟩ (by repeat (first|exact Fr.sub_nil _|refine Fr.sub_cons rfl ?_)) rfl rfl ?_
 rintro ⟨k,y⟩ ⟨hk,hy⟩ ih
 simp only [List.cons_append,List.nil_append] at hk hy ih ⊢
 subst hy
 cases k with
 | zero =>
  clear ih
  refine wk 7 cz ?_
  intro h1
  exact ge
 | succ j =>
  rw [show (((j+1:Nat):Int)-1)=(j:Int) by omega]
  obtain ⟨y,at_y⟩:∃ y,l[j]?=some y:=⟨_,List.getElem?_eq_getElem (by omega)⟩
  have ey:l.getD j default=y:=by rw [List.getD_eq_getElem?_getD,at_y];rfl
  have hy:=hlq y (List.mem_of_getElem? at_y)
  have ih':=ih (j,hoE A M x (l.drop j)) (by dsimp only;omega) ⟨by dsimp only;omega,rfl⟩
  dsimp only at ih'
  rw [hes j y at_y] at ih'
  rw [← ey] at hy ih'
  have hs:=hr (j+1)
  have hmx:=hml _ _ hs.1 hs.2 hx0 hx1
  generalize hoE A M x (l.drop (j+1))=s at *
  clear ih
  obtain ⟨y0,y1⟩:=hy
  obtain ⟨s0,s1⟩:=hs
  obtain ⟨m0,m1⟩:=hmx
  refine wk 10 (ct @A6 (ct @Br cz)) ?_
  intro h1 b1 o1
  exact tw (ih')
theorem ACX (hq:q≤256) (hlq:∀ c∈l,0≤c∧c<(q:Int)) (hl:∀ x,l.getLast?=some x→x≠0) :
  Bn Tryz.prog 197 [.pointer (some ⟨b,0,none⟩),.slice ps n c] [] [Jp b p m q pg ng cg pe ne ce pl nl cl,Ap Aj ps n c l]
   (fun v Φ β=>∃ (pa:Option Addr) (ca:Nat),v = .slice pa l.length ca∧Φ=[Ap Aj pa l.length ca l]∧β=[]):=by
 refine Ab (F:=ACN) rfl fun C=>?_
 refine A9 1 rfl fun hn hb _=>?_
 subst hn
 have hb':l.length*8≤140737488355328:=hb
 have L6:=fun {x:Int}{b ng cg ne ce nl cl:Nat}{pg pe pl:Option Addr}(h:decide (0≤x∧x<(q:Int))=true)=>Ji (p:=p) (m:=m) (b:=b) (ng:=ng) (cg:=cg) (ne:=ne) (ce:=ce) (nl:=nl) (cl:=cl) (pg:=pg) (pe:=pe) (pl:=pl) (x:=x) hq h
 have ADR:=fun {ps:Option Addr}{n c:Nat}=>ADC (ps:=ps) (n:=n) (c:=c) hl
 refine wk 12 cz ?_
 intro b1
 rw [show Ao .i64 (List.replicate l.length 0)=Ak .i64 (l.take 0++List.replicate (l.length-0) 0) by simp [Ao,Ak]]
 refine Af (X:=Nat) [0,4,5,11,12] [0,1] (fun i=>[(13,.int .i64 (i:Int))]) (fun i=>[(some b1,3,Ak .i64 (l.take i++List.replicate (l.length-i) 0))]) (fun _=>[]) (fun i=>i≤l.length) (fun i=>l.length-i) 0 [] rfl rfl rfl (Nat.zero_le _) (by repeat (first|exact Fr.sub_nil _|refine Fr.sub_cons rfl ?_)) rfl rfl ?_
 rintro i hi ih
 simp only [List.cons_append,List.nil_append] at hi ih ⊢
 by_cases h9:i<l.length
 ·obtain ⟨x,at_x⟩:∃ x,l[i]?=some x:=⟨_,List.getElem?_eq_getElem h9⟩
  have hx:=hlq x (List.mem_of_getElem? at_x)
  have L6:=fun {b ng cg ne ce nl cl:Nat}{pg pe pl:Option Addr}=>L6 (x:=x) (b:=b) (ng:=ng) (cg:=cg) (ne:=ne) (ce:=ce) (nl:=nl) (cl:=cl) (pg:=pg) (pe:=pe) (pl:=pl) (decide_eq_true hx)
  have ih':=ih (i+1) (by omega) (by omega)
  rw [← take_set at_x h9] at ih'
  have hln:(l.take i++List.replicate (l.length-i) 0).length=l.length:=by simp;omega
  generalize l.take i++List.replicate (l.length-i) 0=T at *
  clear ih
  obtain ⟨x0,x1⟩:=hx
  refine wk 7 cz ?_
  intro h1 b2 o1 hz1
  refine Aa rfl (Av 0 rfl rfl Ci fun ⟨r1,r2⟩=>?_)
  refine wk 13 (ct @L6 cz) ?_
  exact tw (ih')
 ·obtain rfl:i=l.length:=by omega
  rw [Nat.sub_self,List.replicate_zero,List.append_nil,List.take_of_length_le (Nat.le_refl _)]
  clear ih
  have hr:∀ z∈l,Bx .i64 z:=fun z hz=>by have:=hlq z hz;simp only [Bx];omega
  refine Bk 0 rfl rfl hr (by omega) ?_
  refine C3 0 0 rfl rfl hb' ?_
  simp only [List.eraseIdx_cons_zero]
  refine wk 9 (ct @ADR cz) ?_
  intro h1
  refine Ps [0] rfl rfl rfl ⟨_,_,rfl,rfl,rfl⟩
end
open Go Go.Fw
set_option maxRecDepth 100000
set_option linter.unusedVariables false
set_option linter.unusedSimpArgs false
set_option maxHeartbeats 0
def rtP (A M:Int→Int→Int) (l:List Int) (i:Nat):List Int:=Bc ((List.range i).filter fun x=>decide (hoE A M (x:Int) l=0))
theorem AIj {A M:Int→Int→Int}{l:List Int}{i:Nat}:rtP A M l (i+1)=if hoE A M (i:Int) l=0 then rtP A M l i++[(i:Int)] else rtP A M l i:=by
 rw [rtP,rtP,List.range_succ,List.filter_append]
 by_cases h:hoE A M (i:Int) l=0
 ·rw [if_pos h];simp [Bc,h]
 ·rw [if_neg h];simp [Bc,h]
theorem AJt {A M:Int→Int→Int}{l:List Int}{i:Nat}:(rtP A M l i).length≤i:=by
 rw [rtP,Bc,List.length_map]
 exact Nat.le_trans (List.length_filter_le _ _) (by simp)
section
variable {b p m q n c ng cg ne ce nl cl:Nat}{pg pe pl ps:Option Addr}{l md:List Int}
theorem ACh (K:Fok p m md) (hlq:∀ c∈l,0≤c∧c<((p ^ m:Nat):Int)) (hl:∀ x,l.getLast?=some x→x≠0) (hl0:0<l.length) :
  Bn Tryz.prog 163 [.pointer (some ⟨b,0,none⟩),.slice ps n c] [] [Jp b p m (p ^ m) pg ng cg pe (p ^ m-1) ce pl (p ^ m) cl,Ap Aj pe (p ^ m-1) ce (J8 p m md),Ap Aj pl (p ^ m) cl (J3 p m md),Ap Aj ps n c l]
   (fun v Φ β=>∃ (pa:Option Addr) (ca:Nat),v = .tuple #[.slice pa (rtP (Ad (fA p m)) (Ad (fM p (Az m md))) l (p ^ m)).length ca,.int .i64 0]∧Φ=[Ap Aj pa (rtP (Ad (fA p m)) (Ad (fM p (Az m md))) l (p ^ m)).length ca (rtP (Ad (fA p m)) (Ad (fM p (Az m md))) l (p ^ m))]∧β=[]):=by
 refine Ab (F:=ACQ) rfl fun C=>?_
 have hq:=K.q
 have ACm:=fun {b ng cg ne ce nl cl n c:Nat}{pg pe pl ps:Option Addr}=>ACX (p:=p) (m:=m) (b:=b) (ng:=ng) (cg:=cg) (ne:=ne) (ce:=ce) (nl:=nl) (cl:=cl) (pg:=pg) (pe:=pe) (pl:=pl) (ps:=ps) (n:=n) (c:=c) hq hlq hl
 have Km:=fun {b ng cg ce cl n c x:Nat}{pg pe pl ps:Option Addr}(hx:x<p ^ m)=>ADf (b:=b) (ng:=ng) (cg:=cg) (ce:=ce) (cl:=cl) (pg:=pg) (pe:=pe) (pl:=pl) (ps:=ps) (n:=n) (c:=c) (x:=(x:Int)) K (by omega) (by omega) hlq
 have hR:=fun i=>AIj (A:=Ad (fA p m)) (M:=Ad (fM p (Az m md))) (l:=l) (i:=i)
 have hRl:=fun i=>AJt (A:=Ad (fA p m)) (M:=Ad (fM p (Az m md))) (l:=l) (i:=i)
 have hR0:rtP (Ad (fA p m)) (Ad (fM p (Az m md))) l 0=[]:=rfl
 refine Aq [_,_] rfl ?_
 refine Aa rfl (O9 rfl rfl fun b1=>?_)
 refine Ai it 2 rfl (by simp) ?_
 refine Aq [_,_] rfl ?_
 refine Aa rfl (Bu 0 rfl rfl X5 rfl ?_)
 refine Ai it 1 rfl (by simp) ?_
 refine Aa rfl (Aw [0,3] rfl (ACm) rfl ?_)
 rintro _ _ _ ⟨pa1,ca1,rfl,rfl,rfl⟩
 simp only [List.cons_append,List.nil_append]
 refine Aa rfl (B2 ALW fun b2=>?_)
 refine Aa rfl (Om 0 rfl rfl rfl rfl E6 rfl (Nat.le_of_ble_eq_true rfl) ?_)
 refine Aq [_,_,_] rfl ?_
 refine Aa rfl (Bu 0 rfl rfl E6 rfl ?_)
 refine Aa rfl (Hn Ce rfl ?_)
 refine Ai it 1 rfl (by simp) ?_
 refine Aq [_,_] rfl ?_
 refine L7 rfl rfl (fun h1=>by exfalso;omega) (fun h1=>?_)
 refine Aq [_,_] rfl ?_
 refine Aa rfl (B2 ALW fun b3=>?_)
 refine Aq [_,_,_] rfl ?_
 refine Aa rfl (Bu 2 rfl rfl X5 rfl ?_)
 refine Aa rfl (Aw [] rfl (Ky) rfl ?_)
 rintro _ _ _ ⟨b21,rfl,rfl,rfl⟩
 simp only [List.cons_append,List.nil_append]
 refine Aq [_,_,_] rfl ?_ --ok
 simp only [setB,List.set_cons_zero]
 refine Uz 2 rfl ?_
 simp only [List.eraseIdx_cons_succ,List.eraseIdx_cons_zero]
 refine Uz 1 rfl ?_
 simp only [List.eraseIdx_cons_succ,List.eraseIdx_cons_zero]
 refine Fh Aj 3 ?_
 refine ACA [0,1,2,5,6,7,4] rfl ?_
 refine AAL (n:=2) (Γ1:=[Jt b21 [.pointer (some ⟨b,0,none⟩)],Jp b p m (p ^ m) pg ng cg pe (p ^ m-1) ce pl (p ^ m) cl,AAJ [A5 Aj ⟨none,0,[]⟩ 0 [],Jt b2 [.slice pa1 l.length ca1],Jt b1 [.pointer (some ⟨b,0,none⟩)],Jp b p m (p ^ m) pg ng cg pe (p ^ m-1) ce pl (p ^ m) cl,Ap Aj pe (p ^ m-1) ce (J8 p m md),Ap Aj pl (p ^ m) cl (J3 p m md),Ap Aj pa1 l.length ca1 l]])
  (Qs:=fun _ _ _=>False) [4,6,0] rfl rfl rfl rfl
  (fun l2 r hr hY=>V7 (X:=Nat×Row) (st:=fun x=>[(x.2.bo,3,x.2.cs),(some b3,22,[.slice (ad x.2.bo) (rtP (Ad (fA p m)) (Ad (fM p (Az m md))) l x.1).length x.2.cap])])
   (gf:=fun x=>AAJ [A5 Aj x.2 (rtP (Ad (fA p m)) (Ad (fM p (Az m md))) l x.1).length (rtP (Ad (fA p m)) (Ad (fM p (Az m md))) l x.1),Jt b2 [.slice pa1 l.length ca1],Jt b1 [.pointer (some ⟨b,0,none⟩)],Jp b p m (p ^ m) pg ng cg pe (p ^ m-1) ce pl (p ^ m) cl,Ap Aj pe (p ^ m-1) ce (J8 p m md),Ap Aj pl (p ^ m) cl (J3 p m md),Ap Aj pa1 l.length ca1 l])
   (I:=fun i x=>x.1=i) (0,⟨none,0,[]⟩) rfl hq hr fun i x hi hlt=>hY _ _ _ _ rfl fun C hoff=>?_) ?_ (fun _ _ _ _ _ h=>h.elim)
 ·obtain ⟨i',r1⟩:=x
  obtain rfl:i'=i:=hi
  refine Un (σ':=[(17,.int .i64 (i':Int)),(7,.pointer (some ⟨b3,0,none⟩)),(6,.pointer (some ⟨b2,0,none⟩)),(2,.pointer (some ⟨b1,0,none⟩))]) (T8 rfl) ?_
  refine Aq [_,_,_] rfl ?_
  refine Ai it 1 rfl (by simp) ?_
  refine Aq [_,_] rfl ?_ --ok
  refine AK0 hoff hr.1 fun C'=>?_
  refine AAZ 0 rfl ?_
  simp only [List.cons_append,List.nil_append]
  have Km:=fun {b ng cg ce cl n c:Nat}{pg pe pl ps:Option Addr}=>Km (b:=b) (ng:=ng) (cg:=cg) (ce:=ce) (cl:=cl) (pg:=pg) (pe:=pe) (pl:=pl) (ps:=ps) (n:=n) (c:=c) hlt
  have hRi:=hR i'
  have hRn:=hRl i'
  have hRn1:=hRl (i'+1)
  by_cases he:hoE (Ad (fA p m)) (Ad (fM p (Az m md))) (i':Int) l=0
  ·rw [he] at Km
   rw [if_pos he] at hRi
   refine wk 12 (ct @Km cz) ?_
   intro h2 b4
   refine Aa rfl (Fi (z:=(↑i':Int)) 1 0 0 rfl rfl rfl rfl rfl Ce Ee rfl (fun w A hG=>(Dz (by first|(simp only [Bx];omega)|(simp [Bx];done)))) (by omega) _ G5 (by omega) fun r2=>?_)
   refine wk 2 cz ?_ --ok
   simp only [setB,List.set_cons_zero,List.set_cons_succ,List.nil_append,List.eraseIdx_cons_zero,List.eraseIdx_cons_succ]
   refine Ql [0,2] rfl rfl ?_
   refine ACA [0,2,3,4,5,6,7] rfl ?_
   refine ACb [0] rfl (.inl ⟨rfl,(i'+1,r2),rfl,?_,?_⟩)
   ·dsimp only
    rw [hRi,List.length_append,List.length_singleton]
   ·dsimp only
    rw [hRi,List.length_append,List.length_singleton]
  ·rw [if_neg he] at hRi
   refine wk 9 (ct @Km cz) ?_
   intro h2 --ok
   simp only [List.nil_append]
   refine ACA [0,1,2,3,4,5,6] rfl ?_
   refine ACb [0] rfl (.inl ⟨rfl,(i'+1,r1),rfl,?_,?_⟩)
   ·dsimp only
    rw [hRi]
   ·dsimp only
    rw [hRi]
 ·rintro Φ β' D C' ⟨⟨i',r1⟩,hi,rfl,rfl⟩
  obtain rfl:i'=p ^ m:=hi
  refine AAZ 0 rfl ?_
  simp only [List.cons_append,List.nil_append]
  refine wk 4 cz ?_ --ok
  simp only [List.drop_succ_cons,List.drop_zero,List.drop_nil]
  have hRn:=hRl (p ^ m)
  refine Dy 0 0 rfl rfl (by show (rtP _ _ l (p ^ m)).length*8≤140737488355328;omega) ?_
  exact Bb [0] rfl (.tmp rfl (.tmp rfl .nil)) rfl ⟨_,_,rfl,rfl,rfl⟩
end
open Go Go.Fw
set_option maxRecDepth 100000
set_option linter.unusedVariables false
set_option linter.unusedSimpArgs false
set_option maxHeartbeats 0
def imL (A M:Int→Int→Int) (p d:Nat) (pw:List Int):List Int:=(List.range (p ^ d)).map fun x=>Q3 A (List.zipWith M (Bc (Dm p d x)) pw)
def Wh (M:Nat→Nat→Nat) (r k:Nat):List Int:=Bc ((List.range k).map (B6 M r))
theorem AJB {M:Nat→Nat→Nat}{r:Nat}(k:Nat):(Wh M r k).length=k:=by simp [Wh,Bc]
theorem ALl {M:Nat→Nat→Nat}{r i k:Nat}(h:i<k):(Wh M r k)[i]?=some ((B6 M r i:Nat):Int):=by
 rw [Wh,Bc,List.getElem?_map,List.getElem?_map,List.getElem?_range h];rfl
theorem AIt {M:Nat→Nat→Nat}{r k:Nat}:Wh M r (k+1)=Wh M r k++[((B6 M r k:Nat):Int)]:=by
 rw [Wh,Wh,Bc,Bc,List.range_succ,List.map_append,List.map_append];rfl
section
variable {b p m ms q n c ng cg ne ce nl cl nm cm:Nat}{pg pe pl ps pm:Option Addr}{l md mds:List Int}
theorem AFY {A M:Int→Int→Int}{pw:List Int}:(imL A M p ms pw).length=p ^ ms:=by simp [imL]
theorem AK5 {A M:Int→Int→Int}{pw:List Int}{x:Nat}(hx:x<p ^ ms):(imL A M p ms pw)[x]?=some (Q3 A (List.zipWith M (Bc (Dm p ms x)) pw)):=by
 rw [imL,List.getElem?_map,List.getElem?_range hx];rfl
theorem ABS {r b6 b2 ng2 cg2 ce2 cl2 cw:Nat}{pg2 pe2 pl2 pw:Option Addr}{C:Cx}(K:Fok p m md) (Ks:Fok p ms mds) (hr:r<p ^ m) :
  J Uf C [.c (pL 4090),.blk 2,.c (pL 1023)]
   [(82,.int .i64 0),(81,.int .i64 ((p ^ ms:Nat):Int)),(14,.slice (some ⟨b6,0,none⟩) (p ^ ms) (p ^ ms)),(10,.slice pw ms cw),(1,.pointer (some ⟨b,0,none⟩)),(6,.pointer (some ⟨b2,0,none⟩)),(5,.int .i64 0)]
   [(some b6,3,Ao .i64 (List.replicate (p ^ ms) 0))]
   [Ap Aj pw ms cw (Wh (fM p (Az m md)) r ms),Jp b2 p ms (p ^ ms) pg2 ng2 cg2 pe2 (p ^ ms-1) ce2 pl2 (p ^ ms) cl2,Jp b p m (p ^ m) pg ng cg pe (p ^ m-1) ce pl (p ^ m) cl,Ap Aj pe (p ^ m-1) ce (J8 p m md),Ap Aj pl (p ^ m) cl (J3 p m md)]
   (Fv C fun v Φ β=>∃ (pa:Option Addr) (ca:Nat),v = .tuple #[.slice pa (p ^ ms) ca,.int .i64 0]∧Φ=[Ap Aj pa (p ^ ms) ca (imL (Ad (fA p m)) (Ad (fM p (Az m md))) p ms (Wh (fM p (Az m md)) r ms))]∧β=[]):=by
 have hq:=K.q
 have hqs:=Ks.q
 have hpw:∀ z∈Wh (fM p (Az m md)) r ms,0≤z∧z<((p ^ m:Nat):Int):=fun z hz=>by
  obtain ⟨y,hy,rfl⟩:=List.mem_map.1 hz
  obtain ⟨i,_,rfl⟩:=List.mem_map.1 hy
  have:=K.rng'.pw_lt hr i
  omega
 have hpm:p≤p ^ m:=Nat.le_self_pow (by have:=K.m1;omega) p
 have hdg:∀ x,∀ z∈Bc (Dm p ms x),0≤z∧z<((p ^ m:Nat):Int):=fun x z hz=>by
  obtain ⟨y,hy,rfl⟩:=List.mem_map.1 hz
  have:=Jq (by have:=K.p2;omega) y hy
  omega
 have Gu:=fun {x:Nat}{b ng cg ne ce nl cl:Nat}{pg pe pl:Option Addr}(hx:x<p ^ ms)=>Uu (b:=b) (ng:=ng) (cg:=cg) (ne:=ne) (ce:=ce) (nl:=nl) (cl:=cl) (pg:=pg) (pe:=pe) (pl:=pl) (x:=(x:Int)) Ks (by omega) (by omega)
 have K6:=fun {x:Nat}{b ng cg ce cl nu cu nv cv:Nat}{pg pe pl pu pv:Option Addr}=>Yy (b:=b) (ng:=ng) (cg:=cg) (ce:=ce) (cl:=cl) (pg:=pg) (pe:=pe) (pl:=pl) (pu:=pu) (pv:=pv) (nu:=nu) (cu:=cu) (nv:=nv) (cv:=cv) K (hdg x) hpw
 have hTl:=AFY (p:=p) (ms:=ms) (A:=Ad (fA p m)) (M:=Ad (fM p (Az m md))) (pw:=Wh (fM p (Az m md)) r ms)
 have hTa:=fun x (h:x<p ^ ms)=>AK5 (p:=p) (ms:=ms) (A:=Ad (fA p m)) (M:=Ad (fM p (Az m md))) (pw:=Wh (fM p (Az m md)) r ms) h
 have hsr:∀ x,0≤Q3 (Ad (fA p m)) (List.zipWith (Ad (fM p (Az m md))) (Bc (Dm p ms x)) (Wh (fM p (Az m md)) r ms))∧Q3 (Ad (fA p m)) (List.zipWith (Ad (fM p (Az m md))) (Bc (Dm p ms x)) (Wh (fM p (Az m md)) r ms))<((p ^ m:Nat):Int):=fun x=>Qk K.fi _ 0 (Int.le_refl 0) K.fi.z fun z hz=>by
  obtain ⟨i,hi,rfl⟩:=List.getElem_of_mem hz
  rw [List.getElem_zipWith]
  rw [List.length_zipWith] at hi
  obtain ⟨a0,a1⟩:=hdg x (Bc (Dm p ms x))[i] (List.getElem_mem (by omega))
  obtain ⟨b0,b1⟩:=hpw (Wh (fM p (Az m md)) r ms)[i] (List.getElem_mem (by omega))
  exact K.fi.ml _ _ a0 a1 b0 b1
 generalize imL (Ad (fA p m)) (Ad (fM p (Az m md))) p ms (Wh (fM p (Az m md)) r ms)=T at *
 generalize Wh (fM p (Az m md)) r ms=PW at *
 rw [show Ao .i64 (List.replicate (p ^ ms) 0)=Ak .i64 (T.take 0++List.replicate (p ^ ms-0) 0) by simp [Ao,Ak]]
 refine Af (X:=Nat) [1,5,6,10,14,81] [0,1,2,3,4] (fun x=>[(82,.int .i64 (x:Int))]) (fun i=>[(some b6,3,Ak .i64 (T.take i++List.replicate (p ^ ms-i) 0))]) (fun _=>[]) (fun i=>i≤p ^ ms) (fun i=>p ^ ms-i) 0 [] rfl rfl rfl (Nat.zero_le _) (by repeat (first|exact Fr.sub_nil _|refine Fr.sub_cons rfl ?_)) rfl rfl ?_
 rintro i hi ih
 simp only [List.cons_append,List.nil_append] at hi ih ⊢
 by_cases h9:i<p ^ ms
 ·have Gu:=fun {b ng cg ne ce nl cl:Nat}{pg pe pl:Option Addr}=>Gu (b:=b) (ng:=ng) (cg:=cg) (ne:=ne) (ce:=ce) (nl:=nl) (cl:=cl) (pg:=pg) (pe:=pe) (pl:=pl) h9
  have K6:=fun {b ng cg ce cl nu cu nv cv:Nat}{pg pe pl pu pv:Option Addr}=>K6 (x:=i) (b:=b) (ng:=ng) (cg:=cg) (ce:=ce) (cl:=cl) (pg:=pg) (pe:=pe) (pl:=pl) (pu:=pu) (pv:=pv) (nu:=nu) (cu:=cu) (nv:=nv) (cv:=cv)
  have ih':=ih (i+1) (by omega) (by omega)
  rw [← take_set (hTa i h9) (by omega)] at ih'
  have hln:(T.take i++List.replicate (p ^ ms-i) 0).length=p ^ ms:=by simp;omega
  obtain ⟨s0,s1⟩:=hsr i
  rw [Int.toNat_natCast] at Gu
  generalize T.take i++List.replicate (p ^ ms-i) 0=L at *
  generalize Q3 (Ad (fA p m)) (List.zipWith (Ad (fM p (Az m md))) (Bc (Dm p ms i)) PW)=s at *
  clear ih
  refine wk 16 (ct @Gu (ct @K6 cz)) ?_
  intro h1 pa1 ca1
  exact tw (ih')
 ·obtain rfl:i=p ^ ms:=by omega
  rw [Nat.sub_self,List.replicate_zero,List.append_nil,List.take_of_length_le (by omega)]
  clear ih
  have hall:∀ z∈T,Bx .i64 z:=fun z hz=>by
   obtain ⟨j,hj⟩:=List.getElem?_of_mem hz
   have hj':j<p ^ ms:=by have:=(List.getElem?_eq_some_iff.1 hj).1;omega
   rw [hTa j hj'] at hj
   have:=hsr j
   rw [← Option.some.inj hj]
   simp only [Bx];omega
  refine Bk 0 rfl hTl.symm hall (by omega) ?_
  refine C3 0 0 rfl rfl (by show p ^ ms*8≤140737488355328;omega) ?_
  simp only [List.eraseIdx_cons_zero]
  refine wk 7 cz ?_
  intro h1
  refine Ps [0] rfl rfl rfl ⟨_,_,rfl,rfl,rfl⟩
theorem ABh {r:Nat}(K:Fok p m md) (Ks:Fok p ms mds) (hd:dgB m ms=true) (hr:r<p ^ m) (hr1:ms≠1→(rtP (Ad (fA p m)) (Ad (fM p (Az m md))) (mds++[1]) (p ^ m))[0]?=some (r:Int)) :
  Bn Tryz.prog 126 [.agg #[.int .i64 p,.int .i64 ms,.slice pm nm cm],.pointer (some ⟨b,0,none⟩)] [] [Ap Aj pm nm cm mds,Jp b p m (p ^ m) pg md.length cg pe (p ^ m-1) ce pl (p ^ m) cl,Ap Aj pg md.length cg md,Ap Aj pe (p ^ m-1) ce (J8 p m md),Ap Aj pl (p ^ m) cl (J3 p m md)]
   (fun v Φ β=>∃ (pa:Option Addr) (ca:Nat),v = .tuple #[.slice pa (p ^ ms) ca,.int .i64 0]∧Φ=[Ap Aj pa (p ^ ms) ca (imL (Ad (fA p m)) (Ad (fM p (Az m md))) p ms (Wh (fM p (Az m md)) r ms))]∧β=[]):=by
 refine Ab (F:=Uf) rfl fun C=>?_
 have hq:=K.q
 have hqs:=Ks.q
 have hm1:=Ks.m1
 have hm8:=Ks.m8
 have D9:=fun {pm:Option Addr}{nm cm:Nat}=>Ga (pm:=pm) (nm:=nm) (cm:=cm) Ks
 have Eg:=fun {b ne ce nl cl cg:Nat}{pg pe pl:Option Addr}=>Kb (b:=b) (ne:=ne) (ce:=ce) (nl:=nl) (cl:=cl) (cg:=cg) (pg:=pg) (pe:=pe) (pl:=pl) K
 have Bg:=fun {b ne ce nl cl cg:Nat}{pg pe pl:Option Addr}=>Gg (b:=b) (ne:=ne) (ce:=ce) (nl:=nl) (cl:=cl) (cg:=cg) (pg:=pg) (pe:=pe) (pl:=pl) K hm1 hm8
 rw [hd] at Bg
 have Nn:=fun {b ng cg ne ce nl cl m:Nat}{pg pe pl:Option Addr}=>V8 (q:=p ^ ms) (p:=p) (m:=m) (b:=b) (ng:=ng) (cg:=cg) (ne:=ne) (ce:=ce) (nl:=nl) (cl:=cl) (pg:=pg) (pe:=pe) (pl:=pl) hqs
 refine A9 0 rfl fun hn hb _=>?_
 subst hn
 have hb':mds.length*8≤140737488355328:=hb
 have P8:=fun (h1:ms≠1) {b ng cg ce cl n c:Nat}{pg pe pl ps:Option Addr}=>ACh (b:=b) (ng:=ng) (cg:=cg) (ce:=ce) (cl:=cl) (n:=n) (c:=c) (pg:=pg) (pe:=pe) (pl:=pl) (ps:=ps) (l:=mds++[1]) K (fun c hc=>by
  have:=K.p2
  have h2:p≤p ^ m:=Nat.le_self_pow (by have:=K.m1;omega) p
  rcases List.mem_append.1 hc with hc|hc
  ·have:=Ks.rng c hc;omega
  ·rw [List.mem_singleton.1 hc];omega) (fun x hx=>by rw [List.getLast?_concat] at hx;rw [← Option.some.inj hx];omega) (by simp)
 have A6:=fun {b ng cg ce cl:Nat}{pg pe pl:Option Addr}{x y:Int}=>C6 (b:=b) (ng:=ng) (cg:=cg) (ce:=ce) (cl:=cl) (pg:=pg) (pe:=pe) (pl:=pl) (x:=x) (y:=y) K
 by_cases h1:ms=1
 ·refine wk 48 (ct @D9 (ct @Eg (ct @Bg (ct @Nn cz)))) ?_
  intro b1 b2 pg1 cg1 pe1 ce1 pl1 cl1 h2 h3 b3 h4 b4 --ok
  subst h1
  simp only [List.cons_append,List.nil_append]
  refine Bk (l:=[1]) 1 rfl (n:=1) rfl (fun z hz=>by rw [List.mem_singleton.1 hz];simp [Bx]) (by omega) ?_
  refine C3 1 0 rfl rfl (by show 1*8≤140737488355328;omega) ?_
  refine Ql [0] rfl rfl ?_
  rw [← show Wh (fM p (Az m md)) r 1=[1] from rfl]
  exact tw (ABS (b6:=b4) (b2:=b2) (b:=b) (pw:=some ⟨b3,0,none⟩) (cw:=1) (ng2:=mds.length) (pg2:=pg1) (pe2:=pe1) (pl2:=pl1) (cg2:=cg1) (ce2:=ce1) (cl2:=cl1) (ng:=md.length) (pg:=pg) (pe:=pe) (pl:=pl) (cg:=cg) (ce:=ce) (cl:=cl) (C:=C) K Ks hr)
 ·have hms:1<ms:=by omega
  have hml:=Ks.len h1
  have P8:=fun {b ng cg ce cl n c:Nat}{pg pe pl ps:Option Addr}=>P8 h1 (b:=b) (ng:=ng) (cg:=cg) (ce:=ce) (cl:=cl) (n:=n) (c:=c) (pg:=pg) (pe:=pe) (pl:=pl) (ps:=ps)
  have hr0:=hr1 h1
  have hpl:=AJB (M:=fM p (Az m md)) (r:=r)
  have hpa:=fun i k=>ALl (M:=fM p (Az m md)) (r:=r) (i:=i) (k:=k)
  have hps:=fun k=>AIt (M:=fM p (Az m md)) (r:=r) (k:=k)
  have hpq:=fun k=>K.rng'.pw_lt hr k
  have hp1:Wh (fM p (Az m md)) r 1=[1]:=rfl
  generalize rtP (Ad (fA p m)) (Ad (fM p (Az m md))) (mds++[1]) (p ^ m)=RR at *
  have hRl:0<RR.length:=by
   have:=(List.getElem?_eq_some_iff.1 hr0).1;omega
  have er0:RR.getD 0 default=(r:Int):=by rw [List.getD_eq_getElem?_getD,hr0];rfl
  refine Aq [_,_] rfl ?_
  refine Aa rfl (Cu rfl fun b1=>?_)
  refine Ai it 2 rfl (by simp) ?_
  refine Aq [_,_] rfl ?_
  refine Aa rfl (Bi 0 rfl rfl Gi rfl ?_)
  refine Aa rfl (Aw [0] rfl (D9) rfl ?_)
  rintro _ _ _ ⟨b2,pg1,cg1,pe1,ce1,pl1,cl1,rfl,rfl,rfl⟩
  simp only [List.cons_append,List.nil_append]
  refine Ai it 5 rfl (by simp) ?_
  refine Aq [_,_,_] rfl ?_
  refine Ai it 2 rfl (by simp) ?_
  refine Aq [_,_] rfl ?_
  refine Nm rfl rfl (fun h2=>by exfalso;omega) (fun h2=>?_)
  refine Aq [_,_] rfl ?_
  refine Ai it 1 rfl (by simp) ?_
  refine Aa rfl (Aw [5,6] rfl (Eg) rfl ?_)
  rintro _ _ _ ⟨rfl,rfl,rfl⟩
  simp only [List.cons_append,List.nil_append]
  simp only [decide_true]
  refine Ai it 5 rfl (by simp) ?_
  refine Aq [_,_,_] rfl ?_
  refine Aa rfl (An rfl Ot ?_)
  refine Aa rfl (Bu 0 rfl rfl Ci rfl ?_)
  refine Ai it 3 rfl (by simp) ?_
  refine Qj (t:=33) rfl (fun h3=>by exfalso;omega) (fun h3=>?_)
  refine Ai it 1 rfl (by simp) ?_
  refine Cg rfl rfl (An rfl Ok ?_)
  refine Cg rfl rfl (Bu 0 rfl rfl Ci rfl ?_)
  refine Cg rfl rfl (Aw [5,6] rfl (Bg) rfl ?_)
  rintro _ _ _ ⟨rfl,rfl,rfl⟩
  simp only [List.cons_append,List.nil_append]
  simp only [decide_true]
  refine Ai it 2 rfl (by simp) ?_
  refine Aq [_,_] rfl ?_
  refine Nq rfl rfl ?_
  refine Aq [_,_] rfl ?_
  refine Aa rfl (H8 Ce Ee rfl rfl rfl rfl (by decide) (by decide) rfl fun b3=>?_)
  refine Ai it 1 rfl (by simp) ?_
  refine Aq [_,_,_] rfl ?_
  refine Aa rfl (An rfl Ok ?_)
  refine Aa rfl (Bu 1 rfl rfl Ci rfl ?_)
  refine Ai it 1 rfl (by simp) ?_
  refine Aq [_,_] rfl ?_
  refine L7 rfl rfl (fun h4=>?_) (fun h4=>by exfalso;omega)
  refine Aq [_,_,_] rfl ?_
  refine Ai it 1 rfl (by simp) ?_
  refine Aa rfl (AEn Ce fun b4=>?_)
  refine Aa rfl (An rfl AB9 ?_)
  refine Aa rfl (Bu 2 rfl rfl E6 rfl ?_)
  (apply Mf (E:=Ds IntKind.i64 8) (n:=0) (cs:=[]) [] [] 0 (fun w A hG=>Ba);(· rfl);(· rfl);(· rfl);(· rfl);(· decide))
  refine Aa rfl (U6 0 0 5 rfl rfl rfl rfl rfl Ce Ee rfl (by omega) _ G5 (by omega) fun r1=>?_)
  refine Aa rfl (H8 Ce Ee rfl rfl rfl rfl (by decide) (by decide) rfl fun b5=>?_)
  refine Aa rfl (Fi (z:=(1:Int)) 1 0 0 rfl rfl rfl rfl rfl Ce Ee rfl (fun w A hG=>(Dz (by first|(simp only [Bx];omega)|(simp [Bx];done)))) (by omega) _ G5 (by omega) fun r2=>?_)
  refine Dy 0 0 rfl rfl (by show (0 + mds.length + 1) * 8 ≤ 140737488355328;omega) ?_ --ok
  simp only [List.nil_append,List.cons_append,List.eraseIdx_cons_zero,List.eraseIdx_cons_succ,Nat.zero_add]
  refine wk 11 (ct @P8 cz) ?_
  intro pa1 ca1 h5 --ok
  refine Bk (l:=[1]) 1 rfl (n:=1) rfl (fun z hz=>by rw [List.mem_singleton.1 hz];simp [Bx]) (by omega) ?_
  refine Ql [1,2] rfl rfl ?_
  rw [← hp1]
  refine Af (X:=Nat×Row) [1,2,4,5,6,11] [0,1,2,3,4,5,6,7,8,9,10,11,12,13,14] (fun x=>[(13,.int .i64 (x.1:Int)),(10,.slice (ad x.2.bo) x.1 x.2.cap)]) (fun x=>[(x.2.bo,3,x.2.cs),(some b1,24,[.int .i64 p,.int .i64 ms,.slice pm mds.length cm])]) (fun x=>[A5 Aj x.2 x.1 (Wh (fM p (Az m md)) r x.1)]) (fun x=>1≤x.1∧x.1≤ms) (fun x=>ms-x.1) (1,⟨some b3,1,Ak .i64 (Wh (fM p (Az m md)) r 1)⟩) [0] rfl rfl rfl ⟨Nat.le_refl _,hm1⟩ (by repeat (first|exact Fr.sub_nil _|refine Fr.sub_cons rfl ?_)) rfl rfl ?_
  rintro ⟨k,r3⟩ ⟨hk1,hk2⟩ ih
  simp only [List.cons_append,List.nil_append] at hk1 hk2 ih ⊢
  by_cases hkl:k<ms
  ·have ih':=fun r3=>ih (k+1,r3) (by dsimp only;omega) ⟨by dsimp only;omega,by dsimp only;omega⟩
   dsimp only at ih'
   clear ih
   refine D1 0 rfl (by omega) fun bh caph csh hr=>?_
   subst hr
   dsimp only
   have hpj:=hpa (k-1) k (by omega)
   have epj:(Wh (fM p (Az m md)) r k).getD (k-1) default=((B6 (fM p (Az m md)) r (k-1):Nat):Int):=by rw [List.getD_eq_getElem?_getD,hpj];rfl
   have hpjq:=hpq (k-1)
   have hmr:Ad (fM p (Az m md)) ((B6 (fM p (Az m md)) r (k-1):Nat):Int) (RR.getD 0 default)=((B6 (fM p (Az m md)) r k:Nat):Int):=by
    rw [er0,Ad,Int.toNat_natCast,Int.toNat_natCast]
    show ((B6 (fM p (Az m md)) r (k-1+1):Nat):Int)=_
    rw [Nat.sub_add_cancel hk1]
   have hpkq:=hpq k
   rw [hps] at ih'
   refine wk 8 cz ?_
   intro h6
   (apply E5 it mx 12;(· rfl);(· rfl))
   (apply A1 4;(· rfl);(· simp))
   (apply Ac (v:=Value.int IntKind.i64 ((((k)-1:Nat)):Int));(· rfl);(· exact Bz fun _=>ADv it _ rfl ⟨by omega,by omega⟩ (by omega) Al))
   simp only [Nat.add_sub_cancel]
   (apply Ac;(· rfl);(· exact Bz fun _=>Bf (k-1) (k-1) rfl rfl Ce rfl (by omega) (Nat.mul_one _) Al))
   (apply Ac;(· rfl);(· exact H2 0 0 (k-1) rfl rfl rfl Ci rfl (by assumption)))
   (apply A1 1;(· rfl);(· simp))
   (apply Yd;(· rfl);(· exact Bz fun _=>Ia 2 0 rfl rfl rfl Ce (by omega) (by omega) fun z1 hz1 b6 o1=>(Xk default hz1 0 rfl));intro b6 o1)
   (apply Ac;(· rfl);(· exact Bz fun _=>Av 0 rfl rfl Ci fun ⟨r3,r4⟩=>Al))
   (apply Ac;(· rfl);(· exact Bz fun _=>Aw [13,15,16] rfl (A6 (by omega) (by omega) (by omega) (by omega)) rfl (by rintro _ _ _ ⟨rfl,rfl,rfl⟩;exact Al)))
   (apply Fa;(· rfl);(· exact Bz fun _=>H8 Ce Ee rfl rfl rfl rfl (by decide) (by decide) rfl fun b7=>Vf (E:=Aj) [[Value.int IntKind.i64 (Ad (fM p (Az m md)) (↑(B6 (fM p (Az m md)) r (k-1))) (RR.getD 0 default))]] [Ad (fM p (Az m md)) (↑(B6 (fM p (Az m md)) r (k-1))) (RR.getD 0 default)] (fun w A hG=>(Ay ⟨rfl,by first|assumption|(simp only [Bx];omega)⟩ Ba)) rfl rfl rfl (by first|decide|exact Nat.le_of_ble_eq_true rfl));intro pa2 ca2)
   refine Et rfl ?_
   simp only [List.map_cons,List.map_nil,List.cons_append,List.nil_append]
   refine Aa rfl (U6 0 2 0 rfl rfl rfl rfl rfl Ce Ee rfl (by omega) _ G5 (by omega) fun r3=>?_)
   refine wk 4 cz ?_ --ok
   rw [hmr]
   simp only [List.eraseIdx_cons_zero]
   exact tw (ih' r3)
  ·obtain rfl:k=ms:=by omega
   clear ih
   refine wk 17 (ct @Nn cz) ?_
   intro h6 b6 --ok
   simp only [List.cons_append,List.nil_append]
   refine Dy 1 0 rfl rfl (by show k*8≤140737488355328;omega) ?_
   refine Ql [0] rfl rfl ?_
   exact tw (ABS (b6:=b6) (b2:=b2) (b:=b) (pw:=ad r3.bo) (cw:=r3.cap) (ng2:=mds.length) (pg2:=pg1) (pe2:=pe1) (pl2:=pl1) (cg2:=cg1) (ce2:=ce1) (cl2:=cl1) (ng:=md.length) (pg:=pg) (pe:=pe) (pl:=pl) (cg:=cg) (ce:=ce) (cl:=cl) (C:=C) K Ks hr)
end
open Go Go.Fw
set_option maxRecDepth 100000
set_option linter.unusedVariables false
set_option linter.unusedSimpArgs false
set_option maxHeartbeats 0
section
variable {b p m p2 ms n c ng cg ce cl nm cm nm2 cm2 nm3 cm3:Nat}{pg pe pl ps pm pm2 pm3:Option Addr}{l md mds:List Int}
abbrev AM8 (p m ms:Nat) (md:List Int) (r:Nat):Value→List Fact→List A3→Prop:=fun v Φ β=>∃ b pg cg pe ce pl cl,∃ (pa:Option Addr) (ca:Nat),v = .tuple #[.pointer (some ⟨b,0,none⟩),.slice pa (p ^ ms) ca,.int .i64 0] ∧
 Φ=Ap Aj pa (p ^ ms) ca (imL (Ad (fA p m)) (Ad (fM p (Az m md))) p ms (Wh (fM p (Az m md)) r ms))::gfL p m md b pg cg pe ce pl cl∧β=[]
theorem K9 {r q s:Nat}{mdu:List Int}(K:Fok p m md) (Ks:Fok p ms mds) (Ku:Fok q s mdu) (hd:dgB m ms=true) (hr:r<p ^ m) (hr1:ms≠1→(rtP (Ad (fA p m)) (Ad (fM p (Az m md))) (mds++[1]) (p ^ m))[0]?=some (r:Int)) :
  Bn Tryz.prog 85 [.agg #[.int .i64 p,.int .i64 ms,.slice pm nm cm],.agg #[.int .i64 p,.int .i64 m,.slice pm2 nm2 cm2],.agg #[.int .i64 q,.int .i64 s,.slice pm3 nm3 cm3]] [] [Ap Aj pm nm cm mds,Ap Aj pm2 nm2 cm2 md,Ap Aj pm3 nm3 cm3 mdu] (AM8 p m ms md r):=by
 refine Ab (F:=Zl) rfl fun C=>?_
 have G9:=fun {pm:Option Addr}{nm cm:Nat}=>O6 (pm:=pm) (nm:=nm) (cm:=cm) Ku
 have D9:=fun {pm:Option Addr}{nm cm:Nat}=>Ga (pm:=pm) (nm:=nm) (cm:=cm) K
 have ABc:=fun {b nm cm cg ce cl:Nat}{pm pg pe pl:Option Addr}=>ABh (b:=b) (nm:=nm) (cm:=cm) (cg:=cg) (ce:=ce) (cl:=cl) (pm:=pm) (pg:=pg) (pe:=pe) (pl:=pl) K Ks hd hr hr1
 refine wk 31 (ct @G9 (ct @D9 (ct @ABc cz))) ?_
 intro b1 b2 b3 h1 b4 pg1 cg1 pe1 ce1 pl1 cl1 h2 pa1 ca1 h3
 refine Bb [0,1,2,3,4] rfl (.tmp rfl (.tmp rfl (.tmp rfl .nil))) rfl ⟨_,_,_,_,_,_,_,_,_,rfl,rfl,rfl⟩
end
open Go Go.Fw
set_option maxRecDepth 100000
set_option linter.unusedVariables false
set_option linter.unusedSimpArgs false
set_option maxHeartbeats 0
section
variable {b s cap n a e k:Nat}{cs:List Value}{l:List Int}
end
open Go Go.Fw
set_option maxRecDepth 100000
set_option linter.unusedVariables false
set_option linter.unusedSimpArgs false
set_option maxHeartbeats 0
section
variable {b cap n a e f lo hi:Nat}{cs:List Value}{l:List Int}
end
open Go Go.Fw
set_option maxRecDepth 100000
set_option linter.unusedVariables false
set_option linter.unusedSimpArgs false
set_option maxHeartbeats 0
section
variable {b cap n a e:Nat}{cs:List Value}{l:List Int}
end
open Go Go.Fw
set_option maxRecDepth 100000
set_option linter.unusedVariables false
set_option linter.unusedSimpArgs false
set_option maxHeartbeats 0
section
variable {b cap n a e pv:Nat}{cs:List Value}{l:List Int}
end
open Go Go.Fw
set_option maxRecDepth 100000
set_option linter.unusedVariables false
set_option linter.unusedSimpArgs false
set_option maxHeartbeats 0
section
variable {b cap n a e pv:Nat}{cs:List Value}{l:List Int}{p:Int}
end
open Go Go.Fw
set_option maxRecDepth 100000
set_option linter.unusedVariables false
set_option linter.unusedSimpArgs false
set_option maxHeartbeats 0
section
variable {b cap n a e:Nat}{cs:List Value}{l:List Int}
end
open Go Go.Fw
set_option maxRecDepth 100000
set_option linter.unusedVariables false
set_option linter.unusedSimpArgs false
set_option maxHeartbeats 0
section
variable {b cap n a e:Nat}{cs:List Value}{l:List Int}
end
open Go Go.Fw
set_option maxRecDepth 100000
set_option linter.unusedVariables false
set_option linter.unusedSimpArgs false
set_option maxHeartbeats 0
section
variable {b cap n:Nat}
end
open Go Go.Fw
set_option maxRecDepth 100000
set_option linter.unusedVariables false
set_option linter.unusedSimpArgs false
set_option maxHeartbeats 0
structure RvI (l L:List Int) (i:Nat):Prop where
 seg:Seg 0 l.length l L
 val:∀ k,k<l.length→Bh L k=if k<i∨l.length-1-k<i then Bh l (l.length-1-k) else Bh l k
theorem RvI.step {l L:List Int}{i:Nat}(h:RvI l L i) (hi:i<l.length-1-i):RvI l (sw L i (l.length-1-i)) (i+1):=by
 have hlen:=h.seg.len
 refine ⟨h.seg.trans (AAj (by omega) (by omega) (by omega) (by omega) (by omega)),fun k hk=>?_⟩
 rw [Yt (by omega) (by omega)]
 by_cases c1:k=l.length-1-i
 ·rw [if_pos c1,h.val i (by omega),if_neg (by omega),if_pos (by omega)];congr 1;omega
 ·by_cases c2:k=i
  ·rw [if_neg c1,if_pos c2,h.val _ (by omega),if_neg (by omega),if_pos (by omega),c2]
  ·rw [if_neg c1,if_neg c2,h.val k hk]
   by_cases c3:k<i∨l.length-1-k<i
   ·rw [if_pos c3,if_pos (by omega)]
   ·rw [if_neg c3,if_neg (by omega)]
theorem RvI.fin {l L:List Int}{i:Nat}(h:RvI l L i) (hi:¬ i<l.length-1-i):L=l.reverse:=by
 refine List.ext_getElem (h.seg.len.trans List.length_reverse.symm) fun k h1 h2=>?_
 have hlen:=h.seg.len
 rw [← AGx h1,List.getElem_reverse,← AGx,h.val k (by omega)]
 by_cases c3:k<i∨l.length-1-k<i
 ·rw [if_pos c3]
 ·rw [if_neg c3];congr 1;omega
section
variable {b cap n:Nat}{cs:List Value}{l:List Int}
end
open Go Go.Fw
set_option maxRecDepth 100000
set_option linter.unusedVariables false
set_option linter.unusedSimpArgs false
set_option maxHeartbeats 0
def txI (p m ms:Nat) (md IM:List Int) (b:Int) (row:List Int):List Int:=(C0 (Ad (fM p (Az m md))) b row).map fun y=>Tz (Q3 (Ad (fA p m)) (Bc (Sf (fM p (Az m md)) p m ms y.toNat))) IM
def trO (p ms:Nat) (mds:List Int) (N:Nat) (f:Int→List (List Int)) (l:List Int):List (List Int):=l.foldl (fun out b=>(C4 p ms mds N (out++(C4 p ms mds N (f b)).1)).1) (C4 p ms mds N []).1
theorem AHz {p ms N i:Nat}{mds:List Int}{f:Int→List (List Int)}{l:List Int}{b:Int}(h:l[i]?=some b):trO p ms mds N f (l.take (i+1))=(C4 p ms mds N (trO p ms mds N f (l.take i)++(C4 p ms mds N (f b)).1)).1:=by
 rw [trO,List.take_add_one,h,Option.toList_some,List.foldl_append];rfl
theorem AJ8 {p ms N:Nat}{mds:List Int}{f:Int→List (List Int)}(K:Fok p ms mds) (h1:1≤N) (h2:N≤64):∀ l:List Int,(∀ b∈l,Da (p ^ ms) N (f b))→Cok p ms mds N (trO p ms mds N f l):=fun l hf=>by
 have h:∀ (l:List Int) (out:List (List Int)),(∀ b∈l,Da (p ^ ms) N (f b))→Cok p ms mds N out→Cok p ms mds N (l.foldl (fun out b=>(C4 p ms mds N (out++(C4 p ms mds N (f b)).1)).1) out):=by
  intro l
  induction l with
  | nil=>intro out _ ho;exact ho
  | cons b l ih =>
   intro out hf ho
   exact ih _ (fun c hc=>hf c (.tail _ hc)) (Cok.cn K h1 h2 (Jm ho.mat (Cok.cn K h1 h2 (hf b (.head _))).mat))
 exact h l _ hf (Cok.cn K h1 h2 fun r hr=>by cases hr)
section
variable {b p m ms n N ng cg ce cl nm cm nm2 cm2 c ns ci x0:Nat}{pg pe pl ps pm pm2 pi:Option Addr}{md mds IM:List Int}{rows:List (List Int)}
theorem Q7 (CC:Cok p m md N rows) (Ks:Fok p ms mds) (hd:dgB m ms=true) (hn:m / ms=n) (hn0:0<n) (hx0:x0<p ^ m)
  (hN:nsB p m ms md (Sf (fM p (Az m md)) p m ms x0)=true) (hmin:∀ y,y<x0→nsB p m ms md (Sf (fM p (Az m md)) p m ms y)=false)
  (hxc:No (Nj (fM p (Az m md)) p (ms % m)) n x0=x0) (hxn:∀ i,1≤i→i<n→No (Nj (fM p (Az m md)) p (ms % m)) i x0≠x0)
  (hTr:∀ y,y<p ^ m→0≤Tz (Q3 (Ad (fA p m)) (Bc (Sf (fM p (Az m md)) p m ms y))) IM∧Tz (Q3 (Ad (fA p m)) (Bc (Sf (fM p (Az m md)) p m ms y))) IM<((p ^ ms:Nat):Int)) :
  Bn Tryz.prog 86 [.agg #[.int .i64 p,.int .i64 m,.slice pm nm cm,.int .i64 N,.slice ps ns c],.agg #[.int .i64 p,.int .i64 ms,.slice pm2 nm2 cm2],.pointer (some ⟨b,0,none⟩),.slice pi (p ^ ms) ci] []
   [Ap (Ah Aj) ps ns c rows,Ap Aj pm2 nm2 cm2 mds,Jp b p m (p ^ m) pg md.length cg pe (p ^ m-1) ce pl (p ^ m) cl,Ap Aj pg md.length cg md,Ap Aj pe (p ^ m-1) ce (J8 p m md),Ap Aj pl (p ^ m) cl (J3 p m md),Ap Aj pi (p ^ ms) ci IM]
   (CdQ p ms N mds (trO p ms mds N (fun b=>rows.map (txI p m ms md IM b)) (Bc ((List.range n).map fun i=>No (Nj (fM p (Az m md)) p (ms % m)) i x0))) 0):=by
 refine Ab (F:=Y7) rfl fun C=>?_
 refine A9 0 rfl fun hnn hb _=>?_
 subst hnn
 have K:=CC.K
 have hq:=K.q
 have hqs:=Ks.q
 have d1:=Ks.m1
 have d8:=Ks.m8
 have h64:=CC.n64
 have h1N:=CC.n1
 have hrl:=CC.len
 have hFM:∀ b:Int,0≤b→b<((p ^ m:Nat):Int)→∀ r∈rows,Wd (p ^ ms) N (txI p m ms md IM b r):=fun b b0 b1 r hr=>by
  have hw:=(Dx K).scl_wd b0 b1 (CC.mat r hr)
  refine ⟨by rw [txI,List.length_map];exact hw.1,fun z hz=>?_⟩
  obtain ⟨y,hy,rfl⟩:=List.mem_map.1 hz
  have:=hw.2 y hy
  exact hTr y.toNat (by omega)
 have AAK:=fun {b cg ce cl:Nat}{pg pe pl:Option Addr}=>AAg (b:=b) (cg:=cg) (ce:=ce) (cl:=cl) (pg:=pg) (pe:=pe) (pl:=pl) K d1 d8 hd hn hn0 hx0 hN hmin
 have U0:=fun {b cg ce cl:Nat}{pg pe pl:Option Addr}=>Vc (b:=b) (cg:=cg) (ce:=ce) (cl:=cl) (pg:=pg) (pe:=pe) (pl:=pl) K hx0 d1 d8 hd (by rw [hn];exact hxc)
 have hNew:=fun {rows:List (List Int)}{pm ps:Option Addr}{nm cm n c:Nat}(hl:rows.length≤256) (hM:Da (p ^ ms) N rows)=>I5 (pm:=pm) (ps:=ps) (nm:=nm) (cm:=cm) (n:=n) (c:=c) (N:=N) (rows:=rows) Ks h1N h64 hl hM
 have Dr:=fun {pm ps:Option Addr}{nm cm n c:Nat}=>hNew (rows:=[]) (pm:=pm) (ps:=ps) (nm:=nm) (cm:=cm) (n:=n) (c:=c) (by simp) (fun r hr=>by cases hr)
 refine Dk (Ap (Ah Aj) none 0 0 []) (fun w A _=>Cl _ w A none 0) ?_
 refine wk 19 (ct @AAK cz) ?_
 intro b1 b2 b3 h1
 refine Aa rfl (Aw [3,4,5,6] rfl (U0) rfl ?_)
 rintro _ _ _ ⟨r1,k1,rfl,rfl,rfl,h2,h3,h4,h5⟩
 simp only [List.cons_append,List.nil_append]
 simp only [decide_true]
 refine wk 20 (ct @Dr cz) ?_
 intro h6 pb1 pc1 nb1 cb1 nc1 cc1 b4 --ok
 have hk1:k1=n:=by
  have e1:=‹1≤k1›
  have e2:=‹k1≤m / ms›
  have e3:=‹No (Nj (fM p (Az m md)) p (ms % m)) k1 x0=x0›
  have:=hxn k1 e1
  omega
 have hn8:n≤8:=by have:=K.m8;have:=Nat.div_le_self m ms;omega
 subst hk1
 simp only [setB,List.set_cons_zero,List.set_cons_succ,List.cons_append,List.nil_append]
 refine Dy 1 2 rfl rfl (by show k1*8≤140737488355328;omega) ?_
 simp only [List.eraseIdx_cons_zero,List.eraseIdx_cons_succ]
 have hbl:(Bc ((List.range k1).map fun i=>No (Nj (fM p (Az m md)) p (ms % m)) i x0)).length=k1:=by simp [Bc]
 have hba:∀ i,i<k1→(Bc ((List.range k1).map fun i=>No (Nj (fM p (Az m md)) p (ms % m)) i x0))[i]?=some ((No (Nj (fM p (Az m md)) p (ms % m)) i x0:Nat):Int):=fun i hi=>by
  rw [Bc,List.getElem?_map,List.getElem?_map,List.getElem?_range hi];rfl
 have hbq:=fun i=>P9 (f:=Nj (fM p (Az m md)) p (ms % m)) (fun y hy=>Oh K hy (ms % m)) hx0 i
 generalize Bc ((List.range k1).map fun i=>No (Nj (fM p (Az m md)) p (ms % m)) i x0)=BS at *
 have hFM2:∀ b:Int,0≤b→b<((p ^ m:Nat):Int)→Da (p ^ ms) N (rows.map (txI p m ms md IM b)):=fun b b0 b1 r hr=>by
  obtain ⟨s,hs,rfl⟩:=List.mem_map.1 hr
  exact hFM b b0 b1 s hs
 have hbs:∀ i b,BS[i]?=some b→0≤b∧b<((p ^ m:Nat):Int):=fun i b h=>by
  have hi:i<k1:=by rw [← hbl];exact (List.getElem?_eq_some_iff.1 h).1
  rw [hba i hi] at h
  have:=hbq i
  rw [← Option.some.inj h]
  omega
 refine Af (X:=Nat×(Option Addr×Nat×Nat)×(Option Addr×Nat×Nat)) [2,3,4,5,8,13,57,58] [0,4,5,6,7,8,9,10,11] (fun z=>[(59,.int .i64 (z.1:Int)),(11,.int .i64 0)])
  (fun z=>(some b4,27,[.int .i64 p,.int .i64 ms,.slice z.2.1.1 z.2.1.2.1 z.2.1.2.2,.int .i64 N,.slice z.2.2.1 z.2.2.2.1 z.2.2.2.2])::_)
  (fun z=>[Ap Aj z.2.1.1 z.2.1.2.1 z.2.1.2.2 mds,Ap (Ah Aj) z.2.2.1 z.2.2.2.1 z.2.2.2.2 (trO p ms mds N (fun b=>rows.map (txI p m ms md IM b)) (BS.take z.1))])
  (fun z=>z.1≤k1) (fun z=>k1-z.1) (0,(pb1,nb1,cb1),(pc1,nc1,cc1)) [1,2] rfl rfl rfl (Nat.zero_le _) (by repeat (first|exact Fr.sub_nil _|refine Fr.sub_cons rfl ?_)) rfl rfl ?_
 rintro ⟨k,⟨pb,nb,cb⟩,⟨pc,nc,cc⟩⟩ hk ih
 simp only [List.cons_append,List.nil_append] at hk ih ⊢
 by_cases hkl:k<k1
 ·have at_x:=hba k hkl
  have hxb:=hbq k
  have hOC:Cok p ms mds N (trO p ms mds N (fun b=>rows.map (txI p m ms md IM b)) (BS.take k)):=AJ8 Ks h1N h64 _ fun b hb=>by
   obtain ⟨i,hi⟩:=List.getElem?_of_mem (List.mem_of_mem_take hb)
   obtain ⟨b0,b1⟩:=hbs i b hi
   exact hFM2 b b0 b1
  have ih0:=fun pb nb cb pc nc cc=>ih (k+1,(pb,nb,cb),(pc,nc,cc)) (by dsimp only;omega) (by dsimp only;omega)
  dsimp only at ih0
  rw [AHz at_x] at ih0
  clear ih
  generalize trO p ms mds N (fun b=>rows.map (txI p m ms md IM b)) (BS.take k)=OUT at *
  generalize No (Nj (fM p (Az m md)) p (ms % m)) k x0=x at *
  have hMx:=hFM2 (x:Int) (by omega) (by omega)
  have hWx:=hFM (x:Int) (by omega) (by omega)
  have Es:=fun {u:List Int}{b ng cg ce cl nu cu:Nat}{pg pe pl pu:Option Addr}(hu:∀ x∈u,0≤x∧x<((p ^ m:Nat):Int))=>(Wg (b:=b) (ng:=ng) (cg:=cg) (ce:=ce) (cl:=cl) (pg:=pg) (pe:=pe) (pl:=pl) (pu:=pu) (nu:=nu) (cu:=cu) (u:=u) K (Int.natCast_nonneg x) (by omega:(x:Int)<((p ^ m:Nat):Int)) hu)
  have Of:=fun {y:Nat}{b cg ce cl:Nat}{pg pe pl:Option Addr}(hy:y<p ^ m)=>AA6 (b:=b) (cg:=cg) (ce:=ce) (cl:=cl) (pg:=pg) (pe:=pe) (pl:=pl) K hy d1 d8 hd
  refine Aq [_,_,_,_,_] rfl ?_
  refine Ai it 1 rfl (by simp) ?_
  refine Aq [_,_,_,_,_] rfl ?_
  refine L7 rfl rfl (fun h7=>?_) (fun h7=>by exfalso;omega)
  refine Aq [_,_,_,_,_,_,_] rfl ?_
  refine Aa rfl (Ia 2 (k) rfl rfl rfl Ce rfl (by omega) fun z1 hz1 b5 o1=>?_)
  obtain rfl:_=z1:=Option.some.inj (at_x.symm.trans hz1)
  refine Aa rfl (Av 0 rfl rfl Ci fun ⟨r2,r3⟩=>?_)
  refine Ai it 1 rfl (by simp) ?_
  refine Aq [_,_,_,_,_,_,_] rfl ?_
  refine Aa rfl (An rfl If ?_)
  refine Aa rfl (Bu 3 rfl rfl Ci rfl ?_)
  refine Aa rfl (Dc (cs:=[Value.int IntKind.i64 ↑N,Value.slice none 0 0]) Vx Hs rfl rfl ?_)
  refine Aa rfl (B2 Hs fun b6=>?_)
  refine Aa rfl (Be 0 rfl rfl rfl Gf rfl rfl (by simp [Value.oneCell']) ?_)
  refine Aq [_,_,_,_,_,_,_,_] rfl ?_
  refine Aa rfl (An rfl Mn ?_)
  refine Aa rfl (Bu 4 rfl rfl Hp rfl ?_)
  refine Aa rfl (Hn Df rfl ?_)
  refine Ai it 1 rfl (by simp) ?_
  refine Aq [_,_,_,_,_,_,_,_] rfl ?_ --ok
  simp only [setB,List.set_cons_zero,List.set_cons_succ]
  refine Fh (Ah Aj) 22 ?_
  refine Af (X:=Nat×Row) [2,3,4,5,8,11,13,15,16,57,58,59,60,61,62,63,64,65,66,67,68] [0,1,2,3,4,5,6,7,8,9,10,11,12] (fun z=>[(69,.int .i64 (z.1:Int))]) (fun z=>(z.2.bo,22,z.2.cs)::(some b6,62,[.int .i64 N,.slice (ad z.2.bo) z.1 z.2.cap])::_) (fun z=>[A5 (Ah Aj) z.2 z.1 ((rows.take z.1).map (txI p m ms md IM x))]) (fun z=>z.1≤rows.length) (fun z=>rows.length-z.1) (0,⟨none,0,[]⟩) [0] rfl rfl rfl (Nat.zero_le _) (by repeat (first|exact Fr.sub_nil _|refine Fr.sub_cons rfl ?_)) rfl rfl ?_
  rintro ⟨i,r⟩ hi ih
  simp only [List.cons_append,List.nil_append] at hi ih ⊢
  by_cases hil:i<rows.length
  ·obtain ⟨u,at_u⟩:∃ u,rows[i]?=some u:=⟨_,List.getElem?_eq_getElem hil⟩
   have hum:=List.mem_of_getElem? at_u
   have hu:=CC.mat u hum
   have hul:=hu.1
   have ih1:=fun r=>ih (i+1,r) (by dsimp only;omega) (by dsimp only;omega)
   dsimp only at ih1
   rw [List.take_add_one (l:=rows),at_u,Option.toList_some,List.map_append,List.map_cons,List.map_nil] at ih1
   clear ih
   have Es:=fun {b ng cg ce cl cu:Nat}{pg pe pl pu:Option Addr}=>(Es (u:=u) (b:=b) (ng:=ng) (cg:=cg) (ce:=ce) (cl:=cl) (pg:=pg) (pe:=pe) (pl:=pl) (pu:=pu) (nu:=u.length) (cu:=cu) hu.2).pubR (by show u.length*8≤140737488355328;omega)
   have hSw:=(Dx K).scl_wd (Int.natCast_nonneg x) (by omega:(x:Int)<((p ^ m:Nat):Int)) hu
   have hTw:=hWx u hum
   have hTa:∀ (j:Nat) (y:Int),(C0 (Ad (fM p (Az m md))) (x:Int) u)[j]?=some y→(txI p m ms md IM x u)[j]?=some (Tz (Q3 (Ad (fA p m)) (Bc (Sf (fM p (Az m md)) p m ms y.toNat))) IM):=fun j y h=>by rw [txI,List.getElem?_map,h];rfl
   generalize txI p m ms md IM x u=T at *
   have hSl:=hSw.1
   generalize C0 (Ad (fM p (Az m md))) (x:Int) u=SC at *
   refine wk 19 (ct @Es cz) ?_
   intro h8 b7 o2 hz2 pa1 ca1 b8 pa2 ca2 --ok
   rw [show Ao .i64 (List.replicate N 0)=Ak .i64 (T.take 0++List.replicate (N-0) 0) by simp [Ao,Ak]]
   simp only [List.cons_append,List.nil_append]
   refine Af (X:=Nat) [2,3,4,5,8,11,13,15,16,18,19,57,58,59,60,61,62,63,64,65,66,67,68,69,70,71,72,73,74,75,76,77,78,79,80] [0,1,2,3,4,5,6,7,8,9,10,11,12,13,14,15,16] (fun t=>[(81,.int .i64 (t:Int))]) (fun t=>(some b8,3,Ak .i64 (T.take t++List.replicate (N-t) 0))::_) (fun _=>[]) (fun t=>t≤N) (fun t=>N-t) 0 [] rfl rfl rfl (Nat.zero_le _) (by repeat (first|exact Fr.sub_nil _|refine Fr.sub_cons rfl ?_)) rfl rfl ?_
   rintro t ht ih
   simp only [List.cons_append,List.nil_append] at ht ih ⊢
   by_cases htl:t<N
   ·obtain ⟨y,at_y⟩:∃ y,SC[t]?=some y:=⟨_,List.getElem?_eq_getElem (by omega)⟩
    obtain ⟨y0,y1⟩:=hSw.2 y (List.mem_of_getElem? at_y)
    obtain ⟨y',rfl⟩:=Int.eq_ofNat_of_zero_le y0
    have hyq:y'<p ^ m:=by omega
    have hTt:=hTa t _ at_y
    rw [Int.toNat_natCast] at hTt
    obtain ⟨i0,i1⟩:=hTr y' hyq
    have Of:=fun {b cg ce cl:Nat}{pg pe pl:Option Addr}=>Of (b:=b) (cg:=cg) (ce:=ce) (cl:=cl) (pg:=pg) (pe:=pe) (pl:=pl) hyq
    have ih':=ih (t+1) (by omega) (by omega)
    rw [← take_set hTt htl] at ih'
    have hln:(T.take t++List.replicate (N-t) 0).length=N:=by have:=hTw.1;simp;omega
    generalize T.take t++List.replicate (N-t) 0=L at *
    generalize Q3 (Ad (fA p m)) (Bc (Sf (fM p (Az m md)) p m ms y'))=tr at *
    clear ih
    refine wk 7 cz ?_
    intro h9 b9 o3 hz3
    refine Aa rfl (Av 0 rfl rfl Ci fun ⟨r4,r5⟩=>?_)
    refine wk 15 (ct @Of (ct @Ib cz)) ?_
    exact tw (ih')
   ·obtain rfl:t=N:=by omega
    have hTl:=hTw.1
    rw [Nat.sub_self,List.replicate_zero,List.append_nil,List.take_of_length_le (by omega)]
    clear ih
    have hmr:∀ z∈T,Bx .i64 z:=fun z hz=>by have:=hTw.2 z hz;simp only [Bx];omega
    refine Bk 0 rfl hTl.symm hmr (by omega) ?_
    refine wk 9 cz ?_
    intro h9 b9
    refine C3 1 0 rfl rfl (by show (t)*8≤140737488355328;omega) ?_
    refine Aa rfl (Fi (z:=T) 1 0 5 rfl rfl rfl rfl rfl Df Gr rfl (fun w A hG=>(Ax (hG _ (Ae (n:=0) rfl)))) (by omega) _ Jx (by omega) fun r4=>?_)
    refine wk 5 cz ?_
    refine Jw [true,false,true,true,true,true,true] [0,7,8,9,10,11,12,13,14,15,16,17,18,19] (by exact T8 rfl) rfl rfl (ih1 r4)
  ·obtain rfl:i=rows.length:=by omega
   clear ih
   rw [List.take_length]
   refine Dy 0 0 rfl rfl (by show rows.length*24≤140737488355328;omega) ?_
   simp only [List.eraseIdx_cons_zero,List.eraseIdx_cons_succ]
   have hRl:(rows.map (txI p m ms md IM (x:Int))).length=rows.length:=List.length_map _
   have hCok2:=Cok.cn Ks h1N h64 hMx
   generalize rows.map (txI p m ms md IM (x:Int))=RX at *
   have Dr:=fun {pm ps:Option Addr}{nm cm n c:Nat}=>hNew (rows:=RX) (pm:=pm) (ps:=ps) (nm:=nm) (cm:=cm) (n:=n) (c:=c) (by omega) hMx
   have Vh:=fun {pm ps p2 pm2:Option Addr}{nm cm n c nm2 cm2 n2 c2:Nat}=>Uk (pm:=pm) (ps:=ps) (nm:=nm) (cm:=cm) (n:=n) (c:=c) (p2:=p2) (pm2:=pm2) (n2:=n2) (c2:=c2) (nm2:=nm2) (cm2:=cm2) hOC hCok2
   refine wk 30 (ct @Dr (ct @Vh cz)) ?_
   intro h8 pb2 pc2 nb2 cb2 nc2 cc2 b7 h9 pb3 pc3 nb3 cb3 nc3 cc3 h10
   simp only [setB,List.set_cons_zero,List.set_cons_succ,List.cons_append,List.nil_append]
   refine Ql [2,3,4,5] rfl rfl ?_
   exact tw (ih0 pb3 nb3 cb3 pc3 nc3 cc3)
 ·obtain rfl:k=k1:=by omega
  rw [List.take_of_length_le (by omega)]
  clear ih
  refine wk 10 cz ?_
  intro h7
  refine Bb [0,1] rfl (.agg 1 rfl rfl Dl rfl (.tmp rfl .nil)) rfl ⟨_,_,_,_,_,_,rfl,rfl,rfl⟩
end
open Go Go.Fw
set_option maxRecDepth 100000
set_option linter.unusedVariables false
set_option linter.unusedSimpArgs false
set_option maxHeartbeats 0
abbrev imT (p m ms:Nat) (md:List Int) (r:Nat):List Int:=imL (Ad (fA p m)) (Ad (fM p (Az m md))) p ms (Wh (fM p (Az m md)) r ms)
structure TwOk (p m ms:Nat) (md mds:List Int) (r x0:Nat):Prop where
 K:Fok p m md
 Ks:Fok p ms mds
 hd:dgB m ms=true
 hr:r<p ^ m
 hr1:ms≠1→(rtP (Ad (fA p m)) (Ad (fM p (Az m md))) (mds++[1]) (p ^ m))[0]?=some (r:Int)
 hx0:x0<p ^ m
 hN:nsB p m ms md (Sf (fM p (Az m md)) p m ms x0)=true
 hmin:∀ y,y<x0→nsB p m ms md (Sf (fM p (Az m md)) p m ms y)=false
 hxc:No (Nj (fM p (Az m md)) p (ms % m)) (m / ms) x0=x0
 hxn:∀ i,1≤i→i<m / ms→No (Nj (fM p (Az m md)) p (ms % m)) i x0≠x0
 hTr:∀ y,y<p ^ m→0≤Tz (Q3 (Ad (fA p m)) (Bc (Sf (fM p (Az m md)) p m ms y))) (imT p m ms md r)∧Tz (Q3 (Ad (fA p m)) (Bc (Sf (fM p (Az m md)) p m ms y))) (imT p m ms md r)<((p ^ ms:Nat):Int)
theorem TwOk.n0 {p m ms r x0:Nat}{md mds:List Int}(T:TwOk p m ms md mds r x0):0<m / ms:=Nat.div_pos (of_decide_eq_true T.hd).1 T.Ks.m1
def tcP (p m ms:Nat) (md mds:List Int) (r x0 N:Nat) (rows:List (List Int)):List (List Int):=trO p ms mds N (fun b=>rows.map (txI p m ms md (imT p m ms md r) b)) (Bc ((List.range (m / ms)).map fun i=>No (Nj (fM p (Az m md)) p (ms % m)) i x0))
def emL (IM:List Int) (row:List Int):List Int:=row.map fun x=>Bh IM x.toNat
section
variable {p m ms n nm cm nm2 cm2 c r x0:Nat}{ps pm pm2:Option Addr}{md mds:List Int}{rows:List (List Int)}
theorem V2 {N:Nat}(CC:Cok p m md N rows) (T:TwOk p m ms md mds r x0) :
  Bn Tryz.prog 34 [.agg #[.int .i64 p,.int .i64 m,.slice pm nm cm,.int .i64 N,.slice ps n c],.agg #[.int .i64 p,.int .i64 ms,.slice pm2 nm2 cm2]] [] [Ap Aj pm nm cm md,Ap (Ah Aj) ps n c rows,Ap Aj pm2 nm2 cm2 mds] (CdQ p ms N mds (tcP p m ms md mds r x0 N rows) 0):=by
 refine Ab (F:=AAs) rfl fun C=>?_
 have h64:=CC.n64
 have Au:=fun {pm ps:Option Addr}{nm cm n c:Nat}=>D5 (P:=p) (M:=m) (pm:=pm) (ps:=ps) (nm:=nm) (cm:=cm) (n:=n) (c:=c) (md:=md) (rows:=rows) (N:=N) (by simp only [Bx];omega) CC.ck
 have G4:=fun {pm pm2 pm3:Option Addr}{nm cm nm2 cm2 nm3 cm3:Nat}=>K9 (pm:=pm) (nm:=nm) (cm:=cm) (pm2:=pm2) (nm2:=nm2) (cm2:=cm2) (pm3:=pm3) (nm3:=nm3) (cm3:=cm3) T.K T.Ks T.Ks T.hd T.hr T.hr1
 have Ir:=fun {b nm cm nm2 cm2 n c cg ce cl ci:Nat}{pm pm2 ps pg pe pl pi:Option Addr}=>Q7 (b:=b) (nm:=nm) (cm:=cm) (nm2:=nm2) (cm2:=cm2) (ns:=n) (c:=c) (cg:=cg) (ce:=ce) (cl:=cl) (ci:=ci) (pm:=pm) (pm2:=pm2) (ps:=ps) (pg:=pg) (pe:=pe) (pl:=pl) (pi:=pi) CC T.Ks T.hd rfl T.n0 T.hx0 T.hN T.hmin T.hxc T.hxn T.hTr
 rw [tcP]
 refine wk 33 (ct @Au (ct @G4 (ct @Ir cz))) ?_
 intro b1 b2 b3 h1 b4 pg1 cg1 pe1 ce1 pl1 cl1 pa1 ca1 h2 pb1 pc1 nb1 cb1 nc1 cc1
 refine Bb [0,1] rfl (.agg 0 rfl rfl Dl rfl (.tmp rfl .nil)) rfl ⟨_,_,_,_,_,_,rfl,rfl,rfl⟩
theorem Sx {N:Nat}(CC:Cok p m md N rows) (T:TwOk p m ms md mds r x0) (hT:Cok p ms mds N (tcP p m ms md mds r x0 N (Jg p m md N rows))) :
  Bn Tryz.prog 32 [.agg #[.int .i64 p,.int .i64 m,.slice pm nm cm,.int .i64 N,.slice ps n c],.agg #[.int .i64 p,.int .i64 ms,.slice pm2 nm2 cm2]] [] [Ap Aj pm nm cm md,Ap (Ah Aj) ps n c rows,Ap Aj pm2 nm2 cm2 mds] (CdQ p ms N mds (Jg p ms mds N (tcP p m ms md mds r x0 N (Jg p m md N rows))) 0):=by
 refine Ab (F:=V0) rfl fun C=>?_
 have h64:=CC.n64
 have CN:=CC.nu
 have Au:=fun {pm ps:Option Addr}{nm cm n c:Nat}=>D5 (P:=p) (M:=m) (pm:=pm) (ps:=ps) (nm:=nm) (cm:=cm) (n:=n) (c:=c) (md:=md) (rows:=rows) (N:=N) (by simp only [Bx];omega) CC.ck
 have G4:=fun {pm pm2 pm3:Option Addr}{nm cm nm2 cm2 nm3 cm3:Nat}=>K9 (pm:=pm) (nm:=nm) (cm:=cm) (pm2:=pm2) (nm2:=nm2) (cm2:=cm2) (pm3:=pm3) (nm3:=nm3) (cm3:=cm3) T.K T.Ks T.Ks T.hd T.hr T.hr1
 have Kw:=fun {pm ps:Option Addr}{nm cm n c:Nat}=>Mi (pm:=pm) (ps:=ps) (nm:=nm) (cm:=cm) (n:=n) (c:=c) CC
 have hD:=fun {pm ps:Option Addr}{nm cm n c:Nat}=>Mi (pm:=pm) (ps:=ps) (nm:=nm) (cm:=cm) (n:=n) (c:=c) hT
 have Ir:=fun {b nm cm nm2 cm2 n c cg ce cl ci:Nat}{pm pm2 ps pg pe pl pi:Option Addr}=>Q7 (b:=b) (nm:=nm) (cm:=cm) (nm2:=nm2) (cm2:=cm2) (ns:=n) (c:=c) (cg:=cg) (ce:=ce) (cl:=cl) (ci:=ci) (pm:=pm) (pm2:=pm2) (ps:=ps) (pg:=pg) (pe:=pe) (pl:=pl) (pi:=pi) CN T.Ks T.hd rfl T.n0 T.hx0 T.hN T.hmin T.hxc T.hxn T.hTr
 rw [← tcP] at Ir
 generalize tcP p m ms md mds r x0 N (Jg p m md N rows)=TC at *
 generalize Jg p m md N rows=D at *
 refine wk 39 (ct @Au (ct @G4 (ct @Kw cz))) ?_
 intro b1 b2 b3 h1 b4 pg1 cg1 pe1 ce1 pl1 cl1 pa1 ca1 h2 pb1 pc1 nb1 cb1 nc1 cc1 b5 h3
 have Kw:=fun {pm ps:Option Addr}{nm cm n c:Nat}=>hD (pm:=pm) (ps:=ps) (nm:=nm) (cm:=cm) (n:=n) (c:=c)
 generalize Jg p ms mds N TC=R at *
 refine wk 16 (ct @Ir (ct @Kw cz)) ?_
 intro pb2 pc2 nb2 cb2 nc2 cc2 b6 h4 pb3 pc3 nb3 cb3 nc3 cc3
 refine Bb [0,1] rfl (.agg 2 rfl rfl Dl rfl (.tmp rfl .nil)) rfl ⟨_,_,_,_,_,_,rfl,rfl,rfl⟩
theorem AJG (K:Fok p m md) (hr:r<p ^ m) (Ks:Fok p ms mds):∀ z∈imT p m ms md r,0≤z∧z<((p ^ m:Nat):Int):=fun z hz=>by
 obtain ⟨x,_,rfl⟩:=List.mem_map.1 hz
 refine Qk K.fi _ 0 (Int.le_refl 0) K.fi.z fun y hy=>?_
 obtain ⟨i,hi,rfl⟩:=List.getElem_of_mem hy
 rw [List.getElem_zipWith]
 rw [List.length_zipWith] at hi
 have h1:∀ z∈Bc (Dm p ms x),0≤z∧z<((p ^ m:Nat):Int):=fun z hz=>by
  obtain ⟨y,hy,rfl⟩:=List.mem_map.1 hz
  have:=Jq (by have:=K.p2;omega) y hy
  have hpm:p≤p ^ m:=Nat.le_self_pow (by have:=K.m1;omega) p
  omega
 have h2:∀ z∈Wh (fM p (Az m md)) r ms,0≤z∧z<((p ^ m:Nat):Int):=fun z hz=>by
  obtain ⟨y,hy,rfl⟩:=List.mem_map.1 hz
  obtain ⟨i,_,rfl⟩:=List.mem_map.1 hy
  have:=K.rng'.pw_lt hr i
  omega
 obtain ⟨a0,a1⟩:=h1 (Bc (Dm p ms x))[i] (List.getElem_mem (by omega))
 obtain ⟨b0,b1⟩:=h2 (Wh (fM p (Az m md)) r ms)[i] (List.getElem_mem (by omega))
 exact K.fi.ml _ _ a0 a1 b0 b1
theorem AIP {q q' N:Nat}{IM u:List Int}(h0:0<q') (hI:∀ z∈IM,0≤z∧z<(q':Int)) (hu:Wd q N u):Wd q' N (emL IM u):=⟨by rw [emL,List.length_map,hu.1],fun z hz=>by
 obtain ⟨x,_,rfl⟩:=List.mem_map.1 hz
 rw [Bh,List.getD_eq_getElem?_getD]
 cases h:IM[x.toNat]? with
 | none=>exact ⟨Int.le_refl 0,by show (0:Int)<_;omega⟩
 | some y=>exact hI y (List.mem_of_getElem? h)⟩
end
open Go Go.Fw
set_option maxRecDepth 100000
set_option linter.unusedVariables false
set_option linter.unusedSimpArgs false
set_option maxHeartbeats 0
section
variable {p m ms n nm cm nm2 cm2 c r x0:Nat}{ps pm pm2:Option Addr}{md mds:List Int}{rows:List (List Int)}
theorem X4 {N:Nat}(CC:Cok p ms mds N rows) (K:Fok p m md) (hd:dgB m ms=true) (hr:r<p ^ m) (hr1:ms≠1→(rtP (Ad (fA p m)) (Ad (fM p (Az m md))) (mds++[1]) (p ^ m))[0]?=some (r:Int)) :
  Bn Tryz.prog 36 [.agg #[.int .i64 p,.int .i64 ms,.slice pm nm cm,.int .i64 N,.slice ps n c],.agg #[.int .i64 p,.int .i64 m,.slice pm2 nm2 cm2]] [] [Ap Aj pm nm cm mds,Ap (Ah Aj) ps n c rows,Ap Aj pm2 nm2 cm2 md] (CdQ p m N md (C4 p m md N (rows.map (emL (imT p m ms md r)))).1 0):=by
 refine Ab (F:=ABq) rfl fun C=>?_
 refine A9 1 rfl fun hn hb1 _=>?_
 subst hn
 have h64:=CC.n64
 have hl:=CC.len
 have Ks:=CC.K
 have hq:=K.q
 have Au:=fun {pm ps:Option Addr}{nm cm n c:Nat}=>D5 (P:=p) (M:=ms) (pm:=pm) (ps:=ps) (nm:=nm) (cm:=cm) (n:=n) (c:=c) (md:=mds) (rows:=rows) (N:=N) (by simp only [Bx];omega) CC.ck
 have G4:=fun {pm pm2 pm3:Option Addr}{nm cm nm2 cm2 nm3 cm3:Nat}=>K9 (pm:=pm) (nm:=nm) (cm:=cm) (pm2:=pm2) (nm2:=nm2) (cm2:=cm2) (pm3:=pm3) (nm3:=nm3) (cm3:=cm3) K CC.K K hd hr hr1
 have hIr:=AJG K hr CC.K
 have hIl:(imT p m ms md r).length=p ^ ms:=AFY
 have hEM:Da (p ^ m) N (rows.map (emL (imT p m ms md r))):=fun s hs=>by
  obtain ⟨u,hu,rfl⟩:=List.mem_map.1 hs
  exact AIP (Nat.pow_pos (by have:=K.p2;omega)) hIr (CC.mat u hu)
 have hRl:(rows.map (emL (imT p m ms md r))).length=rows.length:=List.length_map _
 have Dr:=fun {pm ps:Option Addr}{nm cm n c:Nat}=>I5 (pm:=pm) (ps:=ps) (nm:=nm) (cm:=cm) (n:=n) (c:=c) (N:=N) (rows:=rows.map (emL (imT p m ms md r))) K CC.n1 CC.n64 (by omega) hEM
 generalize hG:(C4 p m md N (rows.map (emL (imT p m ms md r)))).1=G at *
 clear hG
 simp only [imT] at *
 refine Aq [_,_] rfl ?_
 refine Aa rfl (Cu rfl fun b1=>?_)
 refine Aa rfl (Cu rfl fun b2=>?_)
 refine Aa rfl (B2 T7 fun b3=>?_)
 refine Ai it 1 rfl (by simp) ?_
 refine Aq [_,_,_] rfl ?_
 refine Aa rfl (Bi 2 rfl rfl Dl rfl ?_)
 refine Aa rfl (Aw [0,1] rfl (Au) rfl ?_)
 rintro _ _ _ ⟨rfl,rfl,rfl⟩
 simp only [List.cons_append,List.nil_append]
 refine Ai it 1 rfl (by simp) ?_
 refine Aq [_,_,_] rfl ?_
 refine Ai it 2 rfl (by simp) ?_
 refine Aq [_,_] rfl ?_
 refine Nm rfl rfl (fun h1=>by exfalso;omega) (fun h1=>?_)
 refine Aq [_,_] rfl ?_
 refine Aa rfl (An rfl K4 ?_)
 refine Aa rfl (Tu 2 rfl rfl Gi rfl rfl ?_)
 refine Aa rfl (Bi 1 rfl rfl Gi rfl ?_)
 refine Aa rfl (Bi 1 rfl rfl Gi rfl ?_)
 refine Aa rfl (Aw [0,2,2] rfl (G4) rfl ?_)
 rintro _ _ _ ⟨b4,pg1,cg1,pe1,ce1,pl1,cl1,pa1,ca1,rfl,rfl,rfl⟩
 simp only [List.cons_append,List.nil_append]
 simp only [decide_true]
 refine Ai it 7 rfl (by simp) ?_
 refine Aq [_,_,_] rfl ?_
 refine Ai it 2 rfl (by simp) ?_
 refine Aq [_,_] rfl ?_
 refine Nm rfl rfl (fun h2=>by exfalso;omega) (fun h2=>?_)
 refine Aq [_,_] rfl ?_
 refine Aa rfl (An rfl If ?_)
 refine Aa rfl (Bu 2 rfl rfl Ci rfl ?_)
 refine Aa rfl (Dc (cs:=[Value.int IntKind.i64 ↑N,Value.slice none 0 0]) Vx Hs rfl rfl ?_)
 refine Aa rfl (B2 Hs fun b5=>?_)
 refine Aa rfl (Be 0 rfl rfl rfl Gf rfl rfl (by simp [Value.oneCell']) ?_)
 refine Aq [_,_,_] rfl ?_
 refine Aa rfl (An rfl Mn ?_)
 refine Aa rfl (Bu 3 rfl rfl Hp rfl ?_)
 refine Aa rfl (Hn Df rfl ?_)
 refine Ai it 1 rfl (by simp) ?_
 refine Aq [_,_,_] rfl ?_ --ok
 simp only [setB,List.set_cons_zero,List.set_cons_succ,List.cons_append,List.nil_append]
 generalize imL (Ad (fA p m)) (Ad (fM p (Az m md))) p ms (Wh (fM p (Az m md)) r ms)=IM at *
 refine Dk (Ap (Ah Aj) none 0 0 []) (fun w A _=>Cl _ w A none 0) ?_
 refine Fh (Ah Aj) 22 ?_
 refine Af (X:=Nat×Row) [2,3,4,5,8,10,39,40] [0,1,2,3,4,5,6,7,8,9] (fun z=>[(41,.int .i64 (z.1:Int))]) (fun z=>(z.2.bo,22,z.2.cs)::(some b5,62,[.int .i64 N,.slice (ad z.2.bo) z.1 z.2.cap])::_) (fun z=>[A5 (Ah Aj) z.2 z.1 ((rows.take z.1).map (emL IM))]) (fun z=>z.1≤rows.length) (fun z=>rows.length-z.1) (0,⟨none,0,[]⟩) [0] rfl rfl rfl (Nat.zero_le _) (by repeat (first|exact Fr.sub_nil _|refine Fr.sub_cons rfl ?_)) rfl rfl ?_
 rintro ⟨i,r⟩ hi ih
 simp only [List.cons_append,List.nil_append] at hi ih ⊢
 by_cases hil:i<rows.length
 ·obtain ⟨u,at_u⟩:∃ u,rows[i]?=some u:=⟨_,List.getElem?_eq_getElem hil⟩
  have hum:=List.mem_of_getElem? at_u
  have hu:=CC.mat u hum
  have hul:=hu.1
  have ih1:=fun r=>ih (i+1,r) (by dsimp only;omega) (by dsimp only;omega)
  dsimp only at ih1
  rw [List.take_add_one (l:=rows),at_u,Option.toList_some,List.map_append,List.map_cons,List.map_nil] at ih1
  clear ih
  have hTw:=AIP (show 0<p ^ m from Nat.pow_pos (by have:=K.p2;omega)) hIr hu
  have hTa:∀ (j:Nat) (y:Int),u[j]?=some y→(emL IM u)[j]?=some (Bh IM y.toNat):=fun j y h=>by rw [emL,List.getElem?_map,h];rfl
  generalize emL IM u=T at *
  refine wk 18 cz ?_
  intro h3 b6 o1 hz1 pa2 ca2 b7 --ok
  rw [show Ao .i64 (List.replicate N 0)=Ak .i64 (T.take 0++List.replicate (N-0) 0) by simp [Ao,Ak]]
  simp only [List.cons_append,List.nil_append]
  refine Af (X:=Nat) [2,3,4,5,8,10,12,13,39,40,41,42,43,44,45,46,47,48,49] [0,1,2,3,4,5,6,7,8,9,10,11,12] (fun t=>[(50,.int .i64 (t:Int))]) (fun t=>(some b7,3,Ak .i64 (T.take t++List.replicate (N-t) 0))::_) (fun _=>[]) (fun t=>t≤N) (fun t=>N-t) 0 [] rfl rfl rfl (Nat.zero_le _) (by repeat (first|exact Fr.sub_nil _|refine Fr.sub_cons rfl ?_)) rfl rfl ?_
  rintro t ht ih
  simp only [List.cons_append,List.nil_append] at ht ih ⊢
  by_cases htl:t<N
  ·obtain ⟨y,at_y⟩:∃ y,u[t]?=some y:=⟨_,List.getElem?_eq_getElem (by omega)⟩
   obtain ⟨y0,y1⟩:=hu.2 y (List.mem_of_getElem? at_y)
   obtain ⟨y',rfl⟩:=Int.eq_ofNat_of_zero_le y0
   have hTt:=hTa t _ at_y
   rw [Int.toNat_natCast] at hTt
   obtain ⟨z,at_z⟩:∃ z,IM[y']?=some z:=⟨_,List.getElem?_eq_getElem (by omega)⟩
   have ez:Bh IM y'=z:=by rw [Bh,List.getD_eq_getElem?_getD,at_z];rfl
   obtain ⟨z0,z1⟩:=hIr z (List.mem_of_getElem? at_z)
   rw [ez] at hTt
   have ih':=ih (t+1) (by omega) (by omega)
   rw [← take_set hTt htl] at ih'
   have hln:(T.take t++List.replicate (N-t) 0).length=N:=by have:=hTw.1;simp;omega
   generalize T.take t++List.replicate (N-t) 0=L at *
   clear ih
   refine wk 7 cz ?_
   intro h4 b8 o2 hz2
   refine Aa rfl (Av 0 rfl rfl Ci fun ⟨r1,r2⟩=>?_)
   refine wk 4 cz ?_
   intro b9 o3 hz3
   refine Aa rfl (Av 0 rfl rfl Ci fun ⟨r3,r4⟩=>?_)
   refine wk 5 cz ?_
   exact tw (ih')
  ·obtain rfl:t=N:=by omega
   have hTl:=hTw.1
   rw [Nat.sub_self,List.replicate_zero,List.append_nil,List.take_of_length_le (by omega)]
   clear ih
   have hmr:∀ z∈T,Bx .i64 z:=fun z hz=>by have:=hTw.2 z hz;simp only [Bx];omega
   refine Bk 0 rfl hTl.symm hmr (by omega) ?_
   refine wk 9 cz ?_
   intro h4 b8
   refine C3 1 0 rfl rfl (by show (t)*8≤140737488355328;omega) ?_
   refine Aa rfl (Fi (z:=T) 1 0 4 rfl rfl rfl rfl rfl Df Gr rfl (fun w A hG=>(Ax (hG _ (Ae (n:=0) rfl)))) (by omega) _ Jx (by omega) fun r1=>?_)
   refine wk 5 cz ?_
   refine Jw [true,false,true,true,true,true] [0,6,7,8,9,10,11,12,13,14,15] (by exact T8 rfl) rfl rfl (ih1 r1)
 ·obtain rfl:i=rows.length:=by omega
  clear ih
  rw [List.take_length]
  refine Dy 0 0 rfl rfl (by show rows.length*24≤140737488355328;omega) ?_
  simp only [List.eraseIdx_cons_zero,List.eraseIdx_cons_succ]
  refine wk 12 (ct @Dr cz) ?_
  intro h3 pb1 pc1 nb1 cb1 nc1 cc1
  refine Bb [0,1] rfl (.agg 1 rfl rfl Dl rfl (.tmp rfl .nil)) rfl ⟨_,_,_,_,_,_,rfl,rfl,rfl⟩
end
open Go Go.Fw
set_option maxRecDepth 100000
set_option linter.unusedVariables false
set_option linter.unusedSimpArgs false
set_option maxHeartbeats 0
theorem ALQ:Prm 2:=⟨Nat.le_refl 2,fun d h1 h2=>by omega⟩
theorem K21:Fok 2 1 []:=⟨ALQ,by decide,by decide,by decide,fun _=>rfl,fun h=>absurd rfl h,fun x hx=>(by cases hx),fun h=>absurd rfl h⟩
theorem K22:Fok 2 2 [1,1]:=⟨ALQ,by decide,by decide,by decide,fun h=>absurd h (by decide),fun _=>rfl,fun x hx=>(by
 rcases List.mem_cons.1 hx with rfl|hx
 ·decide
 ·rw [List.mem_singleton.1 hx];decide),fun _ d h1 h2 v hv hc=>by
 have h2:2*d≤2:=h2
 obtain rfl:d=1:=by omega
 have hv:v<2:=hv
 have h0:=hc 0
 match v,hv with
 | 0,_=>exact absurd h0 (by decide +kernel)
 | 1,_=>exact absurd h0 (by decide +kernel)⟩
abbrev cR:List (List Int):=[[1,0,1,0],[0,1,1,1]]
theorem AK8 {q n:Nat}{u:List Int}(h:(decide (u.length=n) && u.all fun x=>decide (0≤x∧x<(q:Int)))=true):Wd q n u:=by
 rw [Bool.and_eq_true] at h
 exact ⟨of_decide_eq_true h.1,fun x hx=>of_decide_eq_true (List.all_eq_true.1 h.2 x hx)⟩
theorem Zy {q n:Nat}{rows:List (List Int)}(h:(rows.all fun u=>decide (u.length=n) && u.all fun x=>decide (0≤x∧x<(q:Int)))=true):Da q n rows:=fun r hr=>AK8 (List.all_eq_true.1 h r hr)
theorem CCa:Cok 2 1 [] 4 cR:=⟨K21,by decide,by decide,Zy (by decide +kernel),by decide +kernel⟩
theorem CCb:Cok 2 2 [1,1] 3 [[1,2,3]]:=⟨K22,by decide,by decide,Zy (by decide +kernel),by decide +kernel⟩
theorem CCy:Cok 2 1 [] 4 [[1,0,1,0]]:=⟨K21,by decide,by decide,Zy (by decide +kernel),by decide +kernel⟩
theorem TW:TwOk 2 2 1 [1,1] [] 0 2 where
 K:=K22
 Ks:=K21
 hd:=by decide +kernel
 hr:=by decide
 hr1:=fun h=>absurd rfl h
 hx0:=by decide
 hN:=by decide +kernel
 hmin:=by decide +kernel
 hxc:=by decide +kernel
 hxn:=fun i h1 h2=>by
  have h2:i<2:=h2
  obtain rfl:i=1:=by omega
  decide +kernel
 hTr:=by decide +kernel
section
variable {n c nm cm ns cs' nm2 cm2:Nat}{pm ps pt pm2:Option Addr}
theorem AIy {n:Int}{l:List Int}(h:(l.all fun x=>decide (0≤x∧x<n))=true) (h2:l.Pairwise (·<·)):stP n l:=⟨fun x hx=>of_decide_eq_true (List.all_eq_true.1 h x hx),h2⟩
theorem AKs:psE 2 1 [] 4 cR [0]=0:=by
 rw [psE,if_neg (fun e=>e CCa.ck),if_neg (fun e=>e (AIy (by decide) (by simp))),if_neg (by decide)]
theorem AFh:Bn Tryz.prog 15 [.agg #[.int .i64 2,.int .i64 1,.slice pm nm cm,.int .i64 4,.slice ps n c],.slice pt ns cs'] [] [Ap Aj pm nm cm [],Ap (Ah Aj) ps n c cR,Ap Aj pt ns cs' [0]] (CdQ 2 1 3 [] [[1,0,1],[0,1,0]] 0):=by
 have h:=Wo (P:=((2:Nat):Int)) (M:=((1:Nat):Int)) (pm:=pm) (nm:=nm) (cm:=cm) (ps:=ps) (n:=n) (c:=c) (md:=[]) (rows:=cR) (N:=((4:Nat):Int)) (pt:=pt) (ns:=ns) (cs':=cs') (set:=[0]) (by simp [Bx])
 rw [AIh (p:=2) (m:=1) (n:=4) AKs,show (C4 2 1 [] (De 4 [[0]]).length (cR.map fun r=>pkI r (De 4 [[0]]))).1=[[1,0,1],[0,1,0]] by decide +kernel] at h
 exact h
theorem AGK:Bn Tryz.prog 18 [.agg #[.int .i64 2,.int .i64 1,.slice pm nm cm,.int .i64 4,.slice ps n c],.slice pt ns cs'] [] [Ap Aj pm nm cm [],Ap (Ah Aj) ps n c cR,Ap Aj pt ns cs' [0]] (CdQ 2 1 3 [] [[1,1,1]] 0):=by
 have h:=Xh (P:=((2:Nat):Int)) (M:=((1:Nat):Int)) (pm:=pm) (nm:=nm) (cm:=cm) (ps:=ps) (n:=n) (c:=c) (md:=[]) (rows:=cR) (N:=((4:Nat):Int)) (pt:=pt) (ns:=ns) (cs':=cs') (set:=[0]) (by simp [Bx])
 rw [AHx (p:=2) (m:=1) (n:=4) AKs,show (C4 2 1 [] (De 4 [[0]]).length ((wiP 2 1 [] 4 cR [0]).map fun r=>pkI r (De 4 [[0]]))).1=[[1,1,1]] by decide +kernel] at h
 exact h
theorem AIn:Bn Tryz.prog 26 [.agg #[.int .i64 2,.int .i64 1,.slice pm nm cm,.int .i64 4,.slice ps n c]] [] [Ap Aj pm nm cm [],Ap (Ah Aj) ps n c cR] (CdQ 2 1 5 [] [[1,0,1,0,0],[0,1,1,1,1]] 0):=by
 have h:=Q8 (P:=((2:Nat):Int)) (M:=((1:Nat):Int)) (pm:=pm) (nm:=nm) (cm:=cm) (ps:=ps) (n:=n) (c:=c) (md:=[]) (rows:=cR) (N:=((4:Nat):Int)) (by simp [Bx])
 rw [AEO CCa (by decide),show (C4 2 1 [] (4+1) (etL 2 1 cR)).1=[[1,0,1,0,0],[0,1,1,1,1]] by decide +kernel] at h
 exact h
theorem AD6:Bn Tryz.prog 28 [.agg #[.int .i64 2,.int .i64 1,.slice pm nm cm,.int .i64 4,.slice ps n c]] [] [Ap Aj pm nm cm [],Ap (Ah Aj) ps n c cR] (CdQ 2 1 4 [] [[1,0,1,0]] 0):=by
 have h:=M3 (P:=((2:Nat):Int)) (M:=((1:Nat):Int)) (pm:=pm) (nm:=nm) (cm:=cm) (ps:=ps) (n:=n) (c:=c) (md:=[]) (rows:=cR) (N:=((4:Nat):Int)) (by simp [Bx])
 rw [AEI CCa,show exP 2 1 [] 4 cR=[[1,0,1,0]] by decide +kernel] at h
 exact h
theorem ANc:PmOk 4 [1,0,2,3]:=⟨by decide,by decide,by decide⟩
theorem AGG:Bn Tryz.prog 22 [.agg #[.int .i64 2,.int .i64 1,.slice pm nm cm,.int .i64 4,.slice ps n c],.slice pt ns cs'] [] [Ap Aj pm nm cm [],Ap (Ah Aj) ps n c cR,Ap Aj pt ns cs' [1,0,2,3]] (CdQ 2 1 4 [] [[1,0,1,1],[0,1,1,0]] 0):=by
 have h:=Wx (P:=((2:Nat):Int)) (M:=((1:Nat):Int)) (pm:=pm) (nm:=nm) (cm:=cm) (ps:=ps) (n:=n) (c:=c) (md:=[]) (rows:=cR) (N:=((4:Nat):Int)) (pt:=pt) (ns:=ns) (cs':=cs') (l:=[1,0,2,3]) (by simp [Bx]) (by decide) (fun hr {b2 n cs ps}=>AAW (b2:=b2) (n:=n) (cs:=cs) (ps:=ps) (by decide) hr)
 rw [AHP CCa ANc,show (C4 2 1 [] 4 (cR.map fun r=>mvI 4 r [1,0,2,3])).1=[[1,0,1,1],[0,1,1,0]] by decide +kernel] at h
 exact h
theorem AGf:Bn Tryz.prog 30 [.agg #[.int .i64 2,.int .i64 1,.slice pm nm cm,.int .i64 4,.slice ps n c]] [] [Ap Aj pm nm cm [],Ap (Ah Aj) ps n c [[1,0,1,0]]] (CdQ 2 1 4 [] [[1,0,1,0],[0,1,0,1]] 0):=by
 have h:=Pn (P:=((2:Nat):Int)) (M:=((1:Nat):Int)) (pm:=pm) (nm:=nm) (cm:=cm) (ps:=ps) (n:=n) (c:=c) (md:=[]) (rows:=[[1,0,1,0]]) (N:=((4:Nat):Int)) (by simp [Bx])
 rw [AEv CCy,show auP 2 1 [] 4 [[1,0,1,0]]=[[1,0,1,0],[0,1,0,1]] by decide +kernel] at h
 exact h
theorem AG1:Bn Tryz.prog 20 [.agg #[.int .i64 2,.int .i64 1,.slice pm nm cm,.int .i64 4,.slice ps n c],.slice pt ns cs'] [] [Ap Aj pm nm cm [],Ap (Ah Aj) ps n c cR,Ap Aj pt ns cs' [1]] (CdQ 2 1 4 [] [[0,1,1,1]] 0):=by
 have h:=Xo (P:=((2:Nat):Int)) (M:=((1:Nat):Int)) (pm:=pm) (nm:=nm) (cm:=cm) (ps:=ps) (n:=n) (c:=c) (md:=[]) (rows:=cR) (N:=((4:Nat):Int)) (pt:=pt) (ns:=ns) (cs':=cs') (set:=[1]) (by simp [Bx])
 rw [AH1 CCa (set:=[1]) (AIy (by decide) (by simp)),show (C4 2 1 [] 4 (sbL cR [1])).1=[[0,1,1,1]] by decide +kernel] at h
 exact h
theorem AEL:Bn Tryz.prog 32 [.agg #[.int .i64 2,.int .i64 2,.slice pm nm cm,.int .i64 3,.slice ps n c],.agg #[.int .i64 2,.int .i64 1,.slice pm2 nm2 cm2]] [] [Ap Aj pm nm cm [1,1],Ap (Ah Aj) ps n c [[1,2,3]],Ap Aj pm2 nm2 cm2 []] (CdQ 2 1 3 [] [] 0):=by
 have h:=Sx (pm:=pm) (nm:=nm) (cm:=cm) (ps:=ps) (n:=n) (c:=c) (pm2:=pm2) (nm2:=nm2) (cm2:=cm2) CCb TW ⟨K21,by decide,by decide,Zy (by decide +kernel),by decide +kernel⟩
 rw [show Jg 2 1 [] 3 (tcP 2 2 1 [1,1] [] 0 2 3 (Jg 2 2 [1,1] 3 [[1,2,3]]))=[] by decide +kernel] at h
 exact h
theorem AI3:Bn Tryz.prog 34 [.agg #[.int .i64 2,.int .i64 2,.slice pm nm cm,.int .i64 3,.slice ps n c],.agg #[.int .i64 2,.int .i64 1,.slice pm2 nm2 cm2]] [] [Ap Aj pm nm cm [1,1],Ap (Ah Aj) ps n c [[1,2,3]],Ap Aj pm2 nm2 cm2 []] (CdQ 2 1 3 [] [[1,0,1],[0,1,1]] 0):=by
 have h:=V2 (pm:=pm) (nm:=nm) (cm:=cm) (ps:=ps) (n:=n) (c:=c) (pm2:=pm2) (nm2:=nm2) (cm2:=cm2) CCb TW
 rw [show tcP 2 2 1 [1,1] [] 0 2 3 [[1,2,3]]=[[1,0,1],[0,1,1]] by decide +kernel] at h
 exact h
theorem ALq:Bn Tryz.prog 36 [.agg #[.int .i64 2,.int .i64 1,.slice pm nm cm,.int .i64 4,.slice ps n c],.agg #[.int .i64 2,.int .i64 2,.slice pm2 nm2 cm2]] [] [Ap Aj pm nm cm [],Ap (Ah Aj) ps n c cR,Ap Aj pm2 nm2 cm2 [1,1]] (CdQ 2 2 4 [1,1] cR 0):=by
 have h:=X4 (r:=0) (pm:=pm) (nm:=nm) (cm:=cm) (ps:=ps) (n:=n) (c:=c) (pm2:=pm2) (nm2:=nm2) (cm2:=cm2) CCa K22 (by decide +kernel) (by decide) (fun h=>absurd rfl h)
 rw [show (C4 2 2 [1,1] 4 (cR.map (emL (imT 2 2 1 [1,1] 0)))).1=cR by decide +kernel] at h
 exact h
end
open Go Go.Fw
set_option maxRecDepth 100000
set_option linter.unusedVariables false
set_option linter.unusedSimpArgs false
set_option maxHeartbeats 0
theorem Fu {l:List Int}(h:(l.all fun x=>decide (0≤x∧x<100))=true):∀ z∈l,Bx .i64 z:=fun z hz=>by
 have:=of_decide_eq_true (List.all_eq_true.1 h z hz)
 simp only [Bx];omega
theorem Pk:Bn Tryz.prog 13 [] [] [] (Rv (.bool true) []):=by
 refine Ab (F:=Pv) rfl fun C=>?_
 have W9:=fun {n c nm cm ns cs':Nat}{pm ps pt:Option Addr}=>AFh (n:=n) (c:=c) (nm:=nm) (cm:=cm) (ns:=ns) (cs':=cs') (pm:=pm) (ps:=ps) (pt:=pt)
 have Xm:=fun {n c nm cm ns cs':Nat}{pm ps pt:Option Addr}=>AGK (n:=n) (c:=c) (nm:=nm) (cm:=cm) (ns:=ns) (cs':=cs') (pm:=pm) (ps:=ps) (pt:=pt)
 have Iv:=fun {n c nm cm:Nat}{pm ps:Option Addr}=>AIn (n:=n) (c:=c) (nm:=nm) (cm:=cm) (pm:=pm) (ps:=ps)
 have Gt:=fun {n c nm cm:Nat}{pm ps:Option Addr}=>AD6 (n:=n) (c:=c) (nm:=nm) (cm:=cm) (pm:=pm) (ps:=ps)
 have Yj:=fun {n c nm cm ns cs':Nat}{pm ps pt:Option Addr}=>AGG (n:=n) (c:=c) (nm:=nm) (cm:=cm) (ns:=ns) (cs':=cs') (pm:=pm) (ps:=ps) (pt:=pt)
 have W0:=fun {n c nm cm nm2 cm2:Nat}{pm ps pm2:Option Addr}=>AEL (n:=n) (c:=c) (nm:=nm) (cm:=cm) (nm2:=nm2) (cm2:=cm2) (pm:=pm) (ps:=ps) (pm2:=pm2)
 have Z7:=fun {n c nm cm nm2 cm2:Nat}{pm ps pm2:Option Addr}=>AI3 (n:=n) (c:=c) (nm:=nm) (cm:=cm) (nm2:=nm2) (cm2:=cm2) (pm:=pm) (ps:=ps) (pm2:=pm2)
 have ABv:=fun {n c nm cm nm2 cm2:Nat}{pm ps pm2:Option Addr}=>ALq (n:=n) (c:=c) (nm:=nm) (cm:=cm) (nm2:=nm2) (cm2:=cm2) (pm:=pm) (ps:=ps) (pm2:=pm2)
 have Hx:=fun {n c nm cm:Nat}{pm ps:Option Addr}=>AGf (n:=n) (c:=c) (nm:=nm) (cm:=cm) (pm:=pm) (ps:=ps)
 have Ye:=fun {n c nm cm ns cs':Nat}{pm ps pt:Option Addr}=>AG1 (n:=n) (c:=c) (nm:=nm) (cm:=cm) (ns:=ns) (cs':=cs') (pm:=pm) (ps:=ps) (pt:=pt)
 have As:=fun {l:List (List Int)}{pl pk:Option Addr}{nl cl nk ck:Nat}=>D2 (l:=l) (k:=l) (res:=true) (pl:=pl) (pk:=pk) (nl:=nl) (cl:=cl) (nk:=nk) (ck:=ck) (decide_eq_true rfl)
 refine Dk (Ap Aj none 0 0 []) (fun w A _=>Cl _ w A none 0) ?_
 refine Aq [_,_] rfl ?_
 refine Ai it 1 rfl (by simp) ?_
 refine Aq [_,_] rfl ?_
 refine Aa rfl (Dc (cs:=[Value.int IntKind.i64 2,Value.int IntKind.i64 1,Value.slice none 0 0]) AIK AEC rfl rfl ?_)
 refine Aa rfl (B2 AEC fun b1=>?_)
 refine Aa rfl (Be 0 rfl rfl rfl Gi rfl rfl (by simp [Value.oneCell']) ?_)
 refine Aq [_,_] rfl ?_
 refine Aa rfl (H8 Ce Ee rfl rfl rfl rfl (by decide) (by decide) rfl fun b2=>?_)
 refine Bk (l:=[1,1]) 0 rfl (n:=2) rfl (fun z hz=>Fu (by decide) z hz) (by omega) ?_
 refine C3 0 0 rfl rfl (by decide) ?_
 simp only [List.eraseIdx_cons_zero]
 refine Aa rfl (Dc (cs:=[Value.int IntKind.i64 2,Value.int IntKind.i64 2,Value.slice (some { block:=b2,off:=0 }) 2 2]) AIK AEC rfl rfl ?_)
 refine Aa rfl (B2 AEC fun b3=>?_)
 refine Aa rfl (Be 0 rfl rfl rfl Gi rfl rfl (by simp [Value.oneCell']) ?_)
 refine Aq [_,_] rfl ?_
 refine Aa rfl (Bi 1 rfl rfl Gi rfl ?_)
 refine Aa rfl (H8 Ce Ee rfl rfl rfl rfl (by decide) (by decide) rfl fun b4=>?_)
 refine Bk (l:=[1,0,1,0]) 0 rfl (n:=4) rfl (fun z hz=>Fu (by decide) z hz) (by omega) ?_
 refine C3 0 0 rfl rfl (by decide) ?_
 simp only [List.eraseIdx_cons_zero]
 refine wk 1 cz ?_
 intro b5
 refine Bk (l:=[0,1,1,1]) 0 rfl (n:=4) rfl (fun z hz=>Fu (by decide) z hz) (by omega) ?_
 refine C3 0 0 rfl rfl (by decide) ?_
 simp only [List.eraseIdx_cons_zero]
 refine Aa rfl (H8 Df Gr rfl rfl rfl rfl (by decide) (by decide) rfl fun b6=>?_)
 refine Aa rfl (Dc (cs:=[Value.int IntKind.i64 2,Value.int IntKind.i64 1,Value.slice none 0 0,Value.int IntKind.i64 4,Value.slice (some { block:=b6,off:=0 }) 2 2]) AJK T7 rfl rfl ?_)
 refine Aa rfl (B2 T7 fun b7=>?_)
 refine Aa rfl (Be 0 rfl rfl rfl Dl rfl rfl (by simp [Value.oneCell']) ?_)
 refine Aq [_,_] rfl ?_
 refine Aa rfl (Bi 2 rfl rfl Gi rfl ?_)
 refine Aa rfl (H8 Ce Ee rfl rfl rfl rfl (by decide) (by decide) rfl fun b8=>?_)
 refine Bk (l:=[1,2,3]) 0 rfl (n:=3) rfl (fun z hz=>Fu (by decide) z hz) (by omega) ?_
 refine C3 0 0 rfl rfl (by decide) ?_
 simp only [List.eraseIdx_cons_zero]
 refine Aa rfl (H8 Df Gr rfl rfl rfl rfl (by decide) (by decide) rfl fun b9=>?_)
 refine Aa rfl (Dc (cs:=[Value.int IntKind.i64 2,Value.int IntKind.i64 2,Value.slice (some { block:=b2,off:=0 }) 2 2,Value.int IntKind.i64 3,Value.slice (some { block:=b9,off:=0 }) 1 1]) AJK T7 rfl rfl ?_)
 refine Aa rfl (B2 T7 fun b10=>?_)
 refine Aa rfl (Be 0 rfl rfl rfl Dl rfl rfl (by simp [Value.oneCell']) ?_)
 refine Aq [_,_] rfl ?_
 refine Aa rfl (Bi 2 rfl rfl Dl rfl ?_)
 refine Aa rfl (H8 Ce Ee rfl rfl rfl rfl (by decide) (by decide) rfl fun b11=>?_)
 refine Cn (E:=(Ah (Aj))) (n:=2) [[Value.slice (some { block:=b4,off:=0 }) 4 4],[Value.slice (some { block:=b5,off:=0 }) 4 4]] [[1,0,1,0],[0,1,1,1]] 4 (fun w A hG=>(Ay (Ax (hG _ (Ae (n:=4) rfl))) (Ay (Ax (hG _ (Ae (n:=2) rfl))) Ba))) rfl rfl rfl rfl (by first|decide|exact Nat.le_of_ble_eq_true rfl) (by first|decide|exact Nat.le_of_ble_eq_true rfl) ?_
 refine Cn (E:=Aj) (n:=1) [[Value.int IntKind.i64 0]] [0] 0 (fun w A hG=>(Ay ⟨rfl,by first|assumption|(simp only [Bx];omega)⟩ Ba)) rfl rfl rfl rfl (by first|decide|exact Nat.le_of_ble_eq_true rfl) (by first|decide|exact Nat.le_of_ble_eq_true rfl) ?_
 refine Aa rfl (Aw [10,1,0] rfl (W9) rfl ?_)
 rintro _ _ _ ⟨pb1,pc1,nb1,cb1,nc1,cc1,rfl,rfl,rfl⟩
 simp only [List.cons_append,List.nil_append]
 refine Ai it 3 rfl (by simp) ?_
 refine Aa rfl (B2 T7 fun b12=>?_)
 refine Aa rfl (Be 0 rfl rfl rfl Dl rfl rfl (by simp [Value.oneCell']) ?_)
 refine Ai it 1 rfl (by simp) ?_
 refine Aq [_,_] rfl ?_
 refine Aa rfl (Bi 3 rfl rfl Dl rfl ?_)
 refine Aa rfl (H8 Ce Ee rfl rfl rfl rfl (by decide) (by decide) rfl fun b13=>?_)
 refine Cn (E:=Aj) (n:=1) [[Value.int IntKind.i64 0]] [0] 0 (fun w A hG=>(Ay ⟨rfl,by first|assumption|(simp only [Bx];omega)⟩ Ba)) rfl rfl rfl rfl (by first|decide|exact Nat.le_of_ble_eq_true rfl) (by first|decide|exact Nat.le_of_ble_eq_true rfl) ?_
 refine Aa rfl (Aw [13,4,0] rfl (Xm) rfl ?_)
 rintro _ _ _ ⟨pb2,pc2,nb2,cb2,nc2,cc2,rfl,rfl,rfl⟩
 simp only [List.cons_append,List.nil_append]
 refine Ai it 3 rfl (by simp) ?_
 refine Aa rfl (B2 T7 fun b14=>?_)
 refine Aa rfl (Be 0 rfl rfl rfl Dl rfl rfl (by simp [Value.oneCell']) ?_)
 refine Ai it 1 rfl (by simp) ?_
 refine Aq [_,_] rfl ?_
 refine Aa rfl (Bi 4 rfl rfl Dl rfl ?_)
 refine Aa rfl (Aw [15,6] rfl (Iv) rfl ?_)
 rintro _ _ _ ⟨pb3,pc3,nb3,cb3,nc3,cc3,rfl,rfl,rfl⟩
 simp only [List.cons_append,List.nil_append]
 refine Ai it 3 rfl (by simp) ?_
 refine Aa rfl (B2 T7 fun b15=>?_)
 refine Aa rfl (Be 0 rfl rfl rfl Dl rfl rfl (by simp [Value.oneCell']) ?_)
 refine Ai it 1 rfl (by simp) ?_
 refine Aq [_,_] rfl ?_
 refine Aa rfl (Bi 5 rfl rfl Dl rfl ?_)
 refine Aa rfl (Aw [17,8] rfl (Gt) rfl ?_)
 rintro _ _ _ ⟨pb4,pc4,nb4,cb4,nc4,cc4,rfl,rfl,rfl⟩
 simp only [List.cons_append,List.nil_append]
 refine Ai it 3 rfl (by simp) ?_
 refine Aa rfl (B2 T7 fun b16=>?_)
 refine Aa rfl (Be 0 rfl rfl rfl Dl rfl rfl (by simp [Value.oneCell']) ?_)
 refine Ai it 1 rfl (by simp) ?_
 refine Aq [_,_] rfl ?_
 refine Aa rfl (Bi 6 rfl rfl Dl rfl ?_)
 refine Aa rfl (H8 Ce Ee rfl rfl rfl rfl (by decide) (by decide) rfl fun b17=>?_)
 refine Cn (E:=Aj) (n:=4) [[Value.int IntKind.i64 1],[Value.int IntKind.i64 0],[Value.int IntKind.i64 2],[Value.int IntKind.i64 3]] [1,0,2,3] 0 (fun w A hG=>(Ay ⟨rfl,by first|assumption|(simp only [Bx];omega)⟩ (Ay ⟨rfl,by first|assumption|(simp only [Bx];omega)⟩ (Ay ⟨rfl,by first|assumption|(simp only [Bx];omega)⟩ (Ay ⟨rfl,by first|assumption|(simp only [Bx];omega)⟩ Ba))))) rfl rfl rfl rfl (by first|decide|exact Nat.le_of_ble_eq_true rfl) (by first|decide|exact Nat.le_of_ble_eq_true rfl) ?_
 refine Aa rfl (Aw [20,11,0] rfl (Yj) rfl ?_)
 rintro _ _ _ ⟨pb5,pc5,nb5,cb5,nc5,cc5,rfl,rfl,rfl⟩
 simp only [List.cons_append,List.nil_append]
 refine Ai it 3 rfl (by simp) ?_
 refine Aa rfl (B2 T7 fun b18=>?_)
 refine Aa rfl (Be 0 rfl rfl rfl Dl rfl rfl (by simp [Value.oneCell']) ?_)
 refine Ai it 1 rfl (by simp) ?_
 refine Aq [_,_] rfl ?_
 refine Aa rfl (Bi 5 rfl rfl Dl rfl ?_)
 refine Aa rfl (Bi 9 rfl rfl Gi rfl ?_)
 refine Cn (E:=(Ah (Aj))) (n:=1) [[Value.slice (some { block:=b8,off:=0 }) 3 3]] [[1,2,3]] 6 (fun w A hG=>(Ay (Ax (hG _ (Ae (n:=14) rfl))) Ba)) rfl rfl rfl rfl (by first|decide|exact Nat.le_of_ble_eq_true rfl) (by first|decide|exact Nat.le_of_ble_eq_true rfl) ?_
 refine Aa rfl (Aw [21,0,23] rfl (W0) rfl ?_)
 rintro _ _ _ ⟨pb6,pc6,nb6,cb6,nc6,cc6,rfl,rfl,rfl⟩
 simp only [List.cons_append,List.nil_append]
 refine Ai it 3 rfl (by simp) ?_
 refine Aa rfl (B2 T7 fun b19=>?_)
 refine Aa rfl (Be 0 rfl rfl rfl Dl rfl rfl (by simp [Value.oneCell']) ?_)
 refine Ai it 1 rfl (by simp) ?_
 refine Aq [_,_] rfl ?_
 refine Aa rfl (Bi 6 rfl rfl Dl rfl ?_)
 refine Aa rfl (Bi 9 rfl rfl Gi rfl ?_)
 refine A9 1 rfl fun hn0 _ _=>?_
 simp only [List.length_nil] at hn0
 subst hn0
 refine wk 8 (ct @Z7 cz) ?_
 intro pb7 pc7 nb7 cb7 nc6 cc7 b20
 refine wk 13 (ct @ABv cz) ?_
 intro pb8 pc8 nb8 cb8 nc7 cc8 b21 h1 b22
 refine Bk (l:=[1,0,1]) 0 rfl (n:=3) rfl (fun z hz=>Fu (by decide) z hz) (by omega) ?_
 refine C3 0 0 rfl rfl (by decide) ?_
 simp only [List.eraseIdx_cons_zero]
 refine wk 1 cz ?_
 intro b23
 refine Bk (l:=[0,1,0]) 0 rfl (n:=3) rfl (fun z hz=>Fu (by decide) z hz) (by omega) ?_
 refine C3 0 0 rfl rfl (by decide) ?_
 simp only [List.eraseIdx_cons_zero]
 refine wk 1 cz ?_
 intro b24
 refine Cn (E:=(Ah (Aj))) (n:=2) [[Value.slice (some { block:=b22,off:=0 }) 3 3],[Value.slice (some { block:=b23,off:=0 }) 3 3]] [[1,0,1],[0,1,0]] 0 (fun w A hG=>(Ay (Ax (hG _ (Ae (n:=2) rfl))) (Ay (Ax (hG _ (Ae (n:=0) rfl))) Ba))) rfl rfl rfl rfl (by first|decide|exact Nat.le_of_ble_eq_true rfl) (by first|decide|exact Nat.le_of_ble_eq_true rfl) ?_
 refine wk 5 (ct @As cz) ?_
 intro b25
 refine Bk (l:=[1,1,1]) 0 rfl (n:=3) rfl (fun z hz=>Fu (by decide) z hz) (by omega) ?_
 refine C3 0 0 rfl rfl (by decide) ?_
 simp only [List.eraseIdx_cons_zero]
 refine wk 1 cz ?_
 intro b26
 refine Cn (E:=(Ah (Aj))) (n:=1) [[Value.slice (some { block:=b25,off:=0 }) 3 3]] [[1,1,1]] 0 (fun w A hG=>(Ay (Ax (hG _ (Ae (n:=0) rfl))) Ba)) rfl rfl rfl rfl (by first|decide|exact Nat.le_of_ble_eq_true rfl) (by first|decide|exact Nat.le_of_ble_eq_true rfl) ?_
 refine wk 5 (ct @As cz) ?_
 intro b27
 refine Bk (l:=[1,0,1,0,0]) 0 rfl (n:=5) rfl (fun z hz=>Fu (by decide) z hz) (by omega) ?_
 refine C3 0 0 rfl rfl (by decide) ?_
 simp only [List.eraseIdx_cons_zero]
 refine wk 1 cz ?_
 intro b28
 refine Bk (l:=[0,1,1,1,1]) 0 rfl (n:=5) rfl (fun z hz=>Fu (by decide) z hz) (by omega) ?_
 refine C3 0 0 rfl rfl (by decide) ?_
 simp only [List.eraseIdx_cons_zero]
 refine wk 1 cz ?_
 intro b29
 refine Cn (E:=(Ah (Aj))) (n:=2) [[Value.slice (some { block:=b27,off:=0 }) 5 5],[Value.slice (some { block:=b28,off:=0 }) 5 5]] [[1,0,1,0,0],[0,1,1,1,1]] 0 (fun w A hG=>(Ay (Ax (hG _ (Ae (n:=2) rfl))) (Ay (Ax (hG _ (Ae (n:=0) rfl))) Ba))) rfl rfl rfl rfl (by first|decide|exact Nat.le_of_ble_eq_true rfl) (by first|decide|exact Nat.le_of_ble_eq_true rfl) ?_
 refine wk 5 (ct @As cz) ?_
 intro b30
 refine Bk (l:=[1,0,1,0]) 0 rfl (n:=4) rfl (fun z hz=>Fu (by decide) z hz) (by omega) ?_
 refine C3 0 0 rfl rfl (by decide) ?_
 simp only [List.eraseIdx_cons_zero]
 refine wk 1 cz ?_
 intro b31
 refine Cn (E:=(Ah (Aj))) (n:=1) [[Value.slice (some { block:=b30,off:=0 }) 4 4]] [[1,0,1,0]] 0 (fun w A hG=>(Ay (Ax (hG _ (Ae (n:=0) rfl))) Ba)) rfl rfl rfl rfl (by first|decide|exact Nat.le_of_ble_eq_true rfl) (by first|decide|exact Nat.le_of_ble_eq_true rfl) ?_
 refine wk 7 (ct @As cz) ?_
 intro b32
 refine Bk (l:=[1,0,1,1]) 0 rfl (n:=4) rfl (fun z hz=>Fu (by decide) z hz) (by omega) ?_
 refine C3 0 0 rfl rfl (by decide) ?_
 simp only [List.eraseIdx_cons_zero]
 refine wk 1 cz ?_
 intro b33
 refine Bk (l:=[0,1,1,0]) 0 rfl (n:=4) rfl (fun z hz=>Fu (by decide) z hz) (by omega) ?_
 refine C3 0 0 rfl rfl (by decide) ?_
 simp only [List.eraseIdx_cons_zero]
 refine wk 1 cz ?_
 intro b34
 refine Cn (E:=(Ah (Aj))) (n:=2) [[Value.slice (some { block:=b32,off:=0 }) 4 4],[Value.slice (some { block:=b33,off:=0 }) 4 4]] [[1,0,1,1],[0,1,1,0]] 0 (fun w A hG=>(Ay (Ax (hG _ (Ae (n:=2) rfl))) (Ay (Ax (hG _ (Ae (n:=0) rfl))) Ba))) rfl rfl rfl rfl (by first|decide|exact Nat.le_of_ble_eq_true rfl) (by first|decide|exact Nat.le_of_ble_eq_true rfl) ?_
 refine wk 14 (ct @As cz) ?_
 intro h2 h3 b35
 refine Bk (l:=[1,0,1]) 0 rfl (n:=3) rfl (fun z hz=>Fu (by decide) z hz) (by omega) ?_
 refine C3 0 0 rfl rfl (by decide) ?_
 simp only [List.eraseIdx_cons_zero]
 refine wk 1 cz ?_
 intro b36
 refine Bk (l:=[0,1,1]) 0 rfl (n:=3) rfl (fun z hz=>Fu (by decide) z hz) (by omega) ?_
 refine C3 0 0 rfl rfl (by decide) ?_
 simp only [List.eraseIdx_cons_zero]
 refine wk 1 cz ?_
 intro b37
 refine Cn (E:=(Ah (Aj))) (n:=2) [[Value.slice (some { block:=b35,off:=0 }) 3 3],[Value.slice (some { block:=b36,off:=0 }) 3 3]] [[1,0,1],[0,1,1]] 0 (fun w A hG=>(Ay (Ax (hG _ (Ae (n:=2) rfl))) (Ay (Ax (hG _ (Ae (n:=0) rfl))) Ba))) rfl rfl rfl rfl (by first|decide|exact Nat.le_of_ble_eq_true rfl) (by first|decide|exact Nat.le_of_ble_eq_true rfl) ?_
 refine wk 18 (ct @As (ct @As (ct @Hx cz))) ?_
 intro pb9 pc9 nb9 cb9 nc8 cc9 b38 b39
 refine Cn (E:=Aj) (n:=1) [[Value.int IntKind.i64 1]] [1] 0 (fun w A hG=>(Ay ⟨rfl,by first|assumption|(simp only [Bx];omega)⟩ Ba)) rfl rfl rfl rfl (by first|decide|exact Nat.le_of_ble_eq_true rfl) (by first|decide|exact Nat.le_of_ble_eq_true rfl) ?_
 refine wk 11 (ct @Ye cz) ?_
 intro pb10 pc10 nb10 cb10 nc9 cc10 b40 h4 b41
 refine Bk (l:=[1,0,1,0]) 0 rfl (n:=4) rfl (fun z hz=>Fu (by decide) z hz) (by omega) ?_
 refine C3 0 0 rfl rfl (by decide) ?_
 simp only [List.eraseIdx_cons_zero]
 refine wk 1 cz ?_
 intro b42
 refine Bk (l:=[0,1,0,1]) 0 rfl (n:=4) rfl (fun z hz=>Fu (by decide) z hz) (by omega) ?_
 refine C3 0 0 rfl rfl (by decide) ?_
 simp only [List.eraseIdx_cons_zero]
 refine wk 1 cz ?_
 intro b43
 refine Cn (E:=(Ah (Aj))) (n:=2) [[Value.slice (some { block:=b41,off:=0 }) 4 4],[Value.slice (some { block:=b42,off:=0 }) 4 4]] [[1,0,1,0],[0,1,0,1]] 0 (fun w A hG=>(Ay (Ax (hG _ (Ae (n:=2) rfl))) (Ay (Ax (hG _ (Ae (n:=0) rfl))) Ba))) rfl rfl rfl rfl (by first|decide|exact Nat.le_of_ble_eq_true rfl) (by first|decide|exact Nat.le_of_ble_eq_true rfl) ?_
 refine wk 5 (ct @As cz) ?_
 intro b44
 refine Bk (l:=[0,1,1,1]) 0 rfl (n:=4) rfl (fun z hz=>Fu (by decide) z hz) (by omega) ?_
 refine C3 0 0 rfl rfl (by decide) ?_
 simp only [List.eraseIdx_cons_zero]
 refine wk 1 cz ?_
 intro b45
 refine Cn (E:=(Ah (Aj))) (n:=1) [[Value.slice (some { block:=b44,off:=0 }) 4 4]] [[0,1,1,1]] 0 (fun w A hG=>(Ay (Ax (hG _ (Ae (n:=0) rfl))) Ba)) rfl rfl rfl rfl (by first|decide|exact Nat.le_of_ble_eq_true rfl) (by first|decide|exact Nat.le_of_ble_eq_true rfl) ?_
 refine wk 3 (ct @As cz) ?_
 exact ge
section
variable {P M N:Int}{n c nm cm:Nat}{pm ps:Option Addr}{md:List Int}{rows:List (List Int)}
theorem AH6 (P M:Int):0≤H0 P M∧H0 P M≤256:=by
 rw [H0]
 split
 ·rename_i h
  have:=h.2.2.2
  omega
 ·omega
theorem AGt {P M N:Int}{md:List Int}{rows:List (List Int)}{n c nm cm n2 c2 nm2 cm2:Nat}{pm ps pm2 p2:Option Addr}:Bn Tryz.prog 17 [.agg #[.int .i64 P,.int .i64 M,.slice pm nm cm,.int .i64 N,.slice ps n c],.agg #[.int .i64 P,.int .i64 M,.slice pm2 nm2 cm2,.int .i64 N,.slice p2 n2 c2]] [] [Ap Aj pm nm cm md,Ap (Ah Aj) ps n c rows,Ap Aj pm2 nm2 cm2 md,Ap (Ah Aj) p2 n2 c2 rows] (Rv (.bool true) []) :=
 Qm (by simp)
theorem Lc (hN:Bx .i64 N):Bn Tryz.prog 4 [.agg #[.int .i64 P,.int .i64 M,.slice pm nm cm,.int .i64 N,.slice ps n c]] [] [Ap Aj pm nm cm md,Ap (Ah Aj) ps n c rows] (Rv (.bool true) []):=by
 refine Ab (F:=K8) rfl fun C=>?_
 have Bj:=Pk
 have Dg:=fun {P M N:Int}{n c nm cm:Nat}{pm ps:Option Addr}{res:Bool}(hr:AGU rows 200=res)=>Rj (P:=P) (M:=M) (N:=N) (n:=n) (c:=c) (nm:=nm) (cm:=cm) (pm:=pm) (ps:=ps) (k:=200) (by decide) (by decide) hr
 have Cj:=fun {pm:Option Addr}{n c:Nat}=>Bo (P:=P) (M:=M) (pm:=pm) (n:=n) (c:=c) rfl
 cases hf:AGU rows 200 with
 | false =>
  refine wk 9 (ct @Bj (ct @Dg cz)) ?_
  intro b1
  refine Ed rfl rfl ?_
  refine Ed rfl rfl ?_
  refine Ed rfl rfl ?_
  refine wk 7 (ct @Bj cz) ?_
  exact ge
 | true =>
  by_cases h16:16<N∧N<64
  ·obtain ⟨h16,h64⟩:=h16
   refine wk 28 (ct @Bj (ct @Dg (ct @Bj cz))) ?_
   intro b1 h1 h2
   exact ge
  ·have h17:¬ 16<N∨64≤N:=by omega
   have ho:=AH6 P M
   by_cases h6:64<H0 P M
   ·generalize H0 P M=o at *
    rcases h17 with h17|h17
    ·refine wk 25 (ct @Bj (ct @Dg (ct @Cj (ct @Bj cz)))) ?_
     intro b1 h1 h2
     exact ge
    ·have h18:16<N:=by omega
     refine wk 31 (ct @Bj (ct @Dg (ct @Cj (ct @Bj cz)))) ?_
     intro b1 h1 h2 h3
     exact ge
   ·have Iv:=fun {n c nm cm:Nat}{pm ps:Option Addr}=>Q8 (P:=P) (M:=M) (n:=n) (c:=c) (nm:=nm) (cm:=cm) (pm:=pm) (ps:=ps) (md:=md) (rows:=rows) hN
    have Gt:=fun {n c nm cm:Nat}{pm ps:Option Addr}=>M3 (P:=P) (M:=M) (n:=n) (c:=c) (nm:=nm) (cm:=cm) (pm:=pm) (ps:=ps) (md:=md) (rows:=rows) hN
    have Hx:=fun {n c nm cm:Nat}{pm ps:Option Addr}=>Pn (P:=P) (M:=M) (n:=n) (c:=c) (nm:=nm) (cm:=cm) (pm:=pm) (ps:=ps) (md:=md) (rows:=rows) hN
    have Il:=fun {n c nm cm:Nat}{pm ps:Option Addr}=>Ol (P:=P) (M:=M) (n:=n) (c:=c) (nm:=nm) (cm:=cm) (pm:=pm) (ps:=ps) (md:=md) (rows:=rows) hN
    have Hi:=fun {n c nm cm:Nat}{pm ps:Option Addr}=>Li (P:=P) (M:=M) (n:=n) (c:=c) (nm:=nm) (cm:=cm) (pm:=pm) (ps:=ps) (md:=md) (rows:=rows) hN
    have H7:=fun {n c nm cm:Nat}{pm ps:Option Addr}=>Nb (P:=P) (M:=M) (n:=n) (c:=c) (nm:=nm) (cm:=cm) (pm:=pm) (ps:=ps) (md:=md) (rows:=rows) hN
    have C8:=fun {P M N:Int}{md:List Int}{rows:List (List Int)}{n c nm cm n2 c2 nm2 cm2:Nat}{pm ps pm2 p2:Option Addr}=>AGt (P:=P) (M:=M) (N:=N) (md:=md) (rows:=rows) (n:=n) (c:=c) (nm:=nm) (cm:=cm) (n2:=n2) (c2:=c2) (nm2:=nm2) (cm2:=cm2) (pm:=pm) (ps:=ps) (pm2:=pm2) (p2:=p2)
    generalize etX P M md N rows=X1 at *
    generalize exX P M md N rows=X2 at *
    generalize auX P M md N rows=X3 at *
    generalize H0 P M=o at *
    rcases h17 with h17|h17
    ·refine wk 94 (ct @Bj (ct @Dg (ct @Cj (ct @Iv (ct @Il (ct @C8 (ct @Gt (ct @Hi (ct @C8 (ct @Hx (ct @H7 (ct @C8 cz)))))))))))) ?_
     intro b1 h1 h2 pb1 pc1 nb1 cb1 nc1 cc1 b2 pb2 pc2 nb2 cb2 nc2 cc2 b3 h3 pb3 pc3 nb3 cb3 nc3 cc3 pb4 pc4 nb4 cb4 nc4 cc4 h4 pb5 pc5 nb5 cb5 nc5 cc5 pb6 pc6 nb6 cb6 nc6 cc6 h5
     exact ge
    ·have h18:16<N:=by omega
     refine wk 100 (ct @Bj (ct @Dg (ct @Cj (ct @Iv (ct @Il (ct @C8 (ct @Gt (ct @Hi (ct @C8 (ct @Hx (ct @H7 (ct @C8 cz)))))))))))) ?_
     intro b1 h1 h2 h3 pb1 pc1 nb1 cb1 nc1 cc1 b2 pb2 pc2 nb2 cb2 nc2 cc2 b3 h4 pb3 pc3 nb3 cb3 nc3 cc3 pb4 pc4 nb4 cb4 nc4 cc4 h5 pb5 pc5 nb5 cb5 nc5 cc5 pb6 pc6 nb6 cb6 nc6 cc6 h7
     exact ge
end
end Go.Proofs.YtpienolhkccpnaaGreat
