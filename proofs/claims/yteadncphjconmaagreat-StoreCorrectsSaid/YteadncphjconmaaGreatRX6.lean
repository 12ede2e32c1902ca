/-
A multiple of a row is added to an own row; combinations of rows. The kernel of a matrix. Products and transposes of matrices. The words of a space that vanish outside some positions; the least witness. The least witness, and the program's answer whether helpers suffice. Whether helpers suffice: what the program answers. Columns and ranks in the document, what is enough, and the least witness. What is enough by ranks and by witnesses; the walk of RepairSuffices. Words of messages in the document; the walk of RepairDetermines. Differences in a field; the program's test of a word. The exclusion prover's basis, in the program. Columns in their order, as far as they are independent, in the program. The nodes below a node of an exclusion tree, in the program. Right nodes of an exclusion tree, in the program. The program's walk through an exclusion tree. The program's CheckRank and CheckDistance. Binomial coefficients as numbers of the machine, in the program. Sums and extreme entries of lists; how many sets there are. Multiples and sums of rows in the document. Elimination in the document. Canonical rows, null spaces, combinations and columns in the document. The document's tests of spaces and codes, of sets and pairs. A word of the span of a reduced matrix leaves nothing. The document's fields: sums of products; rows of elements. Entries of a word at some places, in the document. Tests of exclusion trees in the document. The document's walk through an exclusion tree.
-/
import Derived.Test.YteadncphjconmaaGreatRX5
set_option linter.unusedVariables false
set_option linter.unusedSimpArgs false
namespace Go.Proofs.YteadncphjconmaaGreat
open Go Go.Fw
set_option maxRecDepth 100000
set_option linter.unusedVariables false
set_option linter.unusedSimpArgs false
set_option maxHeartbeats 0
theorem Z3 {b p m n ng cg ce cl nv cv:Nat}{pg pe pl pv:Option Addr}{r:Row}{c:Int}{u v md:List Int}(K:Fok p m md) (c0:0≤c) (c1:c<((p ^ m:Nat):Int)) (hu:Wd (p ^ m) n u) (hv:Wd (p ^ m) n v) (hn:n≤1000000) :
  Bk Tryz.prog 161 [.pointer (some ⟨b,0,none⟩),.slice (ad r.bo) n r.cap,.int .i64 c,.slice pv nv cv] [(r.bo,3,r.cs)] [P3 b p m (p ^ m) pg ng cg pe (p ^ m-1) ce pl (p ^ m) cl,Aw Ao pe (p ^ m-1) ce (Ri p m md),Aw Ao pl (p ^ m) cl (Rl p m md),A3 Ao r n u,Aw Ao pv nv cv v]
   (fun w Φ β=>∃ cs',w = .tuple #[]∧Φ=[A3 Ao ⟨r.bo,r.cap,cs'⟩ n (F1 (Ah (fA p m)) (Ah (fM p (By m md))) c v u)]∧β=[(r.bo,3,cs')]):=by
 refine Ad (F:=U5) rfl fun C=>?_
 have FF:=K.fi
 have Bv:=fun {b ng cg ce cl:Nat}{pg pe pl:Option Addr}{x y:Int}=>Eu (b:=b) (ng:=ng) (cg:=cg) (ce:=ce) (cl:=cl) (pg:=pg) (pe:=pe) (pl:=pl) (x:=x) (y:=y) K
 have Kq:=fun {b ng cg ne ce nl cl:Nat}{pg pe pl:Option Addr}{x y:Int}=>Kz (b:=b) (ng:=ng) (cg:=cg) (ne:=ne) (ce:=ce) (nl:=nl) (cl:=cl) (pg:=pg) (pe:=pe) (pl:=pl) (x:=x) (y:=y) K.p2 K.m1 K.q
 have hq:=K.q
 have hax:=FF.axw c0 c1 hv hu
 generalize Ah (fM p (By m md))=M at *
 generalize Ah (fA p m)=A0 at *
 generalize Ri p m md=ex at *
 generalize Rl p m md=lg at *
 generalize p ^ m=q at *
 obtain ⟨bo,cap,cs⟩:=r
 dsimp only
 have hul:=hu.1
 have hvl:=hv.1
 have hal:=hax.1
 refine Ay 4 rfl fun hnv hbv _=>?_
 rw [hvl] at hnv
 have hnv:=hnv.symm
 subst hnv
 rcases Nat.eq_zero_or_pos n with hn0|hn0
 ·subst hn0
  obtain rfl:=List.length_eq_zero_iff.1 hul
  obtain rfl:=List.length_eq_zero_iff.1 hvl
  refine wk 5 cz ?_
  refine Af (X:=Unit) [0,1,2,10,11] [0,1,2,3,4] (fun _=>[(12,.int .i64 0)]) (fun _=>[(bo,3,cs)]) (fun _=>[]) (fun _=>True) (fun _=>0) () [] rfl rfl rfl trivial (by repeat (first|exact Fr.sub_nil _|refine Fr.sub_cons rfl ?_)) rfl rfl ?_
  rintro ⟨⟩-ih
  simp only [List.cons_append,List.nil_append] at ih ⊢
  refine wk 5 cz ?_
  intro h1
  refine Eg [3] rfl rfl ⟨_,rfl,rfl,rfl⟩
 refine Dh 3 rfl hn0 fun b9 cap9 cs9 hr=>?_
 obtain ⟨rfl,rfl,rfl⟩:=Row.mk.inj hr
 refine wk 5 cz ?_
 refine Af (X:=Nat×List Value) [0,1,2,10,11] [0,1,2,3,4] (fun x=>[(12,.int .i64 (x.1:Int))]) (fun x=>[(some b9,3,x.2)])
  (fun x=>[A3 Ao ⟨some b9,cap,x.2⟩ n ((F1 A0 M c v u).take x.1++u.drop x.1)]) (fun x=>x.1≤n) (fun x=>n-x.1) (0,cs) [3] rfl rfl rfl (Nat.zero_le _) (by repeat (first|exact Fr.sub_nil _|refine Fr.sub_cons rfl ?_)) rfl rfl ?_
 rintro ⟨k,cs⟩ hk ih
 simp only [List.cons_append,List.nil_append] at hk ih ⊢
 by_cases hkl:k<n
 ·obtain ⟨x,at_x⟩:∃ x,v[k]?=some x:=⟨_,List.getElem?_eq_getElem (by omega)⟩
  obtain ⟨y,hy⟩:∃ y,u[k]?=some y:=⟨_,List.getElem?_eq_getElem (by omega)⟩
  obtain ⟨x0,x1⟩:=hv.2 x (List.mem_of_getElem? at_x)
  obtain ⟨y0,y1⟩:=hu.2 y (List.mem_of_getElem? hy)
  have hT:(F1 A0 M c v u)[k]?=some (A0 y (M c x)):=by rw [F1,List.getElem?_zipWith,hy,at_x]
  have hL:=(ABj hal hul hkl).trans hy
  have hset:=Za hal hul hkl hT
  have hLl:((F1 A0 M c v u).take k++u.drop k).length=n:=by rw [List.length_append,List.length_take,List.length_drop];omega
  have ih':=fun cs=>ih (k+1,cs) (by dsimp only;omega) (by dsimp only;omega)
  dsimp only at ih'
  rw [← hset] at ih'
  obtain ⟨m0,m1⟩:=FF.ml c x c0 c1 x0 x1
  generalize (F1 A0 M c v u).take k++u.drop k=L at *
  by_cases h0:x=0
  ·have e0:L.set k (A0 y (M c x))=L:=by
    have:A0 y (M c x)=y:=by rw [h0,FF.m0 c0 c1,FF.a0 y y0 y1]
    rw [this]
    obtain ⟨h1,h2⟩:=List.getElem?_eq_some_iff.1 hL
    rw [← h2,List.set_getElem_self]
   rw [e0] at ih'
   refine wk 7 cz ?_
   intro h1 b1 o1 hz1
   refine Ab rfl (Ak 0 rfl rfl Bz fun ⟨r1,r2⟩=>?_)
   refine wk 8 cz ?_
   intro h2
   exact tw (ih' cs)
  ·obtain ⟨a0,a1⟩:=FF.al y (M c x) y0 y1 m0 m1
   refine wk 7 cz ?_
   intro h1 b1 o1 hz1
   refine Ab rfl (Ak 0 rfl rfl Bz fun ⟨r1,r2⟩=>?_)
   refine wk 7 (ct @Bv (ct @Kq cz)) ?_
   intro h2
   refine Ab rfl (Hv (vs:=[Value.int IntKind.i64 (A0 y (M c x))]) (z:=(A0 y (M c x):Int)) 0 1 (k) rfl rfl rfl rfl rfl Bz (Nat.mul_one _).symm (by omega) (fun w A hG=>(Dv (by first|(simp only [Ca];omega)|(simp [Ca];done)))) fun cs1=>?_)
   refine wk 3 cz ?_
   exact tw (ih' cs1)
 ·obtain rfl:n=k:=by omega
  rw [List.take_of_length_le (by omega),List.drop_of_length_le (by omega),List.append_nil]
  refine wk 5 cz ?_
  intro h1
  refine Eg [0] rfl rfl ⟨_,rfl,rfl,rfl⟩
theorem AAP {A M:Int→Int→Int}{x:List Int}{Aa:List (List Int)}{i:Nat}{a:Int}{r u:List Int}(hx:x[i]?=some a) (hr:Aa[i]?=some r):Oj A M (x.drop i) (Aa.drop i) u=Oj A M (x.drop (i+1)) (Aa.drop (i+1)) (if a=0 then u else F1 A M a r u):=by
 obtain ⟨h1,rfl⟩:=List.getElem?_eq_some_iff.1 hx
 obtain ⟨h2,rfl⟩:=List.getElem?_eq_some_iff.1 hr
 rw [List.drop_eq_getElem_cons h1,List.drop_eq_getElem_cons h2,Oj]
theorem ACD {A M:Int→Int→Int}{x:List Int}{Aa:List (List Int)}{i:Nat}{u:List Int}(h:x.length≤i):Oj A M (x.drop i) (Aa.drop i) u=u:=by
 rw [List.drop_of_length_le h,Oj];intros;contradiction
abbrev cbP (p m:Nat) (md:List Int) (n:Nat) (x:List Int) (Aa:List (List Int)):List Int:=X8 (Ah (fA p m)) (Ah (fM p (By m md))) n x Aa
theorem ABT {b p m ng cg ce cl nx cx n c N:Nat}{pg pe pl px ps:Option Addr}{x md:List Int}{Aa:List (List Int)}(K:Fok p m md) (hN:N≤1000000) (hM:Dy (p ^ m) N Aa) (hx:Wd (p ^ m) Aa.length x) :
  Bk Tryz.prog 143 [.pointer (some ⟨b,0,none⟩),.slice px nx cx,.slice ps n c,.int .i64 N] [] [P3 b p m (p ^ m) pg ng cg pe (p ^ m-1) ce pl (p ^ m) cl,Aw Ao pe (p ^ m-1) ce (Ri p m md),Aw Ao pl (p ^ m) cl (Rl p m md),Aw Ao px nx cx x,Aw (Ai Ao) ps n c Aa] (RwI N (cbP p m md N x Aa)):=by
 refine Ad (F:=ABE) rfl fun C=>?_
 have O:=Hq K
 have hq:=K.q
 refine Ay 3 rfl fun hn hb _=>?_
 subst hn
 refine Ay 4 rfl fun hn hb2 _=>?_
 subst hn
 have hb':x.length*8≤140737488355328:=hb
 have hb2':Aa.length*24≤140737488355328:=hb2
 have Qc:=fun {b ng cg ce cl nv cv b1:Nat}{pg pe pl pv:Option Addr}{cs:List Value}{c:Int}{u v:List Int}=>Z3 (b:=b) (n:=N) (ng:=ng) (cg:=cg) (ce:=ce) (cl:=cl) (pg:=pg) (pe:=pe) (pl:=pl) (nv:=nv) (cv:=cv) (pv:=pv) (r:=⟨some b1,N,cs⟩) (c:=c) (u:=u) (v:=v) K
 refine wk 11 cz ?_
 intro b1
 have hz:=O.wz N
 rw [show An .i64 (List.replicate N 0)=Al .i64 (zW N) by simp [An,Al,zW]]
 refine G5 0 rfl hz.1.symm (fun y hy=>by have:=hz.2 y hy;simp only [Ca];omega) (by omega) ?_
 refine Af (X:=Nat×List Value×List Int) [0,2,8,9,14,15] [0,1,2,3,4,5] (fun i=>[(16,.int .i64 (i.1:Int))]) (fun i=>[(some b1,3,i.2.1)]) (fun i=>[A3 Ao ⟨some b1,N,i.2.1⟩ N i.2.2]) (fun i=>i.1≤x.length∧Wd (p ^ m) N i.2.2∧Oj (Ah (fA p m)) (Ah (fM p (By m md))) (x.drop i.1) (Aa.drop i.1) i.2.2=cbP p m md N x Aa) (fun i=>x.length-i.1) (0,Al .i64 (zW N),zW N) [0] rfl rfl rfl ⟨Nat.zero_le _,hz,rfl⟩ (by repeat (first|exact Fr.sub_nil _|refine Fr.sub_cons rfl ?_)) rfl rfl ?_
 rintro ⟨i,cs,u⟩ ⟨hi,hu,he⟩ ih
 simp only [List.cons_append,List.nil_append] at hi hu he ih ⊢
 by_cases h9:i<x.length
 ·have hxl:=hx.1
  obtain ⟨a,at_a⟩:∃ a,x[i]?=some a:=⟨_,List.getElem?_eq_getElem h9⟩
  obtain ⟨v,at_v⟩:∃ v,Aa[i]?=some v:=⟨_,List.getElem?_eq_getElem (by omega)⟩
  obtain ⟨a0,a1⟩:=hx.2 a (List.mem_of_getElem? at_a)
  have hv:=hM v (List.mem_of_getElem? at_v)
  rw [AAP at_a at_v] at he
  by_cases ha:a=0
  ·rw [if_pos ha] at he
   refine wk 7 cz ?_
   intro h1 b2 o1 hz1
   refine Ab rfl (Ak 0 rfl rfl Bz fun ⟨r1,r2⟩=>?_)
   refine wk 8 cz ?_
   intro h2
   exact tw (ih (i+1,cs,u) (by dsimp only;omega) ⟨by dsimp only;omega,hu,he⟩)
  ·rw [if_neg ha] at he
   refine wk 7 cz ?_
   intro h1 b2 o1 hz1
   refine Ab rfl (Ak 0 rfl rfl Bz fun ⟨r1,r2⟩=>?_)
   refine wk 13 (ct @Qc cz) ?_
   intro h2 b3 o2 hz2 pa1 ca1 cs'1
   exact tw (ih (i+1,cs'1,F1 (Ah (fA p m)) (Ah (fM p (By m md))) a v u) (by dsimp only;omega) ⟨by dsimp only;omega,O.fi.axw a0 a1 hv hu,he⟩)
 ·rw [ACD (by omega)] at he
  subst he
  refine wk 7 cz ?_
  intro h1
  refine B5 1 [0] [0] rfl (.tmp rfl .nil) rfl rfl rfl ⟨⟨some b1,N,cs⟩,rfl,rfl,rfl⟩
abbrev CnR (E:List (List Int)×List Nat):Value→List Fact→List Ba→Prop:=fun v Φ β=>∃ (pb pp:Option Addr) (cb cp:Nat),v = .tuple #[.slice pb E.2.length cb,.slice pp E.2.length cp]
 ∧ Φ=[Aw (Ai Ao) pb E.2.length cb E.1,Aw Ao pp E.2.length cp (A7 E.2)]∧β=[]
theorem Is {p m:Nat}{md:List Int}(K:Fok p m md):FO (p ^ m) (Ah (fA p m)) (Ah (fM p (By m md))) (Gu p m) (He p m md):=Hq K
theorem ADt {n:Nat}{l:List Int}(h:stP n l):l.length≤n:=by
 have h1:(l.map Int.toNat).Nodup:=by
  rw [List.Nodup,List.pairwise_map]
  refine h.2.imp_of_mem fun {a b} ha hb hab e=>?_
  have:=(h.1 a ha).1;have:=(h.1 b hb).1
  omega
 have h2:=Lu h1 (l':=List.range n) fun x hx=>by
  obtain ⟨y,hy,rfl⟩:=List.mem_map.1 hx
  have:=h.1 y hy
  exact List.mem_range.2 (by omega)
 rwa [List.length_map,List.length_range] at h2
def liE (l:List Int) (n q:Nat):Int:=if l.length≠n then 4 else N2 l q
theorem ctb {P:Program}{f:FuncId}{args:List Value}{β:List Ba}{Γ Φ:List Fact}{b b':Bool}(h:b=b') (c:Bk P f args β Γ (Rv (.bool b) Φ)):Bk P f args β Γ (Rv (.bool b') Φ):=h▸c
theorem Xv {l:List Int}{q:Nat}:(l.any fun x=>!decide (0≤x∧x<(q:Int)))=false↔∀ x∈l,0≤x∧x<(q:Int):=by
 rw [List.any_eq_false]
 exact ⟨fun h x hx=>by simpa using h x hx,fun h x hx=>by simpa using h x hx⟩
section
variable {p m:Nat}{md:List Int}
theorem Xl {b ng cg ne ce nl cl:Nat}{pg pe pl:Option Addr}{x y:Int}(K:Fok p m md) (x0:0≤x) (x1:x<((p ^ m:Nat):Int)) (y0:0≤y) (y1:y<((p ^ m:Nat):Int)) :
  Bk Tryz.prog 188 [.pointer (some ⟨b,0,none⟩),.int .i64 x,.int .i64 y] [] [P3 b p m (p ^ m) pg ng cg pe ne ce pl nl cl] (Rv (.int .i64 (Ah (fA p m) x (Gu p m y))) []):=by
 refine Ad (F:=Xn) rfl fun C=>?_
 have hq:=K.q
 have h2:=K.p2
 have h1:=K.m1
 obtain ⟨⟨n0,n1⟩,_⟩:=(Is K).ng y y0 y1
 refine wk 99 (ct @Kr (ct @Kz cz)) ?_
 exact ge
theorem Tl {b c0 q ng cg ne ce nl cl:Nat}{pg pe pl:Option Addr}{x:Int}{res:Bool}(hq:q≤256) (hr:(!decide (0≤x∧x<(q:Int)))=res) :
  Bk Tryz.prog 140 [.int .i64 x,.pointer (some ⟨c0,0,none⟩)] [] [Uh c0 [.pointer (some ⟨b,0,none⟩)],P3 b p m q pg ng cg pe ne ce pl nl cl] (Rv (.bool res) []):=by
 refine Ad (F:=Z6) rfl fun C=>?_
 subst hr
 refine wk 99 (ct @Gx cz) ?_
 exact ge
theorem ADi {nm cm n c k:Nat}{pm ps:Option Addr}{l:List Int}{e:Int}(K:Fok p m md) (he:liE l k (p ^ m)=e) :
  Bk Tryz.prog 113 [.agg #[.int .i64 p,.int .i64 m,.slice pm nm cm],.slice ps n c,.int .i64 k] [] [Aw Ao pm nm cm md,Aw Ao ps n c l] (Rv (.int .i64 e) []):=by
 refine Ad (F:=ACO) rfl fun C=>?_
 refine Ay 1 rfl fun hn hb _=>?_
 subst hn
 have hq:=K.q
 rw [liE] at he
 by_cases hk:l.length=k
 ·rw [if_neg (by omega)] at he
  refine wk 99 (ct @Fx cz) ?_
  intro b1 h1 b2 pg cg pe ce pl cl b3 h2
  refine ACb 0 rfl ?_
  refine ADu [0,1] rfl ?_
  rw [N2] at he
  by_cases ha:∀ x∈l,0≤x∧x<((p ^ m:Nat):Int)
  ·rw [if_pos ha] at he
   subst he
   refine wk 99 (ct (ctb (Xv.2 ha) (Dl (f:=140) (caps:=[.pointer (some ⟨b3,0,none⟩)]) fun x _=>(Tl hq rfl).conj)) cz) ?_
   exact ge
  ·rw [if_neg ha] at he
   subst he
   refine wk 99 (ct (ctb ((Bool.not_eq_false _).mp (mt Xv.1 ha)) (Dl (f:=140) (caps:=[.pointer (some ⟨b3,0,none⟩)]) fun x _=>(Tl hq rfl).conj)) cz) ?_
   exact ge
 ·rw [if_pos (by omega)] at he
  subst he
  refine wk 99 cz ?_
  intro b1 h1
  exact ge
end
open Go Go.Fw
set_option maxRecDepth 100000
set_option linter.unusedVariables false
set_option linter.unusedSimpArgs false
set_option maxHeartbeats 0
theorem Oa {x:Int}:Bk Tryz.prog 189 [.int .i64 x] [] [] (Rv (.bool (!decide (x=0))) []):=by
 refine Ad (F:=N5) rfl fun C=>?_
 refine wk 5 cz ?_
 exact ge
abbrev ADq (bb b:Nat) (rR rP:Row) (k:Nat):Ba:=(some bb,195,[.pointer (some ⟨b,0,none⟩),.slice (ad rR.bo) k rR.cap,.slice (ad rP.bo) k rP.cap])
abbrev BaQ (bb b k:Nat) (t:Bool) (P:List Nat) (R:List (List Int)):Value→List Fact→List Ba→Prop:=fun v Φ β=>∃ rR rP:Row,v = .bool t∧Φ=[A3 (Ai Ao) rR k R,A3 Ao rP k (A7 P)]∧β=[ADq bb b rR rP k,(rR.bo,22,rR.cs),(rP.bo,3,rP.cs)]
theorem Iy {p m b ng cg ce cl bb n K:Nat}{pg pe pl:Option Addr}{md x:List Int}{R:List (List Int)}{P:List Nat}{rR rP r:Row}(KK:Fok p m md) (hR:Dy (p ^ m) n R) (hlen:R.length=P.length) (hK:P.length=K) (hPn:∀ j∈P,j<n) (hn1:1≤n) (hN:n≤1000000) (hPl:K≤1000000) (hx:Wd (p ^ m) n x) :
  Bk Tryz.prog 182 [.pointer (some ⟨bb,0,none⟩),.slice (ad r.bo) n r.cap] [ADq bb b rR rP K,(rR.bo,22,rR.cs),(rP.bo,3,rP.cs),(r.bo,3,r.cs)]
   [P3 b p m (p ^ m) pg ng cg pe (p ^ m-1) ce pl (p ^ m) cl,Aw Ao pe (p ^ m-1) ce (Ri p m md),Aw Ao pl (p ^ m) cl (Rl p m md),A3 (Ai Ao) rR K R,A3 Ao rP K (A7 P),A3 Ao r n x]
   (fun v Φ β=>(Ro (Js (Ah (fA p m)) (Ah (fM p (By m md))) (Gu p m) P R x)<0→BaQ bb b K false P R v Φ β) ∧
    (¬ Ro (Js (Ah (fA p m)) (Ah (fM p (By m md))) (Gu p m) P R x)<0→BaQ bb b (K+1) true (P++[(Ro (Js (Ah (fA p m)) (Ah (fM p (By m md))) (Gu p m) P R x)).toNat]) (R++[B0 (Ah (fM p (By m md))) (He p m md (Bm (Js (Ah (fA p m)) (Ah (fM p (By m md))) (Gu p m) P R x) (Ro (Js (Ah (fA p m)) (Ah (fM p (By m md))) (Gu p m) P R x)).toNat)) (Js (Ah (fA p m)) (Ah (fM p (By m md))) (Gu p m) P R x)]) v Φ β)):=by
 refine Ad (F:=P6) rfl fun C=>?_
 have O:=Is KK
 have FF:=O.fi
 have hq:=KK.q
 have hq2:=O.q2
 subst hK
 have hxn:=hx.1
 have Bv:=fun {b ng cg ce cl:Nat}{pg pe pl:Option Addr}{x y:Int}=>Eu (b:=b) (ng:=ng) (cg:=cg) (ce:=ce) (cl:=cl) (pg:=pg) (pe:=pe) (pl:=pl) (x:=x) (y:=y) KK
 have Xo:=fun {b ng cg ne ce nl cl:Nat}{pg pe pl:Option Addr}{x y:Int}=>Xl (b:=b) (ng:=ng) (cg:=cg) (ne:=ne) (ce:=ce) (nl:=nl) (cl:=cl) (pg:=pg) (pe:=pe) (pl:=pl) (x:=x) (y:=y) KK
 have U2:=fun {b ng cg ce cl:Nat}{pg pe pl:Option Addr}{a:Int}{pu:Option Addr}{cu:Nat}{u:List Int} a0 a1 hu=>(Vb (b:=b) (ng:=ng) (cg:=cg) (ce:=ce) (cl:=cl) (pg:=pg) (pe:=pe) (pl:=pl) (a:=a) (pu:=pu) (nu:=n) (cu:=cu) (u:=u) KK a0 a1 hu).pubR (by show n*8≤140737488355328;omega)
 have Gd:∀ {b ng cg ce cl:Nat}{pg pe pl:Option Addr}{x:Int},0<x→x<((p ^ m:Nat):Int)→Bk Tryz.prog 167 [.pointer (some ⟨b,0,none⟩),.int .i64 x] [] [P3 b p m (p ^ m) pg ng cg pe (p ^ m-1) ce pl (p ^ m) cl,Aw Ao pe (p ^ m-1) ce (Ri p m md),Aw Ao pl (p ^ m) cl (Rl p m md)] (Rv (.tuple #[.int .i64 (He p m md x),.int .i64 0]) []):=fun {b ng cg ce cl:Nat}{pg pe pl:Option Addr}{x:Int}=>Q2 (b:=b) (ng:=ng) (cg:=cg) (ce:=ce) (cl:=cl) (pg:=pg) (pe:=pe) (pl:=pl) (x:=x) KK
 generalize He p m md=V at *
 generalize Ah (fM p (By m md))=M at *
 generalize Ah (fA p m)=A0 at *
 generalize Gu p m=Ng at *
 refine wk 9 cz ?_
 refine Dh 5 rfl hn1 fun b9 cap9 cs9 hr=>?_
 subst hr
 refine Af (X:=Nat×List Value) [0,1,4,16,17] [0,1,2,3,4,5] (fun x'=>[(18,.int .i64 (x'.1:Int))]) (fun x'=>[ADq bb b rR rP P.length,(rR.bo,22,rR.cs),(rP.bo,3,rP.cs),(some b9,3,x'.2)])
  (fun x'=>[A3 Ao ⟨some b9,cap9,x'.2⟩ n (Js A0 M Ng (P.take x'.1) (R.take x'.1) x)]) (fun x'=>x'.1≤P.length) (fun x'=>P.length-x'.1) (0,cs9) [5] rfl rfl rfl (Nat.zero_le _) (by repeat (first|exact Fr.sub_nil _|refine Fr.sub_cons rfl ?_)) rfl rfl ?_
 rintro ⟨i,cs⟩ hi ih
 simp only [List.cons_append,List.nil_append] at hi ih ⊢
 have hL:=O.rp_wd (P:=P.take i) (R:=R.take i) (fun r hr=>hR r (List.mem_of_mem_take hr)) hx
 by_cases hil:i<P.length
 ·obtain ⟨pi,hpi⟩:∃ pi,P[i]?=some pi:=⟨_,List.getElem?_eq_getElem hil⟩
  obtain ⟨ri,at_r⟩:∃ ri,R[i]?=some ri:=⟨_,List.getElem?_eq_getElem (by omega)⟩
  have at_p:(A7 P)[i]?=some (pi:Int):=Fo hpi
  have hpn:=hPn pi (List.mem_of_getElem? hpi)
  have hri:=hR ri (List.mem_of_getElem? at_r)
  have hst:Js A0 M Ng (P.take (i+1)) (R.take (i+1)) x=F1 A0 M (Ng (Bm (Js A0 M Ng (P.take i) (R.take i) x) pi)) ri (Js A0 M Ng (P.take i) (R.take i) x):=by
   rw [List.take_add_one,List.take_add_one,hpi,at_r]
   exact AC9 (by rw [List.length_take,List.length_take,hlen])
  have ih':=fun cs=>ih (i+1,cs) (by dsimp only;omega) (by dsimp only;omega)
  dsimp only at ih'
  simp only [hst] at ih'
  generalize Js A0 M Ng (P.take i) (R.take i) x=L at *
  have at_y:L[pi]?=some (Bm L pi):=by rw [Bm,List.getD_eq_getElem?_getD,List.getElem?_eq_getElem (by rw [hL.1];exact hpn)];rfl
  obtain ⟨y0,y1⟩:=A6 (by omega) hL pi
  generalize Bm L pi=y at *
  obtain ⟨⟨n0,n1⟩,_⟩:=O.ng y y0 y1
  by_cases hy:y=0
  ·have e0:F1 A0 M (Ng y) ri L=L:=by rw [hy,O.n0];exact O.axp0 hri hL
   rw [e0] at ih'
   refine wk 6 cz ?_
   intro h1
   refine Dh 4 rfl (by omega) fun b1 cap1 cs1 hr1=>?_
   subst hr1
   dsimp only
   refine wk 1 cz ?_
   refine Ab rfl (E6 1 4 (i) rfl rfl rfl C8 rfl (by omega) fun z1 hz1 pa1 ca1=>?_)
   obtain rfl:_=z1:=Option.some.inj (at_r.symm.trans hz1)
   refine wk 4 cz ?_
   refine Ab rfl (Do 0 rfl rfl C8 rfl ?_)
   refine wk 1 cz ?_
   refine Dh 6 rfl (by omega) fun b2 cap2 cs2 hr1=>?_
   subst hr1
   dsimp only
   refine wk 1 cz ?_
   refine Ab rfl (Lz 2 6 (i) rfl rfl rfl Bz rfl (by assumption) fun hr1=>?_)
   refine wk 1 cz ?_
   refine Ab rfl (Lz 3 1 (pi) rfl rfl rfl Bz rfl (by assumption) fun hr2=>?_)
   refine wk 8 cz ?_
   intro h2
   exact tw (ih' cs)
  ·obtain ⟨hax0,hax1⟩:Wd (p ^ m) n (F1 A0 M (Ng y) ri L):=FF.axw n0 n1 hri hL
   have hLl:=hL.1
   have hrl:=hri.1
   refine wk 6 cz ?_
   intro h1
   refine Dh 4 rfl (by omega) fun b1 cap1 cs1 hr1=>?_
   subst hr1
   dsimp only
   refine wk 1 cz ?_
   refine Ab rfl (E6 1 4 (i) rfl rfl rfl C8 rfl (by omega) fun z1 hz1 pa1 ca1=>?_)
   obtain rfl:_=z1:=Option.some.inj (at_r.symm.trans hz1)
   refine wk 4 cz ?_
   refine Ab rfl (Do 0 rfl rfl C8 rfl ?_)
   refine wk 1 cz ?_
   refine Dh 6 rfl (by omega) fun b2 cap2 cs2 hr1=>?_
   subst hr1
   dsimp only
   refine wk 1 cz ?_
   refine Ab rfl (Lz 2 6 (i) rfl rfl rfl Bz rfl (by assumption) fun hr1=>?_)
   refine wk 1 cz ?_
   refine Ab rfl (Lz 3 1 (pi) rfl rfl rfl Bz rfl (by assumption) fun hr2=>?_)
   refine wk 10 cz ?_
   intro h2
   refine Af (X:=Nat×List Value) [0,1,4,5,6,7,16,17,18,19,20,21,22,23,24,25,26,27,28,29,30,31,32,33,34,35,36] [0,1,2,3,4,5,6,7] (fun z=>[(37,.int .i64 (z.1:Int))]) (fun z=>[ADq bb b ⟨some b1,cap1,cs1⟩ ⟨some b2,cap2,cs2⟩ P.length,(some b1,22,cs1),(some b2,3,cs2),(some b9,3,z.2)]) (fun z=>[A3 Ao ⟨some b9,cap9,z.2⟩ n ((F1 A0 M (Ng y) ri L).take z.1++L.drop z.1)]) (fun z=>z.1≤n) (fun z=>n-z.1) (0,cs) [1] rfl rfl rfl (Nat.zero_le _) (by repeat (first|exact Fr.sub_nil _|refine Fr.sub_cons rfl ?_)) rfl rfl ?_
   rintro ⟨j,cs⟩ hj ihj
   simp only [List.cons_append,List.nil_append] at hj ihj ⊢
   by_cases hjl:j<n
   ·obtain ⟨z,at_z⟩:∃ z,ri[j]?=some z:=⟨_,List.getElem?_eq_getElem (by omega)⟩
    obtain ⟨u,hu⟩:∃ u,L[j]?=some u:=⟨_,List.getElem?_eq_getElem (by omega)⟩
    obtain ⟨z0,z1⟩:=hri.2 z (List.mem_of_getElem? at_z)
    obtain ⟨u0,u1⟩:=hL.2 u (List.mem_of_getElem? hu)
    obtain ⟨m0,m1⟩:=FF.ml y z y0 y1 z0 z1
    have hT:(F1 A0 M (Ng y) ri L)[j]?=some (A0 u (Ng (M y z))):=by rw [F1,List.getElem?_zipWith,hu,at_z,O.ng_mul y0 y1 z0 z1]
    have hLj:=(ABj hax0 hL.1 hjl).trans hu
    have hset:=Za hax0 hL.1 hjl hT
    have hLl:((F1 A0 M (Ng y) ri L).take j++L.drop j).length=n:=by rw [List.length_append,List.length_take,List.length_drop];omega
    have ihj':=fun cs=>ihj (j+1,cs) (by dsimp only;omega) (by dsimp only;omega)
    dsimp only at ihj'
    rw [← hset] at ihj'
    generalize (F1 A0 M (Ng y) ri L).take j++L.drop j=L2 at *
    obtain ⟨⟨g0,g1⟩,_⟩:=O.ng _ m0 m1
    obtain ⟨a0,a1⟩:=FF.al u _ u0 u1 g0 g1
    refine wk 6 cz ?_
    intro h3
    refine Ab rfl (Ds 1 (j) rfl rfl rfl B6 rfl (by omega) fun z2 hz2 b3 o1=>?_)
    obtain rfl:_=z2:=Option.some.inj (at_z.symm.trans hz2)
    refine Ab rfl (Ak 0 rfl rfl Bz fun ⟨r1,r2⟩=>?_)
    refine wk 2 cz ?_
    (apply B9 it mx 18;(· rfl);(· rfl))
    (apply Am 4;(· rfl);(· simp))
    (apply Ac;(· rfl);(· exact Bc fun _=>As rfl ABv Ag))
    (apply Ac;(· rfl);(· exact Be 0 rfl rfl AAp rfl))
    (apply Am 2;(· rfl);(· simp))
    (apply Ac;(· rfl);(· exact Bc fun _=>Bi (j) (j) rfl rfl B6 rfl (by omega) (Nat.mul_one _) Ag))
    (apply Ac;(· rfl);(· exact Lv 3 1 (j) rfl rfl rfl Bz rfl (by assumption)))
    (apply Am 2;(· rfl);(· simp))
    (apply Ac;(· rfl);(· exact Bc fun _=>As rfl ABv Ag))
    (apply Ac;(· rfl);(· exact Be 0 rfl rfl AAp rfl))
    (apply Am 2;(· rfl);(· simp))
    (apply Ac;(· rfl);(· exact Bc fun _=>Ae [4,5,6] rfl (Bv (by omega) (by omega) (by omega) (by omega)) rfl (by rintro _ _ _ ⟨rfl,rfl,rfl⟩;exact Ag)))
    (apply Ac;(· rfl);(· exact Bc fun _=>Ae [4] rfl (Xo (by omega) (by omega) (by omega) (by omega)) rfl (by rintro _ _ _ ⟨rfl,rfl,rfl⟩;exact Ag)))
    refine Bx rfl ?_
    simp only [List.map_cons,List.map_nil,List.cons_append,List.nil_append]
    refine wk 1 cz ?_
    refine Ab rfl (Hv (vs:=[Value.int IntKind.i64 (A0 u (Ng (M y z)))]) (z:=(A0 u (Ng (M y z)):Int)) 3 1 (j) rfl rfl rfl rfl rfl Bz (Nat.mul_one _).symm (by omega) (fun w A hG=>(Dv (by first|(simp only [Ca];omega)|(simp [Ca];done)))) fun cs3=>?_)
    refine wk 3 cz ?_
    exact tw (ihj' cs3)
   ·obtain rfl:n=j:=by omega
    rw [List.take_of_length_le (by omega),List.drop_of_length_le (by omega),List.append_nil]
    refine wk 7 cz ?_
    intro h3
    exact tw (ih' cs)
 ·obtain rfl:i=P.length:=by omega
  rw [List.take_length,← hlen,List.take_length] at *
  generalize Js A0 M Ng P R x=L at *
  have hLl:=hL.1
  refine Dc 3 0 rfl rfl (by show n*8≤140737488355328;omega) ?_
  refine ADu [] rfl ?_
  have D0:∀ {ps:Option Addr}{c:Nat},Bk Tryz.prog 80 [.slice ps n c,.func (.func 189) #[] #[]] [] [Aw Ao ps n c L,AAO []] (Rv (.int .i64 (Ro L)) []):=fun {ps:Option Addr}{c:Nat}=>F3 (f:=189) (caps:=[]) (g:=AAO []) (p:=fun x=>!decide (x=0)) (ps:=ps) (n:=n) (c:=c) (l:=L) fun x _=>Oa.conj
  by_cases h:Ro L<0
  ·refine wk 15 (ct @D0 cz) ?_
   intro h1 h2
   refine B5 3 [0,1,2] [6,7] rfl (.tmp rfl .nil) rfl rfl rfl ⟨fun _=>⟨rR,rP,rfl,rfl,rfl⟩,fun h1=>absurd h h1⟩
  ·obtain ⟨k1,k2⟩:=Vh h
   obtain ⟨k,hk⟩:=Int.eq_ofNat_of_zero_le (Int.not_lt.1 h)
   simp only [hk,Int.toNat_natCast] at k1 k2 D0 ⊢
   obtain ⟨y0,y1⟩:=A6 (by omega) hL k
   obtain ⟨⟨v0,v1⟩,hiv⟩:=O.iv _ y0 y1 k2
   have y2:0<Bm L k:=by omega
   rw [show Bm L k=L.getD k default from rfl] at *
   have hu:=hL.2
   refine wk 16 (ct @D0 (ct @Gd cz)) ?_
   intro h1 h2 b1 o1
   (refine Vu [1,0,2] rfl rfl ?_;apply Us it mx 1 15;(· rfl);(· rfl);(· rfl))
   (apply Am 3;(· rfl);(· simp))
   (apply Ac;(· rfl);(· exact Bc fun _=>As rfl AJd Ag))
   (apply Ac;(· rfl);(· exact Be 0 rfl rfl Lf rfl))
   (apply Am 2;(· rfl);(· simp))
   (apply Ac;(· rfl);(· exact Bc fun _=>As rfl ABv Ag))
   (apply Ac;(· rfl);(· exact Be 0 rfl rfl AAp rfl))
   (apply Am 2;(· rfl);(· simp))
   (apply Co;(· rfl);(· exact Bc fun _=>Ae [4,5,6,2] rfl (U2 (by omega) (by omega) (by omega)) rfl (by rintro _ _ _ ⟨pa1,ca1,rfl,rfl,rfl⟩;exact (D6 0 rfl)));intro pa1 ca1)
   (apply Co;(· rfl);(· exact Bc fun _=>AAT Du Vi rfl rfl rfl rfl (by decide) (by decide) rfl fun b2=>ABg (E:=(Ai (Ao))) [[Value.slice pa1 n ca1]] [B0 M (V (L.getD k default)) L] (fun w A hG=>(F8 (C0 (hG _ (Ap (n:=0) rfl))) Cp)) rfl rfl rfl (by first|decide|exact Nat.le_of_ble_eq_true rfl));intro pa2 ca2)
   (apply AEV (m:=1) 9 0;(· rfl);(· rfl);(· rfl);(· rfl);(· rfl);(· exact Du);(· exact Vi);(· rfl);(· (first|omega|(simp;done)));(· (first|omega|(simp only [List.length_cons,List.length_nil];omega)));(· exact W1);(· (first|omega|(simp only [List.length_cons,List.length_nil];omega)));intro b2 cap1 cs1)
   (apply Am 1;(· rfl);(· simp))
   refine Bx rfl ?_
   simp only [List.map_cons,List.map_nil,List.cons_append,List.nil_append]
   refine wk 8 cz ?_
   intro b3
   refine Ab rfl (Fq (z:=(↑k:Int)) 3 0 11 rfl rfl rfl rfl rfl B6 E3 rfl (fun w A hG=>(Dv (by first|(simp only [Ca];omega)|(simp [Ca];done)))) (by omega) _ F4 (by omega) fun r1=>?_)
   refine wk 6 cz ?_
   have eP:A7 (P++[k])=A7 P++[(k:Int)]:=List.map_append
   refine B5 4 [3,2,0] [1,0] rfl (.tmp rfl .nil) rfl rfl rfl ⟨fun h1=>absurd h1 (by omega),fun _=>⟨⟨some b2,cap1,cs1⟩,r1,rfl,by rw [eP],rfl⟩⟩
abbrev Uw (bp b p m N nm cm ns cs ny cy nt ct:Nat) (pm ps py pt:Option Addr) (co:Bool) (Mo w ap:Int):Ba:=(some bp,157,[.pointer (some ⟨b,0,none⟩),.int .i64 p,.int .i64 m,.slice pm nm cm,.int .i64 N,.slice ps ns cs,.slice py ny cy,.bool co,.int .i64 Mo,.int .i64 w,.slice pt nt ct,.int .i64 ap])
section
variable {p m N b bp nm cm ns cs ny cy nt ct:Nat}{pm ps py pt:Option Addr}{co:Bool}{Mo w ap:Int}{md:List Int}{Aa:List (List Int)}
theorem Nc {x:Nat}(K:Fok p m md) (hM:Dy (p ^ m) N Aa) (hx:x<N) (hr:Aa.length≤1000000) :
  Bk Tryz.prog 183 [.pointer (some ⟨bp,0,none⟩),.int .i64 x] [Uw bp b p m N nm cm ns cs ny cy nt ct pm ps py pt co Mo w ap] [Aw (Ai Ao) ps ns cs Aa]
   (fun v Φ β=>∃ r:Row,v = .slice (ad r.bo) Aa.length r.cap∧Φ=[A3 Ao r Aa.length (Dm Aa x)]∧β=[Uw bp b p m N nm cm ns cs ny cy nt ct pm ps py pt co Mo w ap,(r.bo,3,r.cs)]):=by
 refine Ad (F:=M1) rfl fun C=>?_
 refine Ay 0 rfl fun hn hb _=>?_
 subst hn
 have hq:=K.q
 have hq2:=(Is K).q2
 have hcW:=Hp (show 0<p ^ m by omega) hM x
 have hTl:(Dm Aa x).length=Aa.length:=List.length_map _
 have hTa:∀ (k:Nat) (u:List Int),Aa[k]?=some u→(Dm Aa x)[k]?=some (Bm u x):=fun k u h=>by rw [Dm,List.getElem?_map,h];rfl
 have hTr:∀ z∈Dm Aa x,Ca .i64 z:=fun z hz=>by
  have:=hcW.2 z hz
  simp only [Ca];omega
 refine wk 18 cz ?_
 intro b1
 rw [show An .i64 (List.replicate Aa.length 0)=Al .i64 ((Dm Aa x).take 0++List.replicate (Aa.length-0) 0) by simp [An,Al]]
 refine Af (X:=Nat) [1,4,5,19,20] [0] (fun k=>[(21,.int .i64 (k:Int))]) (fun k=>[(some b1,3,Al .i64 ((Dm Aa x).take k++List.replicate (Aa.length-k) 0)),Uw bp b p m N nm cm Aa.length cs ny cy nt ct pm ps py pt co Mo w ap]) (fun _=>[]) (fun k=>k≤Aa.length) (fun k=>Aa.length-k) 0 [] rfl rfl rfl (Nat.zero_le _) (by repeat (first|exact Fr.sub_nil _|refine Fr.sub_cons rfl ?_)) rfl rfl ?_
 rintro k hk ihk
 simp only [List.cons_append,List.nil_append] at hk ihk ⊢
 by_cases h8:k<Aa.length
 ·obtain ⟨u,at_x⟩:∃ u,Aa[k]?=some u:=⟨_,List.getElem?_eq_getElem h8⟩
  have hxl:=(hM u (List.mem_of_getElem? at_x)).1
  have hT:=hTa k u at_x
  have at_y:u[x]?=some (Bm u x):=by
   rw [Bm,List.getD_eq_getElem?_getD,List.getElem?_eq_getElem (by omega)];rfl
  have ih':=ihk (k+1) (by omega) (by omega)
  rw [← take_set hT h8] at ih'
  have hln:((Dm Aa x).take k++List.replicate (Aa.length-k) 0).length=Aa.length:=by rw [List.length_append,List.length_take,List.length_replicate];omega
  generalize (Dm Aa x).take k++List.replicate (Aa.length-k) 0=L at *
  refine wk 12 cz ?_
  intro h1 b2 o1 hz1 pa1 ca1 b3 o2 hz2
  refine Ab rfl (Ak 0 rfl rfl Bz fun ⟨r1,r2⟩=>?_)
  refine wk 5 cz ?_
  exact tw (ih')
 ·obtain rfl:k=Aa.length:=by omega
  rw [Nat.sub_self,List.replicate_zero,List.append_nil,List.take_of_length_le (by omega)]
  clear ihk
  refine wk 3 cz ?_
  refine G5 0 rfl hTl.symm hTr (by omega) ?_
  refine wk 4 cz ?_
  intro h1
  refine B5 2 [1,0] [0] rfl (.tmp rfl .nil) rfl rfl rfl ⟨⟨some b1,Aa.length,Al .i64 (Dm Aa x)⟩,rfl,rfl,rfl⟩
theorem AIO {ng cg ce cl bb n k:Nat}{pg pe pl:Option Addr}{x:List Int}{R:List (List Int)}{P:List Nat}{rR rP r:Row}(K:Fok p m md) (hR:Dy (p ^ m) n R) (hlen:R.length=P.length) (hK:P.length=k) (hPn:∀ j∈P,j<n) (hn1:1≤n) (hN:n≤1000000) (hPl:k≤1000000) (hx:Wd (p ^ m) n x) (h:Ro (Js (Ah (fA p m)) (Ah (fM p (By m md))) (Gu p m) P R x)<0) :
  Bk Tryz.prog 182 [.pointer (some ⟨bb,0,none⟩),.slice (ad r.bo) n r.cap] [ADq bb b rR rP k,(rR.bo,22,rR.cs),(rP.bo,3,rP.cs),(r.bo,3,r.cs)]
   [P3 b p m (p ^ m) pg ng cg pe (p ^ m-1) ce pl (p ^ m) cl,Aw Ao pe (p ^ m-1) ce (Ri p m md),Aw Ao pl (p ^ m) cl (Rl p m md),A3 (Ai Ao) rR k R,A3 Ao rP k (A7 P),A3 Ao r n x] (BaQ bb b k false P R) :=
 (Iy K hR hlen hK hPn hn1 hN hPl hx).mono fun C w v Φ β' hQ hO hF=>⟨_,_,hQ.1 h,hO,hF⟩
theorem AHO {ng cg ce cl bb n k:Nat}{pg pe pl:Option Addr}{x:List Int}{R:List (List Int)}{P:List Nat}{rR rP r:Row}(K:Fok p m md) (hR:Dy (p ^ m) n R) (hlen:R.length=P.length) (hK:P.length=k) (hPn:∀ j∈P,j<n) (hn1:1≤n) (hN:n≤1000000) (hPl:k≤1000000) (hx:Wd (p ^ m) n x) {w:List Int}(hw:Js (Ah (fA p m)) (Ah (fM p (By m md))) (Gu p m) P R x=w) (h:¬ Ro w<0) :
  Bk Tryz.prog 182 [.pointer (some ⟨bb,0,none⟩),.slice (ad r.bo) n r.cap] [ADq bb b rR rP k,(rR.bo,22,rR.cs),(rP.bo,3,rP.cs),(r.bo,3,r.cs)]
   [P3 b p m (p ^ m) pg ng cg pe (p ^ m-1) ce pl (p ^ m) cl,Aw Ao pe (p ^ m-1) ce (Ri p m md),Aw Ao pl (p ^ m) cl (Rl p m md),A3 (Ai Ao) rR k R,A3 Ao rP k (A7 P),A3 Ao r n x] (BaQ bb b (k+1) true (P++[(Ro w).toNat]) (R++[B0 (Ah (fM p (By m md))) (He p m md (Bm w (Ro w).toNat)) w])) :=
 (Iy K hR hlen hK hPn hn1 hN hPl hx).mono fun C w v Φ β' hQ hO hF=>⟨_,_,by subst hw;exact hQ.2 h,hO,hF⟩
abbrev grP (p m:Nat) (md:List Int) (Aa:List (List Int)) (most:Nat) (o:List Int) (P:List Nat) (R:List (List Int)) (out:List Int):List Int:=grL (Ah (fA p m)) (Ah (fM p (By m md))) (Gu p m) (He p m md) (fun i=>Dm Aa i.toNat) most o P R out
theorem Mz {ng cg ce cl most no co':Nat}{pg pe pl po:Option Addr}{o:List Int}(K:Fok p m md) (hM:Dy (p ^ m) N Aa) (hr1:1≤Aa.length) (hr:Aa.length≤1000000) (ho:∀ x∈o,0≤x∧x<(N:Int)) (hol:o.length≤1000) (hmo:most≤1000000) :
  Bk Tryz.prog 171 [.pointer (some ⟨bp,0,none⟩),.slice po no co',.int .i64 most] [Uw bp b p m N nm cm ns cs ny cy nt ct pm ps py pt co Mo w ap] [Aw (Ai Ao) ps ns cs Aa,P3 b p m (p ^ m) pg ng cg pe (p ^ m-1) ce pl (p ^ m) cl,Aw Ao pe (p ^ m-1) ce (Ri p m md),Aw Ao pl (p ^ m) cl (Rl p m md),Aw Ao po no co' o]
   (fun v Φ β=>∃ r:Row,v = .slice (ad r.bo) (grP p m md Aa most o [] [] []).length r.cap∧Φ=[A3 Ao r (grP p m md Aa most o [] [] []).length (grP p m md Aa most o [] [] [])]∧β=[Uw bp b p m N nm cm ns cs ny cy nt ct pm ps py pt co Mo w ap,(r.bo,3,r.cs)]):=by
 refine Ad (F:=M7) rfl fun C=>?_
 refine Ay 4 rfl fun hn hb _=>?_
 subst hn
 have O:=Is K
 have hq:=K.q
 have hq2:=O.q2
 have Hf:=fun {x:Nat}=>Nc (p:=p) (m:=m) (N:=N) (b:=b) (bp:=bp) (nm:=nm) (cm:=cm) (ns:=ns) (cs:=cs) (ny:=ny) (cy:=cy) (nt:=nt) (ct:=ct) (pm:=pm) (ps:=ps) (py:=py) (pt:=pt) (co:=co) (Mo:=Mo) (w:=w) (ap:=ap) (Aa:=Aa) (x:=x) K hM
 refine wk 16 cz ?_
 intro b1
 refine G1 Ao 3 ?_
 refine G1 Ao 3 ?_
 refine G1 (Ai Ao) 22 ?_
 refine Af (X:=Nat×Row×Row×Row×List Nat×List (List Int)×List Int) [0,2,6,7,17,18] [0,1,2,3,4,5,6,7] (fun z=>[(19,.int .i64 (z.1:Int)),(8,.slice (ad z.2.2.2.1.bo) z.2.2.2.2.2.2.length z.2.2.2.1.cap)])
  (fun z=>[(z.2.1.bo,22,z.2.1.cs),(z.2.2.1.bo,3,z.2.2.1.cs),(z.2.2.2.1.bo,3,z.2.2.2.1.cs),ADq b1 b z.2.1 z.2.2.1 z.2.2.2.2.1.length,Uw bp b p m N nm cm ns cs ny cy nt ct pm ps py pt co Mo w ap])
  (fun z=>[A3 (Ai Ao) z.2.1 z.2.2.2.2.1.length z.2.2.2.2.2.1,A3 Ao z.2.2.1 z.2.2.2.2.1.length (A7 z.2.2.2.2.1),A3 Ao z.2.2.2.1 z.2.2.2.2.2.2.length z.2.2.2.2.2.2])
  (fun z=>z.1≤o.length∧Dy (p ^ m) Aa.length z.2.2.2.2.2.1∧z.2.2.2.2.2.1.length=z.2.2.2.2.1.length∧(∀ j∈z.2.2.2.2.1,j<Aa.length)∧z.2.2.2.2.1.length≤z.1∧z.2.2.2.2.2.2.length≤z.1∧grP p m md Aa most (o.drop z.1) z.2.2.2.2.1 z.2.2.2.2.2.1 z.2.2.2.2.2.2=grP p m md Aa most o [] [] []) (fun z=>o.length-z.1) (0,⟨none,0,[]⟩,⟨none,0,[]⟩,⟨none,0,[]⟩,[],[],[]) [0,1,2] rfl rfl rfl (by dsimp only;exact ⟨Nat.zero_le _,(show Dy (p ^ m) Aa.length [] from fun r hr=>absurd hr List.not_mem_nil),rfl,(fun j hj=>absurd hj List.not_mem_nil),Nat.le_refl _,Nat.le_refl _,rfl⟩) (by repeat (first|exact Fr.sub_nil _|refine Fr.sub_cons rfl ?_)) rfl rfl ?_
 rintro ⟨i,rR,rP,r,P,R,out⟩ ⟨hi,hR,hlen,hPn,hPi,hoi,hg⟩ ih
 simp only [List.cons_append,List.nil_append] at hi hR hlen hPn hPi hoi hg ih ⊢
 by_cases hil:i<o.length
 ·obtain ⟨x,at_x⟩:∃ x,o[i]?=some x:=⟨_,List.getElem?_eq_getElem hil⟩
  obtain ⟨x0,x1⟩:=ho x (List.mem_of_getElem? at_x)
  obtain ⟨x,rfl⟩:=Int.eq_ofNat_of_zero_le x0
  have hcW:=Hp (show 0<p ^ m by omega) hM x
  have e3:o.drop i=(x:Int)::o.drop (i+1):=by
   rw [List.drop_eq_getElem_cons hil];rw [List.getElem?_eq_getElem hil] at at_x;rw [Option.some.inj at_x]
  rw [e3] at hg
  by_cases hm:out.length=most
  ·rw [← hg,show grP p m md Aa most ((x:Int)::o.drop (i+1)) P R out=out by rw [grP,grL,if_pos hm]]
   refine wk 6 cz ?_
   intro h1 b2 o1 hz1
   refine Ab rfl (Ak 0 rfl rfl Bz fun ⟨r1,r2⟩=>?_)
   refine wk 10 cz ?_
   intro h2
   refine B5 5 [4,2] [3] rfl (.tmp rfl .nil) rfl rfl rfl ⟨r,rfl,rfl,rfl⟩
  ·rw [grP,grL,if_neg hm,Int.toNat_natCast] at hg
   have hrw:=O.rp_wd (P:=P) (R:=R) hR hcW
   obtain ⟨w0,hw0⟩:∃ w0,Js (Ah (fA p m)) (Ah (fM p (By m md))) (Gu p m) P R (Dm Aa x)=w0:=⟨_,rfl⟩
   rw [hw0] at hg hrw
   by_cases hf:Ro w0<0
   ·rw [if_pos hf] at hg
    have Gc:=fun {ng cg ce cl bb:Nat}{pg pe pl:Option Addr}{rR rP r:Row}=>AIO (b:=b) (ng:=ng) (cg:=cg) (ce:=ce) (cl:=cl) (bb:=bb) (pg:=pg) (pe:=pe) (pl:=pl) (rR:=rR) (rP:=rP) (r:=r) K hR hlen rfl hPn hr1 hr (by omega) hcW (by rw [hw0];exact hf)
    have ih':=fun rR rP=>ih (i+1,rR,rP,r,P,R,out) (by dsimp only;omega) (by dsimp only;exact ⟨by omega,hR,hlen,hPn,by omega,by omega,hg⟩)
    dsimp only at ih'
    refine wk 6 cz ?_
    intro h1 b2 o1 hz1
    refine Ab rfl (Ak 0 rfl rfl Bz fun ⟨r1,r2⟩=>?_)
    refine wk 9 cz ?_
    intro h2
    refine Ab rfl (Dk 4 [7] rfl rfl (Hf (by omega) (by omega)) rfl ?_)
    rintro _ _ _ ⟨r3,rfl,rfl,rfl⟩
    simp only [List.cons_append,List.nil_append]
    refine Vu [5,2,3,1,0,4] rfl rfl ?_
    refine Ab rfl (Ta 4 [9,10,11,2,3,0] rfl rfl (Gc) rfl ?_)
    rintro _ _ _ ⟨rR1,rP1,rfl,rfl,rfl⟩
    simp only [List.cons_append,List.nil_append]
    refine wk 5 cz ?_
    refine Ml 5 [1,2,4,0,3] rfl rfl ?_
    exact tw (ih' rR1 rP1)
   ·rw [if_neg hf] at hg
    have Gc:=fun {ng cg ce cl bb:Nat}{pg pe pl:Option Addr}{rR rP r:Row}=>AHO (b:=b) (ng:=ng) (cg:=cg) (ce:=ce) (cl:=cl) (bb:=bb) (pg:=pg) (pe:=pe) (pl:=pl) (rR:=rR) (rP:=rP) (r:=r) K hR hlen rfl hPn hr1 hr (by omega) hcW hw0 hf
    have hst:=Vh hf
    have hvi:=O.iv _ (A6 (by omega) hrw (Ro w0).toNat).1 (A6 (by omega) hrw (Ro w0).toNat).2 hst.2
    have hR':Dy (p ^ m) Aa.length (R++[B0 (Ah (fM p (By m md))) (He p m md (Bm w0 (Ro w0).toNat)) w0]):=fun u hu=>by
     rcases List.mem_append.1 hu with hu|hu
     ·exact hR u hu
     ·rw [List.mem_singleton.1 hu];exact O.scl_wd hvi.1.1 hvi.1.2 hrw
    have hPn':∀ j∈P++[(Ro w0).toNat],j<Aa.length:=fun j hj=>by
     rcases List.mem_append.1 hj with hj|hj
     ·exact hPn j hj
     ·rw [List.mem_singleton.1 hj];have:=hrw.1;omega
    have ih':=fun rR rP r=>ih (i+1,rR,rP,r,P++[(Ro w0).toNat],R++[B0 (Ah (fM p (By m md))) (He p m md (Bm w0 (Ro w0).toNat)) w0],out++[(x:Int)]) (by dsimp only;omega) (by dsimp only;refine ⟨by omega,hR',by rw [List.length_append,List.length_append,hlen];rfl,hPn',by rw [List.length_append];exact Nat.add_le_add_right hPi 1,by rw [List.length_append];exact Nat.add_le_add_right hoi 1,hg⟩)
    dsimp only at ih'
    simp only [List.length_append,List.length_singleton] at ih'
    refine wk 6 cz ?_
    intro h1 b2 o1 hz1
    refine Ab rfl (Ak 0 rfl rfl Bz fun ⟨r1,r2⟩=>?_)
    refine wk 9 cz ?_
    intro h2
    refine Ab rfl (Dk 4 [7] rfl rfl (Hf (by omega) (by omega)) rfl ?_)
    rintro _ _ _ ⟨r3,rfl,rfl,rfl⟩
    simp only [List.cons_append,List.nil_append]
    refine Vu [5,2,3,1,0,4] rfl rfl ?_
    refine Ab rfl (Ta 4 [9,10,11,2,3,0] rfl rfl (Gc) rfl ?_)
    rintro _ _ _ ⟨rR1,rP1,rfl,rfl,rfl⟩
    simp only [List.cons_append,List.nil_append]
    refine wk 5 cz ?_
    intro b3
    refine Ab rfl (Fq (z:=(↑x:Int)) 5 0 6 rfl rfl rfl rfl rfl B6 E3 rfl (fun w A hG=>(Dv (by first|(simp only [Ca];omega)|(simp [Ca];done)))) (by omega) _ F4 (by omega) fun r4=>?_)
    refine wk 4 cz ?_
    refine Ml 6 [3,4,0,2,5] rfl rfl ?_
    exact tw (ih' rR1 rP1 r4)
 ·obtain rfl:i=o.length:=by omega
  rw [List.drop_length] at hg
  rw [← hg,show grP p m md Aa most [] P R out=out from rfl]
  refine wk 7 cz ?_
  intro h1
  refine B5 5 [4,2] [2] rfl (.tmp rfl .nil) rfl rfl rfl ⟨r,rfl,rfl,rfl⟩
end
open Go Go.Fw
set_option maxRecDepth 100000
set_option linter.unusedVariables false
set_option linter.unusedSimpArgs false
set_option maxHeartbeats 0
section
variable {P:Program}{C:Cx}{σ:Fr}{β:List Ba}{Γ:List Fact}{ty:TypeId}
theorem AJs {K:Value→List Ba→List Fact→Prop}{f:FuncId}{x:Operand}{xs:List Operand}{ts:Array TypeId}{bnd args caps:List Value}(hv:ev σ x=some (.func (.func f) bnd.toArray caps.toArray)) (hx:Z1 σ xs=some args)
  (h:E0 P C (.call { callee:=.value (.func f),args:=((bnd++args++caps).map Operand.const).toArray,argTypes:=ts }) ty σ β Γ K):E0 P C (.call { callee:=.value x,args:=xs.toArray,argTypes:=ts }) ty σ β Γ K:=by
 intro w hO hG ρ hρ
 have h1:=h w hO hG ρ hρ
 have hc:ρ (.func f) = .func (.func f) #[] #[]:=hρ _ _ rfl
 have hv':ρ x = .func (.func f) bnd.toArray caps.toArray:=hρ _ _ hv
 have ha:xs.toArray.map ρ=args.toArray:=by rw [List.map_toArray,Sg hρ hx]
 have hb:((bnd++args++caps).map Operand.const).toArray.map ρ=(bnd++args++caps).toArray:=by rw [List.map_toArray,Sg hρ (O3 σ _)]
 simp only [execOp,Cy,resolve,hb,hc,Deferred.ofValue,Sem.run_bind,Sem.run_pure,Result.andThen_ok,invoke,Array.append_empty,Array.empty_append] at h1
 simp only [execOp,Cy,resolve,ha,hv',Deferred.ofValue,Sem.run_bind,Sem.run_pure,Result.andThen_ok,invoke]
 rw [List.append_toArray,List.append_toArray]
 exact h1
end
theorem AFs {w:World}{A:Nat→Prop}{vss:List (List Value)}{l:List Int}(h:Gg Ao vss l w A):vss.flatten=Al .i64 l:=by
 have e:vss=l.map fun x=>[Value.int .i64 x]:=List.ext_getElem? fun i=>by
  rw [List.getElem?_map]
  by_cases hi:i<l.length
  ·rw [List.getElem?_eq_getElem hi,List.getElem?_eq_getElem (by rw [h.1];exact hi)]
   exact congrArg some (h.2 i _ _ (List.getElem?_eq_getElem (by rw [h.1];exact hi)) (List.getElem?_eq_getElem hi)).1
  ·have hv:=h.1
   rw [List.getElem?_eq_none (show vss.length≤i by omega),List.getElem?_eq_none (show l.length≤i by omega)];rfl
 rw [e]
 clear e h
 induction l with
 | nil=>rfl
 | cons x l ih=>rw [List.map_cons,List.flatten_cons,ih];rfl
theorem Qz {r:Row}{n:Nat}{l:List Int}(hl:l.length≤17592186044416):Bk Tryz.prog 162 [.slice (ad r.bo) n r.cap] [(r.bo,3,r.cs)] [A3 Ao r n l] (fun v Φ β=>∃ r':Row,v = .slice (ad r'.bo) n r'.cap∧Φ=[A3 Ao r' n l,A3 Ao r n l]∧β=[(r'.bo,3,r'.cs),(r.bo,3,r.cs)]):=by
 refine Ad (F:=Hj) rfl fun C=>?_
 refine AGz 0 rfl fun hn=>?_
 subst hn
 obtain ⟨bo,cap,cs⟩:=r
 cases bo with
 | none =>
  by_cases h0:0<l.length
  ·exact Dh 0 rfl h0 fun b' cap' cs' hr=>by cases hr
  obtain rfl:l=[]:=List.length_eq_zero_iff.1 (by omega)
  refine wk 4 cz ?_
  refine Ab rfl (Yl B6 rfl rfl ?_)
  refine wk 5 cz ?_
  refine G1 Ao 3 ?_
  refine B5 2 [0,1] [0,1] rfl (.tmp rfl .nil) rfl rfl rfl ⟨⟨none,0,[]⟩,rfl,rfl,rfl⟩
 | some b =>
  refine Y2 (q:=cs.take (l.length*1)=Al .i64 l∧l.length≤17592186044416) (fun w A hG=>by
   obtain ⟨h1,h2,vss,h3,h4⟩:=hG _ (Ap (n:=0) rfl)
   exact ⟨h4.trans (AFs h3),hl⟩) fun ⟨hcs,hl2⟩=>?_
  refine Bd [_,_] rfl ?_
  refine Ax it 1 rfl (by simp) ?_
  refine Bd [_,_,_] rfl ?_
  refine Ax it 1 rfl (by simp) ?_
  refine Ab rfl (Vo B6 rfl rfl ?_)
  refine Bd [_,_] rfl ?_
  refine S9 rfl rfl ?_
  refine Bd [_,_] rfl ?_
  refine Ab rfl (ADM B6 fun b1=>?_)
  refine Ax it 1 rfl (by simp) ?_
  (apply Hw (E:=Bt IntKind.i64 8) (n:=0) (cs:=[]) [] [] 0 (fun w A hG=>Cp);(· rfl);(· rfl);(· rfl);(· rfl);(· decide)) --ok
  refine Ab rfl (AJw 0 1 rfl rfl rfl rfl B6 E3 rfl (by first|exact Mj.nil _|assumption|exact .inr ⟨_,rfl,Nat.le_refl _,by omega,rfl⟩) hcs (by simp [Al]) (fun u hu=>by
   rw [Al] at hu
   obtain ⟨x,_,rfl⟩:=List.mem_map.1 hu
   rfl) (by omega) _ F4 (by omega) fun bo' cap' cs' hg' hc'=>?_)
  refine Ff (A3 Ao ⟨bo',cap',cs'⟩ (0+l.length) l) (fun w A hG=>by
   obtain ⟨h1,h2,vss,h3,h4⟩:=hG _ (Ap (n:=1) rfl)
   exact ⟨Nat.zero_add _,hg',vss,h3,by rw [Nat.zero_add];rw [Nat.zero_add] at hc';exact (hc'.trans hcs.symm).trans h4⟩) ?_
  refine wk 2 cz ?_
  simp only [Nat.zero_add]
  refine B5 2 [0,1] [0,2] rfl (.tmp rfl .nil) rfl rfl rfl ⟨⟨bo',cap',cs'⟩,rfl,rfl,rfl⟩
section
variable {p m N b bp nm cm ns cs ny cy nt ct:Nat}{pm ps py pt:Option Addr}{co:Bool}{Mo w:Int}{md:List Int}{Aa sets:List (List Int)}
def ChQ (B:Nat→Ba) (L:Nat):Option (List (List Int))→Value→List Fact→List Ba→Prop
 | some T=>fun v Φ β=>v = .int .i64 0∧Φ=[]∧β=[B (L-T.length)]
 | none=>fun v Φ β=>∃ ap:Nat,v = .int .i64 13∧Φ=[]∧β=[B ap]
theorem Kv {n1 c1 n2 c2 n3 c3 ap:Nat}{p1 p2 p3:Option Addr}{s:List Int}{f:Value}(hs:(s.length:Int)=w) :
  Bk Tryz.prog 151 [.pointer (some ⟨bp,0,none⟩),.slice p1 n1 c1,.slice p2 n2 c2,.slice p3 n3 c3,f] [Uw bp b p m N nm cm ns cs ny cy nt ct pm ps py pt co Mo w ap] [Aw Ao p1 n1 c1 s]
   (fun v Φ β=>v = .int .i64 0∧Φ=[]∧β=[Uw bp b p m N nm cm ns cs ny cy nt ct pm ps py pt co Mo w ap]):=by
 refine Ad (F:=Gt) rfl fun C=>?_
 refine Ay 0 rfl fun hn hb _=>?_
 subst hn
 refine wk 14 cz ?_
 intro h1
 refine B5 1 [0] [] rfl (.tmp rfl .nil) rfl rfl rfl ⟨rfl,rfl,rfl⟩
theorem ADR {z:List Int}{x:Int}{l:List Int}(h:x∈z):Lk z (x::l)=Lk z l:=by
 rw [Lk,List.filter_cons,decide_eq_true h];rfl
theorem ABH {z:List Int}{x:Int}{l:List Int}(h:x∉z):Lk z (x::l)=x::Lk z l:=by
 rw [Lk,List.filter_cons,decide_eq_false h];rfl
theorem ACW {f:List Int→List Int→List (List Int)→Option (List (List Int))}(hf:∀ {s z T T'},f s z T=some T'→T' <:+ T) {s z:List Int}:∀ {ks pre:List Int}{T T':List (List Int)},Tg f s z pre ks T=some T'→T' <:+ T
 | [],pre,T,T',h=>by rw [Tg] at h;rw [Option.some.inj h];exact List.suffix_refl _
 | i::r,pre,T,T',h=>by
  rw [Tg] at h
  cases hE:f (s++[i]) (z++pre) T with
  | none=>rw [hE] at h;cases h
  | some T2=>rw [hE] at h;exact (ACW hf h).trans (hf hE)
theorem ABm {rt:List Int→List Int→Bool}:∀ {d:Nat}{s z:List Int}{T T':List (List Int)},Pt rt d s z T=some T'→T' <:+ T
 | 0,s,z,[],T',h=>by rw [Pt] at h;cases h
 | d+1,s,z,[],T',h=>by rw [Pt] at h;cases h
 | 0,s,z,x::T,T',h=>by
  rw [Pt] at h
  split at h
  ·rw [← Option.some.inj h];exact List.suffix_cons _ _
  ·cases h
 | d+1,s,z,x::T,T',h=>by
  rw [Pt] at h
  split at h
  ·exact (ACW (fun h=>ABm h) h).trans (List.suffix_cons _ _)
  ·cases h
theorem AGn {z set:List Int}{i:Nat}{x:Int}(hst:set.Pairwise (·<·)) (hx:set[i]?=some x):x∈z++Lk z (set.take i)↔x∈z:=by
 refine ⟨fun h=>?_,fun h=>List.mem_append.2 (Or.inl h)⟩
 rcases List.mem_append.1 h with h|h
 ·exact h
 ·have h1:=(List.mem_filter.1 h).1
  obtain ⟨k,hk⟩:=List.getElem?_of_mem h1
  obtain ⟨k1,k2⟩:=List.getElem?_eq_some_iff.1 hk
  rw [List.length_take] at k1
  rw [List.getElem_take] at k2
  obtain ⟨i1,i2⟩:=List.getElem?_eq_some_iff.1 hx
  have:=List.pairwise_iff_getElem.1 hst k i (by omega) i1 (by omega)
  omega
theorem Lb {ng cg ce cl n1 c1 n2 c2 n3 c3 d:Nat}{pg pe pl p1 p2 p3:Option Addr}{s z set:List Int}{T:List (List Int)}{rt:List Int→List Int→Bool}(hs:(s.length:Int)<w) (hst:stP N set) (hsl:s.length≤1000) (hzl:z.length≤100000) (hl:set.length≤1000) (hT:T <:+ sets)
  (hf:∀ {n1 c1 n2 c2:Nat}{p1 p2:Option Addr}{x:Int}{z':List Int}{T:List (List Int)},z'.length≤z.length+1000→T <:+ sets→Bk Tryz.prog 129 [.pointer (some ⟨bp,0,none⟩),.slice p1 n1 c1,.slice p2 n2 c2] [Uw bp b p m N nm cm ns cs ny cy nt ct pm ps py pt co Mo w ((sets.length-T.length:Nat):Int)] [Aw (Ai Ao) ps ns cs Aa,P3 b p m (p ^ m) pg ng cg pe (p ^ m-1) ce pl (p ^ m) cl,Aw Ao pe (p ^ m-1) ce (Ri p m md),Aw Ao pl (p ^ m) cl (Rl p m md),Aw (Ai Ao) pt nt ct sets,Aw Ao p1 n1 c1 (s++[x]),Aw Ao p2 n2 c2 z']
   (ChQ (fun ap=>Uw bp b p m N nm cm ns cs ny cy nt ct pm ps py pt co Mo w (ap:Nat)) sets.length (Pt rt d (s++[x]) z' T))) :
  Bk Tryz.prog 151 [.pointer (some ⟨bp,0,none⟩),.slice p1 n1 c1,.slice p2 n2 c2,.slice p3 n3 c3,.func (.func 129) #[.pointer (some ⟨bp,0,none⟩)] #[]] [Uw bp b p m N nm cm ns cs ny cy nt ct pm ps py pt co Mo w ((sets.length-T.length:Nat):Int)] [Aw (Ai Ao) ps ns cs Aa,P3 b p m (p ^ m) pg ng cg pe (p ^ m-1) ce pl (p ^ m) cl,Aw Ao pe (p ^ m-1) ce (Ri p m md),Aw Ao pl (p ^ m) cl (Rl p m md),Aw (Ai Ao) pt nt ct sets,Aw Ao p1 n1 c1 s,Aw Ao p2 n2 c2 z,Aw Ao p3 n3 c3 set]
   (ChQ (fun ap=>Uw bp b p m N nm cm ns cs ny cy nt ct pm ps py pt co Mo w (ap:Nat)) sets.length (Tg (Pt rt d) s z [] (Lk z set) T)):=by
 refine Ad (F:=Gt) rfl fun C=>?_
 refine Ay 5 rfl fun hn hb _=>?_
 subst hn
 refine Ay 6 rfl fun hn hb2 _=>?_
 subst hn
 refine Ay 7 rfl fun hn hb3 _=>?_
 subst hn
 obtain ⟨G,hG⟩:∃ G,Tg (Pt rt d) s z [] (Lk z set) T=G:=⟨_,rfl⟩
 rw [hG]
 refine wk 13 cz ?_
 intro h1
 refine Ab rfl (Ae [6] rfl (Dq) rfl ?_)
 rintro _ _ _ ⟨r1,rfl,rfl,rfl⟩
 simp only [List.cons_append,List.nil_append]
 refine wk 6 cz ?_
 refine Af (X:=Nat×Row×List Int×List (List Int)) [1,4,23,24] [0,1,2,3,4,5,6,7,8] (fun x=>[(25,.int .i64 (x.1:Int)),(2,.slice (ad x.2.1.bo) x.2.2.1.length x.2.1.cap)])
  (fun x=>[(x.2.1.bo,3,x.2.1.cs),Uw bp b p m N nm cm ns cs ny cy nt ct pm ps py pt co Mo w ((sets.length-x.2.2.2.length:Nat):Int)]) (fun x=>[A3 Ao x.2.1 x.2.2.1.length x.2.2.1])
  (fun x=>x.1≤set.length∧x.2.2.1=z++Lk z (set.take x.1)∧Tg (Pt rt d) s z (Lk z (set.take x.1)) (Lk z (set.drop x.1)) x.2.2.2=G∧x.2.2.2 <:+ sets) (fun x=>set.length-x.1) (0,r1,z,T) [0] rfl rfl rfl ⟨Nat.zero_le _,(List.append_nil z).symm,hG,hT⟩ (by repeat (first|exact Fr.sub_nil _|refine Fr.sub_cons rfl ?_)) rfl rfl ?_
 rintro ⟨i,r,y,T⟩ ⟨hi,hy,hg,hT⟩ ih
 simp only [List.cons_append,List.nil_append] at hi hy hg hT ih ⊢
 by_cases hil:i<set.length
 ·obtain ⟨x,at_x⟩:∃ x,set[i]?=some x:=⟨_,List.getElem?_eq_getElem hil⟩
  have e3:set.drop i=x::set.drop (i+1):=by
   rw [List.drop_eq_getElem_cons hil];rw [List.getElem?_eq_getElem hil] at at_x;rw [Option.some.inj at_x]
  have e4:set.take (i+1)=set.take i++[x]:=by rw [List.take_add_one,at_x];rfl
  have hkd:=AGn (z:=z) hst.2 at_x
  rw [← hy] at hkd
  have hyl:y.length≤z.length+1000:=by
   have h1:=List.length_filter_le (fun i=>!decide (i∈z)) (set.take i)
   rw [hy,List.length_append]
   rw [List.length_take] at h1
   have:(Lk z (set.take i)).length≤min i set.length:=h1
   omega
  rw [e3] at hg
  by_cases hx:x∈z
  ·have Aq:=fun {r:Row}=>(Bf (pl:=ad r.bo) (nl:=y.length) (cl:=r.cap) (l:=y) (x:=x) (decide_eq_true (hkd.2 hx))).lend (e:=3) (by show y.length*8≤140737488355328;omega)
   rw [ADR hx] at hg
   have ih':=ih (i+1,r,y,T) (by dsimp only;omega) (by dsimp only;refine ⟨by omega,?_,?_,hT⟩ <;> rw [e4,Lk,List.filter_append,show ([x].filter fun i=>!decide (i∈z))=[] from ADR hx,List.append_nil] <;> assumption)
   refine wk 6 cz ?_
   intro h2 b1 o1 hz1
   refine Ab rfl (Ak 0 rfl rfl Bz fun ⟨r2,r3⟩=>?_)
   refine wk 3 cz ?_
   refine Ab rfl (Dk 0 [1] rfl rfl (Aq) rfl ?_)
   rintro _ _ _ ⟨rfl,rfl,rfl⟩
   simp only [List.cons_append,List.nil_append]
   refine wk 5 cz ?_
   exact tw (ih')
  ·have Aq:=fun {r:Row}=>(Bf (pl:=ad r.bo) (nl:=y.length) (cl:=r.cap) (l:=y) (x:=x) (decide_eq_false (mt hkd.1 hx))).lend (e:=3) (by show y.length*8≤140737488355328;omega)
   rw [ABH hx,Tg,← hy] at hg
   cases hE:Pt rt d (s++[x]) y T with
   | none =>
    rw [hE] at hg
    subst hg
    have Az:=fun {n1 c1 n2 c2:Nat}{p1 p2:Option Addr}=>hf (n1:=n1) (c1:=c1) (n2:=n2) (c2:=c2) (p1:=p1) (p2:=p2) (x:=x) (z':=y) (T:=T) hyl hT
    simp only [hE] at Az
    simp only [ChQ] at Az
    refine wk 6 cz ?_
    intro h2 b1 o1 hz1
    refine Ab rfl (Ak 0 rfl rfl Bz fun ⟨r2,r3⟩=>?_)
    refine wk 3 cz ?_
    refine Ab rfl (Dk 0 [1] rfl rfl (Aq) rfl ?_)
    rintro _ _ _ ⟨rfl,rfl,rfl⟩
    simp only [List.cons_append,List.nil_append]
    refine wk 4 cz ?_
    refine Ab rfl (Ae [9] rfl (Dq) rfl ?_)
    rintro _ _ _ ⟨r4,rfl,rfl,rfl⟩
    simp only [List.cons_append,List.nil_append]
    refine wk 2 cz ?_
    intro b2
    refine Ab rfl (Fq (z:=(x:Int)) 1 0 0 rfl rfl rfl rfl rfl B6 E3 rfl (fun w A hG=>(Dv (by first|(simp only [Ca];omega)|(simp [Ca];done)))) (by omega) _ F4 (by omega) fun r5=>?_)
    refine wk 1 cz ?_
    have Er:=fun {r:Row}{n:Nat}=>Qz (r:=r) (n:=n) (l:=y) (by omega)
    refine Ab rfl (Dk 2 [2] rfl rfl (Er) rfl ?_)
    rintro _ _ _ ⟨r'1,rfl,rfl,rfl⟩
    simp only [List.cons_append,List.nil_append] --ok
    refine Dc 0 0 rfl rfl (by show y.length*8≤140737488355328;omega) ?_
    refine Dc 1 3 rfl rfl (by show (s.length+1)*8≤140737488355328;omega) ?_
    refine Ab rfl <| AJs rfl rfl (Dk 2 [10,11,12,13,14,0,1] rfl rfl (Az) rfl ?_)
    rintro _ _ _ ⟨ap1,rfl,rfl,rfl⟩
    simp only [List.cons_append,List.nil_append]
    refine wk 8 cz ?_
    intro h3
    refine B5 3 [0] [] rfl (.tmp rfl .nil) rfl rfl rfl ⟨ap1,rfl,rfl,rfl⟩
   | some T2 =>
    rw [hE] at hg
    have Az:=fun {n1 c1 n2 c2:Nat}{p1 p2:Option Addr}=>hf (n1:=n1) (c1:=c1) (n2:=n2) (c2:=c2) (p1:=p1) (p2:=p2) (x:=x) (z':=y) (T:=T) hyl hT
    simp only [hE] at Az
    simp only [ChQ] at Az
    have ih':=fun r=>ih (i+1,r,y++[x],T2) (by dsimp only;omega) (by dsimp only;refine ⟨by omega,?_,?_,(ABm hE).trans hT⟩ <;> rw [e4,Lk,List.filter_append,show ([x].filter fun i=>!decide (i∈z))=[x] from ABH hx] <;> first|assumption|rw [hy,List.append_assoc])
    refine wk 6 cz ?_
    intro h2 b1 o1 hz1
    refine Ab rfl (Ak 0 rfl rfl Bz fun ⟨r2,r3⟩=>?_)
    refine wk 3 cz ?_
    refine Ab rfl (Dk 0 [1] rfl rfl (Aq) rfl ?_)
    rintro _ _ _ ⟨rfl,rfl,rfl⟩
    simp only [List.cons_append,List.nil_append]
    refine wk 4 cz ?_
    refine Ab rfl (Ae [9] rfl (Dq) rfl ?_)
    rintro _ _ _ ⟨r4,rfl,rfl,rfl⟩
    simp only [List.cons_append,List.nil_append]
    refine wk 2 cz ?_
    intro b2
    refine Ab rfl (Fq (z:=(x:Int)) 1 0 0 rfl rfl rfl rfl rfl B6 E3 rfl (fun w A hG=>(Dv (by first|(simp only [Ca];omega)|(simp [Ca];done)))) (by omega) _ F4 (by omega) fun r5=>?_)
    refine wk 1 cz ?_
    have Er:=fun {r:Row}{n:Nat}=>Qz (r:=r) (n:=n) (l:=y) (by omega)
    refine Ab rfl (Dk 2 [2] rfl rfl (Er) rfl ?_)
    rintro _ _ _ ⟨r'1,rfl,rfl,rfl⟩
    simp only [List.cons_append,List.nil_append] --ok
    refine Dc 0 0 rfl rfl (by show y.length*8≤140737488355328;omega) ?_
    refine Dc 1 3 rfl rfl (by show (s.length+1)*8≤140737488355328;omega) ?_
    dsimp only at ih'
    simp only [List.length_append,List.length_singleton] at ih'
    refine Ab rfl <| AJs rfl rfl (Dk 2 [10,11,12,13,14,0,1] rfl rfl (Az) rfl ?_)
    rintro _ _ _ ⟨rfl,rfl,rfl⟩
    simp only [List.cons_append,List.nil_append]
    refine wk 8 cz ?_
    intro h3 b3
    refine Ab rfl (Fq (z:=(x:Int)) 2 0 3 rfl rfl rfl rfl rfl B6 E3 rfl (fun w A hG=>(Dv (by first|(simp only [Ca];omega)|(simp [Ca];done)))) (by omega) _ F4 (by omega) fun r6=>?_)
    refine wk 4 cz ?_
    refine Ml 4 [0,2] rfl rfl ?_
    exact tw (ih' r6)
 ·obtain rfl:i=set.length:=by omega
  rw [List.drop_length] at hg
  obtain rfl:some T=G:=hg
  refine wk 7 cz ?_
  intro h2
  refine B5 2 [1] [] rfl (.tmp rfl .nil) rfl rfl rfl ⟨rfl,rfl,rfl⟩
end
open Go Go.Fw
set_option maxRecDepth 100000
set_option linter.unusedVariables false
set_option linter.unusedSimpArgs false
set_option maxHeartbeats 0
section
variable {p m N b bp nm cm ns cs ny cy nt ct:Nat}{pm ps py pt:Option Addr}{Mo w ap:Int}{md:List Int}{Aa:List (List Int)}
theorem Nu {ng cg ce cl n1 c1 n2 c2:Nat}{pg pe pl p1 p2:Option Addr}{s set:List Int}(K:Fok p m md) (hM:Dy (p ^ m) N Aa) (hr1:1≤Aa.length) (hr:Aa.length≤1000000) (hN:N≤1000) :
  Bk Tryz.prog 150 [.pointer (some ⟨bp,0,none⟩),.slice p1 n1 c1,.slice p2 n2 c2] [Uw bp b p m N nm cm ns cs ny cy nt ct pm ps py pt false Mo w ap] [Aw (Ai Ao) ps ns cs Aa,P3 b p m (p ^ m) pg ng cg pe (p ^ m-1) ce pl (p ^ m) cl,Aw Ao pe (p ^ m-1) ce (Ri p m md),Aw Ao pl (p ^ m) cl (Rl p m md),Aw Ao p1 n1 c1 s,Aw Ao p2 n2 c2 set]
   (fun v Φ β=>v = .bool (Rn p m md N Aa Mo s set)∧Φ=[]∧β=[Uw bp b p m N nm cm ns cs ny cy nt ct pm ps py pt false Mo w ap]):=by
 refine Ad (F:=N4) rfl fun C=>?_
 refine Ay 5 rfl fun hn hb _=>?_
 subst hn
 have hb':set.length*8≤140737488355328:=hb
 have O:=Is K
 have hq:=K.q
 refine wk 7 cz ?_
 refine Af (X:=Nat) [0,1,2,9,10] [0,1,2,3,4,5] (fun i=>[(11,.int .i64 (i:Int))]) (fun _=>[Uw bp b p m N nm cm ns cs ny cy nt ct pm ps py pt false Mo w ap]) (fun _=>[]) (fun i=>i≤set.length∧(∀ j,j<i→stA N set j)∧∀ x∈set.take i,x∉s) (fun i=>set.length-i) 0 [] rfl rfl rfl ⟨Nat.zero_le _,(fun j h=>absurd h (Nat.not_lt_zero j)),fun x h=>absurd h List.not_mem_nil⟩ (by repeat (first|exact Fr.sub_nil _|refine Fr.sub_cons rfl ?_)) rfl rfl ?_
 rintro i ⟨hi,hno,hns⟩ ih
 simp only [List.cons_append,List.nil_append] at hi ih ⊢
 by_cases h9:i<set.length
 ·obtain ⟨x,at_x⟩:∃ x,set[i]?=some x:=⟨_,List.getElem?_eq_getElem h9⟩
  have bad:¬ stA N set i→Rn p m md N Aa Mo s set=false:=fun h=>by
   rw [Rn,decide_eq_false (AHd h9 h)];rfl
  have good:stA N set i→x∉s→(∀ j,j<i+1→stA N set j)∧∀ z∈set.take (i+1),z∉s:=fun h hx=>⟨fun j hj=>by
   rcases Nat.lt_succ_iff_lt_or_eq.1 hj with h1|rfl
   ·exact hno j h1
   ·exact h,fun z hz=>by
    rw [List.take_add_one,at_x] at hz
    rcases List.mem_append.1 hz with hz|hz
    ·exact hns z hz
    ·rw [List.mem_singleton.1 hz];exact hx⟩
  by_cases a0:x<0
  ·rw [bad fun h=>by have:=(h x at_x).1;omega]
   refine Bd [_,_,_,_,_] rfl ?_
   refine Ax it 1 rfl (by simp) ?_
   refine Bd [_,_,_,_,_] rfl ?_
   refine Xc rfl rfl (fun h1=>?_) (fun h1=>by exfalso;omega)
   refine Bd [_,_,_,_,_,_,_] rfl ?_
   refine Ax it 1 rfl (by simp) ?_
   refine Ab rfl (Ds 5 (i) rfl rfl rfl B6 rfl (by omega) fun z1 hz1 b1 o1=>?_)
   obtain rfl:_=z1:=Option.some.inj (at_x.symm.trans hz1)
   refine Ab rfl (Ak 0 rfl rfl Bz fun ⟨r1,r2⟩=>?_)
   refine Ax it 2 rfl (by simp) ?_
   refine Bd [_,_,_,_,_,_,_] rfl ?_
   refine Ax it 3 rfl (by simp) ?_
   refine Bj (t:=18) rfl (fun h2=>?_) (fun h2=>by exfalso;omega)
   refine Ax it 12 rfl (by simp) ?_
   refine Ek rfl rfl ?_
   refine Ek rfl rfl ?_
   refine Ek rfl rfl ?_
   refine Ek rfl rfl ?_
   refine Ek rfl rfl ?_
   refine Ek rfl rfl ?_
   refine Ek rfl rfl ?_
   refine Ax it 7 rfl (by simp) ?_
   refine Bd [_,_,_,_,_,_] rfl ?_
   refine Sa rfl rfl ?_
   refine Bd [_,_,_,_,_,_,_] rfl ?_
   refine Ax it 1 rfl (by simp) ?_
   refine Bd [_,_,_,_,_,_] rfl ?_
   refine B5 1 [0] [] rfl (.tmp rfl .nil) rfl rfl rfl ⟨rfl,rfl,rfl⟩
  ·by_cases a1:(N:Int)≤x
   ·rw [bad fun h=>by have:=(h x at_x).1;omega]
    refine Bd [_,_,_,_,_] rfl ?_
    refine Ax it 1 rfl (by simp) ?_
    refine Bd [_,_,_,_,_] rfl ?_
    refine Xc rfl rfl (fun h1=>?_) (fun h1=>by exfalso;omega)
    refine Bd [_,_,_,_,_,_,_] rfl ?_
    refine Ax it 1 rfl (by simp) ?_
    refine Ab rfl (Ds 5 (i) rfl rfl rfl B6 rfl (by omega) fun z1 hz1 b1 o1=>?_)
    obtain rfl:_=z1:=Option.some.inj (at_x.symm.trans hz1)
    refine Ab rfl (Ak 0 rfl rfl Bz fun ⟨r1,r2⟩=>?_)
    refine Ax it 2 rfl (by simp) ?_
    refine Bd [_,_,_,_,_,_,_] rfl ?_
    refine Ax it 3 rfl (by simp) ?_
    refine Bj (t:=18) rfl (fun h2=>by exfalso;omega) (fun h2=>?_)
    refine Ax it 3 rfl (by simp) ?_
    refine A2 rfl rfl (As rfl Xz ?_)
    refine A2 rfl rfl (As rfl P5 ?_)
    refine A2 rfl rfl (Do 0 rfl rfl Bz rfl ?_)
    refine Ax it 3 rfl (by simp) ?_
    refine Bj (t:=27) rfl (fun h3=>?_) (fun h3=>by exfalso;omega)
    refine Ax it 3 rfl (by simp) ?_
    refine Ek rfl rfl ?_
    refine Ek rfl rfl ?_
    refine Ek rfl rfl ?_
    refine Ek rfl rfl ?_
    refine Ek rfl rfl ?_
    refine Ek rfl rfl ?_
    refine Ek rfl rfl ?_
    refine Ax it 7 rfl (by simp) ?_
    refine Bd [_,_,_,_,_,_] rfl ?_
    refine Sa rfl rfl ?_
    refine Bd [_,_,_,_,_,_,_] rfl ?_
    refine Ax it 1 rfl (by simp) ?_
    refine Bd [_,_,_,_,_,_] rfl ?_
    refine B5 1 [0] [] rfl (.tmp rfl .nil) rfl rfl rfl ⟨rfl,rfl,rfl⟩
   ·have hin:∀ h:x∈s,Rn p m md N Aa Mo s set=false:=fun h=>by
     rw [Rn,List.any_eq_true.2 ⟨x,List.mem_of_getElem? at_x,decide_eq_true h⟩];simp
    rcases Nat.eq_zero_or_pos i with hi0|hi0
    ·subst hi0
     by_cases a3:x∈s
     ·rw [hin a3]
      have Aq:=fun {pl:Option Addr}{nl cl:Nat}=>Bf (pl:=pl) (nl:=nl) (cl:=cl) (l:=s) (x:=x) (decide_eq_true a3)
      refine wk 6 cz ?_
      intro h1
      refine Ab rfl (Ds 5 (0) rfl rfl rfl B6 rfl (by omega) fun z1 hz1 b1 o1=>?_)
      obtain rfl:_=z1:=Option.some.inj (at_x.symm.trans hz1)
      refine wk 15 cz ?_
      intro _ r1 r2 h2
      refine Bj (t:=27) rfl (fun h3=>by exfalso;omega) (fun h3=>?_)
      refine wk 1 cz ?_
      refine A2 rfl rfl (Ae [5] rfl (Aq) rfl ?_)
      rintro _ _ _ ⟨rfl,rfl,rfl⟩
      simp only [List.cons_append,List.nil_append]
      refine wk 6 cz ?_
      refine B5 1 [0] [] rfl (.tmp rfl .nil) rfl rfl rfl ⟨rfl,rfl,rfl⟩
     ·have Aq:=fun {pl:Option Addr}{nl cl:Nat}=>Bf (pl:=pl) (nl:=nl) (cl:=cl) (l:=s) (x:=x) (decide_eq_false a3)
      refine wk 6 cz ?_
      intro h1
      refine Ab rfl (Ds 5 (0) rfl rfl rfl B6 rfl (by omega) fun z1 hz1 b1 o1=>?_)
      obtain rfl:_=z1:=Option.some.inj (at_x.symm.trans hz1)
      refine wk 15 cz ?_
      intro _ r1 r2 h2
      refine Bj (t:=27) rfl (fun h3=>by exfalso;omega) (fun h3=>?_)
      refine wk 1 cz ?_
      refine A2 rfl rfl (Ae [5] rfl (Aq) rfl ?_)
      rintro _ _ _ ⟨rfl,rfl,rfl⟩
      simp only [List.cons_append,List.nil_append]
      refine wk 6 cz ?_
      exact tw (ih 1 (by omega) ⟨by omega,good (fun z hz=>by
       rw [at_x] at hz;obtain rfl:=Option.some.inj hz
       exact ⟨by omega,fun y h=>by omega⟩) a3⟩)
    ·obtain ⟨k,rfl⟩:∃ k,i=k+1:=⟨i-1,by omega⟩
     obtain ⟨y,at_y⟩:∃ y,set[k]?=some y:=⟨_,List.getElem?_eq_getElem (by omega)⟩
     by_cases a2:x≤y
     ·rw [bad fun h=>by have:=(h x at_x).2 y (by omega) at_y;omega]
      refine Bd [_,_,_,_,_] rfl ?_
      refine Ax it 1 rfl (by simp) ?_
      refine Bd [_,_,_,_,_] rfl ?_
      refine Xc rfl rfl (fun h1=>?_) (fun h1=>by exfalso;omega)
      refine Bd [_,_,_,_,_,_,_] rfl ?_
      refine Ax it 1 rfl (by simp) ?_
      refine Ab rfl (Ds 5 (k+1) rfl rfl rfl B6 rfl (by omega) fun z1 hz1 b1 o1=>?_)
      obtain rfl:_=z1:=Option.some.inj (at_x.symm.trans hz1)
      refine Ab rfl (Ak 0 rfl rfl Bz fun ⟨r1,r2⟩=>?_)
      refine Ax it 2 rfl (by simp) ?_
      refine Bd [_,_,_,_,_,_,_] rfl ?_
      refine Ax it 3 rfl (by simp) ?_
      refine Bj (t:=18) rfl (fun h2=>by exfalso;omega) (fun h2=>?_)
      refine Ax it 3 rfl (by simp) ?_
      refine A2 rfl rfl (As rfl Xz ?_)
      refine A2 rfl rfl (As rfl P5 ?_)
      refine A2 rfl rfl (Do 0 rfl rfl Bz rfl ?_)
      refine Ax it 3 rfl (by simp) ?_
      refine Bj (t:=27) rfl (fun h3=>by exfalso;omega) (fun h3=>?_)
      refine Ax it 3 rfl (by simp) ?_
      refine Bj (t:=30) rfl (fun h4=>?_) (fun h4=>by exfalso;omega)
      refine Ax it 4 rfl ⟨⟨by omega,by omega⟩,trivial,trivial,trivial,trivial⟩ ?_
      refine A2 rfl rfl (Ds 6 ((k+1)-1) rfl rfl rfl B6 (by omega) (by omega) fun z1 hz2 b2 o2=>?_)
      obtain rfl:_=z1:=Option.some.inj (at_y.symm.trans hz2)
      refine A2 rfl rfl (Ak 0 rfl rfl Bz fun ⟨r3,r4⟩=>?_)
      refine Ax it 4 rfl (by simp) ?_
      refine Bj (t:=40) rfl (fun h5=>?_) (fun h5=>by exfalso;omega)
      refine Ax it 4 rfl (by simp) ?_
      refine Bd [_,_,_,_,_,_] rfl ?_
      refine Sa rfl rfl ?_
      refine Bd [_,_,_,_,_,_,_] rfl ?_
      refine Ax it 1 rfl (by simp) ?_
      refine Bd [_,_,_,_,_,_] rfl ?_
      refine B5 1 [0] [] rfl (.tmp rfl .nil) rfl rfl rfl ⟨rfl,rfl,rfl⟩
     ·by_cases a3:x∈s
      ·rw [hin a3]
       have Aq:=fun {pl:Option Addr}{nl cl:Nat}=>Bf (pl:=pl) (nl:=nl) (cl:=cl) (l:=s) (x:=x) (decide_eq_true a3)
       refine Bd [_,_,_,_,_] rfl ?_
       refine Ax it 1 rfl (by simp) ?_
       refine Bd [_,_,_,_,_] rfl ?_
       refine Xc rfl rfl (fun h1=>?_) (fun h1=>by exfalso;omega)
       refine Bd [_,_,_,_,_,_,_] rfl ?_
       refine Ax it 1 rfl (by simp) ?_
       refine Ab rfl (Ds 5 (k+1) rfl rfl rfl B6 rfl (by omega) fun z1 hz1 b1 o1=>?_)
       obtain rfl:_=z1:=Option.some.inj (at_x.symm.trans hz1)
       refine Ab rfl (Ak 0 rfl rfl Bz fun ⟨r1,r2⟩=>?_)
       refine Ax it 2 rfl (by simp) ?_
       refine Bd [_,_,_,_,_,_,_] rfl ?_
       refine Ax it 3 rfl (by simp) ?_
       refine Bj (t:=18) rfl (fun h2=>by exfalso;omega) (fun h2=>?_)
       refine Ax it 3 rfl (by simp) ?_
       refine A2 rfl rfl (As rfl Xz ?_)
       refine A2 rfl rfl (As rfl P5 ?_)
       refine A2 rfl rfl (Do 0 rfl rfl Bz rfl ?_)
       refine Ax it 3 rfl (by simp) ?_
       refine Bj (t:=27) rfl (fun h3=>by exfalso;omega) (fun h3=>?_)
       refine Ax it 3 rfl (by simp) ?_
       refine Bj (t:=30) rfl (fun h4=>?_) (fun h4=>by exfalso;omega)
       refine Ax it 4 rfl ⟨⟨by omega,by omega⟩,trivial,trivial,trivial,trivial⟩ ?_
       refine A2 rfl rfl (Ds 6 ((k+1)-1) rfl rfl rfl B6 (by omega) (by omega) fun z1 hz2 b2 o2=>?_)
       obtain rfl:_=z1:=Option.some.inj (at_y.symm.trans hz2)
       refine A2 rfl rfl (Ak 0 rfl rfl Bz fun ⟨r3,r4⟩=>?_)
       refine Ax it 4 rfl (by simp) ?_
       refine Bj (t:=40) rfl (fun h5=>by exfalso;omega) (fun h5=>?_)
       refine Ax it 2 rfl (by simp) ?_
       refine A2 rfl rfl (Ae [6] rfl (Aq) rfl ?_)
       rintro _ _ _ ⟨rfl,rfl,rfl⟩
       simp only [List.cons_append,List.nil_append]
       refine Ax it 1 rfl (by simp) ?_
       refine Bd [_,_,_,_,_,_] rfl ?_
       refine Sa rfl rfl ?_
       refine Bd [_,_,_,_,_,_,_] rfl ?_
       refine Ax it 1 rfl (by simp) ?_
       refine Bd [_,_,_,_,_,_] rfl ?_
       refine B5 1 [0] [] rfl (.tmp rfl .nil) rfl rfl rfl ⟨rfl,rfl,rfl⟩
      ·have Aq:=fun {pl:Option Addr}{nl cl:Nat}=>Bf (pl:=pl) (nl:=nl) (cl:=cl) (l:=s) (x:=x) (decide_eq_false a3)
       refine Bd [_,_,_,_,_] rfl ?_
       refine Ax it 1 rfl (by simp) ?_
       refine Bd [_,_,_,_,_] rfl ?_
       refine Xc rfl rfl (fun h1=>?_) (fun h1=>by exfalso;omega)
       refine Bd [_,_,_,_,_,_,_] rfl ?_
       refine Ax it 1 rfl (by simp) ?_
       refine Ab rfl (Ds 5 (k+1) rfl rfl rfl B6 rfl (by omega) fun z1 hz1 b1 o1=>?_)
       obtain rfl:_=z1:=Option.some.inj (at_x.symm.trans hz1)
       refine Ab rfl (Ak 0 rfl rfl Bz fun ⟨r1,r2⟩=>?_)
       refine Ax it 2 rfl (by simp) ?_
       refine Bd [_,_,_,_,_,_,_] rfl ?_
       refine Ax it 3 rfl (by simp) ?_
       refine Bj (t:=18) rfl (fun h2=>by exfalso;omega) (fun h2=>?_)
       refine Ax it 3 rfl (by simp) ?_
       refine A2 rfl rfl (As rfl Xz ?_)
       refine A2 rfl rfl (As rfl P5 ?_)
       refine A2 rfl rfl (Do 0 rfl rfl Bz rfl ?_)
       refine Ax it 3 rfl (by simp) ?_
       refine Bj (t:=27) rfl (fun h3=>by exfalso;omega) (fun h3=>?_)
       refine Ax it 3 rfl (by simp) ?_
       refine Bj (t:=30) rfl (fun h4=>?_) (fun h4=>by exfalso;omega)
       refine Ax it 4 rfl ⟨⟨by omega,by omega⟩,trivial,trivial,trivial,trivial⟩ ?_
       refine A2 rfl rfl (Ds 6 ((k+1)-1) rfl rfl rfl B6 (by omega) (by omega) fun z1 hz2 b2 o2=>?_)
       obtain rfl:_=z1:=Option.some.inj (at_y.symm.trans hz2)
       refine A2 rfl rfl (Ak 0 rfl rfl Bz fun ⟨r3,r4⟩=>?_)
       refine Ax it 4 rfl (by simp) ?_
       refine Bj (t:=40) rfl (fun h5=>by exfalso;omega) (fun h5=>?_)
       refine Ax it 2 rfl (by simp) ?_
       refine A2 rfl rfl (Ae [6] rfl (Aq) rfl ?_)
       rintro _ _ _ ⟨rfl,rfl,rfl⟩
       simp only [List.cons_append,List.nil_append]
       refine Ax it 1 rfl (by simp) ?_
       refine Bd [_,_,_,_,_,_] rfl ?_
       refine S9 rfl rfl ?_
       refine Bd [_,_,_,_] rfl ?_
       refine Ax it 2 rfl ⟨trivial,⟨by omega,by omega⟩,trivial⟩ ?_
       refine AC4 1 [.lp [1,0,1,0,0],.blk 0,.c [1,1]] rfl ?_
       exact tw (ih (k+2) (by omega) ⟨by omega,good (fun z hz=>by
        rw [at_x] at hz;obtain rfl:=Option.some.inj hz
        exact ⟨by omega,fun y' h hy=>by rw [show k+1-1=k by omega,at_y] at hy;obtain rfl:=Option.some.inj hy;omega⟩) a3⟩)
 ·obtain rfl:i=set.length:=by omega
  rw [List.take_length] at hns
  have hst:stP N set:=ACj.2 hno
  have e1:decide (stP (N:Int) set)=true:=decide_eq_true hst
  have e2:(set.any fun x=>decide (x∈s))=false:=List.any_eq_false.2 fun x hx=>by rw [decide_eq_true_eq];exact hns x hx
  have hgr:=O.gr_piv (V:=He p m md) hM (set:=set)
  have hln:set.length≤N:=by
   have h1:(set.map Int.toNat).Nodup:=by
    rw [List.Nodup,List.pairwise_map]
    refine hst.2.imp_of_mem fun {a b} ha hb hab e=>?_
    have:=(hst.1 a ha).1;have:=(hst.1 b hb).1
    omega
   have h2:=Lu h1 (l':=List.range N) fun x hx=>by
    obtain ⟨y,hy,rfl⟩:=List.mem_map.1 hx
    have:=hst.1 y hy
    exact List.mem_range.2 (by omega)
   rwa [List.length_map,List.length_range] at h2
  have Hg:=fun {ng cg ce cl no co':Nat}{pg pe pl po:Option Addr}=>Mz (p:=p) (m:=m) (N:=N) (b:=b) (bp:=bp) (nm:=nm) (cm:=cm) (ns:=ns) (cs:=cs) (ny:=ny) (cy:=cy) (nt:=nt) (ct:=ct) (pm:=pm) (ps:=ps) (py:=py) (pt:=pt) (co:=false) (Mo:=Mo) (w:=w) (ap:=ap) (ng:=ng) (cg:=cg) (ce:=ce) (cl:=cl) (most:=set.length) (no:=no) (co':=co') (pg:=pg) (pe:=pe) (pl:=pl) (po:=po) (o:=set) K hM hr1 hr hst.1 (by omega) (by omega)
  by_cases hg:(grP p m md Aa set.length set [] [] []).length=set.length
  ·have e3:Rn p m md N Aa Mo s set=decide ((set.length:Int)=Mo):=by
    rw [Rn,e1,e2,decide_eq_true (hgr.1 hg)];rfl
   rw [e3]
   refine wk 7 cz ?_
   intro h1
   refine Ab rfl (Dk 0 [0,1,2,3,5] rfl rfl (Hg) rfl ?_)
   rintro _ _ _ ⟨r1,rfl,rfl,rfl⟩
   simp only [List.cons_append,List.nil_append]
   refine wk 21 cz ?_
   intro h2
   refine B5 2 [0] [] rfl (.tmp rfl .nil) rfl rfl rfl ⟨rfl,rfl,rfl⟩
  ·have e3:Rn p m md N Aa Mo s set=false:=by
    rw [Rn,e1,e2,decide_eq_false (mt hgr.2 hg)];rfl
   rw [e3]
   refine wk 7 cz ?_
   intro h1
   refine Ab rfl (Dk 0 [0,1,2,3,5] rfl rfl (Hg) rfl ?_)
   rintro _ _ _ ⟨r1,rfl,rfl,rfl⟩
   simp only [List.cons_append,List.nil_append]
   refine wk 9 cz ?_
   intro h2
   refine B5 2 [0] [] rfl (.tmp rfl .nil) rfl rfl rfl ⟨rfl,rfl,rfl⟩
end
open Go Go.Fw
set_option maxRecDepth 100000
set_option linter.unusedVariables false
set_option linter.unusedSimpArgs false
set_option maxHeartbeats 0
theorem AGZ {p m N:Nat}{md s set:List Int}{Aa:List (List Int)}{k:Int}(h:Rn p m md N Aa k s set=true):stP N set:=by
 rw [Rn,Bool.and_eq_true,Bool.and_eq_true,Bool.and_eq_true] at h
 exact of_decide_eq_true h.1.1.1
theorem ABd {rt:List Int→List Int→Bool}{d:Nat}{s z:List Int}:Pt rt d s z []=none:=by
 cases d <;> rw [Pt]
theorem AJo {rt:List Int→List Int→Bool}{d:Nat}{s z x:List Int}{T:List (List Int)}(h:rt s x=false):Pt rt d s z (x::T)=none:=by
 cases d <;> rw [Pt,h] <;> rfl
theorem Bk.weak {P:Program}{f:FuncId}{args:List Value}{β:List Ba}{Γ Γ':List Fact}{Q:Value→List Fact→List Ba→Prop}(h:Bk P f args β Γ Q) (hs:∀ g∈Γ,g∈Γ'):Bk P f args β Γ' Q:=⟨h.1,fun w A h1 h2 h3 h4=>h.2 w A h1 h2 h3 fun g hg=>h4 g (hs g hg)⟩
theorem AJ1 {x:List Int}{T sets:List (List Int)}(h:(x::T) <:+ sets):T.length+1≤sets.length∧sets[sets.length-(T.length+1)]?=some x:=by
 obtain ⟨l,rfl⟩:=h
 refine ⟨by rw [List.length_append,List.length_cons];omega,?_⟩
 rw [List.length_append,List.length_cons,List.getElem?_append_right (by omega),show l.length+(T.length+1)-(T.length+1)-l.length=0 by omega]
 rfl
section
variable {p m N b bp nm cm ns cs ny cy nt ct:Nat}{pm ps py pt:Option Addr}{Mo w:Int}{md:List Int}{Aa sets:List (List Int)}
theorem AGV {ng cg ce cl n1 c1 n2 c2:Nat}{pg pe pl p1 p2:Option Addr}{s set:List Int}{ap:Int}{res:Bool}(K:Fok p m md) (hM:Dy (p ^ m) N Aa) (hr1:1≤Aa.length) (hr:Aa.length≤1000000) (hN:N≤1000) (h:Rn p m md N Aa Mo s set=res) :
  Bk Tryz.prog 150 [.pointer (some ⟨bp,0,none⟩),.slice p1 n1 c1,.slice p2 n2 c2] [Uw bp b p m N nm cm ns cs ny cy nt ct pm ps py pt false Mo w ap] [Aw (Ai Ao) ps ns cs Aa,P3 b p m (p ^ m) pg ng cg pe (p ^ m-1) ce pl (p ^ m) cl,Aw Ao pe (p ^ m-1) ce (Ri p m md),Aw Ao pl (p ^ m) cl (Rl p m md),Aw Ao p1 n1 c1 s,Aw Ao p2 n2 c2 set]
   (fun v Φ β=>v = .bool res∧Φ=[]∧β=[Uw bp b p m N nm cm ns cs ny cy nt ct pm ps py pt false Mo w ap]):=h▸Nu K hM hr1 hr hN
theorem Ze {n1 c1 n2 c2:Nat}{p1 p2:Option Addr} :
  Bk Tryz.prog 129 [.pointer (some ⟨bp,0,none⟩),.slice p1 n1 c1,.slice p2 n2 c2] [Uw bp b p m N nm cm ns cs ny cy nt ct pm ps py pt false Mo w ((sets.length-([]:List (List Int)).length:Nat):Int)] [Aw (Ai Ao) pt nt ct sets]
   (ChQ (fun ap=>Uw bp b p m N nm cm ns cs ny cy nt ct pm ps py pt false Mo w (ap:Nat)) sets.length none):=by
 refine Ad (F:=H4) rfl fun C=>?_
 refine Ay 0 rfl fun hn hb _=>?_
 subst hn
 have e0:([]:List (List Int)).length=0:=rfl
 refine wk 9 cz ?_
 refine B5 1 [0] [] rfl (.tmp rfl .nil) rfl rfl rfl ⟨_,rfl,rfl,rfl⟩
theorem W8 {ng cg ce cl n1 c1 n2 c2:Nat}{pg pe pl p1 p2:Option Addr}{s z x:List Int}{T:List (List Int)}{R:Option (List (List Int))}(K:Fok p m md) (hM:Dy (p ^ m) N Aa) (hr1:1≤Aa.length) (hr:Aa.length≤1000000) (hN:N≤1000) (hT:(x::T) <:+ sets)
  (hch:Rn p m md N Aa Mo s x=true→∀ {n1 c1 n2 c2 n3 c3:Nat}{p1 p2 p3:Option Addr},Bk Tryz.prog 151 [.pointer (some ⟨bp,0,none⟩),.slice p1 n1 c1,.slice p2 n2 c2,.slice p3 n3 c3,.func (.func 129) #[.pointer (some ⟨bp,0,none⟩)] #[]] [Uw bp b p m N nm cm ns cs ny cy nt ct pm ps py pt false Mo w ((sets.length-T.length:Nat):Int)] [Aw (Ai Ao) ps ns cs Aa,P3 b p m (p ^ m) pg ng cg pe (p ^ m-1) ce pl (p ^ m) cl,Aw Ao pe (p ^ m-1) ce (Ri p m md),Aw Ao pl (p ^ m) cl (Rl p m md),Aw (Ai Ao) pt nt ct sets,Aw Ao p1 n1 c1 s,Aw Ao p2 n2 c2 z,Aw Ao p3 n3 c3 x]
   (ChQ (fun ap=>Uw bp b p m N nm cm ns cs ny cy nt ct pm ps py pt false Mo w (ap:Nat)) sets.length R)) :
  Bk Tryz.prog 129 [.pointer (some ⟨bp,0,none⟩),.slice p1 n1 c1,.slice p2 n2 c2] [Uw bp b p m N nm cm ns cs ny cy nt ct pm ps py pt false Mo w ((sets.length-(x::T).length:Nat):Int)] [Aw (Ai Ao) ps ns cs Aa,P3 b p m (p ^ m) pg ng cg pe (p ^ m-1) ce pl (p ^ m) cl,Aw Ao pe (p ^ m-1) ce (Ri p m md),Aw Ao pl (p ^ m) cl (Rl p m md),Aw (Ai Ao) pt nt ct sets,Aw Ao p1 n1 c1 s,Aw Ao p2 n2 c2 z]
   (ChQ (fun ap=>Uw bp b p m N nm cm ns cs ny cy nt ct pm ps py pt false Mo w (ap:Nat)) sets.length (if Rn p m md N Aa Mo s x=true then R else none)):=by
 refine Ad (F:=H4) rfl fun C=>?_
 refine Ay 4 rfl fun hn hb _=>?_
 subst hn
 have hb':sets.length*24≤140737488355328:=hb
 have e0:(x::T).length=T.length+1:=rfl
 obtain ⟨hk,at_x⟩:=AJ1 hT
 have hgx:sets.getD (sets.length-(T.length+1)) default=x:=by rw [List.getD_eq_getElem?_getD,at_x];rfl
 have E9:=fun {ng cg ce cl n1 c1 n2 c2:Nat}{pg pe pl p1 p2:Option Addr}{s set:List Int}{ap:Int}{res:Bool}(h:Rn p m md N Aa Mo s set=res)=>AGV (p:=p) (m:=m) (N:=N) (b:=b) (bp:=bp) (nm:=nm) (cm:=cm) (ns:=ns) (cs:=cs) (ny:=ny) (cy:=cy) (nt:=sets.length) (ct:=ct) (pm:=pm) (ps:=ps) (py:=py) (pt:=pt) (Mo:=Mo) (w:=w) (ap:=ap) (Aa:=Aa) (ng:=ng) (cg:=cg) (ce:=ce) (cl:=cl) (n1:=n1) (c1:=c1) (n2:=n2) (c2:=c2) (pg:=pg) (pe:=pe) (pl:=pl) (p1:=p1) (p2:=p2) (s:=s) (set:=set) K hM hr1 hr hN h
 rw [e0]
 obtain ⟨k,hk2⟩:∃ k,sets.length-(T.length+1)=k:=⟨_,rfl⟩
 rw [hk2] at at_x hgx ⊢
 cases hrt:Rn p m md N Aa Mo s x with
 | false =>
  rw [← hgx] at hrt
  rw [if_neg (by simp)]
  refine wk 3 cz ?_
  (apply B9 it mx 23;(· rfl);(· rfl))
  (apply Am 2;(· rfl);(· simp))
  (apply Ac;(· rfl);(· exact Bc fun _=>As rfl Nl Ag))
  (apply Ac;(· rfl);(· exact Be 0 rfl rfl Bz rfl))
  (apply Am 2;(· rfl);(· simp))
  (apply Ac;(· rfl);(· exact Bc fun _=>As rfl Nq Ag))
  (apply Ac;(· rfl);(· exact Be 0 rfl rfl Lf rfl))
  (apply Ac;(· rfl);(· exact Bc fun _=>Jq Du rfl Ag))
  (apply Ac;(· rfl);(· exact Bc fun _=>Ll it rfl (by trivial) (by omega) Ag))
  (apply Am 5;(· rfl);(· simp))
  (apply Ac;(· rfl);(· exact Bc fun _=>As rfl Nq Ag))
  (apply Ac;(· rfl);(· exact Be 0 rfl rfl Lf rfl))
  (apply Am 2;(· rfl);(· simp))
  (apply Ac;(· rfl);(· exact Bc fun _=>As rfl Nl Ag))
  (apply Ac;(· rfl);(· exact Be 0 rfl rfl Bz rfl))
  (apply Fl;(· rfl);(· exact Bc fun _=>Ds 4 (k) rfl rfl rfl Du rfl (by omega) fun z1 hz1 b1 o1=>(Fg default hz1 0 rfl));intro b1 o1)
  (apply Co;(· rfl);(· exact Bc fun _=>Gp 0 rfl rfl C8 fun pa1 ca1=>(D6 0 rfl));intro pa1 ca1)
  refine Bx rfl ?_
  simp only [List.map_cons,List.map_nil,List.cons_append,List.nil_append]
  refine A2 rfl rfl (Dk 0 [2,3,4,5,7,0] rfl rfl (E9 (by omega)) rfl ?_)
  rintro _ _ _ ⟨rfl,rfl,rfl⟩
  simp only [List.cons_append,List.nil_append]
  refine wk 6 cz ?_
  refine B5 1 [0] [] rfl (.tmp rfl .nil) rfl rfl rfl ⟨_,rfl,rfl,rfl⟩
 | true =>
  have hch':=@hch hrt
  rw [if_pos rfl]
  rw [← hgx] at hrt hch'
  have hk3:sets.length-T.length=k+1:=by omega
  rw [hk3] at hch'
  clear hch
  cases R with
  | none =>
   simp only [ChQ] at hch' ⊢
   have Eb:=fun {n1 c1 n2 c2 n3 c3:Nat}{p1 p2 p3:Option Addr}=>hch' (n1:=n1) (c1:=c1) (n2:=n2) (c2:=c2) (n3:=n3) (c3:=c3) (p1:=p1) (p2:=p2) (p3:=p3)
   refine wk 3 cz ?_
   (apply B9 it mx 23;(· rfl);(· rfl))
   (apply Am 2;(· rfl);(· simp))
   (apply Ac;(· rfl);(· exact Bc fun _=>As rfl Nl Ag))
   (apply Ac;(· rfl);(· exact Be 0 rfl rfl Bz rfl))
   (apply Am 2;(· rfl);(· simp))
   (apply Ac;(· rfl);(· exact Bc fun _=>As rfl Nq Ag))
   (apply Ac;(· rfl);(· exact Be 0 rfl rfl Lf rfl))
   (apply Ac;(· rfl);(· exact Bc fun _=>Jq Du rfl Ag))
   (apply Ac;(· rfl);(· exact Bc fun _=>Ll it rfl (by trivial) (by omega) Ag))
   (apply Am 5;(· rfl);(· simp))
   (apply Ac;(· rfl);(· exact Bc fun _=>As rfl Nq Ag))
   (apply Ac;(· rfl);(· exact Be 0 rfl rfl Lf rfl))
   (apply Am 2;(· rfl);(· simp))
   (apply Ac;(· rfl);(· exact Bc fun _=>As rfl Nl Ag))
   (apply Ac;(· rfl);(· exact Be 0 rfl rfl Bz rfl))
   (apply Fl;(· rfl);(· exact Bc fun _=>Ds 4 (k) rfl rfl rfl Du rfl (by omega) fun z1 hz1 b1 o1=>(Fg default hz1 0 rfl));intro b1 o1)
   (apply Co;(· rfl);(· exact Bc fun _=>Gp 0 rfl rfl C8 fun pa1 ca1=>(D6 0 rfl));intro pa1 ca1)
   refine Bx rfl ?_
   simp only [List.map_cons,List.map_nil,List.cons_append,List.nil_append]
   refine A2 rfl rfl (Dk 0 [2,3,4,5,7,0] rfl rfl (E9 (by omega)) rfl ?_)
   rintro _ _ _ ⟨rfl,rfl,rfl⟩
   simp only [List.cons_append,List.nil_append]
   refine wk 11 cz ?_
   (apply B9 it mx 16;(· rfl);(· rfl))
   (apply Am 5;(· rfl);(· simp))
   (apply Ac;(· rfl);(· exact Bc fun _=>As rfl Nq Ag))
   (apply Ac;(· rfl);(· exact Be 0 rfl rfl Lf rfl))
   (apply Am 2;(· rfl);(· simp))
   (apply Ac;(· rfl);(· exact Bc fun _=>As rfl Nl Ag))
   (apply Ac;(· rfl);(· exact Be 0 rfl rfl Bz rfl))
   (apply Ac (v:=Value.int IntKind.i64 (((((k)+1)-1:Nat)):Int));(· rfl);(· exact Bc fun _=>ACB it _ rfl ⟨by omega,by omega⟩ (by omega) Ag))
   simp only [Nat.add_sub_cancel]
   (apply Fl;(· rfl);(· exact Bc fun _=>Ds 6 (k) rfl rfl rfl Du rfl (by omega) fun z1 hz1 b2 o2=>(Fg default hz1 0 rfl));intro b2 o2)
   (apply Co;(· rfl);(· exact Bc fun _=>Gp 0 rfl rfl C8 fun pa2 ca2=>(D6 0 rfl));intro pa2 ca2)
   (apply Am 2;(· rfl);(· simp))
   refine Bx rfl ?_
   simp only [List.map_cons,List.map_nil,List.cons_append,List.nil_append]
   refine Ab rfl (Dk 0 [4,5,6,7,8,9,10,0] rfl rfl (Eb) rfl ?_)
   rintro _ _ _ ⟨ap1,rfl,rfl,rfl⟩
   simp only [List.cons_append,List.nil_append]
   refine wk 2 cz ?_
   refine B5 1 [0] [] rfl (.tmp rfl .nil) rfl rfl rfl ⟨_,rfl,rfl,rfl⟩
  | some T' =>
   simp only [ChQ] at hch' ⊢
   have Eb:=fun {n1 c1 n2 c2 n3 c3:Nat}{p1 p2 p3:Option Addr}=>hch' (n1:=n1) (c1:=c1) (n2:=n2) (c2:=c2) (n3:=n3) (c3:=c3) (p1:=p1) (p2:=p2) (p3:=p3)
   refine wk 3 cz ?_
   (apply B9 it mx 23;(· rfl);(· rfl))
   (apply Am 2;(· rfl);(· simp))
   (apply Ac;(· rfl);(· exact Bc fun _=>As rfl Nl Ag))
   (apply Ac;(· rfl);(· exact Be 0 rfl rfl Bz rfl))
   (apply Am 2;(· rfl);(· simp))
   (apply Ac;(· rfl);(· exact Bc fun _=>As rfl Nq Ag))
   (apply Ac;(· rfl);(· exact Be 0 rfl rfl Lf rfl))
   (apply Ac;(· rfl);(· exact Bc fun _=>Jq Du rfl Ag))
   (apply Ac;(· rfl);(· exact Bc fun _=>Ll it rfl (by trivial) (by omega) Ag))
   (apply Am 5;(· rfl);(· simp))
   (apply Ac;(· rfl);(· exact Bc fun _=>As rfl Nq Ag))
   (apply Ac;(· rfl);(· exact Be 0 rfl rfl Lf rfl))
   (apply Am 2;(· rfl);(· simp))
   (apply Ac;(· rfl);(· exact Bc fun _=>As rfl Nl Ag))
   (apply Ac;(· rfl);(· exact Be 0 rfl rfl Bz rfl))
   (apply Fl;(· rfl);(· exact Bc fun _=>Ds 4 (k) rfl rfl rfl Du rfl (by omega) fun z1 hz1 b1 o1=>(Fg default hz1 0 rfl));intro b1 o1)
   (apply Co;(· rfl);(· exact Bc fun _=>Gp 0 rfl rfl C8 fun pa1 ca1=>(D6 0 rfl));intro pa1 ca1)
   refine Bx rfl ?_
   simp only [List.map_cons,List.map_nil,List.cons_append,List.nil_append]
   refine A2 rfl rfl (Dk 0 [2,3,4,5,7,0] rfl rfl (E9 (by omega)) rfl ?_)
   rintro _ _ _ ⟨rfl,rfl,rfl⟩
   simp only [List.cons_append,List.nil_append]
   refine wk 11 cz ?_
   (apply B9 it mx 16;(· rfl);(· rfl))
   (apply Am 5;(· rfl);(· simp))
   (apply Ac;(· rfl);(· exact Bc fun _=>As rfl Nq Ag))
   (apply Ac;(· rfl);(· exact Be 0 rfl rfl Lf rfl))
   (apply Am 2;(· rfl);(· simp))
   (apply Ac;(· rfl);(· exact Bc fun _=>As rfl Nl Ag))
   (apply Ac;(· rfl);(· exact Be 0 rfl rfl Bz rfl))
   (apply Ac (v:=Value.int IntKind.i64 (((((k)+1)-1:Nat)):Int));(· rfl);(· exact Bc fun _=>ACB it _ rfl ⟨by omega,by omega⟩ (by omega) Ag))
   simp only [Nat.add_sub_cancel]
   (apply Fl;(· rfl);(· exact Bc fun _=>Ds 6 (k) rfl rfl rfl Du rfl (by omega) fun z1 hz1 b2 o2=>(Fg default hz1 0 rfl));intro b2 o2)
   (apply Co;(· rfl);(· exact Bc fun _=>Gp 0 rfl rfl C8 fun pa2 ca2=>(D6 0 rfl));intro pa2 ca2)
   (apply Am 2;(· rfl);(· simp))
   refine Bx rfl ?_
   simp only [List.map_cons,List.map_nil,List.cons_append,List.nil_append]
   refine Ab rfl (Dk 0 [4,5,6,7,8,9,10,0] rfl rfl (Eb) rfl ?_)
   rintro _ _ _ ⟨rfl,rfl,rfl⟩
   simp only [List.cons_append,List.nil_append]
   refine wk 2 cz ?_
   refine B5 1 [0] [] rfl (.tmp rfl .nil) rfl rfl rfl ⟨rfl,rfl,rfl⟩
theorem Nt {ng cg ce cl:Nat}{pg pe pl:Option Addr}(K:Fok p m md) (hM:Dy (p ^ m) N Aa) (hr1:1≤Aa.length) (hr:Aa.length≤1000000) (hN:N≤1000):∀ (d:Nat) {n1 c1 n2 c2:Nat}{p1 p2:Option Addr}{s z:List Int}{T:List (List Int)},
  ((s.length+d:Nat):Int)=w→s.length+d≤1000→z.length+1000*d≤100000→T <:+ sets →
  Bk Tryz.prog 129 [.pointer (some ⟨bp,0,none⟩),.slice p1 n1 c1,.slice p2 n2 c2] [Uw bp b p m N nm cm ns cs ny cy nt ct pm ps py pt false Mo w ((sets.length-T.length:Nat):Int)] [Aw (Ai Ao) ps ns cs Aa,P3 b p m (p ^ m) pg ng cg pe (p ^ m-1) ce pl (p ^ m) cl,Aw Ao pe (p ^ m-1) ce (Ri p m md),Aw Ao pl (p ^ m) cl (Rl p m md),Aw (Ai Ao) pt nt ct sets,Aw Ao p1 n1 c1 s,Aw Ao p2 n2 c2 z]
   (ChQ (fun ap=>Uw bp b p m N nm cm ns cs ny cy nt ct pm ps py pt false Mo w (ap:Nat)) sets.length (Pt (Rn p m md N Aa Mo) d s z T)):=by
 intro d
 induction d with
 | zero =>
  intro n1 c1 n2 c2 p1 p2 s z T hs hs2 hz hT
  cases T with
  | nil=>rw [ABd];exact Bk.weak Ze (by simp)
  | cons x T =>
   rw [Pt]
   refine W8 K hM hr1 hr hN hT fun hrt=>?_
   intro n1 c1 n2 c2 n3 c3 p1 p2 p3
   exact Bk.weak (Kv (by omega)) (by simp)
 | succ d ih =>
  intro n1 c1 n2 c2 p1 p2 s z T hs hs2 hz hT
  cases T with
  | nil=>rw [ABd];exact Bk.weak Ze (by simp)
  | cons x T =>
   rw [Pt]
   refine W8 K hM hr1 hr hN hT fun hrt=>?_
   intro n1 c1 n2 c2 n3 c3 p1 p2 p3
   have hst:=AGZ hrt
   have hsl:=ADt hst
   refine Lb (by omega) hst (by omega) (by omega) (by omega) ((List.suffix_cons x T).trans hT) ?_
   intro n1 c1 n2 c2 p1 p2 y z' T hz' hT'
   exact ih (by rw [List.length_append,List.length_singleton];omega) (by rw [List.length_append,List.length_singleton];omega) (by omega) hT'
end
open Go Go.Fw
set_option maxRecDepth 100000
set_option linter.unusedVariables false
set_option linter.unusedSimpArgs false
set_option maxHeartbeats 0
def exB (p m:Nat) (md:List Int) (N:Nat) (Aa:List (List Int)) (Mo:Int) (d:Nat) (sets:List (List Int)):Bool:=decide (Pt (Rn p m md N Aa Mo) d [] [] sets=some [])
section
variable {p m N b bp nm cm ns cs ny cy nt ct:Nat}{pm ps py pt:Option Addr}{Mo:Int}{d:Nat}{md:List Int}{Aa sets:List (List Int)}
theorem M8 {ng cg ce cl nt' ct':Nat}{pg pe pl pt':Option Addr}{bo:Bool}(K:Fok p m md) (hM:Dy (p ^ m) N Aa) (hr1:1≤Aa.length) (hr:Aa.length≤1000000) (hN:N≤1000) (hd:d≤64) (hbo:exB p m md N Aa Mo d sets=bo) :
  Bk Tryz.prog 92 [.pointer (some ⟨bp,0,none⟩),.agg #[.slice pt nt ct]] [Uw bp b p m N nm cm ns cs ny cy nt' ct' pm ps py pt' false Mo d 0] [Aw (Ai Ao) ps ns cs Aa,P3 b p m (p ^ m) pg ng cg pe (p ^ m-1) ce pl (p ^ m) cl,Aw Ao pe (p ^ m-1) ce (Ri p m md),Aw Ao pl (p ^ m) cl (Rl p m md),Aw (Ai Ao) pt nt ct sets]
   (Rv (.int .i64 (if bo=true then 0 else 13)) []):=by
 refine Ad (F:=Mu) rfl fun C=>?_
 refine Ay 4 rfl fun hn hb _=>?_
 subst hn
 refine Ff (Aw Ao none 0 0 []) (fun w A _=>F7 _ w A none 0) ?_
 have e0:([]:List Int).length=0:=rfl
 have h:=Nt (b:=b) (bp:=bp) (nm:=nm) (cm:=cm) (ns:=ns) (cs:=cs) (ny:=ny) (cy:=cy) (nt:=sets.length) (ct:=ct) (pm:=pm) (ps:=ps) (py:=py) (pt:=pt) (Mo:=Mo) (w:=d) (sets:=sets) (ng:=ng) (cg:=cg) (ce:=ce) (cl:=cl) (pg:=pg) (pe:=pe) (pl:=pl) K hM hr1 hr hN d (n1:=0) (c1:=0) (n2:=0) (c2:=0) (p1:=none) (p2:=none) (s:=[]) (z:=[]) (T:=sets) (by rw [e0,Nat.zero_add]) (by rw [e0];omega) (by rw [e0];omega) (List.suffix_refl _)
 rw [Nat.sub_self] at h
 cases hE:Pt (Rn p m md N Aa Mo) d [] [] sets with
 | none =>
  rw [hE] at h
  rw [exB,hE] at hbo
  simp only [reduceCtorEq,decide_false] at hbo
  subst hbo
  simp only [ChQ] at h
  have Az:=h
  refine wk 12 cz ?_
  intro b1
  refine Ab rfl (Dk 1 [1,2,3,4,5,0,0] rfl rfl (Az) rfl ?_)
  rintro _ _ _ ⟨ap1,rfl,rfl,rfl⟩
  simp only [List.cons_append,List.nil_append]
  refine wk 8 cz ?_
  exact ge
 | some T =>
  rw [hE] at h
  rw [exB,hE] at hbo
  simp only [ChQ] at h
  have Az:=h
  have hTl:=(ABm hE).length_le
  cases T with
  | nil =>
   have e1:([]:List (List Int)).length=0:=rfl
   simp only [decide_true] at hbo
   subst hbo
   rw [e1] at Az
   refine wk 12 cz ?_
   intro b1
   refine Ab rfl (Dk 1 [1,2,3,4,5,0,0] rfl rfl (Az) rfl ?_)
   rintro _ _ _ ⟨rfl,rfl,rfl⟩
   simp only [List.cons_append,List.nil_append]
   refine wk 8 cz ?_
   exact ge
  | cons x T =>
   have e1:(x::T).length=T.length+1:=rfl
   simp only [Option.some.injEq,reduceCtorEq,decide_false] at hbo
   subst hbo
   rw [e1] at Az hTl
   refine wk 12 cz ?_
   intro b1
   refine Ab rfl (Dk 1 [1,2,3,4,5,0,0] rfl rfl (Az) rfl ?_)
   rintro _ _ _ ⟨rfl,rfl,rfl⟩
   simp only [List.cons_append,List.nil_append]
   refine wk 8 cz ?_
   exact ge
theorem K5 {n c:Nat}{w:Int}(CC:Cok p m md N Aa) (hw:Ca .i64 w):Bk Tryz.prog 128 [.agg #[.int .i64 p,.int .i64 m,.slice pm nm cm,.int .i64 N,.slice ps n c],.int .i64 w] [] [Aw Ao pm nm cm md,Aw (Ai Ao) ps n c Aa]
   (fun v Φ β=>∃ (bp b:Nat) (pg:Option Addr) (cg:Nat) (pe:Option Addr) (ce:Nat) (pl:Option Addr) (cl:Nat),v = .tuple #[.pointer (some ⟨bp,0,none⟩),.int .i64 0]∧Φ=gfL p m md b pg cg pe ce pl cl∧β=[Uw bp b p m N nm cm n c 0 0 0 0 pm ps none none false 0 w 0]):=by
 refine Ad (F:=Oi) rfl fun C=>?_
 have hN:Ca .i64 (N:Int):=by have:=CC.n64;simp only [Ca];omega
 have Di:=fun {pm ps:Option Addr}{nm cm n c:Nat}=>Lo (P:=(p:Int)) (M:=(m:Int)) (N:=(N:Int)) (pm:=pm) (ps:=ps) (nm:=nm) (cm:=cm) (n:=n) (c:=c) (md:=md) (Aa:=Aa) hN CC.ck
 have Ey:=fun {pm:Option Addr}{nm cm:Nat}=>Fx (pm:=pm) (nm:=nm) (cm:=cm) CC.K
 refine wk 24 (ct @Di (ct @Ey cz)) ?_
 intro b1 h1 b2 pg1 cg1 pe1 ce1 pl1 cl1 b3
 refine B5 2 [0] [0,1,2,3] rfl (.tmp rfl (.tmp rfl .nil)) rfl rfl rfl ⟨_,_,_,_,_,_,_,_,rfl,rfl,rfl⟩
theorem Si {n c:Nat}{P M N w e:Int}(hN:Ca .i64 N) (h:W9 P M md N Aa=e) (he:e≠0):Bk Tryz.prog 128 [.agg #[.int .i64 P,.int .i64 M,.slice pm nm cm,.int .i64 N,.slice ps n c],.int .i64 w] [] [Aw Ao pm nm cm md,Aw (Ai Ao) ps n c Aa]
   (Rv (.tuple #[.pointer none,.int .i64 e]) []):=by
 refine Ad (F:=Oi) rfl fun C=>?_
 have hr:=Ns P M md N Aa
 have Di:=fun {pm ps:Option Addr}{nm cm n c:Nat}=>Lo (P:=P) (M:=M) (N:=N) (pm:=pm) (ps:=ps) (nm:=nm) (cm:=cm) (n:=n) (c:=c) (md:=md) (Aa:=Aa) hN h
 refine wk 14 (ct @Di cz) ?_
 intro b1 h1
 exact ge
theorem Tk {n c:Nat}(CC:Cok p m md N Aa) (hM:0≤Mo) (hM2:Mo≤Aa.length) (hd:d≤N):Bk Tryz.prog 91 [.agg #[.int .i64 p,.int .i64 m,.slice pm nm cm,.int .i64 N,.slice ps n c],.int .i64 Mo,.int .i64 d] [] [Aw Ao pm nm cm md,Aw (Ai Ao) ps n c Aa]
   (fun v Φ β=>∃ (bp b:Nat) (pg:Option Addr) (cg:Nat) (pe:Option Addr) (ce:Nat) (pl:Option Addr) (cl:Nat),v = .tuple #[.pointer (some ⟨bp,0,none⟩),.int .i64 0]∧Φ=gfL p m md b pg cg pe ce pl cl∧β=[Uw bp b p m N nm cm n c 0 0 0 0 pm ps none none false Mo d 0]):=by
 refine Ad (F:=Jz) rfl fun C=>?_
 refine Ay 1 rfl fun hn hb _=>?_
 subst hn
 have hn:=CC.n64
 have Da:=fun {pm ps:Option Addr}{nm cm n c:Nat}=>K5 (pm:=pm) (ps:=ps) (nm:=nm) (cm:=cm) (n:=n) (c:=c) (w:=d) CC (by simp only [Ca];omega)
 refine wk 39 (ct @Da cz) ?_
 intro b1 bp1 b2 pg1 cg1 pe1 ce1 pl1 cl1 h1 h2 h3 h4 h5
 refine B5 2 [0] [0,1,2,3] rfl (.tmp rfl (.tmp rfl .nil)) rfl rfl rfl ⟨_,_,_,_,_,_,_,_,rfl,rfl,rfl⟩
theorem Rw {n c:Nat}{w:Int}(CC:Cok p m md N Aa) (hw:Ca .i64 w) (h:Mo<0∨Aa.length<Mo∨w<0∨N<w):Bk Tryz.prog 91 [.agg #[.int .i64 p,.int .i64 m,.slice pm nm cm,.int .i64 N,.slice ps n c],.int .i64 Mo,.int .i64 w] [] [Aw Ao pm nm cm md,Aw (Ai Ao) ps n c Aa]
   (Rv (.tuple #[.pointer none,.int .i64 6]) []):=by
 refine Ad (F:=Jz) rfl fun C=>?_
 refine Ay 1 rfl fun hn hb _=>?_
 subst hn
 have hn:=CC.n64
 have Da:=fun {pm ps:Option Addr}{nm cm n c:Nat}=>K5 (pm:=pm) (ps:=ps) (nm:=nm) (cm:=cm) (n:=n) (c:=c) (w:=w) CC hw
 by_cases h1:Mo<0
 ·refine wk 23 (ct @Da cz) ?_
  intro b1 bp1 b2 pg1 cg1 pe1 ce1 pl1 cl1 h2 h3
  exact ge
 ·by_cases h2:Aa.length<Mo
  ·refine wk 31 (ct @Da cz) ?_
   intro b1 bp1 b2 pg1 cg1 pe1 ce1 pl1 cl1 h3 h4 h5
   exact ge
  ·by_cases h3:w<0
   ·refine wk 36 (ct @Da cz) ?_
    intro b1 bp1 b2 pg1 cg1 pe1 ce1 pl1 cl1 h4 h5 h6 h7
    exact ge
   ·have h4:N<w:=by omega
    refine wk 39 (ct @Da cz) ?_
    intro b1 bp1 b2 pg1 cg1 pe1 ce1 pl1 cl1 h5 h6 h7 h8 h9
    exact ge
theorem Sd {n c:Nat}{P M N w e:Int}(hN:Ca .i64 N) (h:W9 P M md N Aa=e) (he:e≠0):Bk Tryz.prog 91 [.agg #[.int .i64 P,.int .i64 M,.slice pm nm cm,.int .i64 N,.slice ps n c],.int .i64 Mo,.int .i64 w] [] [Aw Ao pm nm cm md,Aw (Ai Ao) ps n c Aa]
   (Rv (.tuple #[.pointer none,.int .i64 e]) []):=by
 refine Ad (F:=Jz) rfl fun C=>?_
 have hr:=Ns P M md N Aa
 have Da:=fun {pm ps:Option Addr}{nm cm n c:Nat}=>Si (pm:=pm) (ps:=ps) (nm:=nm) (cm:=cm) (n:=n) (c:=c) (w:=w) hN h he
 refine wk 15 (ct @Da cz) ?_
 intro b1 h1
 exact ge
noncomputable def rkE (P M:Int) (md:List Int) (N:Int) (Aa:List (List Int)) (Mo w:Int) (sets:List (List Int)):Int :=
 if W9 P M md N Aa≠0 then W9 P M md N Aa else if Mo<0∨Aa.length<Mo∨w<0∨N<w then 6 else if exB P.toNat M.toNat md N.toNat Aa Mo w.toNat sets=true then 0 else 13
theorem Ra {n c:Nat}{P M N w e:Int}(hN:Ca .i64 N) (hw:Ca .i64 w) (hr1:1≤Aa.length) (h:rkE P M md N Aa Mo w sets=e):Bk Tryz.prog 59 [.agg #[.int .i64 P,.int .i64 M,.slice pm nm cm,.int .i64 N,.slice ps n c],.int .i64 Mo,.int .i64 w,.agg #[.slice pt nt ct]] [] [Aw Ao pm nm cm md,Aw (Ai Ao) ps n c Aa,Aw (Ai Ao) pt nt ct sets]
   (Rv (.int .i64 e) []):=by
 refine Ad (F:=Rf) rfl fun C=>?_
 refine Ay 1 rfl fun hn hb _=>?_
 subst hn
 have hr:=Ns P M md N Aa
 rw [rkE] at h
 by_cases hc:W9 P M md N Aa=0
 ·rw [if_neg (fun e=>e hc)] at h
  obtain ⟨p,m,N,rfl,rfl,rfl,CC⟩:=ACr hc
  have h64:=CC.n64
  rw [Int.toNat_natCast,Int.toNat_natCast,Int.toNat_natCast] at h
  by_cases h1:Mo<0∨Aa.length<Mo∨w<0∨N<w
  ·rw [if_pos h1] at h
   subst h
   have Fp:=fun {pm ps:Option Addr}{nm cm n c:Nat}=>Rw (pm:=pm) (ps:=ps) (nm:=nm) (cm:=cm) (n:=n) (c:=c) CC hw h1
   refine wk 7 cz ?_
   intro b1 b2
   refine Ab rfl (Ae [0,1] rfl (Fp) rfl ?_)
   rintro _ _ _ ⟨rfl,rfl,rfl⟩
   simp only [List.cons_append,List.nil_append]
   refine wk 8 cz ?_
   intro h2
   exact ge
  ·rw [if_neg h1] at h
   obtain ⟨d,rfl⟩:=Int.eq_ofNat_of_zero_le (show 0≤w by omega)
   rw [Int.toNat_natCast] at h
   have Fp:=fun {pm ps:Option Addr}{nm cm n c:Nat}=>Tk (pm:=pm) (ps:=ps) (nm:=nm) (cm:=cm) (n:=n) (c:=c) CC (show 0≤Mo by omega) (by omega) (show d≤N by omega)
   have hl:Aa.length≤1000000:=by have:=CC.len;omega
   have Hi:=fun {bp b nm cm ns cs ny cy nt ct ng cg ce cl nt' ct':Nat}{pm ps py pt pg pe pl pt':Option Addr}=>M8 (p:=p) (m:=m) (N:=N) (b:=b) (bp:=bp) (nm:=nm) (cm:=cm) (ns:=ns) (cs:=cs) (ny:=ny) (cy:=cy) (nt:=nt) (ct:=ct) (pm:=pm) (ps:=ps) (py:=py) (pt:=pt) (Mo:=Mo) (d:=d) (sets:=sets) (ng:=ng) (cg:=cg) (ce:=ce) (cl:=cl) (pg:=pg) (pe:=pe) (pl:=pl) (nt':=nt') (ct':=ct') (pt':=pt') CC.K CC.mat hr1 hl (by omega) (by omega) rfl
   rw [h] at Hi
   refine wk 7 cz ?_
   intro b1 b2
   refine Ab rfl (Ae [0,1] rfl (Fp) rfl ?_)
   rintro _ _ _ ⟨bp1,b3,pg1,cg1,pe1,ce1,pl1,cl1,rfl,rfl,rfl⟩
   simp only [List.cons_append,List.nil_append]
   refine wk 8 cz ?_
   intro h2
   refine Ab rfl (Dk 0 [5,0,2,3,6] rfl rfl (Hi) rfl ?_)
   rintro _ _ _ ⟨rfl,rfl,rfl⟩
   simp only [List.cons_append,List.nil_append]
   simp only [decide_true]
   refine wk 2 cz ?_
   exact ge
 ·rw [if_pos hc] at h
  subst h
  have Fp:=fun {pm ps:Option Addr}{nm cm n c:Nat}=>Sd (pm:=pm) (ps:=ps) (nm:=nm) (cm:=cm) (n:=n) (c:=c) (Mo:=Mo) (w:=w) hN rfl hc
  refine wk 7 cz ?_
  intro b1 b2
  refine Ab rfl (Ae [0,1] rfl (Fp) rfl ?_)
  rintro _ _ _ ⟨rfl,rfl,rfl⟩
  simp only [List.cons_append,List.nil_append]
  refine wk 8 cz ?_
  intro h1
  exact ge
theorem Mi {n c:Nat}{N:Nat}{P M dd r:Int}(hN:N≤1000) (hd:Ca .i64 dd) (h:(if dd<1∨N+1<dd then -1 else dd-1)=r):Bk Tryz.prog 60 [.agg #[.int .i64 P,.int .i64 M,.slice pm nm cm,.int .i64 N,.slice ps n c],.int .i64 dd] [] [] (Rv (.int .i64 r) []):=by
 refine Ad (F:=T7) rfl fun C=>?_
 simp only [Ca] at hd
 by_cases h1:dd<1
 ·rw [if_pos (.inl h1)] at h
  subst h
  refine wk 14 cz ?_
  intro b1 h2
  exact ge
 ·by_cases h2:N+1<dd
  ·rw [if_pos (.inr h2)] at h
   subst h
   refine wk 17 cz ?_
   intro b1 h3 h4
   exact ge
  ·rw [if_neg (by omega)] at h
   subst h
   refine wk 17 cz ?_
   intro b1 h3 h4
   exact ge
noncomputable def cdE (P M:Int) (md:List Int) (N:Int) (Aa:List (List Int)) (dd:Int) (sets:List (List Int)):Int :=
 if W9 P M md N Aa≠0 then W9 P M md N Aa else if dd<1∨N+1<dd then 6 else if exB P.toNat M.toNat md N.toNat Aa Aa.length (dd-1).toNat sets=true then 0 else 13
theorem M4 {n c:Nat}{p m N:Nat}{dd e:Int}(CC:Cok p m md N Aa) (hd:Ca .i64 dd) (hr1:1≤Aa.length) (h:cdE p m md N Aa dd sets=e):Bk Tryz.prog 27 [.agg #[.int .i64 p,.int .i64 m,.slice pm nm cm,.int .i64 N,.slice ps n c],.int .i64 dd,.agg #[.slice pt nt ct]] [] [Aw Ao pm nm cm md,Aw (Ai Ao) ps n c Aa,Aw (Ai Ao) pt nt ct sets]
   (Rv (.int .i64 e) []):=by
 refine Ad (F:=M5) rfl fun C=>?_
 refine Ay 1 rfl fun hn hb _=>?_
 subst hn
 have h64:=CC.n64
 have hln:=CC.len
 have hN:Ca .i64 (N:Int):=by simp only [Ca];omega
 rw [cdE,CC.ck,if_neg (by simp)] at h
 have Jl:=fun {pm ps pt:Option Addr}{nm cm n c nt ct:Nat}{w e:Int}(hw:Ca .i64 w) (h:rkE p m md N Aa Aa.length w sets=e)=>Ra (P:=p) (M:=m) (pm:=pm) (ps:=ps) (nm:=nm) (cm:=cm) (n:=n) (c:=c) (nt:=nt) (ct:=ct) (pt:=pt) (md:=md) hN hw hr1 h
 by_cases h1:dd<1∨N+1<dd
 ·rw [if_pos h1] at h
  subst h
  have H9:=fun {pm ps:Option Addr}{nm cm n c:Nat}{P M:Int}=>Mi (P:=P) (M:=M) (pm:=pm) (ps:=ps) (nm:=nm) (cm:=cm) (n:=n) (c:=c) (N:=N) (by omega) hd (if_pos h1)
  have hk:rkE p m md N Aa Aa.length (-1) sets=6:=by rw [rkE,CC.ck,if_neg (by simp),if_pos (by omega)]
  have hr:Ca .i64 (-1):=by simp only [Ca];omega
  refine wk 5 cz ?_
  intro b1 b2
  (apply B9 it mx 9;(· rfl);(· rfl))
  (apply Ac;(· rfl);(· exact B4 1 rfl rfl AEe rfl))
  (apply Ac;(· rfl);(· exact Bc fun _=>As rfl Y0 Ag))
  (apply Ac;(· rfl);(· exact Be 1 rfl rfl Lf rfl))
  (apply Ac;(· rfl);(· exact Bc fun _=>Jq Du rfl Ag))
  (apply Ac;(· rfl);(· exact B4 1 rfl rfl AEe rfl))
  (apply Am 1;(· rfl);(· simp))
  (apply Ac;(· rfl);(· exact Bc fun _=>Ae [] rfl (H9) rfl (by rintro _ _ _ ⟨rfl,rfl,rfl⟩;exact Ag)))
  (apply Ac;(· rfl);(· exact B4 0 rfl rfl AK1 rfl))
  (apply Ac;(· rfl);(· exact Bc fun _=>Ae [0,1,2] rfl (Jl (by omega) (by omega)) rfl (by rintro _ _ _ ⟨rfl,rfl,rfl⟩;exact Ag)))
  refine Bx rfl ?_
  simp only [List.map_cons,List.map_nil,List.cons_append,List.nil_append]
  refine wk 2 cz ?_
  exact ge
 ·rw [if_neg h1] at h
  have H9:=fun {pm ps:Option Addr}{nm cm n c:Nat}{P M:Int}=>Mi (P:=P) (M:=M) (pm:=pm) (ps:=ps) (nm:=nm) (cm:=cm) (n:=n) (c:=c) (N:=N) (by omega) hd (if_neg h1)
  have hk:rkE p m md N Aa Aa.length (dd-1) sets=e:=by rw [rkE,CC.ck,if_neg (by simp),if_neg (by omega)];exact h
  have hr:Ca .i64 (dd-1):=by simp only [Ca];omega
  refine wk 5 cz ?_
  intro b1 b2
  (apply B9 it mx 9;(· rfl);(· rfl))
  (apply Ac;(· rfl);(· exact B4 1 rfl rfl AEe rfl))
  (apply Ac;(· rfl);(· exact Bc fun _=>As rfl Y0 Ag))
  (apply Ac;(· rfl);(· exact Be 1 rfl rfl Lf rfl))
  (apply Ac;(· rfl);(· exact Bc fun _=>Jq Du rfl Ag))
  (apply Ac;(· rfl);(· exact B4 1 rfl rfl AEe rfl))
  (apply Am 1;(· rfl);(· simp))
  (apply Ac;(· rfl);(· exact Bc fun _=>Ae [] rfl (H9) rfl (by rintro _ _ _ ⟨rfl,rfl,rfl⟩;exact Ag)))
  (apply Ac;(· rfl);(· exact B4 0 rfl rfl AK1 rfl))
  (apply Ac;(· rfl);(· exact Bc fun _=>Ae [0,1,2] rfl (Jl (by omega) (by omega)) rfl (by rintro _ _ _ ⟨rfl,rfl,rfl⟩;exact Ag)))
  refine Bx rfl ?_
  simp only [List.map_cons,List.map_nil,List.cons_append,List.nil_append]
  refine wk 2 cz ?_
  exact ge
end
open Go Go.Fw
set_option maxRecDepth 100000
set_option linter.unusedVariables false
set_option linter.unusedSimpArgs false
set_option maxHeartbeats 0
theorem Vv:∀ (n k:Nat),3≤n→Bs n k+1≤2 ^ (n-1)
 | 0,_,h=>by omega
 | 1,_,h=>by omega
 | 2,_,h=>by omega
 | 3,k,_=>by
  rcases k with _|_|_|_|k
  ·decide
  ·decide
  ·decide
  ·decide
  ·rw [I2 3 _ (by omega)];decide
 | n+4,0,_=>by
  rw [Ie]
  have:2 ^ 1≤2 ^ (n+4-1):=Nat.pow_le_pow_right (by omega) (by omega)
  omega
 | n+4,k+1,_=>by
  have h1:=Vv (n+3) k (by omega)
  have h2:=Vv (n+3) (k+1) (by omega)
  rw [Gy,show n+4-1=(n+3-1)+1 by omega,Nat.pow_succ]
  omega
theorem Sb {n k:Nat}(h:n≤64):Bs n k≤9223372036854775807:=by
 by_cases h3:3≤n
 ·have h1:=Vv n k h3
  have h2:2 ^ (n-1)≤2 ^ 63:=Nat.pow_le_pow_right (by omega) (by omega)
  have h4:(2:Nat) ^ 63=9223372036854775808:=by decide
  omega
 ·have:Bs n k≤2:=by
   rcases n with _|_|_|n
   ·rcases k with _|k
    ·decide
    ·rw [I2 0 _ (by omega)];omega
   ·rcases k with _|_|k
    ·decide
    ·decide
    ·rw [I2 1 _ (by omega)];omega
   ·rcases k with _|_|_|k
    ·decide
    ·decide
    ·decide
    ·rw [I2 2 _ (by omega)];omega
   ·omega
  omega
def Q8 (n:Nat) (f:Nat→Nat):List Nat:=(List.range (n+1)).map f
theorem Sy {n:Nat}{f:Nat→Nat}:(Q8 n f).length=n+1:=by simp [Q8]
theorem Td {n j:Nat}{f:Nat→Nat}(h:j≤n):(Q8 n f)[j]?=some (f j):=by rw [Q8,List.getElem?_map,List.getElem?_range (by omega)];rfl
theorem U7 {n:Nat}{f g:Nat→Nat}(h:∀ t,t≤n→f t=g t):Q8 n f=Q8 n g:=List.map_congr_left fun t ht=>h t (by have:=List.mem_range.1 ht;omega)
theorem ABS {n j v:Nat}{f:Nat→Nat}:(Q8 n f).set j v=Q8 n fun t=>if t=j then v else f t:=by
 refine List.ext_getElem (by rw [List.length_set,Sy,Sy]) fun i h1 h2=>?_
 rw [List.getElem_set]
 simp only [Q8,List.getElem_map,List.getElem_range]
 by_cases e:j=i
 ·rw [if_pos e,if_pos e.symm]
 ·rw [if_neg e,if_neg fun h=>e h.symm]
abbrev Q9 (i j t:Nat):Nat:=if j<t then Bs i t else Bs (i-1) t
theorem AAU {n i:Nat}:Q8 n (Q9 i i)=Q8 n (Bs (i-1)):=U7 fun t _=>by
 rw [Q9]
 split
 ·rename_i h;rw [I2 i t h,I2 (i-1) t (by omega)]
 ·rfl
theorem AFc {n i:Nat}:Q8 n (Q9 i 0)=Q8 n (Bs i):=U7 fun t _=>by
 rw [Q9]
 split
 ·rfl
 ·rename_i h
  obtain rfl:t=0:=by omega
  rw [Ie,Ie]
theorem ADj {n i j:Nat}(h1:1≤j) (h2:j≤i):(Q8 n (Q9 i j)).set j (Bs (i-1) j+Bs (i-1) (j-1))=Q8 n (Q9 i (j-1)):=by
 rw [ABS]
 refine U7 fun t _=>?_
 obtain ⟨i,rfl⟩:∃ i',i=i'+1:=⟨i-1,by omega⟩
 obtain ⟨j,rfl⟩:∃ j',j=j'+1:=⟨j-1,by omega⟩
 rw [Q9,Q9,Nat.add_sub_cancel,Nat.add_sub_cancel]
 by_cases e:t=j+1
 ·rw [if_pos e,if_pos (by omega),e,Gy,Nat.add_comm]
 ·rw [if_neg e]
  by_cases h:j+1<t
  ·rw [if_pos h,if_pos (by omega)]
  ·rw [if_neg h,if_neg (by omega)]
theorem AAm {n k:Nat}(hn:n≤64):Bk Tryz.prog 61 [.int .i64 n,.int .i64 k] [] [] (Rv (.int .i64 (Bs n k:Nat)) []):=by
 refine Ad (F:=AAf) rfl fun C=>?_
 by_cases hk:n<k
 ·rw [I2 n k hk]
  refine wk 9 cz ?_
  intro h1
  exact ge
 ·refine wk 13 cz ?_
  intro h1 b1
  refine Ab rfl (Sq 0 1 rfl rfl rfl Bz ?_ ?_ ?_) --ok
  ·rfl
  ·rw [List.length_replicate];omega
  rw [show (List.replicate (n+1) 0).set 0 1=Q8 n (Bs 0) by
   rw [show List.replicate (n+1) 0=Q8 n (fun _=>0) by simp [Q8,List.map_const'],ABS]
   exact U7 fun t _=>by cases t <;> rfl]
  simp only [setB,List.set_cons_zero]
  refine wk 3 cz ?_
  refine Af (X:=Nat) [0,1,4,5] [] (fun i=>[(6,.int .i64 (i:Int))]) (fun i=>[(some b1,3,An .i64 (Q8 n (Bs (i-1))))]) (fun _=>[]) (fun i=>1≤i∧i≤n+1) (fun i=>n+1-i) 1 [] rfl rfl rfl ⟨Nat.le_refl _,by omega⟩ (by repeat (first|exact Fr.sub_nil _|refine Fr.sub_cons rfl ?_)) rfl rfl ?_
  rintro i ⟨hi1,hi⟩ ih
  simp only [List.cons_append,List.nil_append] at hi1 hi ih ⊢
  by_cases hin:i≤n
  ·have ih':=ih (i+1) (by omega) ⟨by omega,by omega⟩
   rw [Nat.add_sub_cancel,← AFc] at ih'
   rw [← AAU (i:=i)]
   clear ih
   refine wk 7 cz ?_
   intro h2
   refine Af (X:=Nat) [0,1,4,5,6,20,21,22,25] [] (fun j=>[(7,.int .i64 (j:Int))]) (fun j=>[(some b1,3,An .i64 (Q8 n (Q9 i j)))]) (fun _=>[]) (fun j=>j≤i) (fun j=>j) i [] rfl rfl rfl (Nat.le_refl _) (by repeat (first|exact Fr.sub_nil _|refine Fr.sub_cons rfl ?_)) rfl rfl ?_
   rintro j hj ihj
   simp only [List.cons_append,List.nil_append] at hj ihj ⊢
   by_cases hj0:1≤j
   ·have ihj':=ihj (j-1) (by omega) (by omega)
    rw [← ADj hj0 hj] at ihj'
    have g1:(Q8 n (Q9 i j))[j]?=some (Bs (i-1) j):=by rw [Td (by omega)];exact congrArg some (if_neg (by omega))
    have g2:(Q8 n (Q9 i j))[j-1]?=some (Bs (i-1) (j-1)):=by rw [Td (by omega)];exact congrArg some (if_neg (by omega))
    have hL:(Q8 n (Q9 i j)).length=n+1:=Sy
    have hs:=Sb (n:=i) (k:=j) (by omega)
    rw [show Bs i j=Bs (i-1) j+Bs (i-1) (j-1) by
     obtain ⟨i,rfl⟩:∃ i',i=i'+1:=⟨i-1,by omega⟩
     obtain ⟨j,rfl⟩:∃ j',j=j'+1:=⟨j-1,by omega⟩
     rw [Gy,Nat.add_comm];rfl] at hs
    generalize Q8 n (Q9 i j)=L at *
    generalize Bs (i-1) j=u at *
    generalize Bs (i-1) (j-1)=v at *
    clear ihj ih'
    refine wk 11 cz ?_
    intro h3
    simp only [setB,List.set_cons_zero]
    exact tw (ihj')
   ·obtain rfl:j=0:=by omega
    clear ihj
    refine wk 7 cz ?_
    intro h3
    exact tw (ih')
  ·obtain rfl:i=n+1:=by omega
   have at_k:(Q8 n (Bs n))[k]?=some (Bs n k):=Td (by omega)
   have hL:(Q8 n (Bs n)).length=n+1:=Sy
   rw [Nat.add_sub_cancel]
   clear ih
   refine wk 7 cz ?_
   intro h2
   refine Ab rfl (Vs 0 rfl rfl Bz (by first|omega|(simp;omega)) fun z1 hz1=>?_)
   obtain rfl:_=z1:=Option.some.inj (at_k.symm.trans hz1)
   refine wk 2 cz ?_
   exact ge
theorem Xh {n k:Nat}(hn:n≤64):Bk Tryz.prog 28 [.int .i64 n,.int .i64 k] [] [] (Rv (.tuple #[.int .i64 (Bs n k:Nat),.int .i64 0]) []):=by
 refine Ad (F:=Xq) rfl fun C=>?_
 have Z2:=AAm (n:=n) (k:=k) hn
 have hb:=Sb (n:=n) (k:=k) hn
 refine wk 11 (ct @Z2 cz) ?_
 intro h1
 exact ge
theorem L5 {n k:Nat}(hn:n≤64):Bk Tryz.prog 65 [.int .i64 n,.int .i64 k] [] [] (Rv (.tuple #[.int .i64 (Bs n k:Nat),.int .i64 0]) []):=by
 refine Ad (F:=Mp) rfl fun C=>?_
 by_cases hk:n<k
 ·rw [I2 n k hk]
  refine wk 13 cz ?_
  intro h1 h2
  exact ge
 ·refine wk 17 cz ?_
  intro h1 h2 b1
  refine Ab rfl (Sq 0 1 rfl rfl rfl Bz ?_ ?_ ?_) --ok
  ·rfl
  ·rw [List.length_replicate];omega
  rw [show (List.replicate (n+1) 0).set 0 1=Q8 n (Bs 0) by
   rw [show List.replicate (n+1) 0=Q8 n (fun _=>0) by simp [Q8,List.map_const'],ABS]
   exact U7 fun t _=>by cases t <;> rfl]
  simp only [setB,List.set_cons_zero]
  refine wk 3 cz ?_
  refine Af (X:=Nat) [0,1,4,5,6] [] (fun i=>[(7,.int .i64 (i:Int))]) (fun i=>[(some b1,3,An .i64 (Q8 n (Bs (i-1))))]) (fun _=>[]) (fun i=>1≤i∧i≤n+1) (fun i=>n+1-i) 1 [] rfl rfl rfl ⟨Nat.le_refl _,by omega⟩ (by repeat (first|exact Fr.sub_nil _|refine Fr.sub_cons rfl ?_)) rfl rfl ?_
  rintro i ⟨hi1,hi⟩ ih
  simp only [List.cons_append,List.nil_append] at hi1 hi ih ⊢
  by_cases hin:i≤n
  ·have ih':=ih (i+1) (by omega) ⟨by omega,by omega⟩
   rw [Nat.add_sub_cancel,← AFc] at ih'
   rw [← AAU (i:=i)]
   clear ih
   refine wk 7 cz ?_
   intro h3
   refine Af (X:=Nat) [0,1,4,5,6,7,27,28,29,32] [] (fun j=>[(8,.int .i64 (j:Int))]) (fun j=>[(some b1,3,An .i64 (Q8 n (Q9 i j)))]) (fun _=>[]) (fun j=>j≤i) (fun j=>j) i [] rfl rfl rfl (Nat.le_refl _) (by repeat (first|exact Fr.sub_nil _|refine Fr.sub_cons rfl ?_)) rfl rfl ?_
   rintro j hj ihj
   simp only [List.cons_append,List.nil_append] at hj ihj ⊢
   by_cases hj0:1≤j
   ·have ihj':=ihj (j-1) (by omega) (by omega)
    rw [← ADj hj0 hj] at ihj'
    have g1:(Q8 n (Q9 i j))[j]?=some (Bs (i-1) j):=by rw [Td (by omega)];exact congrArg some (if_neg (by omega))
    have g2:(Q8 n (Q9 i j))[j-1]?=some (Bs (i-1) (j-1)):=by rw [Td (by omega)];exact congrArg some (if_neg (by omega))
    have hL:(Q8 n (Q9 i j)).length=n+1:=Sy
    have hs:=Sb (n:=i) (k:=j) (by omega)
    rw [show Bs i j=Bs (i-1) j+Bs (i-1) (j-1) by
     obtain ⟨i,rfl⟩:∃ i',i=i'+1:=⟨i-1,by omega⟩
     obtain ⟨j,rfl⟩:∃ j',j=j'+1:=⟨j-1,by omega⟩
     rw [Gy,Nat.add_comm];rfl] at hs
    generalize Q8 n (Q9 i j)=L at *
    generalize Bs (i-1) j=u at *
    generalize Bs (i-1) (j-1)=v at *
    clear ihj ih'
    refine wk 11 cz ?_
    intro h4
    simp only [setB,List.set_cons_zero]
    exact tw (ihj')
   ·obtain rfl:j=0:=by omega
    clear ihj
    refine wk 7 cz ?_
    intro h4
    exact tw (ih')
  ·obtain rfl:i=n+1:=by omega
   have at_k:(Q8 n (Bs n))[k]?=some (Bs n k):=Td (by omega)
   have hL:(Q8 n (Bs n)).length=n+1:=Sy
   rw [Nat.add_sub_cancel]
   clear ih
   refine wk 7 cz ?_
   intro h3
   refine Ab rfl (Vs 0 rfl rfl Bz (by first|omega|(simp;omega)) fun z1 hz1=>?_)
   obtain rfl:_=z1:=Option.some.inj (at_k.symm.trans hz1)
   refine wk 2 cz ?_
   exact ge
def De:List Int→Int
 | []=>0
 | x::l=>x+De l
theorem Zh:∀ {l k:List Int},De (l++k)=De l+De k
 | [],k=>by rw [List.nil_append,De,Int.zero_add]
 | x::l,k=>by rw [List.cons_append,De,De,Zh];omega
theorem Ik {l:List Int}{i:Nat}{x:Int}(h:l[i]?=some x):De (l.take (i+1))=De (l.take i)+x:=by
 rw [List.take_add_one,h,Option.toList_some,Zh];simp [De]
theorem ABl:∀ {l:List Int},(∀ x∈l,0≤x)→0≤De l
 | [],_=>Int.le_refl 0
 | x::l,h=>by rw [De];have:=h x (.head _);have:=ABl (l:=l) fun y hy=>h y (.tail _ hy);omega
theorem Ih {l:List Int}(h:∀ x∈l,0≤x) (i:Nat):0≤De (l.take i)∧De (l.take i)≤De l:=by
 have h1:=ABl (l:=l.take i) fun x hx=>h x (List.mem_of_mem_take hx)
 have h2:=ABl (l:=l.drop i) fun x hx=>h x (List.mem_of_mem_drop hx)
 have h3:=Zh (l:=l.take i) (k:=l.drop i)
 rw [List.take_append_drop] at h3
 omega
def Zk:Int→List Int→Int
 | m,[]=>m
 | m,x::l=>Zk (if x<m then x else m) l
def V5:Int→List Int→Int
 | m,[]=>m
 | m,x::l=>V5 (if m<x then x else m) l
theorem ABL {c:Int}:∀ {m:Int}{l:List Int},Zk m l<c↔m<c∨∃ x∈l,x<c
 | m,[]=>by simp [Zk]
 | m,x::l=>by
  rw [Zk,ABL]
  constructor
  ·rintro (h|⟨y,hy,h⟩)
   ·split at h
    ·exact .inr ⟨x,.head _,h⟩
    ·exact .inl h
   ·exact .inr ⟨y,.tail _ hy,h⟩
  ·rintro (h|⟨y,hy,h⟩)
   ·left;split <;> omega
   ·rcases List.mem_cons.1 hy with rfl|hy
    ·left;split <;> omega
    ·exact .inr ⟨y,hy,h⟩
theorem ABC {c:Int}:∀ {m:Int}{l:List Int},c<V5 m l↔c<m∨∃ x∈l,c<x
 | m,[]=>by simp [V5]
 | m,x::l=>by
  rw [V5,ABC]
  constructor
  ·rintro (h|⟨y,hy,h⟩)
   ·split at h
    ·exact .inr ⟨x,.head _,h⟩
    ·exact .inl h
   ·exact .inr ⟨y,.tail _ hy,h⟩
  ·rintro (h|⟨y,hy,h⟩)
   ·left;split <;> omega
   ·rcases List.mem_cons.1 hy with rfl|hy
    ·left;split <;> omega
    ·exact .inr ⟨y,hy,h⟩
def AAn (n:Nat):Nat→Nat
 | 0=>0
 | k+1=>min (AAn n k+min (Bs n k) 65537) 65537
def O2 (n:Nat):Nat→Nat
 | 0=>0
 | k+1=>O2 n k+Bs n k
theorem ACw {n:Nat}:∀ {k:Nat},AAn n k=min (O2 n k) 65537
 | 0=>by rw [AAn,O2];omega
 | k+1=>by rw [AAn,O2,ACw];omega
theorem AEr {n:Nat}:∀ {k d:Nat},O2 n k≤O2 n (k+d)
 | _,0=>Nat.le_refl _
 | k,d+1=>by rw [← Nat.add_assoc,O2];have:=AEr (n:=n) (k:=k) (d:=d);omega
section
variable {n t cl k c:Nat}{pl:Option Addr}{l:List Int}{x:Int}
theorem Ox (hr:∀ y∈x::l,Ca .i64 y):Bk Tryz.prog 29 [.slice pl k c] [] [Aw Ao pl k c (x::l)] (Rv (.int .i64 (Zk x l)) []):=by
 refine Ad (F:=O6) rfl fun C=>?_
 refine Ay 0 rfl fun hn hb _=>?_
 subst hn
 have hb':(x::l).length*8≤140737488355328:=hb
 have hl:(x::l).length=l.length+1:=rfl
 have at_x:(x::l)[0]?=some x:=rfl
 refine wk 11 cz ?_
 intro h1 b1 o1 hz1
 refine Ab rfl (Ak 0 rfl rfl Bz fun ⟨r1,r2⟩=>?_)
 refine wk 4 cz ?_
 refine Af (X:=Nat×Int) [0,2] [0,1] (fun y=>[(4,.int .i64 (y.1:Int)),(3,.int .i64 y.2)]) (fun _=>[]) (fun _=>[]) (fun y=>1≤y.1∧y.1≤(x::l).length∧Ca .i64 y.2∧Zk x l=Zk y.2 ((x::l).drop y.1)) (fun y=>(x::l).length-y.1) (1,x) [] rfl rfl rfl ⟨Nat.le_refl _,by dsimp only;omega,hr x (.head _),rfl⟩ (by repeat (first|exact Fr.sub_nil _|refine Fr.sub_cons rfl ?_)) rfl rfl ?_
 rintro ⟨i,m⟩ ⟨hi1,hi,hm,hg⟩ ih
 simp only [List.cons_append,List.nil_append] at hi1 hi hm hg ih ⊢
 by_cases hil:i<(x::l).length
 ·obtain ⟨y,at_y⟩:∃ y,(x::l)[i]?=some y:=⟨_,List.getElem?_eq_getElem hil⟩
  have hy:=hr y (List.mem_of_getElem? at_y)
  have e:(x::l).drop i=y::(x::l).drop (i+1):=by
   rw [List.drop_eq_getElem_cons hil];rw [List.getElem?_eq_getElem hil] at at_y;rw [Option.some.inj at_y]
  rw [e,Zk] at hg
  have ih':=ih (i+1,if y<m then y else m) (by dsimp only;omega) ⟨by dsimp only;omega,by dsimp only;omega,by dsimp only;split <;> assumption,hg⟩
  dsimp only at ih'
  clear ih
  refine wk 9 cz ?_
  intro h2 b2 o2 hz2
  refine Ab rfl (Ak 0 rfl rfl Bz fun ⟨r3,r4⟩=>?_)
  refine Ab rfl (AFa rfl rfl ?_)
  refine wk 4 cz ?_
  exact tw (ih')
 ·obtain rfl:i=(x::l).length:=by omega
  rw [List.drop_length,Zk] at hg
  rw [hg]
  clear ih
  refine wk 9 cz ?_
  intro h2
  exact ge
theorem Py (hn:n≤64) (ht:t≤n):Bk Tryz.prog 32 [.int .i64 n,.int .i64 t] [] [] (Rv (.int .i64 (AAn n (t+1):Nat)) []):=by
 refine Ad (F:=P2) rfl fun C=>?_
 refine wk 7 cz ?_
 refine Af (X:=Nat) [0,1,4] [] (fun k=>[(6,.int .i64 (k:Int)),(5,.int .i64 (AAn n k:Nat))]) (fun _=>[]) (fun _=>[]) (fun k=>k≤t+1) (fun k=>t+1-k) 0 [] rfl rfl rfl (Nat.zero_le _) (by repeat (first|exact Fr.sub_nil _|refine Fr.sub_cons rfl ?_)) rfl rfl ?_
 rintro k hk ih
 simp only [List.cons_append,List.nil_append] at hk ih ⊢
 have hs:AAn n k≤65537:=by cases k <;> rw [AAn] <;> omega
 by_cases hkt:k≤t
 ·have ih':=ih (k+1) (by omega) (by omega)
  have hb:=Sb (n:=n) (k:=k) hn
  have Ma:=L5 (n:=n) (k:=k) hn
  rw [AAn] at ih'
  generalize AAn n k=s at *
  generalize Bs n k=b at *
  clear ih
  refine wk 15 (ct @Ma cz) ?_
  intro h1 h2
  refine Ab rfl (AFa rfl rfl ?_)
  refine wk 3 cz ?_
  refine Ab rfl (AFa rfl rfl ?_)
  refine wk 4 cz ?_
  rw [show (if (65537:Int)<↑s+(if (65537:Int)<↑b then 65537 else ↑b) then 65537 else ↑s+(if (65537:Int)<↑b then 65537 else ↑b))=((min (s+min b 65537) 65537:Nat):Int) by (repeat' split) <;> omega]
  exact tw (ih')
 ·obtain rfl:k=t+1:=by omega
  clear ih
  refine wk 12 cz ?_
  intro h1
  exact ge
end
open Go Go.Fw
set_option maxRecDepth 100000
set_option linter.unusedVariables false
set_option linter.unusedSimpArgs false
set_option maxHeartbeats 0
theorem Ol {p m nm cm:Nat}{a:Int}{pm pu:Option Addr}{nu cu:Nat}{u md:List Int}(K:Fok p m md) (a0:0≤a) (a1:a<((p ^ m:Nat):Int)) (hu:∀ x∈u,0≤x∧x<((p ^ m:Nat):Int)) :
  Bk Tryz.prog 153 [.agg #[.int .i64 p,.int .i64 m,.slice pm nm cm],.int .i64 a,.slice pu nu cu] [] [Aw Ao pm nm cm md,Aw Ao pu nu cu u] (RwI nu (B0 (Ah (fM p (By m md))) a u)):=by
 refine Ad (F:=Of) rfl fun C=>?_
 refine Ay 1 rfl fun hn hb _=>?_
 subst hn
 have hb':u.length*8≤140737488355328:=hb
 have Ce:=fun {nm cm:Nat}{pm:Option Addr}{x y:Int}=>Gk (nm:=nm) (cm:=cm) (pm:=pm) (x:=x) (y:=y) K
 have hml:=fun x (h:x∈u)=>K.fi.ml a x a0 a1 (hu x h).1 (hu x h).2
 have hq:=K.q
 generalize Ah (fM p (By m md))=M at *
 generalize p ^ m=q at *
 refine wk 11 cz ?_
 intro b1 b2
 rw [show An .i64 (List.replicate u.length 0)=Al .i64 ((B0 M a u).take 0++List.replicate (u.length-0) 0) by simp [An,Al]]
 refine Af (X:=Nat) [1,2,3,6,7] [0,1] (fun i=>[(8,.int .i64 (i:Int))]) (fun i=>(some b2,3,Al .i64 ((B0 M a u).take i++List.replicate (u.length-i) 0))::_) (fun _=>[]) (fun i=>i≤u.length) (fun i=>u.length-i) 0 [] rfl rfl rfl (Nat.zero_le _) (by repeat (first|exact Fr.sub_nil _|refine Fr.sub_cons rfl ?_)) rfl rfl ?_
 rintro i hi ih
 simp only [List.cons_append,List.nil_append] at hi ih ⊢
 by_cases h9:i<u.length
 ·obtain ⟨x,at_x⟩:∃ x,u[i]?=some x:=⟨_,List.getElem?_eq_getElem h9⟩
  have ex:u.getD i default=x:=by rw [List.getD_eq_getElem?_getD,at_x];rfl
  have hx:=hu x (List.mem_of_getElem? at_x)
  have hm:=hml x (List.mem_of_getElem? at_x)
  obtain ⟨hx0,hx1⟩:=hx
  have ih':=ih (i+1) (by omega) (by omega)
  have eT:(B0 M a u)[i]?=some (M a (u.getD i default)):=by rw [B0,List.getElem?_map,at_x,ex];rfl
  rw [← take_set eT h9] at ih'
  have hln:((B0 M a u).take i++List.replicate (u.length-i) 0).length=u.length:=by simp [B0];omega
  generalize (B0 M a u).take i++List.replicate (u.length-i) 0=L at *
  rw [← ex] at hm
  refine wk 13 (ct @Ce cz) ?_
  intro h1 b3 o1
  exact tw (ih')
 ·obtain rfl:i=u.length:=by omega
  rw [Nat.sub_self,List.replicate_zero,List.append_nil,List.take_of_length_le (by simp [B0])]
  refine wk 9 cz ?_
  intro h1
  have hall:∀ z∈B0 M a u,Ca .i64 z:=fun z hz=>by
   obtain ⟨y,hy,rfl⟩:=List.mem_map.1 hz
   have:=hml y hy
   simp only [Ca];omega
  have hln:(B0 M a u).length=u.length:=by simp [B0]
  generalize B0 M a u=L at *
  refine G5 0 rfl hln.symm hall (by omega) ?_
  refine B5 2 [0] [0] rfl (.tmp rfl .nil) rfl rfl rfl ⟨⟨some b2,u.length,Al .i64 L⟩,rfl,rfl,rfl⟩
theorem Ig {p m nm cm n:Nat}{a:Int}{pm pu pv:Option Addr}{nu cu nv cv:Nat}{u v md:List Int}(K:Fok p m md) (a0:0≤a) (a1:a<((p ^ m:Nat):Int)) (hu:Wd (p ^ m) n u) (hv:Wd (p ^ m) n v) :
  Bk Tryz.prog 75 [.agg #[.int .i64 p,.int .i64 m,.slice pm nm cm],.slice pv nv cv,.int .i64 a,.slice pu nu cu] [] [Aw Ao pm nm cm md,Aw Ao pv nv cv v,Aw Ao pu nu cu u] (RwI n (F1 (Ah (fA p m)) (Ah (fM p (By m md))) a u v)):=by
 refine Ad (F:=Oh) rfl fun C=>?_
 refine Ay 1 rfl fun hn hb _=>?_
 refine Ay 2 rfl fun hn2 hb2 _=>?_
 have hul:=hu.1
 have hvl:=hv.1
 have hb':v.length*8≤140737488355328:=hn▸hb
 rw [hvl] at hn hb'
 rw [hul] at hn2
 subst hn
 subst hn2
 have FF:=K.fi
 have Ce:=fun {nm cm:Nat}{pm:Option Addr}{x y:Int}=>Gk (nm:=nm) (cm:=cm) (pm:=pm) (x:=x) (y:=y) K
 have Gj:=fun {nm cm:Nat}{pm:Option Addr}{x y:Int}=>Re (nm:=nm) (cm:=cm) (pm:=pm) (x:=x) (y:=y) K
 have hT:=FF.axw a0 a1 hu hv
 have hq:=K.q
 generalize Ah (fM p (By m md))=M at *
 generalize Ah (fA p m)=A0 at *
 generalize p ^ m=q at *
 have hTa:∀ (i:Nat) (x y:Int),u[i]?=some x→v[i]?=some y→(F1 A0 M a u v)[i]?=some (A0 y (M a x)):=fun i x y h1 h2=>by rw [F1,List.getElem?_zipWith,h1,h2]
 generalize F1 A0 M a u v=T at *
 have hTl:=hT.1
 refine wk 11 cz ?_
 intro b1 b2
 rw [show An .i64 (List.replicate nu 0)=Al .i64 (T.take 0++List.replicate (nu-0) 0) by simp [An,Al]]
 refine Af (X:=Nat) [1,2,3,4,8,9] [0,1,2] (fun i=>[(10,.int .i64 (i:Int))]) (fun i=>(some b2,3,Al .i64 (T.take i++List.replicate (nu-i) 0))::_) (fun _=>[]) (fun i=>i≤nu) (fun i=>nu-i) 0 [] rfl rfl rfl (Nat.zero_le _) (by repeat (first|exact Fr.sub_nil _|refine Fr.sub_cons rfl ?_)) rfl rfl ?_
 rintro i hi ih
 simp only [List.cons_append,List.nil_append] at hi ih ⊢
 by_cases h9:i<nu
 ·obtain ⟨x,at_x⟩:∃ x,u[i]?=some x:=⟨_,List.getElem?_eq_getElem (by omega)⟩
  obtain ⟨y,at_y⟩:∃ y,v[i]?=some y:=⟨_,List.getElem?_eq_getElem (by omega)⟩
  have ex:u.getD i default=x:=by rw [List.getD_eq_getElem?_getD,at_x];rfl
  have ey:v.getD i default=y:=by rw [List.getD_eq_getElem?_getD,at_y];rfl
  obtain ⟨x0,x1⟩:=hu.2 x (List.mem_of_getElem? at_x)
  obtain ⟨y0,y1⟩:=hv.2 y (List.mem_of_getElem? at_y)
  obtain ⟨m0,m1⟩:=FF.ml a x a0 a1 x0 x1
  have eT:=hTa i x y at_x at_y
  obtain ⟨t0,t1⟩:=hT.2 _ (List.mem_of_getElem? eT)
  have ih':=ih (i+1) (by omega) (by omega)
  have hln:(T.take i++List.replicate (nu-i) 0).length=nu:=by rw [List.length_append,List.length_take,List.length_replicate];omega
  by_cases h0:x=0
  ·rw [h0,FF.m0 a0 a1,FF.a0 y y0 y1] at eT
   rw [← take_set eT h9] at ih'
   generalize T.take i++List.replicate (nu-i) 0=L at *
   refine wk 9 cz ?_
   intro h1 b3 o1 hz1
   refine Ab rfl (Ak 0 rfl rfl Bz fun ⟨r1,r2⟩=>?_)
   refine wk 5 cz ?_
   intro b4 o2 hz2
   refine Ab rfl (Ak 0 rfl rfl Bz fun ⟨r3,r4⟩=>?_)
   refine wk 6 cz ?_
   intro h2
   exact tw (ih')
  ·rw [← ex,← ey] at eT t0 t1
   rw [← ex] at m0 m1
   rw [← take_set eT h9,← List.set_set (i:=i) (a:=y)] at ih'
   generalize T.take i++List.replicate (nu-i) 0=L at *
   refine wk 9 cz ?_
   intro h1 b3 o1 hz1
   refine Ab rfl (Ak 0 rfl rfl Bz fun ⟨r1,r2⟩=>?_)
   refine wk 5 cz ?_
   intro b4 o2 hz2
   refine Ab rfl (Ak 0 rfl rfl Bz fun ⟨r3,r4⟩=>?_)
   refine wk 5 (ct @Ce (ct @Gj cz)) ?_
   intro h2 b5 o3 b6 o4
   refine Ab rfl (AAD 0 rfl rfl rfl Bz (by first|omega|(simp;omega)) ?_)
   refine wk 3 cz ?_
   exact tw (ih')
 ·obtain rfl:i=nu:=by omega
  rw [Nat.sub_self,List.replicate_zero,List.append_nil,List.take_of_length_le (by omega)]
  refine wk 9 cz ?_
  intro h1
  refine G5 0 rfl hTl.symm (fun z hz=>by have:=hT.2 z hz;simp only [Ca];omega) (by omega) ?_
  refine B5 2 [0] [0] rfl (.tmp rfl .nil) rfl rfl rfl ⟨⟨some b2,_,Al .i64 T⟩,rfl,rfl,rfl⟩
abbrev ElR (n:Nat) (E:List (List Int)×List Nat):Value→List Fact→List Ba→Prop:=fun v Φ β=>∃ (pb pp:Option Addr) (cb cp:Nat),v = .tuple #[.slice pb n cb,.slice pp E.2.length cp]
 ∧ Φ=[Aw (Ai Ao) pb n cb E.1,Aw Ao pp E.2.length cp (A7 E.2)]∧β=[]
theorem Ln {p m n N W nm cm c:Nat}{pm ps:Option Addr}{Aa:List (List Int)}{md:List Int}(K:Fok p m md) (hn:n≤1000000) (hNW:N≤W) (hW:W≤1000000) (hl:Aa.length=n) (hM:Dy (p ^ m) W Aa) :
  Bk Tryz.prog 131 [.agg #[.int .i64 p,.int .i64 m,.slice pm nm cm],.slice ps n c,.int .i64 N] [] [Aw Ao pm nm cm md,Aw (Ai Ao) ps n c Aa] (ElR n (Nk p m md N 0 0 Aa)):=by
 refine Ad (F:=Gn) rfl fun C=>?_
 have O:=Hq K
 have hq:=K.q
 have q2:=O.q2
 subst hl
 generalize hEE:Nk p m md N 0 0 Aa=EE
 have Iu:=fun {ps:Option Addr}{n c:Nat}=>Qg (ps:=ps) (n:=n) (c:=c) (Aa:=Aa) fun r hr=>by rw [(hM r hr).1];exact hW
 have hb0:Aa.length*24≤140737488355328:=by omega
 rcases Nat.eq_zero_or_pos Aa.length with hn0|hn0
 ·have hr0:=List.length_eq_zero_iff.1 hn0
  subst hr0
  rw [Nk,Lw _ _ _ _ (Nat.zero_le _)] at hEE
  subst hEE
  refine wk 14 (ct @Iu cz) ?_
  intro b1 r1
  refine G1 Ao 3 ?_
  refine Af (X:=Unit) [2,3,6,7,8] [0,1,2,3] (fun _=>[(11,.int .i64 0),(10,.int .i64 0),(9,.slice none 0 0)]) (fun _=>_) (fun _=>[]) (fun _=>True) (fun _=>0) () [] rfl rfl rfl trivial (by repeat (first|exact Fr.sub_nil _|refine Fr.sub_cons rfl ?_)) rfl rfl ?_
  rintro ⟨⟩-ih
  simp only [List.cons_append,List.nil_append] at ih ⊢
  refine Dc 0 0 rfl rfl (by show 0*8≤140737488355328;omega) ?_
  refine Dc 0 2 rfl rfl (by show 0*24≤140737488355328;omega) ?_
  rcases Nat.eq_zero_or_pos N with hN0|hN0
  ·subst hN0
   refine wk 7 cz ?_
   refine Cn [0,1] rfl rfl rfl ⟨_,_,_,_,rfl,rfl,rfl⟩
  ·refine wk 14 cz ?_
   intro h1 h2
   refine Cn [0,1] rfl rfl rfl ⟨_,_,_,_,rfl,rfl,rfl⟩
 refine wk 14 (ct @Iu cz) ?_
 intro b1 r1
 refine Dh 0 rfl hn0 fun bh caph csh hr=>?_
 subst hr
 dsimp only
 refine G1 Ao 3 ?_
 refine Af (X:=Nat×List Value×Row×List (List Int)×List Nat) [2,3,6,7,8] [2] (fun x=>[(11,.int .i64 (x.1:Int)),(10,.int .i64 (x.2.2.2.2.length:Int)),(9,.slice (ad x.2.2.1.bo) x.2.2.2.2.length x.2.2.1.cap)])
  (fun x=>(x.2.2.1.bo,3,x.2.2.1.cs)::(some bh,22,x.2.1)::_)
  (fun x=>[A3 Ao x.2.2.1 x.2.2.2.2.length (A7 x.2.2.2.2),A3 (Ai Ao) ⟨some bh,caph,x.2.1⟩ Aa.length x.2.2.2.1])
  (fun x=>x.1≤N∧x.2.2.2.1.length=Aa.length∧Dy (p ^ m) W x.2.2.2.1∧x.2.2.2.2.length≤Aa.length∧(Nk p m md (N-x.1) x.1 x.2.2.2.2.length x.2.2.2.1).1=EE.1∧x.2.2.2.2++(Nk p m md (N-x.1) x.1 x.2.2.2.2.length x.2.2.2.1).2=EE.2) (fun x=>N-x.1)
  (0,csh,⟨none,0,[]⟩,Aa,[]) [0,1] rfl rfl rfl ⟨Nat.zero_le _,rfl,hM,Nat.zero_le _,congrArg Prod.fst hEE,congrArg Prod.snd hEE⟩ (by repeat (first|exact Fr.sub_nil _|refine Fr.sub_cons rfl ?_)) rfl rfl ?_
 clear hEE
 generalize hnn:Aa.length=n at *
 rintro ⟨c,ch,rp,L,pv⟩ ⟨hcN,hL,hLM,hpv,hE1,hE2⟩ ih
 simp only [List.cons_append,List.nil_append] at hcN hL hLM hpv hE1 hE2 ih ⊢
 by_cases hcl:c<N
 ·by_cases hpl:pv.length<n
  ·have hrl:∀ k,k<n→(Aj L k).length=W:=fun k hk=>(hLM.row (by omega)).1
   have hra:∀ k,k<n→L[k]?=some (Aj L k):=fun k hk=>by rw [Aj,List.getD_eq_getElem?_getD,List.getElem?_eq_getElem (by omega)];rfl
   have hre:∀ k,k<n→(Aj L k)[c]?=some (en L k c):=fun k hk=>by
    rw [en,Bm,List.getD_eq_getElem?_getD,List.getElem?_eq_getElem (by rw [hrl k hk];omega)];rfl
   have hen:∀ k,k<n→0≤en L k c∧en L k c<((p ^ m:Nat):Int):=fun k hk=>A6 (by omega) (hLM.row (by omega)) c
   refine wk 14 cz ?_
   intro h1 h2
   refine Af (X:=Nat) [2,3,6,7,8,9,10,11,16,17,18,19,20,21,22,23,24,27] [0,1,2] (fun k=>[(12,.int .i64 (k:Int))]) (fun _=>_) (fun _=>[]) (fun k=>pv.length≤k∧k≤n∧∀ j,pv.length≤j→j<k→en L j c=0) (fun k=>n-k) pv.length [] rfl rfl rfl ⟨Nat.le_refl _,hpv,fun j h1 h2=>by omega⟩ (by repeat (first|exact Fr.sub_nil _|refine Fr.sub_cons rfl ?_)) rfl rfl ?_
   rintro k ⟨hk1,hk2,hk3⟩ ihk
   simp only [List.cons_append,List.nil_append] at hk1 hk2 hk3 ihk ⊢
   by_cases hkn:k<n
   ·have at_u:=hra k hkn
    have at_z:=hre k hkn
    have hru:=hrl k hkn
    by_cases hz0:en L k c=0
    ·rw [hz0] at at_z
     refine wk 8 cz ?_
     intro h3
     refine A2 rfl rfl (E6 1 1 (k) rfl rfl rfl C8 rfl (by omega) fun z1 hz1 pa1 ca1=>?_)
     obtain rfl:_=z1:=Option.some.inj (at_u.symm.trans hz1)
     refine wk 2 cz ?_
     intro b2 o1 hz2
     refine A2 rfl rfl (Ak 0 rfl rfl Bz fun ⟨r1,r2⟩=>?_)
     refine wk 6 cz ?_
     intro h4
     exact tw (ihk (k+1) (by omega) ⟨by omega,by omega,fun j h1 h2=>by
      rcases Nat.lt_succ_iff_lt_or_eq.1 h2 with h|rfl
      ·exact hk3 j h1 h
      ·exact hz0⟩)
    ·clear ihk
     have hrt:=hra pv.length hpl
     obtain ⟨e0,e1⟩:=hen k hkn
     obtain ⟨⟨v0,v1⟩,hiv⟩:=O.iv _ e0 e1 hz0
     have hSl:(Dd L pv.length k).length=n:=by rw [Dd,List.length_set,List.length_set,hL]
     have hSW:∀ i,i<n→Wd (p ^ m) W (Aj (Dd L pv.length k) i):=fun i hi=>P4 hLM (by omega) (by omega) (by omega)
     have hSra:∀ i,i<n→(Dd L pv.length k)[i]?=some (Aj (Dd L pv.length k) i):=fun i hi=>by rw [Aj,List.getD_eq_getElem?_getD,List.getElem?_eq_getElem (by omega)];rfl
     have hSt:Aj (Dd L pv.length k) pv.length=Aj L k:=by
      rw [Hc (by omega) (by omega)]
      split
      ·rename_i e;rw [← e]
      ·rw [if_pos rfl]
     have at_v:=hSra pv.length hpl
     rw [hSt,Dd] at at_v
     have hrk:=hrl k hkn
     have ek:(Aj L k).getD c default=en L k c:=Ix at_z
     have key:∀ ch':List Value,J Gn C [It.c (pL 128159),It.blk 1,It.c (pL 2003),It.lp (pL 500),It.blk 0,It.c [1,1,1,1,1]]
       [(2,.int .i64 N),(3,.pointer (some ⟨b1,0,none⟩)),(6,.slice none 0 0),(7,.slice none 0 0),(8,.slice (ad (some bh)) n caph),(9,.slice (ad rp.bo) pv.length rp.cap),(10,.int .i64 (pv.length:Int)),(11,.int .i64 (c:Int))]
       [(rp.bo,3,rp.cs),(some bh,22,ch'),(some b1,24,[.int .i64 p,.int .i64 m,.slice pm nm cm])]
       [A3 Ao rp pv.length (A7 pv),A3 (Ai Ao) ⟨some bh,caph,ch'⟩ n ((Dd L pv.length k).set pv.length (B0 (Ah (fM p (By m md))) (He p m md (en L k c)) (Aj L k))),Aw Ao pm nm cm md] (No C (ElR n EE)):=by
      intro ch'
      clear at_v at_u at_z hrt hrk ek
      have hprW:Wd (p ^ m) W (B0 (Ah (fM p (By m md))) (He p m md (en L k c)) (Aj L k)):=O.scl_wd v0 v1 (hLM.row (by omega))
      have hpiv:N7 (Ah (fA p m)) (Ah (fM p (By m md))) (Gu p m) (He p m md) pv.length k c L=(List.range n).map fun i=>if i=pv.length then B0 (Ah (fM p (By m md))) (He p m md (en L k c)) (Aj L k) else F1 (Ah (fA p m)) (Ah (fM p (By m md))) (Gu p m (en (Dd L pv.length k) i c)) (B0 (Ah (fM p (By m md))) (He p m md (en L k c)) (Aj L k)) (Aj (Dd L pv.length k) i):=by rw [N7,hL]
      have hpM:=O.piv_wd hLM (show pv.length<L.length by omega) (show k<L.length by omega) hz0
      have hf:Jm L pv.length c=some k:=ADc hk1 (by omega) hz0 fun j h1 h2=>hk3 j h1 h2
      rw [Nk,show N-c=(N-(c+1))+1 by omega,Dn,hf] at hE1 hE2
      have hE1':(Nk p m md (N-(c+1)) (c+1) (pv.length+1) (N7 (Ah (fA p m)) (Ah (fM p (By m md))) (Gu p m) (He p m md) pv.length k c L)).1=EE.1:=hE1
      have hE2':pv++c::(Nk p m md (N-(c+1)) (c+1) (pv.length+1) (N7 (Ah (fA p m)) (Ah (fM p (By m md))) (Gu p m) (He p m md) pv.length k c L)).2=EE.2:=hE2
      have hpM':Dy (p ^ m) W (N7 (Ah (fA p m)) (Ah (fM p (By m md))) (Gu p m) (He p m md) pv.length k c L):=hpM
      have hplen:(N7 (Ah (fA p m)) (Ah (fM p (By m md))) (Gu p m) (He p m md) pv.length k c L).length=n:=by rw [Kf,hL]
      clear hE1 hE2 hpM
      generalize N7 (Ah (fA p m)) (Ah (fM p (By m md))) (Gu p m) (He p m md) pv.length k c L=PV at *
      generalize B0 (Ah (fM p (By m md))) (He p m md (en L k c)) (Aj L k)=pr at *
      have hSen:∀ i,i<n→0≤en (Dd L pv.length k) i c∧en (Dd L pv.length k) i c<((p ^ m:Nat):Int):=fun i hi=>A6 (by omega) (hSW i hi) c
      have hSre:∀ i,i<n→(Aj (Dd L pv.length k) i)[c]?=some (en (Dd L pv.length k) i c):=fun i hi=>by
       rw [en,Bm,List.getD_eq_getElem?_getD,List.getElem?_eq_getElem (by rw [(hSW i hi).1];omega)];rfl
      clear hSt hre hen hra hrl hf hz0 e0 e1 hiv v0 v1 hk3 hLM
      generalize Dd L pv.length k=S at *
      let CL:Nat→List (List Int):=fun i=>(List.range n).map fun j=>if j=pv.length then pr else if j<i then F1 (Ah (fA p m)) (Ah (fM p (By m md))) (Gu p m (en S j c)) pr (Aj S j) else Aj S j
      have hCl:∀ i,(CL i).length=n:=fun i=>by simp [CL]
      have hCa:∀ i j,j<n→(CL i)[j]?=some (if j=pv.length then pr else if j<i then F1 (Ah (fA p m)) (Ah (fM p (By m md))) (Gu p m (en S j c)) pr (Aj S j) else Aj S j):=fun i j hj=>by
       show ((List.range n).map _)[j]?=_
       rw [List.getElem?_map,List.getElem?_range hj];rfl
      have hC0:S.set pv.length pr=CL 0:=by
       refine List.ext_getElem? fun j=>?_
       by_cases hj:j<n
       ·rw [hCa 0 j hj,List.getElem?_set]
        by_cases e:pv.length=j
        ·rw [if_pos e,if_pos (by omega),if_pos e.symm]
        ·rw [if_neg e,if_neg (fun h=>e h.symm),if_neg (by omega),hSra j hj]
       ·rw [List.getElem?_eq_none (by rw [List.length_set];omega),List.getElem?_eq_none (by rw [hCl];omega)]
      have hCn:CL n=PV:=by
       rw [hpiv]
       refine List.map_congr_left fun j hj=>?_
       have:=List.mem_range.1 hj
       by_cases e:j=pv.length
       ·rw [if_pos e,if_pos e]
       ·rw [if_neg e,if_neg e,if_pos this]
      have hCt:∀ i,(CL i)[pv.length]?=some pr:=fun i=>by rw [hCa i _ hpl,if_pos rfl]
      have hCi:∀ i,i<n→i≠pv.length→(CL i)[i]?=some (Aj S i):=fun i hi e=>by rw [hCa i i hi,if_neg e,if_neg (Nat.lt_irrefl i)]
      have hCsame:∀ i,i<n→(i=pv.length∨en S i c=0)→CL (i+1)=CL i:=fun i hi h=>by
       refine List.map_congr_left fun j hj=>?_
       have hjn:=List.mem_range.1 hj
       by_cases e:j=pv.length
       ·rw [if_pos e,if_pos e]
       ·rw [if_neg e,if_neg e]
        by_cases e2:j<i
        ·rw [if_pos e2,if_pos (by omega)]
        ·rw [if_neg e2]
         by_cases e3:j=i
         ·subst e3
          rcases h with h|h
          ·exact absurd h e
          ·have n0:Gu p m 0=0:=O.n0
           rw [if_pos (by omega),h,n0,AHp O.fi hprW (hSW j hjn)]
         ·rw [if_neg (by omega)]
      have hCset:∀ i,i<n→i≠pv.length→CL (i+1)=(CL i).set i (F1 (Ah (fA p m)) (Ah (fM p (By m md))) (Gu p m (en S i c)) pr (Aj S i)):=fun i hi e=>by
       refine List.ext_getElem? fun j=>?_
       by_cases hj:j<n
       ·rw [hCa _ j hj,List.getElem?_set]
        by_cases e2:i=j
        ·subst e2
         rw [if_neg e,if_pos (Nat.lt_succ_self i),if_pos rfl,if_pos (by rw [hCl];exact hi)]
        ·rw [if_neg e2,hCa i j hj]
         by_cases e3:j=pv.length
         ·rw [if_pos e3,if_pos e3]
         ·rw [if_neg e3,if_neg e3]
          by_cases e4:j<i
          ·rw [if_pos e4,if_pos (by omega)]
          ·rw [if_neg e4,if_neg (by omega)]
       ·rw [List.getElem?_eq_none (by rw [hCl];omega),List.getElem?_eq_none (by rw [List.length_set,hCl];omega)]
      clear_value CL
      rw [hC0]
      refine wk 3 cz ?_
      refine Af (X:=Nat×List Value) [2,3,6,7,8,9,10,11] [0,1,2] (fun x=>[(13,.int .i64 (x.1:Int))]) (fun x=>(rp.bo,3,rp.cs)::(some bh,22,x.2)::_) (fun x=>[A3 (Ai Ao) ⟨some bh,caph,x.2⟩ n (CL x.1)]) (fun x=>x.1≤n) (fun x=>n-x.1) (0,ch') [1] rfl rfl rfl (Nat.zero_le _) (by repeat (first|exact Fr.sub_nil _|refine Fr.sub_cons rfl ?_)) rfl rfl ?_
      rintro ⟨i,ch2⟩ hi ihi
      simp only [List.cons_append,List.nil_append] at hi ihi ⊢
      by_cases hin:i<n
      ·by_cases hit:i=pv.length
       ·have ih':=fun ch=>ihi (i+1,ch) (by dsimp only;omega) (by dsimp only;omega)
        simp only [hCsame i hin (.inl hit)] at ih'
        refine wk 18 cz ?_
        intro h3 h4
        exact tw (ih' ch2)
       ·have at_w:=hCi i hin hit
        have at_x:=hSre i hin
        have hwl:=(hSW i hin).1
        by_cases hx0:en S i c=0
        ·have ih':=fun ch=>ihi (i+1,ch) (by dsimp only;omega) (by dsimp only;omega)
         simp only [hCsame i hin (.inr hx0)] at ih'
         refine wk 14 cz ?_
         intro h3 h4
         refine A2 rfl rfl (E6 1 0 (i) rfl rfl rfl C8 rfl (by omega) fun z1 hz1 pa1 ca1=>?_)
         obtain rfl:_=z1:=Option.some.inj (at_w.symm.trans hz1)
         refine wk 2 cz ?_
         intro b2 o1 hz2
         refine A2 rfl rfl (Ak 0 rfl rfl Bz fun ⟨r1,r2⟩=>?_)
         refine wk 6 cz ?_
         intro h5
         exact tw (ih' ch2)
        ·have ih':=fun ch=>ihi (i+1,ch) (by dsimp only;omega) (by dsimp only;omega)
         simp only [hCset i hin hit] at ih'
         have at_p:=hCt i
         have ex:(Aj S i).getD c default=en S i c:=Ix at_x
         obtain ⟨x0,x1⟩:=hSen i hin
         obtain ⟨⟨g0,g1⟩,-⟩:=O.ng _ x0 x1
         have hneg:0≤((nP p m ((Aj S i).getD c default).toNat:Nat):Int)∧((nP p m ((Aj S i).getD c default).toNat:Nat):Int)<((p ^ m:Nat):Int):=by rw [ex];exact ⟨g0,g1⟩
         have Q6:=fun {nm cm:Nat}{pm:Option Addr}{x:Int}=>Rb (nm:=nm) (cm:=cm) (pm:=pm) (x:=x) K
         have Fs:=fun {nm cm nu cu nv cv:Nat}{pm pu pv:Option Addr}{a:Int}(a0:0≤a) (a1:a<((p ^ m:Nat):Int))=>(Ig (nm:=nm) (cm:=cm) (pm:=pm) (pu:=pu) (nu:=nu) (cu:=cu) (pv:=pv) (nv:=nv) (cv:=cv) (a:=a) K a0 a1 hprW (hSW i hin)).pubR (by show W*8≤140737488355328;omega)
         refine wk 14 cz ?_
         intro h3 h4
         refine A2 rfl rfl (E6 1 0 (i) rfl rfl rfl C8 rfl (by omega) fun z1 hz1 pa1 ca1=>?_)
         obtain rfl:_=z1:=Option.some.inj (at_w.symm.trans hz1)
         refine wk 2 cz ?_
         intro b2 o1 hz2
         refine A2 rfl rfl (Ak 0 rfl rfl Bz fun ⟨r1,r2⟩=>?_)
         refine wk 5 (ct @Q6 (ct @Fs cz)) ?_
         intro h5 pa2 ca2 pa3 ca3 b3 o2 pa4 ca4 pa5 ca5
         refine Ab rfl (Hv (vs:=[Value.slice pa5 W ca5]) (z:=F1 (Ah (fA p m)) (Ah (fM p (By m md))) (↑(nP p m ((Aj S i).getD c default).toNat)) pr (Aj S i)) 1 7 (i) rfl rfl rfl rfl rfl C8 (Nat.mul_one _).symm (by omega) (fun w A hG=>(C0 (hG _ (Ap (n:=0) rfl)))) fun cs1=>?_)
         refine wk 3 cz ?_
         rw [ex]
         exact tw (ih' cs1)
      ·obtain rfl:i=n:=by omega
       rw [hCn]
       clear ihi hC0 hCn hCt hCi hCsame hCset hCa hCl
       refine wk 9 cz ?_
       intro h3 b2
       refine Ab rfl (Fq (z:=(↑c:Int)) 1 0 1 rfl rfl rfl rfl rfl B6 E3 rfl (fun w A hG=>(Dv (by first|(simp only [Ca];omega)|(simp [Ca];done)))) (by omega) _ F4 (by omega) fun r1=>?_)
       refine wk 6 cz ?_
       have ih':=fun ch rp=>ih (c+1,ch,rp,PV,pv++[c]) (by dsimp only;omega) ⟨by dsimp only;omega,hplen,hpM',by rw [List.length_append,List.length_singleton];omega,by rw [List.length_append,List.length_singleton];exact hE1',by rw [List.length_append,List.length_singleton,List.append_assoc];exact hE2'⟩
       have et:A7 (pv++[c])=A7 pv++[(c:Int)]:=by simp [A7]
       simp only [et,List.length_append,List.length_singleton] at ih'
       refine Jr [true,false,true,true] [0,1,4] (by exact Tx rfl) rfl rfl (ih' ch2 r1)
     by_cases h1:en L k c=1
     ·have hV:He p m md (en L k c)=1:=by
       rw [h1] at hiv v0 v1 ⊢
       have v0':0≤He p m md 1:=v0
       have v1':He p m md 1<((p ^ m:Nat):Int):=v1
       have h2:Ah (fM p (By m md)) 1 (He p m md 1)=1:=hiv
       rw [O.fi.mc 1 _ (by omega) (by omega) v0' v1',O.fi.m1 _ v0' v1'] at h2
       exact h2
      have hs1:(Dd L pv.length k).set pv.length (B0 (Ah (fM p (By m md))) (He p m md (en L k c)) (Aj L k))=(L.set pv.length (Aj L k)).set k (Aj L pv.length):=by
       rw [hV,AEJ O.fi (hLM.row (by omega))]
       obtain ⟨h2,h3⟩:=List.getElem?_eq_some_iff.1 at_v
       refine List.ext_getElem? fun j=>?_
       rw [List.getElem?_set]
       by_cases e:pv.length=j
       ·subst e
        rw [if_pos rfl,if_pos (by rw [hSl];exact hpl),at_v]
       ·rw [if_neg e];rfl
      rw [hs1] at key
      refine wk 8 cz ?_
      intro h3
      refine A2 rfl rfl (E6 1 1 (k) rfl rfl rfl C8 rfl (by omega) fun z1 hz1 pa1 ca1=>?_)
      obtain rfl:_=z1:=Option.some.inj (at_u.symm.trans hz1)
      refine wk 2 cz ?_
      intro b2 o1 hz2
      refine A2 rfl rfl (Ak 0 rfl rfl Bz fun ⟨r1,r2⟩=>?_)
      refine wk 10 cz ?_
      intro h4 h5
      (apply Pj (x0:=none) it mx 0 13 [2,3] 1;(· rfl);(· rfl);(· rfl);(· decide))
      simp only [List.drop_zero]
      (apply Am 6;(· rfl);(· simp))
      (apply Ac;(· rfl);(· exact Bc fun _=>Bi (k) (k) rfl rfl Du rfl (by omega) (Nat.mul_one _) Ag))
      (apply Co;(· rfl);(· exact Mn 1 3 (k) rfl rfl rfl C8 rfl (by assumption));intro pa2 ca2)
      (apply Am 2;(· rfl);(· simp))
      (apply Ac;(· rfl);(· exact Bc fun _=>Bi (pv.length) (pv.length) rfl rfl Du rfl (by omega) (Nat.mul_one _) Ag))
      (apply Co;(· rfl);(· exact Mn 1 3 (pv.length) rfl rfl rfl C8 rfl (by assumption));intro pa3 ca3)
      (apply Ac;(· rfl);(· exact Bc fun _=>Bi (pv.length) (pv.length) rfl rfl Du rfl (by omega) (Nat.mul_one _) Ag))
      refine Ot rfl ?_
      (rotate_left;rfl;rotate_right)
      simp only [List.map_cons,List.map_nil,List.cons_append,List.nil_append]
      refine Uu it rfl rfl ⟨⟨_,_,_,_,rfl,rfl,rfl,rfl,rfl,rfl,(by first|trivial|(repeat' first|exact trivial|apply And.intro|omega))⟩,⟨⟨_,_,_,_,rfl,rfl,rfl,rfl,rfl,rfl,(by first|trivial|(repeat' first|exact trivial|apply And.intro|omega))⟩,trivial⟩⟩ (Hv (vs:=[Value.slice pa2 (Aj L k).length ca2]) (z:=Aj L k) 1 5 (pv.length) rfl rfl rfl rfl rfl C8 (Nat.mul_one _).symm (by omega) (fun w A hG=>(C0 (hG _ (Ap (n:=1) rfl)))) fun cs1=>?_)
      refine Xt it ⟨⟨_,_,_,_,rfl,rfl,rfl,rfl,rfl,rfl,(by first|trivial|(repeat' first|exact trivial|apply And.intro|omega))⟩,⟨⟨_,_,_,_,rfl,rfl,rfl,rfl,rfl,rfl,(by first|trivial|(repeat' first|exact trivial|apply And.intro|omega))⟩,trivial⟩⟩ ?_
      refine wk 1 cz ?_
      refine Ab rfl (Hv (vs:=[Value.slice pa3 (Aj L pv.length).length ca3]) (z:=Aj L pv.length) 1 0 (k) rfl rfl rfl rfl rfl C8 (Nat.mul_one _).symm (by omega) (fun w A hG=>(C0 (hG _ (Ap (n:=1) rfl)))) fun cs2=>?_)
      refine wk 3 cz ?_
      refine Ab rfl (E6 1 0 (pv.length) rfl rfl rfl C8 rfl (by omega) fun z1 hz3 pa4 ca4=>?_)
      obtain rfl:_=z1:=Option.some.inj (at_v.symm.trans hz3)
      refine wk 2 cz ?_
      intro b3 o2 hz4
      refine Ab rfl (Ak 0 rfl rfl Bz fun ⟨r3,r4⟩=>?_)
      refine wk 3 cz ?_
      intro h6
      refine AC4 1 [.c (pL 128159),.blk 1,.c (pL 2003),.lp (pL 500),.blk 0,.c [1,1,1,1,1]] rfl ?_
      exact tw (key cs2)
     ·have Rm:=fun {nm cm:Nat}{pm:Option Addr}{x:Int}=>Rh (nm:=nm) (cm:=cm) (pm:=pm) (x:=x) K
      have Pg:=fun {nm cm cu:Nat}{pm pu:Option Addr}{a:Int}(a0:0≤a) (a1:a<((p ^ m:Nat):Int))=>(Ol (nm:=nm) (cm:=cm) (pm:=pm) (pu:=pu) (nu:=(Aj L k).length) (cu:=cu) (a:=a) (u:=Aj L k) K a0 a1 (hLM.row (by omega)).2).pubR (by show (Aj L k).length*8≤140737488355328;omega)
      have hiv2:0≤((iF (p ^ m) (fM p (By m md)) ((Aj L k).getD c default).toNat:Nat):Int)∧((iF (p ^ m) (fM p (By m md)) ((Aj L k).getD c default).toNat:Nat):Int)<((p ^ m:Nat):Int):=by rw [ek];exact ⟨v0,v1⟩
      rw [show (Dd L pv.length k).set pv.length (B0 (Ah (fM p (By m md))) (He p m md (en L k c)) (Aj L k))=((L.set pv.length (Aj L k)).set k (Aj L pv.length)).set pv.length (B0 (Ah (fM p (By m md))) ((iF (p ^ m) (fM p (By m md)) (en L k c).toNat:Nat):Int) (Aj L k)) from rfl] at key
      refine wk 8 cz ?_
      intro h3
      refine A2 rfl rfl (E6 1 1 (k) rfl rfl rfl C8 rfl (by omega) fun z1 hz1 pa1 ca1=>?_)
      obtain rfl:_=z1:=Option.some.inj (at_u.symm.trans hz1)
      refine wk 2 cz ?_
      intro b2 o1 hz2
      refine A2 rfl rfl (Ak 0 rfl rfl Bz fun ⟨r1,r2⟩=>?_)
      refine wk 10 cz ?_
      intro h4 h5
      (apply Pj (x0:=none) it mx 0 13 [2,3] 1;(· rfl);(· rfl);(· rfl);(· decide))
      simp only [List.drop_zero]
      (apply Am 6;(· rfl);(· simp))
      (apply Ac;(· rfl);(· exact Bc fun _=>Bi (k) (k) rfl rfl Du rfl (by omega) (Nat.mul_one _) Ag))
      (apply Co;(· rfl);(· exact Mn 1 3 (k) rfl rfl rfl C8 rfl (by assumption));intro pa2 ca2)
      (apply Am 2;(· rfl);(· simp))
      (apply Ac;(· rfl);(· exact Bc fun _=>Bi (pv.length) (pv.length) rfl rfl Du rfl (by omega) (Nat.mul_one _) Ag))
      (apply Co;(· rfl);(· exact Mn 1 3 (pv.length) rfl rfl rfl C8 rfl (by assumption));intro pa3 ca3)
      (apply Ac;(· rfl);(· exact Bc fun _=>Bi (pv.length) (pv.length) rfl rfl Du rfl (by omega) (Nat.mul_one _) Ag))
      refine Ot rfl ?_
      (rotate_left;rfl;rotate_right)
      simp only [List.map_cons,List.map_nil,List.cons_append,List.nil_append]
      refine Uu it rfl rfl ⟨⟨_,_,_,_,rfl,rfl,rfl,rfl,rfl,rfl,(by first|trivial|(repeat' first|exact trivial|apply And.intro|omega))⟩,⟨⟨_,_,_,_,rfl,rfl,rfl,rfl,rfl,rfl,(by first|trivial|(repeat' first|exact trivial|apply And.intro|omega))⟩,trivial⟩⟩ (Hv (vs:=[Value.slice pa2 (Aj L k).length ca2]) (z:=Aj L k) 1 5 (pv.length) rfl rfl rfl rfl rfl C8 (Nat.mul_one _).symm (by omega) (fun w A hG=>(C0 (hG _ (Ap (n:=1) rfl)))) fun cs1=>?_)
      refine Xt it ⟨⟨_,_,_,_,rfl,rfl,rfl,rfl,rfl,rfl,(by first|trivial|(repeat' first|exact trivial|apply And.intro|omega))⟩,⟨⟨_,_,_,_,rfl,rfl,rfl,rfl,rfl,rfl,(by first|trivial|(repeat' first|exact trivial|apply And.intro|omega))⟩,trivial⟩⟩ ?_
      refine wk 1 cz ?_
      refine Ab rfl (Hv (vs:=[Value.slice pa3 (Aj L pv.length).length ca3]) (z:=Aj L pv.length) 1 0 (k) rfl rfl rfl rfl rfl C8 (Nat.mul_one _).symm (by omega) (fun w A hG=>(C0 (hG _ (Ap (n:=1) rfl)))) fun cs2=>?_)
      refine wk 3 cz ?_
      refine Ab rfl (E6 1 0 (pv.length) rfl rfl rfl C8 rfl (by omega) fun z1 hz3 pa4 ca4=>?_)
      obtain rfl:_=z1:=Option.some.inj (at_v.symm.trans hz3)
      refine wk 2 cz ?_
      intro b3 o2 hz4
      refine Ab rfl (Ak 0 rfl rfl Bz fun ⟨r3,r4⟩=>?_)
      refine wk 5 (ct @Rm (ct @Pg cz)) ?_
      intro h6 pa5 ca5 b4 o3 pa6 ca6 pa7 ca7
      refine Ab rfl (Hv (vs:=[Value.slice pa7 (Aj L k).length ca7]) (z:=B0 (Ah (fM p (By m md))) (↑(iF (p ^ m) (fM p (By m md)) ((Aj L k).getD c default).toNat)) (Aj L k)) 1 6 (pv.length) rfl rfl rfl rfl rfl C8 (Nat.mul_one _).symm (by omega) (fun w A hG=>(C0 (hG _ (Ap (n:=0) rfl)))) fun cs3=>?_)
      refine AC4 1 [.c (pL 128159),.blk 1,.c (pL 2003),.lp (pL 500),.blk 0,.c [1,1,1,1,1]] rfl ?_
      rw [ek]
      exact tw (key cs3)
   ·clear ihk
    obtain rfl:n=k:=by omega
    have hf:Jm L pv.length c=none:=ACM fun j h1 h2=>hk3 j h1 (by omega)
    rw [Nk,show N-c=(N-(c+1))+1 by omega,Dn,hf] at hE1 hE2
    refine wk 18 cz ?_
    intro h3 h4
    exact tw (ih (c+1,ch,rp,L,pv) (by dsimp only;omega) ⟨by dsimp only;omega,hL,hLM,hpv,hE1,hE2⟩)
  ·rw [Nk,Lw _ _ _ _ (by omega)] at hE1 hE2
   rw [List.append_nil] at hE2
   obtain ⟨E1,E2⟩:=EE
   obtain rfl:L=E1:=hE1
   obtain rfl:pv=E2:=hE2
   clear ih
   refine Dc 0 0 rfl rfl (by show pv.length*8≤140737488355328;omega) ?_
   refine Dc 0 2 rfl rfl (by show n*24≤140737488355328;omega) ?_
   refine wk 14 cz ?_
   intro h1 h2
   refine Cn [0,1] rfl rfl rfl ⟨_,_,_,_,rfl,rfl,rfl⟩
 ·obtain rfl:c=N:=by omega
  rw [Nat.sub_self,Nk,Dn] at hE1 hE2
  rw [List.append_nil] at hE2
  obtain ⟨E1,E2⟩:=EE
  obtain rfl:L=E1:=hE1
  obtain rfl:pv=E2:=hE2
  clear ih
  refine Dc 0 0 rfl rfl (by show pv.length*8≤140737488355328;omega) ?_
  refine Dc 0 2 rfl rfl (by show n*24≤140737488355328;omega) ?_
  refine wk 12 cz ?_
  intro h1
  refine Cn [0,1] rfl rfl rfl ⟨_,_,_,_,rfl,rfl,rfl⟩
theorem Ij {p m n N nm cm c:Nat}{pm ps:Option Addr}{Aa:List (List Int)}{md:List Int}(K:Fok p m md) (hn:n≤1000000) (hN:N≤1000000) (hl:Aa.length=n) (hM:Dy (p ^ m) N Aa) :
  Bk Tryz.prog 97 [.agg #[.int .i64 p,.int .i64 m,.slice pm nm cm],.slice ps n c,.int .i64 N] [] [Aw Ao pm nm cm md,Aw (Ai Ao) ps n c Aa] (CnR (Qm p m md N Aa)):=by
 refine Ad (F:=Oe) rfl fun C=>?_
 have K9:=fun {nm cm c:Nat}{pm ps:Option Addr}=>Ln (nm:=nm) (cm:=cm) (pm:=pm) (ps:=ps) (c:=c) K hn (Nat.le_refl N) hN hl hM
 have hEk:(Nk p m md N 0 0 Aa).2.length≤n:=by
  have:=Up (A:=Ah (fA p m)) (M:=Ah (fM p (By m md))) (N:=Gu p m) (V:=He p m md) N 0 0 Aa (Nat.zero_le _)
  rw [Nat.zero_add,hl] at this;exact this
 show J _ _ _ _ _ _ (No C (CnR ((Nk p m md N 0 0 Aa).1.take (Nk p m md N 0 0 Aa).2.length,(Nk p m md N 0 0 Aa).2)))
 generalize Nk p m md N 0 0 Aa=E at *
 refine wk 11 (ct @K9 cz) ?_
 intro b1 pb1 pp1 cb1 cp1
 refine Ab rfl (Tc 0 (E.snd.length) rfl rfl rfl Du (by omega) (by omega) ?_)
 refine wk 2 cz ?_
 refine Cn [0,2] rfl rfl rfl ⟨_,_,_,_,rfl,rfl,rfl⟩
theorem M9 {p m nm cm nx cx n c N:Nat}{pm px ps:Option Addr}{x md:List Int}{Aa:List (List Int)}(K:Fok p m md) (hN:N≤1000000) (hM:Dy (p ^ m) N Aa) (hx:Wd (p ^ m) Aa.length x) :
  Bk Tryz.prog 42 [.agg #[.int .i64 p,.int .i64 m,.slice pm nm cm],.slice px nx cx,.slice ps n c,.int .i64 N] [] [Aw Ao pm nm cm md,Aw Ao px nx cx x,Aw (Ai Ao) ps n c Aa]
   (fun v Φ β=>∃ (pb:Option Addr) (cb:Nat),v = .slice pb N cb∧Φ=[Aw Ao pb N cb (cbP p m md N x Aa)]∧β=[]):=by
 refine Ad (F:=Mv) rfl fun C=>?_
 have O:=Hq K
 have hq:=K.q
 refine Ay 1 rfl fun hn hb _=>?_
 subst hn
 refine Ay 2 rfl fun hn hb2 _=>?_
 subst hn
 have hb':x.length*8≤140737488355328:=hb
 have hb2':Aa.length*24≤140737488355328:=hb2
 have hxl:=hx.1
 have Fs:=fun {nm cm nu cu nv cv:Nat}{pm pu pv:Option Addr}{a:Int}{u v:List Int}(a0:0≤a) (a1:a<((p ^ m:Nat):Int)) (hu:Wd (p ^ m) N u) (hv:Wd (p ^ m) N v)=>(Ig (nm:=nm) (cm:=cm) (pm:=pm) (pu:=pu) (nu:=nu) (cu:=cu) (pv:=pv) (nv:=nv) (cv:=cv) (a:=a) (u:=u) (v:=v) K a0 a1 hu hv).pubR (by show N*8≤140737488355328;omega)
 refine wk 10 cz ?_
 intro b1 b2
 have hz:=O.wz N
 rw [show An .i64 (List.replicate N 0)=Al .i64 (zW N) by simp [An,Al,zW]]
 refine Eh (kd:=.i64) (n:=N) 8 (zW N) 0 rfl hz.1.symm (fun y hy=>by have:=hz.2 y hy;simp only [Ca];omega) (by omega) (by omega) ?_
 refine Af (X:=Nat×Option Addr×Nat×List Int) [1,2,4,8] [0,1,2,3] (fun i=>[(10,.int .i64 (i.1:Int)),(9,.slice i.2.1 N i.2.2.1)]) (fun _=>_) (fun i=>[Aw Ao i.2.1 N i.2.2.1 i.2.2.2]) (fun i=>i.1≤x.length∧Wd (p ^ m) N i.2.2.2∧Oj (Ah (fA p m)) (Ah (fM p (By m md))) (x.drop i.1) (Aa.drop i.1) i.2.2.2=cbP p m md N x Aa) (fun i=>x.length-i.1) (0,some ⟨b2,0,none⟩,N,zW N) [0] rfl rfl rfl ⟨Nat.zero_le _,hz,rfl⟩ (by repeat (first|exact Fr.sub_nil _|refine Fr.sub_cons rfl ?_)) rfl rfl ?_
 rintro ⟨i,pa,ca,u⟩ ⟨hi,hu,he⟩ ih
 simp only [List.cons_append,List.nil_append] at hi hu he ih ⊢
 by_cases h9:i<x.length
 ·obtain ⟨a,at_a⟩:∃ a,x[i]?=some a:=⟨_,List.getElem?_eq_getElem h9⟩
  obtain ⟨v,at_v⟩:∃ v,Aa[i]?=some v:=⟨_,List.getElem?_eq_getElem (by omega)⟩
  obtain ⟨a0,a1⟩:=hx.2 a (List.mem_of_getElem? at_a)
  have hv:=hM v (List.mem_of_getElem? at_v)
  have ea:=Ix at_a
  have ev:=Ix at_v
  rw [AAP at_a at_v] at he
  by_cases ha:a=0
  ·rw [if_pos ha] at he
   refine wk 14 cz ?_
   intro h1 h2 b3 o1 hz1
   refine Ab rfl (Ak 0 rfl rfl Bz fun ⟨r1,r2⟩=>?_)
   refine wk 6 cz ?_
   intro h3
   exact tw (ih (i+1,pa,ca,u) (by dsimp only;omega) ⟨by dsimp only;omega,hu,he⟩)
  ·rw [if_neg ha] at he
   rw [← ea,← ev] at he
   rw [← ev] at hv
   have hw:=O.fi.axw a0 a1 hv hu
   rw [← ea] at hw
   refine wk 14 cz ?_
   intro h1 h2 b3 o1 hz1
   refine Ab rfl (Ak 0 rfl rfl Bz fun ⟨r1,r2⟩=>?_)
   refine wk 8 (ct @Fs cz) ?_
   intro h3 b4 o2 b5 o3 pa1 ca1 pa2 ca2
   exact tw (ih (i+1,pa2,ca2,F1 (Ah (fA p m)) (Ah (fM p (By m md))) (x.getD i default) (Aa.getD i default) u) (by dsimp only;omega) ⟨by dsimp only;omega,hw,he⟩)
 ·rw [ACD (by omega)] at he
  subst he
  refine wk 12 cz ?_
  intro h1
  refine Cn [0] rfl rfl rfl ⟨_,_,rfl,rfl,rfl⟩
open Classical in
noncomputable def sfE (P M:Int) (md:List Int) (N:Int) (Aa:List (List Int)):Int:=if ¬ Uz P M md then 1 else spE P.toNat M.toNat md N Aa
theorem O8 {P M N e:Int}{nm cm n c:Nat}{pm ps:Option Addr}{md:List Int}{Aa:List (List Int)}(hN:Ca .i64 N) (he:sfE P M md N Aa=e) :
  Bk Tryz.prog 63 [.agg #[.int .i64 P,.int .i64 M,.slice pm nm cm],.agg #[.int .i64 N,.slice ps n c]] [] [Aw Ao pm nm cm md,Aw (Ai Ao) ps n c Aa] (Rv (.int .i64 e) []):=by
 refine Ad (F:=Oq) rfl fun C=>?_
 refine Ay 1 rfl fun hn hb _=>?_
 subst hn
 have hb':Aa.length*24≤140737488355328:=hb
 have Bp:=fun {nm cm n c:Nat}{pm ps:Option Addr}=>O9 (P:=P) (M:=M) (N:=N) (md:=md) (Aa:=Aa) (nm:=nm) (cm:=cm) (n:=n) (c:=c) (pm:=pm) (ps:=ps) hN rfl
 rw [sfE] at he
 by_cases hc:Uz P M md
 ·rw [if_neg (fun h=>h hc)] at he
  have hk:mkE P M md N Aa=Vq N Aa (P.toNat ^ M.toNat):=by rw [mkE,if_neg (fun h=>h hc)]
  rw [hk] at Bp
  obtain ⟨p,m,rfl,rfl,K⟩:=Zx hc
  rw [Int.toNat_natCast,Int.toNat_natCast] at he Bp
  have hr:=S6 N Aa (p ^ m)
  rw [spE] at he
  by_cases h0:Vq N Aa (p ^ m)=0
  ·rw [if_neg (by omega)] at he
   rw [h0] at Bp
   obtain ⟨k,rfl,hk,hl,hM⟩:=AEm h0
   rw [Int.toNat_natCast] at he
   have D5:=fun {nm cm c:Nat}{pm ps:Option Addr}=>Ij (nm:=nm) (cm:=cm) (pm:=pm) (ps:=ps) (c:=c) (n:=Aa.length) K (by omega) (show k≤1000000 by omega) rfl hM
   by_cases hcn:(Qm p m md k Aa).1=Aa
   ·rw [if_pos hcn] at he
    subst he
    have hd:decide ((Qm p m md k Aa).1=Aa)=true:=decide_eq_true hcn
    refine wk 32 (ct @Bp (ct @D5 (ct @Gw cz))) ?_
    intro b1 b2 h1 pb1 pp1 cb1 cp1
    exact ge
   ·rw [if_neg hcn] at he
    subst he
    have hd:decide ((Qm p m md k Aa).1=Aa)=false:=decide_eq_false hcn
    refine wk 32 (ct @Bp (ct @D5 (ct @Gw cz))) ?_
    intro b1 b2 h1 pb1 pp1 cb1 cp1
    exact ge
  ·rw [if_pos h0] at he
   subst he
   refine wk 16 (ct @Bp cz) ?_
   intro b1 b2 h1
   exact ge
 ·rw [if_pos hc] at he
  subst he
  have hk:mkE P M md N Aa=1:=by rw [mkE,if_pos hc]
  rw [hk] at Bp
  refine wk 16 (ct @Bp cz) ?_
  intro b1 b2 h1
  exact ge
theorem Fu {P M N e:Int}{pm ps:Option Addr}{nm cm n c:Nat}{md:List Int}{Aa:List (List Int)}(hN:Ca .i64 N) (h:W9 P M md N Aa=e) :
  Bk Tryz.prog 30 [.agg #[.int .i64 P,.int .i64 M,.slice pm nm cm,.int .i64 N,.slice ps n c]] [] [Aw Ao pm nm cm md,Aw (Ai Ao) ps n c Aa] (Rv (.int .i64 e) []):=by
 refine Ad (F:=Pa) rfl fun C=>?_
 rw [W9] at h
 by_cases hc:Uz P M md
 ·rw [if_neg (fun h=>h hc)] at h
  have A5:=fun {pm:Option Addr}{nm cm:Nat}=>D3 (P:=P) (M:=M) (md:=md) (pm:=pm) (nm:=nm) (cm:=cm) (if_pos hc).symm
  have hs:sfE P M md N Aa=spE P.toNat M.toNat md N Aa:=by rw [sfE,if_neg (fun h=>h hc)]
  by_cases h1:N<1
  ·rw [if_pos (.inl h1)] at h
   subst h
   refine wk 24 (ct @A5 cz) ?_
   intro b1 h2 h3
   exact ge
  ·by_cases h2:64<N
   ·rw [if_pos (.inr h2)] at h
    subst h
    refine wk 26 (ct @A5 cz) ?_
    intro b1 h3 h4 h5
    exact ge
   ·rw [if_neg (by omega),← hs] at h
    have Pd:=fun {nm cm n c:Nat}{pm ps:Option Addr}=>O8 (nm:=nm) (cm:=cm) (n:=n) (c:=c) (pm:=pm) (ps:=ps) hN h
    refine wk 34 (ct @A5 (ct @Pd cz)) ?_
    intro b1 h3 h4 h5
    exact ge
 ·rw [if_pos hc] at h
  subst h
  have A5:=fun {pm:Option Addr}{nm cm:Nat}=>D3 (P:=P) (M:=M) (md:=md) (pm:=pm) (nm:=nm) (cm:=cm) (if_neg hc).symm
  refine wk 15 (ct @A5 cz) ?_
  intro b1 h1
  exact ge
section
variable {q:Nat}{A M:Int→Int→Int}{N V:Int→Int}(O:FO q A M N V)
include O
end
open Go Go.Fw
set_option maxRecDepth 100000
set_option linter.unusedVariables false
set_option linter.unusedSimpArgs false
set_option maxHeartbeats 0
theorem dot_snoc {q:Nat}{A M:Int→Int→Int}(F:FI q A M):∀ {n:Nat}{u v:List Int}{x y:Int},Wd q n u→Wd q n v→0≤x→x<q→0≤y→y<q→Cq A M (u++[x]) (v++[y])=A (Cq A M u v) (M x y)
 | 0,u,v,x,y,hu,hv,x0,x1,y0,y1=>by
  rw [List.length_eq_zero_iff.1 hu.1,List.length_eq_zero_iff.1 hv.1]
  obtain ⟨m0,m1⟩:=F.ml x y x0 x1 y0 y1
  show A (M x y) 0=A 0 (M x y)
  exact F.ac _ _ m0 m1 (Int.le_refl 0) F.z
 | n+1,[],_,_,_,h,_,_,_,_,_=>by have:=h.1;simp at this
 | n+1,_::_,[],_,_,_,h,_,_,_,_=>by have:=h.1;simp at this
 | n+1,a::u,b::v,x,y,hu,hv,x0,x1,y0,y1=>by
  obtain ⟨a0,a1⟩:=hu.2 a (.head _)
  obtain ⟨b0,b1⟩:=hv.2 b (.head _)
  have hu':Wd q n u:=⟨by simpa using hu.1,fun z hz=>hu.2 z (.tail _ hz)⟩
  have hv':Wd q n v:=⟨by simpa using hv.1,fun z hz=>hv.2 z (.tail _ hz)⟩
  obtain ⟨m0,m1⟩:=F.ml a b a0 a1 b0 b1
  obtain ⟨k0,k1⟩:=F.ml x y x0 x1 y0 y1
  obtain ⟨d0,d1⟩:=F.dlt hu' hv'
  show A (M a b) (Cq A M (u++[x]) (v++[y]))=A (A (M a b) (Cq A M u v)) (M x y)
  rw [dot_snoc F hu' hv' x0 x1 y0 y1,F.aa _ _ _ m0 m1 d0 d1 k0 k1]
theorem ABf {q x:Int}(hq:0<q):0≤inI q x∧inI q x<q:=by
 unfold inI;split
 ·assumption
 ·exact ⟨Int.le_refl 0,hq⟩
abbrev Wy (w hs:List Int):List Int:=hs.map fun j=>Bm w j.toNat
theorem Qb {q N nw cw nh ch:Nat}{pw ph:Option Addr}{w hs:List Int}(hq:q≤256) (h0:0<q) (hw:Wd q N w) (hN:N≤1000000) (hl:hs.length≤1000000) (hst:∀ x∈hs,0≤x∧x<(N:Int)) :
  Bk Tryz.prog 85 [.slice pw nw cw,.slice ph nh ch] [] [Aw Ao pw nw cw w,Aw Ao ph nh ch hs] (fun v Φ β=>∃ (pb:Option Addr) (cb:Nat),v = .slice pb hs.length cb∧Φ=[Aw Ao pb hs.length cb (Wy w hs)]∧β=[]):=by
 refine Ad (F:=P0) rfl fun C=>?_
 refine Ay 0 rfl fun hn hb _=>?_
 subst hn
 refine Ay 1 rfl fun hn hb2 _=>?_
 subst hn
 have hwl:=hw.1
 have hTl:(Wy w hs).length=hs.length:=List.length_map _
 have hTr:∀ z∈Wy w hs,Ca .i64 z:=fun z hz=>by
  obtain ⟨j,_,rfl⟩:=List.mem_map.1 hz
  have:=A6 h0 hw j.toNat
  simp only [Ca];omega
 refine wk 10 cz ?_
 intro b1
 rw [show An .i64 (List.replicate hs.length 0)=Al .i64 ((Wy w hs).take 0++List.replicate (hs.length-0) 0) by simp [An,Al]]
 refine Af (X:=Nat) [0,1,4,5] [0,1] (fun k=>[(6,.int .i64 (k:Int))]) (fun k=>(some b1,3,Al .i64 ((Wy w hs).take k++List.replicate (hs.length-k) 0))::_) (fun _=>[]) (fun k=>k≤hs.length) (fun k=>hs.length-k) 0 [] rfl rfl rfl (Nat.zero_le _) (by repeat (first|exact Fr.sub_nil _|refine Fr.sub_cons rfl ?_)) rfl rfl ?_
 rintro k hk ihk
 simp only [List.cons_append,List.nil_append] at hk ihk ⊢
 by_cases h8:k<hs.length
 ·obtain ⟨x,at_x⟩:∃ x,hs[k]?=some x:=⟨_,List.getElem?_eq_getElem h8⟩
  obtain ⟨x0,x1⟩:=hst x (List.mem_of_getElem? at_x)
  have hT:(Wy w hs)[k]?=some (Bm w x.toNat):=by rw [Wy,List.getElem?_map,at_x];rfl
  obtain ⟨x,rfl⟩:=Int.eq_ofNat_of_zero_le x0
  rw [Int.toNat_natCast] at hT
  have at_y:w[x]?=some (Bm w x):=by
   rw [Bm,List.getD_eq_getElem?_getD,List.getElem?_eq_getElem (by omega)];rfl
  have ih':=ihk (k+1) (by omega) (by omega)
  rw [← take_set hT h8] at ih'
  have hln:((Wy w hs).take k++List.replicate (hs.length-k) 0).length=hs.length:=by rw [List.length_append,List.length_take,List.length_replicate];omega
  generalize (Wy w hs).take k++List.replicate (hs.length-k) 0=L at *
  refine wk 9 cz ?_
  intro h1 b2 o1 hz1
  refine Ab rfl (Ak 0 rfl rfl Bz fun ⟨r1,r2⟩=>?_)
  refine wk 1 cz ?_
  intro b3 o2 hz2
  refine Ab rfl (Ak 0 rfl rfl Bz fun ⟨r3,r4⟩=>?_)
  refine wk 5 cz ?_
  exact tw (ih')
 ·obtain rfl:k=hs.length:=by omega
  rw [Nat.sub_self,List.replicate_zero,List.append_nil,List.take_of_length_le (by omega)]
  clear ihk
  refine wk 9 cz ?_
  intro h1
  refine G5 0 rfl hTl.symm hTr (by omega) ?_
  refine Dc 0 0 rfl rfl (by show hs.length*8≤140737488355328;omega) ?_
  simp only [List.eraseIdx_cons_zero,List.eraseIdx_cons_succ]
  refine Cn [0] rfl rfl rfl ⟨_,_,rfl,rfl,rfl⟩
theorem E4 {ps:Option Addr}{n c:Nat}{x:Int}{l:List Int}{res:Bool}(hr:decide (x∈l)=res):Bk Tryz.prog 175 [.slice ps n c,.int .i64 x] [] [Aw Ao ps n c l] (Rv (.bool res) []):=by
 refine Ad (F:=Rz) rfl fun C=>?_
 subst hr
 refine Ay 0 rfl fun hn hb _=>?_
 subst hn
 have hb':l.length*8≤140737488355328:=hb
 refine wk 5 cz ?_
 refine Af (X:=Nat) [0,1] [0] (fun i=>[(5,.int .i64 (i:Int))]) (fun _=>[]) (fun _=>[]) (fun i=>i≤l.length∧∀ y∈l.take i,x≠y) (fun i=>l.length-i) 0 [] rfl rfl rfl ⟨Nat.zero_le _,fun j h=>by simp at h⟩ (by repeat (first|exact Fr.sub_nil _|refine Fr.sub_cons rfl ?_)) rfl rfl ?_
 rintro i ⟨hi,hno⟩ ih
 simp only [List.cons_append,List.nil_append] at hi ih ⊢
 by_cases h9:i<l.length
 ·obtain ⟨y,at_y⟩:∃ y,l[i]?=some y:=⟨_,List.getElem?_eq_getElem h9⟩
  by_cases h8:y=x
  ·subst h8
   rw [decide_eq_true (List.mem_of_getElem? at_y)]
   refine wk 9 cz ?_
   intro h1 b1 o1 hz1
   refine Ab rfl (Ak 0 rfl rfl Bz fun ⟨r1,r2⟩=>?_)
   refine wk 6 cz ?_
   intro h2
   exact ge
  ·refine wk 9 cz ?_
   intro h1 b1 o1 hz1
   refine Ab rfl (Ak 0 rfl rfl Bz fun ⟨r1,r2⟩=>?_)
   refine wk 6 cz ?_
   intro h2
   exact tw (ih (i+1) (by omega) ⟨by omega,T9 at_y hno fun e=>h8 e.symm⟩)
 ·rw [decide_eq_false fun hm=>hno x (by rwa [List.take_of_length_le (by omega)]) rfl]
  refine wk 9 cz ?_
  intro h1
  exact ge
theorem Hx {ps:Option Addr}{nn c:Nat}{n:Int}{l:List Int}{res:Bool}(hr:decide (stP n l)=res):Bk Tryz.prog 174 [.slice ps nn c,.int .i64 n] [] [Aw Ao ps nn c l] (Rv (.bool res) []):=by
 refine Ad (F:=Nv) rfl fun C=>?_
 subst hr
 refine Ay 0 rfl fun hn hb _=>?_
 subst hn
 have hb':l.length*8≤140737488355328:=hb
 refine wk 5 cz ?_
 refine Af (X:=Nat) [0,1] [0] (fun i=>[(5,.int .i64 (i:Int))]) (fun _=>[]) (fun _=>[]) (fun i=>i≤l.length∧∀ j,j<i→stA n l j) (fun i=>l.length-i) 0 [] rfl rfl rfl ⟨Nat.zero_le _,fun j h=>by omega⟩ (by repeat (first|exact Fr.sub_nil _|refine Fr.sub_cons rfl ?_)) rfl rfl ?_
 rintro i ⟨hi,hno⟩ ih
 simp only [List.cons_append,List.nil_append] at hi ih ⊢
 by_cases h9:i<l.length
 ·obtain ⟨x,at_x⟩:∃ x,l[i]?=some x:=⟨_,List.getElem?_eq_getElem h9⟩
  have ex:=Ix at_x
  have bad:∀ P:Prop,¬ stA n l i→decide (stP n l)=false:=fun _ h=>decide_eq_false (AHd h9 h)
  have good:stA n l i→∀ j,j<i+1→stA n l j:=fun h j hj=>by
   rcases Nat.lt_succ_iff_lt_or_eq.1 hj with h1|rfl
   ·exact hno j h1
   ·exact h
  by_cases a0:x<0
  ·rw [bad True fun h=>by have:=(h x at_x).1;omega]
   refine wk 13 cz ?_
   intro h1 b1 o1
   exact ge
  ·by_cases a1:n≤x
   ·rw [bad True fun h=>by have:=(h x at_x).1;omega]
    refine wk 13 cz ?_
    intro h1 b1 o1 b2 o2
    exact ge
   ·rcases Nat.eq_zero_or_pos i with hi0|hi0
    ·subst hi0
     refine wk 13 cz ?_
     intro h1 b1 o1 b2 o2
     exact tw (ih 1 (by omega) ⟨by omega,good fun z hz=>by
      rw [at_x] at hz;obtain rfl:=Option.some.inj hz
      exact ⟨by omega,fun y h=>by omega⟩⟩)
    ·obtain ⟨k,rfl⟩:∃ k,i=k+1:=⟨i-1,by omega⟩
     obtain ⟨y,at_y⟩:∃ y,l[k]?=some y:=⟨_,List.getElem?_eq_getElem (by omega)⟩
     have ey:=Ix at_y
     have ey':l.getD (k+1-1) default=y:=ey
     by_cases a2:x≤y
     ·rw [bad True fun h=>by have:=(h x at_x).2 y (by omega) at_y;omega]
      refine wk 13 cz ?_
      intro h1 b1 o1 b2 o2 b3 o3 b4 o4
      exact ge
     ·refine wk 13 cz ?_
      intro h1 b1 o1 b2 o2 b3 o3 b4 o4
      exact tw (ih (k+2) (by omega) ⟨by omega,good fun z hz=>by
       rw [at_x] at hz;obtain rfl:=Option.some.inj hz
       exact ⟨by omega,fun z h hz=>by
        rw [show k+1-1=k by omega,at_y] at hz;obtain rfl:=Option.some.inj hz;omega⟩⟩)
 ·rw [decide_eq_true (ACj.2 fun j hj=>hno j (by omega))]
  refine wk 9 cz ?_
  intro h1
  exact ge
theorem Qj {q N n c nh ch:Nat}{ps ph:Option Addr}{Aa:List (List Int)}{hs:List Int}(hq:q≤256) (h0:0<q) (hM:Dy q N Aa) (hN:N≤1000000) (hl:hs.length≤1000000) (hst:∀ x∈hs,0≤x∧x<(N:Int)) :
  Bk Tryz.prog 187 [.slice ps n c,.slice ph nh ch] [] [Aw (Ai Ao) ps n c Aa,Aw Ao ph nh ch hs] (fun v Φ β=>∃ (pb:Option Addr) (cb:Nat),v = .slice pb Aa.length cb∧Φ=[Aw (Ai Ao) pb Aa.length cb (Aa.map fun r=>Wy r hs)]∧β=[]):=by
 refine Ad (F:=Qh) rfl fun C=>?_
 refine Ay 0 rfl fun hn hb _=>?_
 subst hn
 have hb':Aa.length*24≤140737488355328:=hb
 refine wk 7 cz ?_
 refine G1 (Ai Ao) 22 ?_
 refine Af (X:=Nat×Row) [0,1,4] [0,1,2] (fun z=>[(6,.int .i64 (z.1:Int)),(5,.slice (ad z.2.bo) z.1 z.2.cap)]) (fun z=>(z.2.bo,22,z.2.cs)::_) (fun z=>[A3 (Ai Ao) z.2 z.1 ((Aa.take z.1).map fun r=>Wy r hs)]) (fun z=>z.1≤Aa.length) (fun z=>Aa.length-z.1) (0,⟨none,0,[]⟩) [0] rfl rfl rfl (Nat.zero_le _) (by repeat (first|exact Fr.sub_nil _|refine Fr.sub_cons rfl ?_)) rfl rfl ?_
 rintro ⟨k,r⟩ hk ih
 simp only [List.cons_append,List.nil_append] at hk ih ⊢
 by_cases h9:k<Aa.length
 ·obtain ⟨u,at_u⟩:∃ u,Aa[k]?=some u:=⟨_,List.getElem?_eq_getElem h9⟩
  have hu:=hM u (List.mem_of_getElem? at_u)
  have Qs:=fun {nw cw nh ch:Nat}{pw ph:Option Addr}=>Qb (nw:=nw) (cw:=cw) (nh:=nh) (ch:=ch) (pw:=pw) (ph:=ph) hq h0 hu hN hl hst
  have ih':=fun r=>ih (k+1,r) (by dsimp only;omega) (by dsimp only;omega)
  dsimp only at ih'
  rw [List.take_add_one,at_u,Option.toList_some,List.map_append,List.map_cons,List.map_nil] at ih'
  refine wk 13 (ct @Qs cz) ?_
  intro h1 b1 o1 hz1 pa1 ca1 pb1 cb1 b2
  refine Ab rfl (Fq (z:=Wy u hs) 1 0 3 rfl rfl rfl rfl rfl Du Vi rfl (fun w A hG=>(C0 (hG _ (Ap (n:=0) rfl)))) (by omega) _ W1 (by omega) fun r1=>?_)
  refine wk 4 cz ?_
  refine Jr [true,false] [0,5,6,7] (by exact Tx rfl) rfl rfl (ih' r1)
 ·obtain rfl:k=Aa.length:=by omega
  rw [List.take_length]
  refine wk 9 cz ?_
  intro h1
  refine Dc 0 0 rfl rfl (by show Aa.length*24≤140737488355328;omega) ?_
  simp only [List.eraseIdx_cons_zero,List.eraseIdx_cons_succ]
  refine Cn [0] rfl rfl rfl ⟨_,_,rfl,rfl,rfl⟩
theorem Rt {p m N n c nm cm nh ch:Nat}{pm ps ph:Option Addr}{md hs:List Int}{Aa:List (List Int)}(K:Fok p m md) (hM:Dy (p ^ m) N Aa) (hr:Aa.length≤1000000) (hN:N≤1000000) (hl:hs.length≤1000000) (hst:∀ x∈hs,0≤x∧x<(N:Int)) :
  Bk Tryz.prog 176 [.agg #[.int .i64 p,.int .i64 m,.slice pm nm cm],.slice ps n c,.slice ph nh ch] [] [Aw Ao pm nm cm md,Aw (Ai Ao) ps n c Aa,Aw Ao ph nh ch hs] (Rv (.int .i64 ((Qm p m md hs.length (Aa.map fun r=>Wy r hs)).2.length:Nat)) []):=by
 refine Ad (F:=Sk) rfl fun C=>?_
 refine Ay 2 rfl fun hn hb _=>?_
 subst hn
 have hq:=K.q
 have hq2:=(Is K).q2
 have P7:=fun {n c nh ch:Nat}{ps ph:Option Addr}=>Qj (n:=n) (c:=c) (nh:=nh) (ch:=ch) (ps:=ps) (ph:=ph) hq (show 0<p ^ m by omega) hM hN hl hst
 have D5:=fun {nm cm c:Nat}{pm ps:Option Addr}=>Ij (nm:=nm) (cm:=cm) (c:=c) (pm:=pm) (ps:=ps) (n:=Aa.length) (N:=hs.length) (Aa:=Aa.map fun r=>Wy r hs) K hr hl (List.length_map _) (fun r hr=>by
  obtain ⟨u,hu,rfl⟩:=List.mem_map.1 hr
  refine ⟨List.length_map _,fun x hx=>?_⟩
  obtain ⟨j,_,rfl⟩:=List.mem_map.1 hx
  exact A6 (by omega) (hM u hu) _)
 refine wk 4 cz ?_
 intro b1
 (apply B9 it mx 11;(· rfl);(· rfl))
 (apply Ac;(· rfl);(· exact B4 0 rfl rfl T4 rfl))
 (apply Am 2;(· rfl);(· simp))
 (apply Co;(· rfl);(· exact Bc fun _=>Ae [1,2] rfl (P7) rfl (by rintro _ _ _ ⟨pb1,cb1,rfl,rfl,rfl⟩;exact (D6 0 rfl)));intro pa1 ca1)
 (apply Am 1;(· rfl);(· simp))
 (apply Ac;(· rfl);(· exact Bc fun _=>Jq B6 rfl Ag))
 (apply Nw (val:=(fun g=>Value.tuple #[Value.slice (g 0).fst (Qm p m md hs.length (List.map (fun r=>Wy r hs) Aa)).snd.length (g 2).snd.fst,Value.slice (g 1).fst (Qm p m md hs.length (List.map (fun r=>Wy r hs) Aa)).snd.length (g 3).snd.fst])) (f:=(fun g=>[Aw (Ai Ao) (g 0).fst (Qm p m md hs.length (List.map (fun r=>Wy r hs) Aa)).snd.length (g 2).snd.fst (Qm p m md hs.length (List.map (fun r=>Wy r hs) Aa)).fst,Aw Ao (g 1).fst (Qm p m md hs.length (List.map (fun r=>Wy r hs) Aa)).snd.length (g 3).snd.fst (A7 (Qm p m md hs.length (List.map (fun r=>Wy r hs) Aa)).snd)]));(· rfl);(· exact Bc fun _=>Ae [1,0] rfl (D5) rfl (by rintro _ _ _ ⟨pbg0,ppg1,cbg2,cpg3,rfl,rfl,rfl⟩;exact fun _ _ _ hG=>⟨(fun|0=>(pbg0,0,0,[])|1=>(ppg1,0,0,[])|2=>(none,cbg2,0,[])|3=>(none,cpg3,0,[])|_=>default),rfl,fun g hg=>G3 (hG _ (List.mem_append_left _ hg))⟩));intro g1;dsimp only [List.map_cons,List.map_nil])
 (apply Ho [16] (fun vs=>vs.getD 0 undef) (v:=Value.tuple #[Value.slice (g1 0).fst (Qm p m md hs.length (List.map (fun r=>Wy r hs) Aa)).snd.length (g1 2).snd.fst,Value.slice (g1 1).fst (Qm p m md hs.length (List.map (fun r=>Wy r hs) Aa)).snd.length (g1 3).snd.fst]);(· rfl);(· rfl);(· rfl);(· rfl);(· exact Bc fun _=>Mg it rfl (by trivial) Ag))
 (apply Ho [9] (fun vs=>match vs.getD 0 undef with | .tuple a=>a.getD 0 undef|_=>undef) (v:=Value.slice (g1 0).fst (Qm p m md hs.length (List.map (fun r=>Wy r hs) Aa)).snd.length (g1 2).snd.fst);(· rfl);(· rfl);(· rfl);(· rfl);(· exact Bc fun _=>Mg it rfl (by trivial) Ag))
 (apply Ho [9] (fun vs=>match vs.getD 0 undef with | .tuple a=>a.getD 1 undef|_=>undef) (v:=Value.slice (g1 1).fst (Qm p m md hs.length (List.map (fun r=>Wy r hs) Aa)).snd.length (g1 3).snd.fst);(· rfl);(· rfl);(· rfl);(· rfl);(· exact Bc fun _=>Mg it rfl (by trivial) Ag))
 (apply Ho [17] (fun vs=>vs.getD 0 undef) (v:=Value.slice (g1 0).fst (Qm p m md hs.length (List.map (fun r=>Wy r hs) Aa)).snd.length (g1 2).snd.fst);(· rfl);(· rfl);(· rfl);(· rfl);(· exact Bc fun _=>Mg it rfl (by trivial) Ag))
 refine Bx rfl ?_
 simp only [List.map_cons,List.map_nil,List.cons_append,List.nil_append]
 refine wk 6 cz ?_
 exact ge
theorem Qr {ps px:Option Addr}{n c k d:Nat}{l x:List Int}(hl:(l++x).length≤1000000):Bk Tryz.prog 158 [.slice ps n c,.slice px k d] [] [Aw Ao ps n c l,Aw Ao px k d x] (RwI (l++x).length (l++x)):=by
 refine Ad (F:=Qo) rfl fun C=>?_
 rw [List.length_append] at hl
 refine Ay 0 rfl fun hn hb _=>?_
 subst hn
 refine Ay 1 rfl fun hn hb _=>?_
 subst hn
 refine wk 5 cz ?_
 intro b1
 (apply Hw (E:=Bt IntKind.i64 8) (n:=0) (cs:=[]) [] [] 0 (fun w A hG=>Cp);(· rfl);(· rfl);(· rfl);(· rfl);(· decide))
 refine Ab rfl (Uf 0 0 1 rfl rfl rfl rfl rfl B6 E3 rfl (by omega) _ F4 (by omega) fun r1=>?_)
 refine wk 1 cz ?_
 refine Ab rfl (Uf 0 0 3 rfl rfl rfl rfl rfl B6 E3 rfl (by omega) _ F4 (by omega) fun r2=>?_)
 refine wk 2 cz ?_
 simp only [List.nil_append,Nat.zero_add]
 refine B5 1 [0] [0] rfl (.tmp rfl .nil) rfl rfl rfl ⟨r2,by rw [List.length_append];rfl,by rw [List.length_append],rfl⟩
section
variable {p m N n c nm cm ny cy k:Nat}{pm ps py:Option Addr}{Mo w:Int}{md:List Int}{Aa:List (List Int)}
theorem Jy {n1 c1 n2 c2:Nat}{p1 p2:Option Addr}{s set:List Int}{res:Bool}(K:Fok p m md) (hM:Dy (p ^ m) N Aa) (hr:Aa.length≤1000000) (hN:N≤1000) (h:Rn p m md N Aa Mo s set=res) :
  Bk Tryz.prog 156 [.agg #[.int .i64 p,.int .i64 m,.slice pm nm cm,.int .i64 N,.slice ps n c,.int .i64 Mo,.int .i64 w,.slice py ny cy,.bool false],.slice p1 n1 c1,.slice p2 n2 c2] [] [Aw Ao pm nm cm md,Aw (Ai Ao) ps n c Aa,Aw Ao p1 n1 c1 s,Aw Ao p2 n2 c2 set] (Rv (.bool res) []):=by
 refine Ad (F:=Jv) rfl fun C=>?_
 refine Ay 3 rfl fun hn hb _=>?_
 subst hn
 have hb':set.length*8≤140737488355328:=hb
 rw [Rn] at h
 cases hst:decide (stP (N:Int) set) with
 | false =>
  rw [hst] at h
  simp only [Bool.false_and] at h
  subst h
  refine wk 15 (ct @Hx cz) ?_
  intro b1
  exact ge
 | true =>
 have hst':=of_decide_eq_true hst
 rw [hst,Bool.true_and] at h
 have hl:=ADt hst'
 refine wk 15 (ct @Hx cz) ?_
 intro b1
 refine Af (X:=Nat) [1,2,3] [0,1,2,3] (fun i=>[(7,.int .i64 (i:Int))]) (fun _=>_) (fun _=>[]) (fun i=>i≤set.length∧∀ x∈set.take i,x∉s) (fun i=>set.length-i) 0 [] rfl rfl rfl ⟨Nat.zero_le _,fun x h=>absurd h List.not_mem_nil⟩ (by repeat (first|exact Fr.sub_nil _|refine Fr.sub_cons rfl ?_)) rfl rfl ?_
 rintro i ⟨hi,hno⟩ ih
 simp only [List.cons_append,List.nil_append] at hi ih ⊢
 by_cases h9:i<set.length
 ·obtain ⟨x,at_x⟩:∃ x,set[i]?=some x:=⟨_,List.getElem?_eq_getElem h9⟩
  by_cases a3:x∈s
  ·have hin:=decide_eq_true a3
   rw [List.any_eq_true.2 ⟨x,List.mem_of_getElem? at_x,hin⟩] at h
   simp only [Bool.not_true,Bool.false_and] at h
   subst h
   refine wk 8 cz ?_
   intro h1
   refine Ab rfl (Ds 3 (i) rfl rfl rfl B6 rfl (by omega) fun z1 hz1 b2 o1=>?_)
   obtain rfl:_=z1:=Option.some.inj (at_x.symm.trans hz1)
   refine Ab rfl (Ak 0 rfl rfl Bz fun ⟨r1,r2⟩=>?_)
   refine wk 6 (ct @E4 cz) ?_
   exact ge
  ·have hin:=decide_eq_false a3
   refine wk 8 cz ?_
   intro h1
   refine Ab rfl (Ds 3 (i) rfl rfl rfl B6 rfl (by omega) fun z1 hz1 b2 o1=>?_)
   obtain rfl:_=z1:=Option.some.inj (at_x.symm.trans hz1)
   refine Ab rfl (Ak 0 rfl rfl Bz fun ⟨r1,r2⟩=>?_)
   refine wk 6 (ct @E4 cz) ?_
   exact tw (ih (i+1) (by omega) ⟨by omega,T9 at_x hno a3⟩)
 ·obtain rfl:i=set.length:=by omega
  rw [List.take_length] at hno
  rw [show (set.any fun x=>decide (x∈s))=false from List.any_eq_false.2 fun x hx=>by rw [decide_eq_true_eq];exact hno x hx] at h
  simp only [Bool.not_false,Bool.true_and] at h
  have Ka:=fun {n c nm cm nh ch:Nat}{pm ps ph:Option Addr}=>Rt (n:=n) (c:=c) (nm:=nm) (cm:=cm) (nh:=nh) (ch:=ch) (pm:=pm) (ps:=ps) (ph:=ph) K hM hr (by omega) (show set.length≤1000000 by omega) hst'.1
  by_cases hg:(Qm p m md set.length (Aa.map fun r=>Wy r set)).2.length=set.length
  ·rw [decide_eq_true hg,Bool.true_and] at h
   subst h
   refine wk 33 (ct @Ka cz) ?_
   intro h1 h2
   exact ge
  ·rw [decide_eq_false hg,Bool.false_and] at h
   subst h
   refine wk 23 (ct @Ka cz) ?_
   intro h1 h2
   exact ge
theorem Ke {n1 c1 n2 c2 n3 c3:Nat}{p1 p2 p3:Option Addr}{s z set L:List Int}(hl:set.length≤1000000) (h:(if (s.length:Int)<w then Lk z set else [])=L) :
  Bk Tryz.prog 157 [.agg #[.int .i64 p,.int .i64 m,.slice pm nm cm,.int .i64 N,.slice ps n c,.int .i64 Mo,.int .i64 w,.slice py ny cy,.bool false],.slice p1 n1 c1,.slice p2 n2 c2,.slice p3 n3 c3] [] [Aw Ao p1 n1 c1 s,Aw Ao p2 n2 c2 z,Aw Ao p3 n3 c3 set] (RwI L.length L):=by
 refine Ad (F:=Kc) rfl fun C=>?_
 refine Ay 0 rfl fun hn hb _=>?_
 subst hn
 refine Ay 2 rfl fun hn hb2 _=>?_
 subst hn
 refine wk 8 cz ?_
 intro b1
 refine G1 Ao 3 ?_
 refine Af (X:=Nat×Row×List Int) [1,2,3,4,8] [0,1,2,3] (fun x=>[(10,.int .i64 (x.1:Int)),(9,.slice (ad x.2.1.bo) x.2.2.length x.2.1.cap)])
  (fun x=>(x.2.1.bo,3,x.2.1.cs)::_) (fun x=>[A3 Ao x.2.1 x.2.2.length x.2.2])
  (fun x=>x.1≤set.length∧x.2.2.length≤x.1∧x.2.2++(if (s.length:Int)<w then Lk z (set.drop x.1) else [])=L) (fun x=>set.length-x.1) (0,⟨none,0,[]⟩,[]) [0] rfl rfl rfl ⟨Nat.zero_le _,Nat.le_refl _,h⟩ (by repeat (first|exact Fr.sub_nil _|refine Fr.sub_cons rfl ?_)) rfl rfl ?_
 rintro ⟨i,r,y⟩ ⟨hi,hy,hg⟩ ih
 simp only [List.cons_append,List.nil_append] at hi hy hg ih ⊢
 by_cases hil:i<set.length
 ·by_cases hw:(s.length:Int)<w
  ·obtain ⟨x,at_x⟩:∃ x,set[i]?=some x:=⟨_,List.getElem?_eq_getElem hil⟩
   have e3:set.drop i=x::set.drop (i+1):=by
    rw [List.drop_eq_getElem_cons hil];rw [List.getElem?_eq_getElem hil] at at_x;rw [Option.some.inj at_x]
   rw [e3] at hg
   by_cases hx:x∈z
   ·have hin:=decide_eq_true hx
    rw [ADR hx] at hg
    have ih':=ih (i+1,r,y) (by dsimp only;omega) (by dsimp only;exact ⟨by omega,by omega,hg⟩)
    refine wk 16 cz ?_
    intro h1 h2 b2 o1 hz1
    refine Ab rfl (Ak 0 rfl rfl Bz fun ⟨r1,r2⟩=>?_)
    refine wk 7 (ct @E4 cz) ?_
    exact tw (ih')
   ·have hin:=decide_eq_false hx
    rw [ABH hx,if_pos hw] at hg
    have ih':=fun r=>ih (i+1,r,y++[x]) (by dsimp only;omega) (by dsimp only;refine ⟨by omega,by rw [List.length_append,List.length_singleton];omega,?_⟩;rw [if_pos hw,List.append_assoc];exact hg)
    dsimp only at ih'
    simp only [List.length_append,List.length_singleton] at ih'
    refine wk 16 cz ?_
    intro h1 h2 b2 o1 hz1
    refine Ab rfl (Ak 0 rfl rfl Bz fun ⟨r1,r2⟩=>?_)
    refine wk 7 (ct @E4 cz) ?_
    intro b3 o2 hz2
    refine Ab rfl (Ak 0 rfl rfl Bz fun ⟨r3,r4⟩=>?_)
    refine wk 1 cz ?_
    intro b4
    refine Ab rfl (Fq (z:=(x:Int)) 1 0 2 rfl rfl rfl rfl rfl B6 E3 rfl (fun w A hG=>(Dv (by first|(simp only [Ca];omega)|(simp [Ca];done)))) (by omega) _ F4 (by omega) fun r5=>?_)
    refine wk 4 cz ?_
    refine Jr [true,false,true] [0,4,5,6,7] (by exact Tx rfl) rfl rfl (ih' r5)
  ·rw [if_neg hw,List.append_nil] at hg
   subst hg
   refine wk 16 cz ?_
   intro h1 h2
   refine B5 2 [0] [0] rfl (.tmp rfl .nil) rfl rfl rfl ⟨r,rfl,rfl,rfl⟩
 ·obtain rfl:i=set.length:=by omega
  rw [List.drop_length,show Lk z []=[] from rfl,ite_self,List.append_nil] at hg
  subst hg
  refine wk 12 cz ?_
  intro h1
  refine B5 2 [0] [0] rfl (.tmp rfl .nil) rfl rfl rfl ⟨r,rfl,rfl,rfl⟩
end
open Go Go.Fw
set_option maxRecDepth 100000
set_option linter.unusedVariables false
set_option linter.unusedSimpArgs false
set_option maxHeartbeats 0
abbrev ReB (b:Bool) (t:List (List Int)):Value→List Fact→List Ba→Prop:=fun v Φ β=>∃ (pa:Option Addr) (k ca:Nat),v = .tuple #[.slice pa k ca,.bool b]∧Φ=[Aw (Ai Ao) pa k ca t]∧β=[]
abbrev ReO (o:Option (List (List Int))):Value→List Fact→List Ba→Prop:=ReB o.isSome (o.getD [])
theorem AJ8 {rt:List Int→List Int→Bool}{d:Nat}{s z x:List Int}{T:List (List Int)}(h:rt s x=true):Pt rt d s z (x::T)=Tg (Pt rt (d-1)) s z [] (if 0<d then Lk z x else []) T:=by
 cases d with
 | zero=>rw [Pt,if_pos h];rfl
 | succ d=>rw [Pt,if_pos h,if_pos (Nat.succ_pos d)];rfl
section
variable {p m N:Nat}{Mo w:Int}{md:List Int}{Aa:List (List Int)}
theorem Jd (K:Fok p m md) (hM:Dy (p ^ m) N Aa) (hr:Aa.length≤1000000) (hN:N≤1000):∀ (d:Nat) {n c nm cm ny cy n1 c1 n2 c2 nt ct:Nat}{pm ps py p1 p2 pt:Option Addr}{s z:List Int}{T:List (List Int)},
  ((s.length+d:Nat):Int)=w→s.length+d≤1000→z.length+1000*d≤100000 →
  Bk Tryz.prog 133 [.agg #[.int .i64 p,.int .i64 m,.slice pm nm cm,.int .i64 N,.slice ps n c,.int .i64 Mo,.int .i64 w,.slice py ny cy,.bool false],.slice p1 n1 c1,.slice p2 n2 c2,.slice pt nt ct] []
   [Aw Ao pm nm cm md,Aw (Ai Ao) ps n c Aa,Aw Ao p1 n1 c1 s,Aw Ao p2 n2 c2 z,Aw (Ai Ao) pt nt ct T] (ReO (Pt (Rn p m md N Aa Mo) d s z T)):=by
 intro d
 induction d using Nat.strongRecOn with
 | ind d ihd =>
 intro n c nm cm ny cy n1 c1 n2 c2 nt ct pm ps py p1 p2 pt s z T hs hs2 hz
 refine Ad (F:=Jh) rfl fun C=>?_
 refine Ay 3 rfl fun hn hb2 _=>?_
 subst hn
 refine Ay 4 rfl fun hn hb _=>?_
 subst hn
 refine Ff (Aw (Ai Ao) none 0 0 []) (fun w A _=>F7 _ w A none 0) ?_
 cases T with
 | nil =>
  have e0:([]:List (List Int)).length=0:=rfl
  rw [ABd]
  refine wk 10 cz ?_
  intro b1
  refine Cn [0] rfl rfl rfl ⟨_,_,_,rfl,rfl,rfl⟩
 | cons x T =>
  have e0:(x::T).length=T.length+1:=rfl
  have at_x:(x::T)[0]?=some x:=rfl
  have Fh:=fun {n c nm cm ny cy n1 c1 n2 c2:Nat}{pm ps py p1 p2:Option Addr}{s set:List Int}{res:Bool}(h:Rn p m md N Aa Mo s set=res)=>Jy (n:=n) (c:=c) (nm:=nm) (cm:=cm) (ny:=ny) (cy:=cy) (n1:=n1) (c1:=c1) (n2:=n2) (c2:=c2) (pm:=pm) (ps:=ps) (py:=py) (p1:=p1) (p2:=p2) (w:=w) K hM hr hN h
  cases hrt:Rn p m md N Aa Mo s x with
  | false =>
   rw [AJo hrt]
   refine wk 4 cz ?_
   intro b1
   (apply B9 it mx 12;(· rfl);(· rfl))
   (apply Am 1;(· rfl);(· simp))
   (apply Ac;(· rfl);(· exact Bc fun _=>Jq Du rfl Ag))
   (apply Ac;(· rfl);(· exact Bc fun _=>Ll it rfl (by trivial) (by omega) Ag))
   (apply Am 1;(· rfl);(· simp))
   (apply Ac;(· rfl);(· exact B4 0 rfl rfl ACH rfl))
   (apply Am 2;(· rfl);(· simp))
   (apply Fl;(· rfl);(· exact Bc fun _=>Ds 5 0 rfl rfl rfl Du (by omega) (by omega) fun z1 hz1 b2 o1=>(Fg default hz1 0 rfl));intro b2 o1)
   (apply Co;(· rfl);(· exact Bc fun _=>Gp 0 rfl rfl C8 fun pa1 ca1=>(D6 0 rfl));intro pa1 ca1)
   (apply Ac;(· rfl);(· exact Bc fun _=>Ae [3,4,5,0] rfl (Fh (by assumption)) rfl (by rintro _ _ _ ⟨rfl,rfl,rfl⟩;exact Ag)))
   (apply Am 2;(· rfl);(· simp))
   refine Bx rfl ?_
   simp only [List.map_cons,List.map_nil,List.cons_append,List.nil_append]
   refine wk 5 cz ?_
   refine Cn [2] rfl rfl rfl ⟨_,_,_,rfl,rfl,rfl⟩
  | true =>
   rw [AJ8 hrt]
   have hlx:=ADt (AGZ hrt)
   have hkl:(Lk z x).length≤x.length:=List.length_filter_le _ _
   obtain ⟨L,hL⟩:∃ L,(if 0<d then Lk z x else [])=L:=⟨_,rfl⟩
   rw [hL]
   have hL2:(if (s.length:Int)<w then Lk z x else [])=L:=by
    rw [← hL]
    by_cases h0:0<d
    ·rw [if_pos h0,if_pos (by omega)]
    ·rw [if_neg h0,if_neg (by omega)]
   have hd0:0<d∨L.length=0:=by
    by_cases h0:0<d
    ·exact .inl h0
    ·rw [if_neg h0] at hL;subst hL;exact .inr rfl
   have hLx:∀ y∈L,y∈x:=fun y hy=>by
    by_cases h0:0<d
    ·rw [if_pos h0] at hL;rw [← hL] at hy;exact (List.mem_filter.1 hy).1
    ·rw [if_neg h0] at hL;rw [← hL] at hy;cases hy
   have hLl:L.length≤1000:=by
    by_cases h0:0<d
    ·rw [if_pos h0] at hL;rw [← hL];omega
    ·rcases hd0 with h|h <;> omega
   have Kb:=fun {n c nm cm ny cy n1 c1 n2 c2 n3 c3:Nat}{pm ps py p1 p2 p3:Option Addr}=>(Ke (p:=p) (m:=m) (N:=N) (Mo:=Mo) (n:=n) (c:=c) (nm:=nm) (cm:=cm) (ny:=ny) (cy:=cy) (n1:=n1) (c1:=c1) (n2:=n2) (c2:=c2) (n3:=n3) (c3:=c3) (pm:=pm) (ps:=ps) (py:=py) (p1:=p1) (p2:=p2) (p3:=p3) (w:=w) (s:=s) (z:=z) (set:=(x::T).getD 0 default) (L:=L) (show x.length≤1000000 by omega) hL2).pubR (by show _*8≤140737488355328;omega)
   obtain ⟨G,hG⟩:∃ G,Tg (Pt (Rn p m md N Aa Mo) (d-1)) s z [] L T=G:=⟨_,rfl⟩
   rw [hG]
   refine wk 4 cz ?_
   intro b1
   (apply B9 it mx 12;(· rfl);(· rfl))
   (apply Am 1;(· rfl);(· simp))
   (apply Ac;(· rfl);(· exact Bc fun _=>Jq Du rfl Ag))
   (apply Ac;(· rfl);(· exact Bc fun _=>Ll it rfl (by trivial) (by omega) Ag))
   (apply Am 1;(· rfl);(· simp))
   (apply Ac;(· rfl);(· exact B4 0 rfl rfl ACH rfl))
   (apply Am 2;(· rfl);(· simp))
   (apply Fl;(· rfl);(· exact Bc fun _=>Ds 5 0 rfl rfl rfl Du (by omega) (by omega) fun z1 hz1 b2 o1=>(Fg default hz1 0 rfl));intro b2 o1)
   (apply Co;(· rfl);(· exact Bc fun _=>Gp 0 rfl rfl C8 fun pa1 ca1=>(D6 0 rfl));intro pa1 ca1)
   (apply Ac;(· rfl);(· exact Bc fun _=>Ae [3,4,5,0] rfl (Fh (by assumption)) rfl (by rintro _ _ _ ⟨rfl,rfl,rfl⟩;exact Ag)))
   (apply Am 2;(· rfl);(· simp))
   refine Bx rfl ?_
   simp only [List.map_cons,List.map_nil,List.cons_append,List.nil_append]
   refine wk 3 cz ?_
   (apply B9 it mx 7;(· rfl);(· rfl))
   (apply Ac;(· rfl);(· exact B4 0 rfl rfl ACH rfl))
   (apply Am 3;(· rfl);(· simp))
   (apply Fl;(· rfl);(· exact Bc fun _=>Ds 7 0 rfl rfl rfl Du (by omega) (by omega) fun z1 hz1 b3 o2=>(Fg default hz1 0 rfl));intro b3 o2)
   (apply Co;(· rfl);(· exact Bc fun _=>Gp 0 rfl rfl C8 fun pa2 ca2=>(D6 0 rfl));intro pa2 ca2)
   (apply Co;(· rfl);(· exact Bc fun _=>Ae [7,8,0] rfl (Kb) rfl (by rintro _ _ _ ⟨pa3,ca3,rfl,rfl,rfl⟩;exact (D6 0 rfl)));intro pa3 ca3)
   refine Bx rfl ?_
   simp only [List.map_cons,List.map_nil,List.cons_append,List.nil_append]
   refine wk 3 cz ?_
   refine Ab rfl (AA3 10 1 rfl rfl rfl Du (by omega) (by omega) fun pa4=>?_)
   refine wk 6 cz ?_
   refine Af (X:=Nat×Option Addr×Nat×Nat×List (List Int)×Bool) [1,2,4,8,9,10] [0,1,2,3,4,5,6,7,8,9,10,11] (fun v=>[(13,.int .i64 (v.1:Int)),(11,.slice v.2.1 v.2.2.1 v.2.2.2.1),(12,.bool v.2.2.2.2.2)]) (fun _=>_) (fun v=>[Aw (Ai Ao) v.2.1 v.2.2.1 v.2.2.2.1 v.2.2.2.2.1])
    (fun v=>v.1≤L.length∧(v.2.2.2.2.2=true→Tg (Pt (Rn p m md N Aa Mo) (d-1)) s z (L.take v.1) (L.drop v.1) v.2.2.2.2.1=G)∧(v.2.2.2.2.2=false→G=none∧v.2.2.2.2.1=[])) (fun v=>L.length-v.1) (0,pa4,(x::T).length-1,ct-1,T,true) [0] rfl rfl rfl ⟨Nat.zero_le _,fun _=>hG,fun h=>Bool.noConfusion h⟩ (by repeat (first|exact Fr.sub_nil _|refine Fr.sub_cons rfl ?_)) rfl rfl ?_
   rintro ⟨i,pu,ku,cu,tr,ok⟩ ⟨hi,hg,hg2⟩ ih
   simp only [List.cons_append,List.nil_append] at hi hg hg2 ih ⊢
   cases ok with
   | false =>
    obtain ⟨rfl,rfl⟩:=hg2 rfl
    clear hg hg2 ih
    by_cases hil:i<L.length
    ·refine wk 12 cz ?_
     intro h1
     refine Cn [0] rfl rfl rfl ⟨_,_,_,rfl,rfl,rfl⟩
    ·refine wk 12 cz ?_
     intro h1
     refine Cn [0] rfl rfl rfl ⟨_,_,_,rfl,rfl,rfl⟩
   | true =>
   have hg:=hg rfl
   clear hg2
   by_cases hil:i<L.length
   ·have hd1:0<d:=by omega
    have e3:L.drop i=L.getD i default::L.drop (i+1):=by
     rw [List.drop_eq_getElem_cons hil,List.getD_eq_getElem?_getD,List.getElem?_eq_getElem hil];rfl
    have e4:L.take (i+1)=L.take i++[L.getD i default]:=by rw [List.take_add_one,List.getD_eq_getElem?_getD,List.getElem?_eq_getElem hil];rfl
    have e1:(s++[L.getD i default]).length=s.length+1:=by simp
    have e2:(z++L.take i).length=z.length+i:=by rw [List.length_append,List.length_take];omega
    have hz3:z.length≤200000:=by omega
    have hy:0≤L.getD i default∧L.getD i default<(N:Int):=by
     have h1:L.getD i default∈L:=by rw [List.getD_eq_getElem?_getD,List.getElem?_eq_getElem hil];exact List.getElem_mem hil
     exact (AGZ hrt).1 _ (hLx _ h1)
    obtain ⟨hy0,hy1⟩:=hy
    have Ef:=fun {ps px:Option Addr}{n c k d:Nat}{l x:List Int}(hl:(l++x).length≤1000000)=>(Qr (ps:=ps) (px:=px) (n:=n) (c:=c) (k:=k) (d:=d) hl).pubR (by show _*8≤140737488355328;omega)
    rw [e3,Tg] at hg
    have A1:=fun {n c nm cm ny cy n1 c1 n2 c2 nt ct:Nat}{pm ps py p1 p2 pt:Option Addr}=>ihd (d-1) (by omega) (n:=n) (c:=c) (nm:=nm) (cm:=cm) (ny:=ny) (cy:=cy) (n1:=n1) (c1:=c1) (n2:=n2) (c2:=c2) (nt:=nt) (ct:=ct) (pm:=pm) (ps:=ps) (py:=py) (p1:=p1) (p2:=p2) (pt:=pt) (s:=s++[L.getD i default]) (z:=z++L.take i) (T:=tr) (by omega) (by omega) (by omega)
    cases ho:Pt (Rn p m md N Aa Mo) (d-1) (s++[L.getD i default]) (z++L.take i) tr with
    | none =>
     rw [ho] at hg
     have hh:ReO (Pt (Rn p m md N Aa Mo) (d-1) (s++[L.getD i default]) (z++L.take i) tr)=ReB false []:=by rw [ho];rfl
     rw [hh] at A1
     refine wk 10 cz ?_
     intro h1
     (apply B9 it mx 19;(· rfl);(· rfl))
     (apply Ac;(· rfl);(· exact B4 0 rfl rfl ACH rfl))
     (apply Am 3;(· rfl);(· simp))
     (apply Fl;(· rfl);(· exact Bc fun _=>Ds 2 (i) rfl rfl rfl B6 rfl (by omega) fun z1 hz1 b4 o3=>(Fg default hz1 0 rfl));intro b4 o3)
     (apply Ac;(· rfl);(· exact Bc fun _=>Ak 0 rfl rfl Bz fun ⟨r1,r2⟩=>Ag))
     (apply Co;(· rfl);(· exact Bc fun _=>AAT B6 E3 rfl rfl rfl rfl (by decide) (by decide) rfl fun b5=>ABg (E:=Ao) [[Value.int IntKind.i64 (L.getD i default)]] [L.getD i default] (fun w A hG=>(F8 ⟨rfl,by first|assumption|(simp only [Ca];omega)⟩ Cp)) rfl rfl rfl (by first|decide|exact Nat.le_of_ble_eq_true rfl));intro pa5 ca4)
     (apply Co;(· rfl);(· exact Bc fun _=>Ae [12,0] rfl (Ef (by omega)) rfl (by rintro _ _ _ ⟨pa6,ca5,rfl,rfl,rfl⟩;exact (D6 0 rfl)));intro pa6 ca5)
     (apply Am 3;(· rfl);(· simp))
     (apply Co;(· rfl);(· exact Bc fun _=>Tc 2 (i) rfl rfl rfl B6 (by omega) (by omega) (D6 0 rfl));intro pa7 ca6)
     (apply Co;(· rfl);(· exact Bc fun _=>Ae [15,0] rfl (Ef (by omega)) rfl (by rintro _ _ _ ⟨pa8,ca7,rfl,rfl,rfl⟩;exact (D6 0 rfl)));intro pa8 ca7)
     (apply Am 1;(· rfl);(· simp))
     (apply Nw (val:=(fun g=>Value.tuple #[Value.slice (g 0).fst (g 1).snd.fst (g 2).snd.fst,Value.bool false])) (f:=(fun g=>[Aw (Ai Ao) (g 0).fst (g 1).snd.fst (g 2).snd.fst []]));(· rfl);(· exact Bc fun _=>Ae [13,14,2,0,5] rfl (A1) rfl (by rintro _ _ _ ⟨pag0,kg1,cag2,rfl,rfl,rfl⟩;exact fun _ _ _ hG=>⟨(fun|0=>(pag0,0,0,[])|1=>(none,kg1,0,[])|2=>(none,cag2,0,[])|_=>default),rfl,fun g hg=>G3 (hG _ (List.mem_append_left _ hg))⟩));intro g1;dsimp only [List.map_cons,List.map_nil])
     (apply Ho [59] (fun vs=>vs.getD 0 undef) (v:=Value.tuple #[Value.slice (g1 0).fst (g1 1).snd.fst (g1 2).snd.fst,Value.bool false]);(· rfl);(· rfl);(· rfl);(· rfl);(· exact Bc fun _=>Mg it rfl (by trivial) Ag))
     (apply Ho [44] (fun vs=>match vs.getD 0 undef with | .tuple a=>a.getD 0 undef|_=>undef) (v:=Value.slice (g1 0).fst (g1 1).snd.fst (g1 2).snd.fst);(· rfl);(· rfl);(· rfl);(· rfl);(· exact Bc fun _=>Mg it rfl (by trivial) Ag))
     (apply Ac;(· rfl);(· exact Bc fun _=>Mg it rfl (by trivial) Ag))
     (apply Ho [60] (fun vs=>vs.getD 0 undef) (v:=Value.slice (g1 0).fst (g1 1).snd.fst (g1 2).snd.fst);(· rfl);(· rfl);(· rfl);(· rfl);(· exact Bc fun _=>Mg it rfl (by trivial) Ag))
     refine Bx rfl ?_
     simp only [List.map_cons,List.map_nil,List.cons_append,List.nil_append]
     refine wk 4 cz ?_
     exact tw (ih (i+1,(g1 0).1,(g1 1).2.1,(g1 2).2.1,[],false) (by dsimp only;omega) ⟨by dsimp only;omega,fun h=>Bool.noConfusion h,fun _=>⟨hg.symm,rfl⟩⟩)
    | some t' =>
     rw [ho] at hg
     have hh:ReO (Pt (Rn p m md N Aa Mo) (d-1) (s++[L.getD i default]) (z++L.take i) tr)=ReB true t':=by rw [ho];rfl
     rw [hh] at A1
     refine wk 10 cz ?_
     intro h1
     (apply B9 it mx 19;(· rfl);(· rfl))
     (apply Ac;(· rfl);(· exact B4 0 rfl rfl ACH rfl))
     (apply Am 3;(· rfl);(· simp))
     (apply Fl;(· rfl);(· exact Bc fun _=>Ds 2 (i) rfl rfl rfl B6 rfl (by omega) fun z1 hz1 b4 o3=>(Fg default hz1 0 rfl));intro b4 o3)
     (apply Ac;(· rfl);(· exact Bc fun _=>Ak 0 rfl rfl Bz fun ⟨r1,r2⟩=>Ag))
     (apply Co;(· rfl);(· exact Bc fun _=>AAT B6 E3 rfl rfl rfl rfl (by decide) (by decide) rfl fun b5=>ABg (E:=Ao) [[Value.int IntKind.i64 (L.getD i default)]] [L.getD i default] (fun w A hG=>(F8 ⟨rfl,by first|assumption|(simp only [Ca];omega)⟩ Cp)) rfl rfl rfl (by first|decide|exact Nat.le_of_ble_eq_true rfl));intro pa5 ca4)
     (apply Co;(· rfl);(· exact Bc fun _=>Ae [12,0] rfl (Ef (by omega)) rfl (by rintro _ _ _ ⟨pa6,ca5,rfl,rfl,rfl⟩;exact (D6 0 rfl)));intro pa6 ca5)
     (apply Am 3;(· rfl);(· simp))
     (apply Co;(· rfl);(· exact Bc fun _=>Tc 2 (i) rfl rfl rfl B6 (by omega) (by omega) (D6 0 rfl));intro pa7 ca6)
     (apply Co;(· rfl);(· exact Bc fun _=>Ae [15,0] rfl (Ef (by omega)) rfl (by rintro _ _ _ ⟨pa8,ca7,rfl,rfl,rfl⟩;exact (D6 0 rfl)));intro pa8 ca7)
     (apply Am 1;(· rfl);(· simp))
     (apply Nw (val:=(fun g=>Value.tuple #[Value.slice (g 0).fst (g 1).snd.fst (g 2).snd.fst,Value.bool true])) (f:=(fun g=>[Aw (Ai Ao) (g 0).fst (g 1).snd.fst (g 2).snd.fst t']));(· rfl);(· exact Bc fun _=>Ae [13,14,2,0,5] rfl (A1) rfl (by rintro _ _ _ ⟨pag0,kg1,cag2,rfl,rfl,rfl⟩;exact fun _ _ _ hG=>⟨(fun|0=>(pag0,0,0,[])|1=>(none,kg1,0,[])|2=>(none,cag2,0,[])|_=>default),rfl,fun g hg=>G3 (hG _ (List.mem_append_left _ hg))⟩));intro g1;dsimp only [List.map_cons,List.map_nil])
     (apply Ho [59] (fun vs=>vs.getD 0 undef) (v:=Value.tuple #[Value.slice (g1 0).fst (g1 1).snd.fst (g1 2).snd.fst,Value.bool true]);(· rfl);(· rfl);(· rfl);(· rfl);(· exact Bc fun _=>Mg it rfl (by trivial) Ag))
     (apply Ho [44] (fun vs=>match vs.getD 0 undef with | .tuple a=>a.getD 0 undef|_=>undef) (v:=Value.slice (g1 0).fst (g1 1).snd.fst (g1 2).snd.fst);(· rfl);(· rfl);(· rfl);(· rfl);(· exact Bc fun _=>Mg it rfl (by trivial) Ag))
     (apply Ac;(· rfl);(· exact Bc fun _=>Mg it rfl (by trivial) Ag))
     (apply Ho [60] (fun vs=>vs.getD 0 undef) (v:=Value.slice (g1 0).fst (g1 1).snd.fst (g1 2).snd.fst);(· rfl);(· rfl);(· rfl);(· rfl);(· exact Bc fun _=>Mg it rfl (by trivial) Ag))
     refine Bx rfl ?_
     simp only [List.map_cons,List.map_nil,List.cons_append,List.nil_append]
     refine wk 4 cz ?_
     exact tw (ih (i+1,(g1 0).1,(g1 1).2.1,(g1 2).2.1,t',true) (by dsimp only;omega) ⟨by dsimp only;omega,fun _=>by dsimp only;rw [e4];exact hg,fun h=>Bool.noConfusion h⟩)
   ·obtain rfl:i=L.length:=by omega
    rw [List.take_length,List.drop_length,Tg] at hg
    subst hg
    refine wk 12 cz ?_
    intro h1
    refine Cn [0] rfl rfl rfl ⟨_,_,_,rfl,rfl,rfl⟩
end
section
variable {p m N n c nm cm nt ct ny cy:Nat}{pm ps pt py:Option Addr}{Mo:Int}{d:Nat}{md:List Int}{Aa sets:List (List Int)}
abbrev ReL (b:Bool) (t:List (List Int)):Value→List Fact→List Ba→Prop:=fun v Φ β=>∃ (pa:Option Addr) (ca:Nat),v = .tuple #[.slice pa t.length ca,.bool b]∧Φ=[Aw (Ai Ao) pa t.length ca t]∧β=[]
theorem reL {b:Bool}{t:List (List Int)}(C:Cx) (w:World) (v:Value) (Φ:List Fact) (β':List Ba) (hQ:ReB b t v Φ β') (hO:Own C w β') (hf:∀ g∈Φ,g.holds w (ok C w β')):∃ Φ2 β2,ReL b t v Φ2 β2∧Own C w β2∧∀ g∈Φ2,g.holds w (ok C w β2):=by
 obtain ⟨pa,k,ca,rfl,rfl,rfl⟩:=hQ
 have:=(hf _ (.head _)).1
 subst this
 exact ⟨_,_,⟨pa,ca,rfl,rfl,rfl⟩,hO,hf⟩
theorem Jk {bo:Bool}(K:Fok p m md) (hM:Dy (p ^ m) N Aa) (hr:Aa.length≤1000000) (hN:N≤1000) (hd:d≤64) (hbo:decide (Pt (Rn p m md N Aa Mo) d [] [] sets=some [])=bo) :
  Bk Tryz.prog 100 [.agg #[.int .i64 p,.int .i64 m,.slice pm nm cm,.int .i64 N,.slice ps n c,.int .i64 Mo,.int .i64 d,.slice py ny cy,.bool false],.agg #[.slice pt nt ct]] [] [Aw Ao pm nm cm md,Aw (Ai Ao) ps n c Aa,Aw (Ai Ao) pt nt ct sets]
   (Rv (.int .i64 (if bo=true then 0 else 13)) []):=by
 refine Ad (F:=Jg) rfl fun C=>?_
 refine Ff (Aw Ao none 0 0 []) (fun w A _=>F7 _ w A none 0) ?_
 have e0:([]:List Int).length=0:=rfl
 have h:=fun {n c nm cm ny cy nt ct:Nat}{pm ps py pt:Option Addr}=>Jd (p:=p) (m:=m) (N:=N) (Mo:=Mo) (w:=d) (Aa:=Aa) K hM hr hN d (n:=n) (c:=c) (nm:=nm) (cm:=cm) (ny:=ny) (cy:=cy) (n1:=0) (c1:=0) (n2:=0) (c2:=0) (nt:=nt) (ct:=ct) (pm:=pm) (ps:=ps) (py:=py) (p1:=none) (p2:=none) (pt:=pt) (s:=[]) (z:=[]) (T:=sets) (by rw [e0,Nat.zero_add]) (by rw [e0];omega) (by rw [e0];omega)
 cases hE:Pt (Rn p m md N Aa Mo) d [] [] sets with
 | none =>
  have hh:ReO (Pt (Rn p m md N Aa Mo) d [] [] sets)=ReB false []:=by rw [hE];rfl
  rw [hh] at h
  rw [hE] at hbo
  simp only [reduceCtorEq,decide_false] at hbo
  subst hbo
  have A1:=@h
  refine wk 8 cz ?_
  intro b1 b2
  refine Ab rfl (Ae [1,2,0,0,3] rfl (A1) rfl ?_)
  rintro _ _ _ ⟨pa1,k1,ca1,rfl,rfl,rfl⟩
  simp only [List.cons_append,List.nil_append]
  refine wk 8 cz ?_
  exact ge
 | some T =>
  have hh:ReO (Pt (Rn p m md N Aa Mo) d [] [] sets)=ReB true T:=by rw [hE];rfl
  rw [hh] at h
  rw [hE] at hbo
  have A1:=fun {n c nm cm ny cy nt ct:Nat}{pm ps py pt:Option Addr}=>(h (n:=n) (c:=c) (nm:=nm) (cm:=cm) (ny:=ny) (cy:=cy) (nt:=nt) (ct:=ct) (pm:=pm) (ps:=ps) (py:=py) (pt:=pt)).mono reL
  cases T with
  | nil =>
   have e1:([]:List (List Int)).length=0:=rfl
   simp only [decide_true] at hbo
   subst hbo
   refine wk 8 cz ?_
   intro b1 b2
   refine Ab rfl (Ae [1,2,0,0,3] rfl (A1) rfl ?_)
   rintro _ _ _ ⟨pa1,ca1,rfl,rfl,rfl⟩
   simp only [List.cons_append,List.nil_append]
   refine wk 10 cz ?_
   intro h1
   exact ge
  | cons x T =>
   have e1:(x::T).length=T.length+1:=rfl
   simp only [Option.some.injEq,reduceCtorEq,decide_false] at hbo
   subst hbo
   refine wk 8 cz ?_
   intro b1 b2
   refine Ab rfl (Ae [1,2,0,0,3] rfl (A1) rfl ?_)
   rintro _ _ _ ⟨pa1,ca1,rfl,rfl,rfl⟩
   simp only [List.cons_append,List.nil_append]
   refine wk 10 cz ?_
   intro h1
   exact ge
theorem Qu (CC:Cok p m md N Aa) (hM:0≤Mo) (hM2:Mo≤Aa.length) (hd:d≤N):Bk Tryz.prog 99 [.agg #[.int .i64 p,.int .i64 m,.slice pm nm cm,.int .i64 N,.slice ps n c],.int .i64 Mo,.int .i64 d] [] [Aw Ao pm nm cm md,Aw (Ai Ao) ps n c Aa] (Rv (.int .i64 0) []):=by
 refine Ad (F:=Qd) rfl fun C=>?_
 refine Ay 1 rfl fun hn hb _=>?_
 subst hn
 have h64:=CC.n64
 have Au:=fun {pm ps:Option Addr}{nm cm n c:Nat}=>Fu (P:=p) (M:=m) (N:=N) (pm:=pm) (ps:=ps) (nm:=nm) (cm:=cm) (n:=n) (c:=c) (md:=md) (Aa:=Aa) (by simp only [Ca];omega) CC.ck
 refine wk 25 (ct @Au cz) ?_
 intro b1 h1 h2 h3
 refine A2 rfl rfl (As rfl P5 ?_)
 refine A2 rfl rfl (Do 0 rfl rfl Bz rfl ?_)
 refine Ax it 3 rfl (by simp) ?_
 refine wk 5 cz ?_
 intro h4
 exact ge
theorem La {e:Int}(CC:Cok p m md N Aa) (hM:0≤Mo) (hM2:Mo≤Aa.length) (hd:d≤N) (h:(if exB p m md N Aa Mo d sets=true then 0 else 13)=e):Bk Tryz.prog 64 [.agg #[.int .i64 p,.int .i64 m,.slice pm nm cm,.int .i64 N,.slice ps n c],.int .i64 Mo,.int .i64 d,.agg #[.slice pt nt ct]] [] [Aw Ao pm nm cm md,Aw (Ai Ao) ps n c Aa,Aw (Ai Ao) pt nt ct sets] (Rv (.int .i64 e) []):=by
 refine Ad (F:=Li) rfl fun C=>?_
 have h64:=CC.n64
 have hln:=CC.len
 have Qa:=fun {n c nm cm:Nat}{pm ps:Option Addr}=>Qu (n:=n) (c:=c) (nm:=nm) (cm:=cm) (pm:=pm) (ps:=ps) CC hM hM2 hd
 have Fb:=fun {n c nm cm nt ct ny cy:Nat}{pm ps pt py:Option Addr}=>Jk (n:=n) (c:=c) (nm:=nm) (cm:=cm) (nt:=nt) (ct:=ct) (ny:=ny) (cy:=cy) (pm:=pm) (ps:=ps) (pt:=pt) (py:=py) (Mo:=Mo) (d:=d) (sets:=sets) CC.K CC.mat (by omega) (by omega) (by omega) rfl
 rw [show (decide (Pt (Rn p m md N Aa Mo) d [] [] sets=some []))=exB p m md N Aa Mo d sets from rfl,h] at Fb
 refine wk 7 cz ?_
 intro b1 b2
 refine Ab rfl (Ae [0,1] rfl (Qa) rfl ?_)
 rintro _ _ _ ⟨rfl,rfl,rfl⟩
 simp only [List.cons_append,List.nil_append]
 refine wk 10 cz ?_
 intro h1
 refine Ab rfl (Ae [0,1,2] rfl (Fb) rfl ?_)
 rintro _ _ _ ⟨rfl,rfl,rfl⟩
 simp only [List.cons_append,List.nil_append]
 simp only [decide_true]
 refine wk 2 cz ?_
 exact ge
theorem Je {P M N dd e:Int}(hN:Ca .i64 N) (hd:Ca .i64 dd) (h:cdE P M md N Aa dd sets=e):Bk Tryz.prog 31 [.agg #[.int .i64 P,.int .i64 M,.slice pm nm cm,.int .i64 N,.slice ps n c],.int .i64 dd,.agg #[.slice pt nt ct]] [] [Aw Ao pm nm cm md,Aw (Ai Ao) ps n c Aa,Aw (Ai Ao) pt nt ct sets]
   (Rv (.int .i64 e) []):=by
 refine Ad (F:=Ji) rfl fun C=>?_
 refine Ay 1 rfl fun hn hb _=>?_
 subst hn
 have hr:=Ns P M md N Aa
 have Au:=fun {pm ps:Option Addr}{nm cm n c:Nat}=>Fu (P:=P) (M:=M) (N:=N) (pm:=pm) (ps:=ps) (nm:=nm) (cm:=cm) (n:=n) (c:=c) (md:=md) (Aa:=Aa) hN rfl
 rw [cdE] at h
 by_cases hc:W9 P M md N Aa=0
 ·rw [if_neg (fun e=>e hc)] at h
  rw [hc] at Au
  obtain ⟨p,m,N,rfl,rfl,rfl,CC⟩:=ACr hc
  have h64:=CC.n64
  have hln:=CC.len
  rw [Int.toNat_natCast,Int.toNat_natCast,Int.toNat_natCast] at h
  by_cases h1:dd<1
  ·rw [if_pos (.inl h1)] at h
   subst h
   refine wk 6 cz ?_
   intro b1 b2
   refine Ab rfl (Ae [0,1] rfl (Au) rfl ?_)
   rintro _ _ _ ⟨rfl,rfl,rfl⟩
   simp only [List.cons_append,List.nil_append]
   refine wk 16 cz ?_
   intro h2 h3
   exact ge
  ·by_cases h2:N+1<dd
   ·rw [if_pos (.inr h2)] at h
    subst h
    refine wk 6 cz ?_
    intro b1 b2
    refine Ab rfl (Ae [0,1] rfl (Au) rfl ?_)
    rintro _ _ _ ⟨rfl,rfl,rfl⟩
    simp only [List.cons_append,List.nil_append]
    refine wk 19 cz ?_
    intro h3 h4 h5
    exact ge
   ·rw [if_neg (by omega)] at h
    have Gs:=fun {n c nm cm nt ct:Nat}{pm ps pt:Option Addr}=>La (n:=n) (c:=c) (nm:=nm) (cm:=cm) (nt:=nt) (ct:=ct) (pm:=pm) (ps:=ps) (pt:=pt) (sets:=sets) (Mo:=Aa.length) (d:=(dd-1).toNat) CC (by omega) (by omega) (by omega) h
    rw [show (((dd-1).toNat:Nat):Int)=dd-1 by omega] at Gs
    refine wk 6 cz ?_
    intro b1 b2
    refine Ab rfl (Ae [0,1] rfl (Au) rfl ?_)
    rintro _ _ _ ⟨rfl,rfl,rfl⟩
    simp only [List.cons_append,List.nil_append]
    refine wk 23 cz ?_
    intro h3 h4 h5
    refine Ab rfl (Ae [0,1,2] rfl (Gs) rfl ?_)
    rintro _ _ _ ⟨rfl,rfl,rfl⟩
    simp only [List.cons_append,List.nil_append]
    simp only [decide_true]
    refine wk 2 cz ?_
    exact ge
 ·rw [if_pos hc] at h
  subst h
  refine wk 6 cz ?_
  intro b1 b2
  refine Ab rfl (Ae [0,1] rfl (Au) rfl ?_)
  rintro _ _ _ ⟨rfl,rfl,rfl⟩
  simp only [List.cons_append,List.nil_append]
  refine wk 8 cz ?_
  intro h1
  exact ge
end
end Go.Proofs.YteadncphjconmaaGreat
