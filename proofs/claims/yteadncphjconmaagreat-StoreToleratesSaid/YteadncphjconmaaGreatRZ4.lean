/-
A field on integers; sums over it; words, their products, and the sums over all words. The reduction of a row of coefficients from its top, step by step; the document's test for divisors. The document's fields: orders, primes, digits, values. The document's test for divisors of polynomials. The document's fields: irreducible polynomials, Check, elements, their digits and sums. The document's fields: elements, their digits, sums and products. The nineteenth text of the frame: room made ahead (append of a made slice to a nil one), the builtin cap, a slice of nil. Words that rows generate; the words that are orthogonal to them; sums over both. Weights of words against the kernel: the identity of MacWilliams, and the moments of Pless. The words that rows generate are closed, differ from each other, and any of them moves the list onto itself; distances between codewords. Spans are linear, and list each word once; words of the least weight with one support are multiples. Elimination over a finite field. Solution spaces, pivots and null vectors of reduced rows. Combinations of rows, reduced rows without the empty ones, and the words that vanish at some places. The elements of a finite field other than 0 are the powers of one of them. The program's fields: orders, primes, digits, values, shapes. Residues without divisors of 0 come from irreducible polynomials; the program's product. The document's fields: products. The program's product of residues. The program's powers of an element. The program's generator, Check and New. The program's New: a field behind a pointer. Sums digit by digit, negatives and inverses.
-/
import Derived.Test.YteadncphjconmaaGreatRZ3
set_option linter.unusedVariables false
set_option linter.unusedSimpArgs false
namespace Go.Proofs.YteadncphjconmaaGreat
set_option maxRecDepth 100000
set_option linter.unusedVariables false
set_option linter.unusedSimpArgs false
structure FI (q:Nat) (A M:Int→Int→Int):Prop where
 q2:2≤q
 al:∀ x y:Int,0≤x→x<q→0≤y→y<q→0≤A x y∧A x y<q
 ac:∀ x y:Int,0≤x→x<q→0≤y→y<q→A x y=A y x
 aa:∀ x y z:Int,0≤x→x<q→0≤y→y<q→0≤z→z<q→A (A x y) z=A x (A y z)
 a0:∀ x:Int,0≤x→x<q→A x 0=x
 an:∀ x:Int,0≤x→x<q→∃ y:Int,(0≤y∧y<q)∧A x y=0
 ml:∀ x y:Int,0≤x→x<q→0≤y→y<q→0≤M x y∧M x y<q
 mc:∀ x y:Int,0≤x→x<q→0≤y→y<q→M x y=M y x
 ma:∀ x y z:Int,0≤x→x<q→0≤y→y<q→0≤z→z<q→M (M x y) z=M x (M y z)
 md:∀ x y z:Int,0≤x→x<q→0≤y→y<q→0≤z→z<q→M x (A y z)=A (M x y) (M x z)
 m1:∀ x:Int,0≤x→x<q→M x 1=x
 nz:∀ x y:Int,0≤x→x<q→0≤y→y<q→M x y=0→x=0∨y=0
def Aq (f:Nat→Nat→Nat) (x y:Int):Int:=((f x.toNat y.toNat:Nat):Int)
theorem AKp {q:Nat}{A M:Nat→Nat→Nat}(h:Fld q A M):FI q (Aq A) (Aq M) where
 q2:=h.q2
 al:=fun x y a b c d=>by have:=h.al x.toNat y.toNat (by omega) (by omega);simp only [Aq];omega
 ac:=fun x y a b c d=>by simp only [Aq];rw [h.ac x.toNat y.toNat (by omega) (by omega)]
 aa:=fun x y z a b c d e f=>by simp only [Aq,Int.toNat_natCast];rw [h.aa x.toNat y.toNat z.toNat (by omega) (by omega) (by omega)]
 a0:=fun x a b=>by have:=h.a0 x.toNat (by omega);simp only [Aq];rw [show (0:Int).toNat=0 from rfl,this];omega
 an:=fun x a b=>by
  obtain ⟨y,hy,e⟩:=h.an x.toNat (by omega)
  refine ⟨y,⟨by omega,by omega⟩,?_⟩
  simp only [Aq,Int.toNat_natCast];rw [e];rfl
 ml:=fun x y a b c d=>by have:=h.ml x.toNat y.toNat (by omega) (by omega);simp only [Aq];omega
 mc:=fun x y a b c d=>by simp only [Aq];rw [h.mc x.toNat y.toNat (by omega) (by omega)]
 ma:=fun x y z a b c d e f=>by simp only [Aq,Int.toNat_natCast];rw [h.ma x.toNat y.toNat z.toNat (by omega) (by omega) (by omega)]
 md:=fun x y z a b c d e f=>by simp only [Aq,Int.toNat_natCast];rw [h.md x.toNat y.toNat z.toNat (by omega) (by omega) (by omega)]
 m1:=fun x a b=>by have:=h.m1 x.toNat (by omega);simp only [Aq];rw [show (1:Int).toNat=1 from rfl,this];omega
 nz:=fun x y a b c d e=>by
  simp only [Aq] at e
  rcases h.nz x.toNat y.toNat (by omega) (by omega) (by omega) with h1|h1
  ·exact .inl (by omega)
  ·exact .inr (by omega)
theorem AKB {n:Nat}{f g:Nat→Int}(h:∀ i,i<n→f i≤g i):sm n f≤sm n g:=by
 induction n with
 | zero=>exact Int.le_refl _
 | succ n ih =>
  have h1:=ih fun i hi=>h i (by omega)
  have h2:=h n (by omega)
  rw [sm,sm];omega
theorem Xa {q:Nat}{φ:Nat→Nat}(hi:∀ x y,x<q→y<q→φ x=φ y→x=y) (y:Nat):∀ n,n≤q→sm n (fun x=>if φ x=y then 1 else 0)≤1
 | 0,_=>by rw [sm];decide
 | n+1,hn=>by
  rw [sm]
  by_cases h:φ n=y
  ·rw [if_pos h]
   have:sm n (fun x=>if φ x=y then (1:Int) else 0)=0:=by
    refine (Sh (g:=fun _=>0) fun x hx=>if_neg fun e=>?_).trans (Vk n)
    have:=hi x n (by omega) (by omega) (e.trans h.symm)
    omega
   rw [this];decide
  ·rw [if_neg h]
   have:=Xa hi y n (by omega)
   omega
theorem AEx {q:Nat}{φ:Nat→Nat}(hm:∀ x,x<q→φ x<q) (hi:∀ x y,x<q→y<q→φ x=φ y→x=y) {y:Nat}(hy:y<q):sm q (fun x=>if φ x=y then 1 else 0)=1:=by
 have h1:=Xa hi y q (Nat.le_refl q)
 have h0:∀ z,0≤sm q (fun x=>if φ x=z then (1:Int) else 0):=fun z=>AFh fun i _=>by split <;> decide
 have tot:sm q (fun z=>sm q (fun x=>if φ x=z then (1:Int) else 0))=q:=by
  rw [AIs,Sh (g:=fun _=>(1:Int)) fun x hx=>AEu (hm x hx) (fun _=>1),ACC];omega
 have split:sm q (fun z=>sm q (fun x=>if φ x=z then (1:Int) else 0))≤sm q (fun z=>(1:Int)-if y=z then 1-sm q (fun x=>if φ x=y then (1:Int) else 0) else 0):=by
  refine AKB fun z hz=>?_
  by_cases e:y=z
  ·subst e;rw [if_pos rfl];omega
  ·rw [if_neg e]
   have:=Xa hi z q (Nat.le_refl q)
   omega
 rw [tot,AJG,ACC,AEu hy (fun _=>1-sm q (fun x=>if φ x=y then (1:Int) else 0))] at split
 omega
section
variable {q:Nat}{A M:Int→Int→Int}(F:FI q A M)
def AKr (q:Nat) (x:Int):Int:=if x=0 then (q:Int)-1 else -1
include F
theorem FI.z:(0:Int)<q:=by have:=F.q2;omega
theorem FI.m0 {x:Int}(h0:0≤x) (h1:x<q):M x 0=0:=by
 have hz:=F.z
 have h:=F.md x 0 0 h0 h1 (Int.le_refl 0) hz (Int.le_refl 0) hz
 rw [F.a0 0 (Int.le_refl 0) hz] at h
 obtain ⟨b0,b1⟩:=F.ml x 0 h0 h1 (Int.le_refl 0) hz
 obtain ⟨y,⟨y0,y1⟩,e⟩:=F.an (M x 0) b0 b1
 have h2:A (A (M x 0) (M x 0)) y=A (M x 0) y:=by rw [← h]
 rw [F.aa _ _ _ b0 b1 b0 b1 y0 y1,e,F.a0 _ b0 b1] at h2
 exact h2
theorem FI.cancel {x y z:Int}(x0:0≤x) (x1:x<q) (y0:0≤y) (y1:y<q) (z0:0≤z) (z1:z<q) (h:A x y=A x z):y=z:=by
 obtain ⟨w,⟨w0,w1⟩,e⟩:=F.an x x0 x1
 have e2:A w x=0:=by rw [F.ac w x w0 w1 x0 x1];exact e
 have h2:A w (A x y)=A w (A x z):=by rw [h]
 rw [← F.aa _ _ _ w0 w1 x0 x1 y0 y1,← F.aa _ _ _ w0 w1 x0 x1 z0 z1,e2,F.ac 0 y (by omega) (by omega) y0 y1,F.ac 0 z (by omega) (by omega) z0 z1,F.a0 y y0 y1,F.a0 z z0 z1] at h2
 exact h2
end
def Wd (q n:Nat) (u:List Int):Prop:=u.length=n∧∀ x∈u,0≤x∧x<q
def Dn (A M:Int→Int→Int):List Int→List Int→Int
 | x::u,y::v=>A (M x y) (Dn A M u v)
 | _,_=>0
def Gw (A M:Int→Int→Int) (a:Int) (r u:List Int):List Int:=List.zipWith (fun x y=>A x (M a y)) u r
section
variable {q:Nat}{A M:Int→Int→Int}(F:FI q A M)
include F
theorem FI.dlt:∀ {n:Nat}{u v:List Int},Wd q n u→Wd q n v→0≤Dn A M u v∧Dn A M u v<q
 | _,[],_,_,_=>⟨Int.le_refl 0,F.z⟩
 | _,_::_,[],_,_=>⟨Int.le_refl 0,F.z⟩
 | 0,x::u,y::v,hu,_=>by have:=hu.1;simp at this
 | n+1,x::u,y::v,hu,hv=>by
  obtain ⟨x0,x1⟩:=hu.2 x (.head _)
  obtain ⟨y0,y1⟩:=hv.2 y (.head _)
  obtain ⟨m0,m1⟩:=F.ml x y x0 x1 y0 y1
  obtain ⟨d0,d1⟩:=FI.dlt (n:=n) (u:=u) (v:=v) ⟨by simpa using hu.1,fun z hz=>hu.2 z (.tail _ hz)⟩ ⟨by simpa using hv.1,fun z hz=>hv.2 z (.tail _ hz)⟩
  exact F.al _ _ m0 m1 d0 d1
theorem FI.dcomm:∀ {n:Nat}{u v:List Int},Wd q n u→Wd q n v→Dn A M u v=Dn A M v u
 | _,[],[],_,_=>rfl
 | _,[],_::_,_,_=>rfl
 | _,_::_,[],_,_=>rfl
 | 0,x::u,y::v,hu,_=>by have:=hu.1;simp at this
 | n+1,x::u,y::v,hu,hv=>by
  obtain ⟨x0,x1⟩:=hu.2 x (.head _)
  obtain ⟨y0,y1⟩:=hv.2 y (.head _)
  rw [Dn,Dn,F.mc x y x0 x1 y0 y1,FI.dcomm (n:=n) (u:=u) (v:=v) ⟨by simpa using hu.1,fun z hz=>hu.2 z (.tail _ hz)⟩ ⟨by simpa using hv.1,fun z hz=>hv.2 z (.tail _ hz)⟩]
theorem FI.swap4 {a b c d:Int}(a0:0≤a) (a1:a<q) (b0:0≤b) (b1:b<q) (c0:0≤c) (c1:c<q) (d0:0≤d) (d1:d<q):A (A a b) (A c d)=A (A a c) (A b d):=by
 obtain ⟨e0,e1⟩:=F.al c d c0 c1 d0 d1
 obtain ⟨f0,f1⟩:=F.al b d b0 b1 d0 d1
 rw [F.aa a b _ a0 a1 b0 b1 e0 e1,← F.aa b c d b0 b1 c0 c1 d0 d1,F.ac b c b0 b1 c0 c1,F.aa c b d c0 c1 b0 b1 d0 d1,← F.aa a c _ a0 a1 c0 c1 f0 f1]
theorem FI.axw {n:Nat}{a:Int}(a0:0≤a) (a1:a<q) {r u:List Int}(hr:Wd q n r) (hu:Wd q n u):Wd q n (Gw A M a r u):=by
 refine ⟨by rw [Gw,List.length_zipWith,hr.1,hu.1];omega,fun x hx=>?_⟩
 obtain ⟨i,hi⟩:=List.getElem?_of_mem hx
 rw [Gw,List.getElem?_zipWith] at hi
 cases h1:u[i]? with
 | none=>rw [h1] at hi;simp at hi
 | some y =>
  cases h2:r[i]? with
  | none=>rw [h1,h2] at hi;simp at hi
  | some z =>
   rw [h1,h2] at hi
   simp at hi
   subst hi
   obtain ⟨y0,y1⟩:=hu.2 y (List.mem_of_getElem? h1)
   obtain ⟨z0,z1⟩:=hr.2 z (List.mem_of_getElem? h2)
   obtain ⟨m0,m1⟩:=F.ml a z a0 a1 z0 z1
   exact F.al _ _ y0 y1 m0 m1
theorem FI.daxp {a:Int}(a0:0≤a) (a1:a<q):∀ {n:Nat}{d r u:List Int},Wd q n d→Wd q n r→Wd q n u→Dn A M d (Gw A M a r u)=A (Dn A M d u) (M a (Dn A M d r))
 | 0,d,r,u,hd,hr,hu=>by
  have e1:=List.length_eq_zero_iff.1 hd.1
  subst e1
  show (0:Int)=A 0 (M a 0)
  rw [F.m0 a0 a1,F.a0 0 (Int.le_refl 0) F.z]
 | n+1,[],_,_,hd,_,_=>by have:=hd.1;simp at this
 | n+1,_::_,[],_,_,hr,_=>by have:=hr.1;simp at this
 | n+1,_::_,_::_,[],_,_,hu=>by have:=hu.1;simp at this
 | n+1,x::d,y::r,z::u,hd,hr,hu=>by
  have hd':Wd q n d:=⟨by simpa using hd.1,fun w hw=>hd.2 w (.tail _ hw)⟩
  have hr':Wd q n r:=⟨by simpa using hr.1,fun w hw=>hr.2 w (.tail _ hw)⟩
  have hu':Wd q n u:=⟨by simpa using hu.1,fun w hw=>hu.2 w (.tail _ hw)⟩
  obtain ⟨x0,x1⟩:=hd.2 x (.head _)
  obtain ⟨y0,y1⟩:=hr.2 y (.head _)
  obtain ⟨z0,z1⟩:=hu.2 z (.head _)
  have ih:=FI.daxp a0 a1 hd' hr' hu'
  obtain ⟨p0,p1⟩:=F.dlt hd' hu'
  obtain ⟨s0,s1⟩:=F.dlt hd' hr'
  obtain ⟨m0,m1⟩:=F.ml a y a0 a1 y0 y1
  obtain ⟨b0,b1⟩:=F.ml x z x0 x1 z0 z1
  obtain ⟨c0,c1⟩:=F.ml x y x0 x1 y0 y1
  obtain ⟨k0,k1⟩:=F.ml a _ a0 a1 c0 c1
  obtain ⟨l0,l1⟩:=F.ml a _ a0 a1 s0 s1
  show A (M x (A z (M a y))) (Dn A M d (Gw A M a r u))=A (A (M x z) (Dn A M d u)) (M a (A (M x y) (Dn A M d r)))
  have e1:M x (M a y)=M a (M x y):=by rw [← F.ma x a y x0 x1 a0 a1 y0 y1,F.mc x a x0 x1 a0 a1,F.ma a x y a0 a1 x0 x1 y0 y1]
  rw [ih,F.md x z _ x0 x1 z0 z1 m0 m1,e1,F.md a _ _ a0 a1 c0 c1 s0 s1]
  exact F.swap4 b0 b1 k0 k1 p0 p1 l0 l1
end
set_option maxRecDepth 100000
set_option linter.unusedVariables false
set_option linter.unusedSimpArgs false
theorem ABx (Y:Vz→Vz) (w:Vz):∀ a b:Nat,I3 Y (a+b) w=I3 Y a (I3 Y b w)
 | 0,b=>by rw [Nat.zero_add];rfl
 | a+1,b=>by rw [show a+1+b=(a+b)+1 by omega];show Y (I3 Y (a+b) w)=Y (I3 Y a (I3 Y b w));rw [ABx Y w a b]
theorem AEq {Y:Vz→Vz}(h:Xk Y):∀ k,Xk (I3 Y k)
 | 0=>fun _ _ _ _=>rfl
 | k+1=>fun a b u v=>by
  show Y (I3 Y k fun j=>a*u j+b*v j)=fun j=>a*Y (I3 Y k u) j+b*Y (I3 Y k v) j
  rw [AEq h k a b u v,h]
theorem AEP {Y:Vz→Vz}(h:Xk Y) (w:Vz) (v:Int):∀ (r:List Int) (k:Nat),k<r.length→Bl Y (r.set k v) w=fun j=>Bl Y r w j+(v-r.getD k 0)*I3 Y k w j
 | [],k,hk=>by simp at hk
 | a::r,0,_=>by
  funext j
  show v*w j+Y (Bl Y r w) j=a*w j+Y (Bl Y r w) j+(v-a)*w j
  grind
 | a::r,k+1,hk=>by
  have ih:=AEP h w v r k (by simpa using hk)
  funext j
  show a*w j+Y (Bl Y (r.set k v) w) j=a*w j+Y (Bl Y r w) j+(v-r.getD k 0)*Y (I3 Y k w) j
  have e:(fun j=>Bl Y r w j+(v-r.getD k 0)*I3 Y k w j)=fun j=>1*Bl Y r w j+(v-r.getD k 0)*I3 Y k w j:=by funext j;rw [Int.one_mul]
  rw [ih,e,h]
  grind
theorem AGl {Y:Vz→Vz}(h:Xk Y) (w:Vz) (k:Nat):∀ g:List Int,I3 Y k (Bl Y g w)=fun j=>Bl Y g (I3 Y k w) j:=fun g=>by
 induction k with
 | zero=>rfl
 | succ k ih =>
  show Y (I3 Y k (Bl Y g w))=_
  rw [ih]
  show Y (Bl Y g (I3 Y k w))=fun j=>Bl Y g (Y (I3 Y k w)) j
  rw [AG2 h]
def D3 (p:Nat) (e:Int) (g:List Int) (k:Nat):Nat→List Int→List Int
 | 0,r=>r
 | n+1,r=>(D3 p e g k n r).set (k+n) (((D3 p e g k n r).getD (k+n) 0+e*g.getD n 0) % p)
theorem G0 (p:Nat) (e:Int) (g:List Int) (k:Nat) (r:List Int):∀ n,(D3 p e g k n r).length=r.length
 | 0=>rfl
 | n+1=>by rw [D3,List.length_set,G0 p e g k r n]
theorem Xb (p:Nat) (e:Int) (g:List Int) (k:Nat) (r:List Int) {i:Nat}:∀ n,k+n≤i→(D3 p e g k n r).getD i 0=r.getD i 0
 | 0,_=>rfl
 | n+1,h=>by
  rw [D3,List.getD_eq_getElem?_getD,List.getElem?_set,if_neg (by omega),← List.getD_eq_getElem?_getD,Xb p e g k r n (by omega)]
theorem Ju {p:Nat}(hp:0<p) (e:Int) (g:List Int) (k:Nat) {r:List Int}(hr:∀ x∈r,0≤x∧x<p):∀ n,∀ x∈D3 p e g k n r,0≤x∧x<p
 | 0=>hr
 | n+1=>fun x hx=>by
  rw [D3] at hx
  rcases List.mem_or_eq_of_mem_set hx with h|rfl
  ·exact Ju hp e g k hr n x h
  ·exact ⟨Int.emod_nonneg _ (by omega),Int.emod_lt_of_pos _ (by omega)⟩
theorem AAi {p:Nat}{Y:Vz→Vz}(h:Xk Y) (w:Vz) (e:Int) (g:List Int) (k:Nat) {r:List Int}:∀ n,n≤g.length→k+n≤r.length →
  cg p fun j=>Bl Y (D3 p e g k n r) w j-(Bl Y r w j+e*Bl Y (g.take n) (I3 Y k w) j)
 | 0,_,_=>fun j=>by
  show (p:Int)∣Bl Y r w j-(Bl Y r w j+e*0)
  exact ⟨0,by omega⟩
 | n+1,hn,hk=>fun j=>by
  have ih:(p:Int)∣Bl Y (D3 p e g k n r) w j-(Bl Y r w j+e*Bl Y (g.take n) (I3 Y k w) j):=AAi (p:=p) h w e g k (r:=r) n (by omega) (by omega) j
  have hl:k+n<(D3 p e g k n r).length:=by rw [G0];omega
  have e1:=congrFun (AEP h w (((D3 p e g k n r).getD (k+n) 0+e*g.getD n 0) % p) (D3 p e g k n r) (k+n) hl) j
  have e2:Bl Y (g.take (n+1)) (I3 Y k w) j=Bl Y (g.take n) (I3 Y k w) j+g.getD n 0*I3 Y (k+n) w j:=by
   rw [List.take_succ_eq_append_getElem (by omega),Hv h]
   show _+_*I3 Y (g.take n).length (I3 Y k w) j=_
   rw [List.length_take,Nat.min_eq_left (by omega),← ABx,Nat.add_comm n k,List.getD_eq_getElem?_getD,List.getElem?_eq_getElem (by omega)];rfl
  show (p:Int)∣Bl Y ((D3 p e g k n r).set (k+n) _) w j-_
  rw [e1,e2]
  generalize (D3 p e g k n r).getD (k+n) 0=x at *
  generalize g.getD n 0=y at *
  generalize I3 Y (k+n) w j=z at *
  generalize Bl Y (D3 p e g k n r) w j=u at *
  generalize Bl Y (g.take n) (I3 Y k w) j=v at *
  have hm:=Int.emod_add_mul_ediv (x+e*y) p
  generalize (x+e*y) / (p:Int)=t at *
  have e3:u+((x+e*y) % p-x)*z-(Bl Y r w j+e*(v+y*z))=(u-(Bl Y r w j+e*v))+p*(-t*z):=by
   have:(x+e*y) % p=x+e*y-p*t:=by omega
   rw [this];grind
  rw [e3]
  exact Int.dvd_add ih ⟨_,rfl⟩
theorem AJA {g:List Int}(h:1≤g.length) (k:Nat):I3 (Xg g) (k+g.length) Bs=fun j=>-Bl (Xg g) g (I3 (Xg g) k Bs) j:=by
 have hY:=Ed g
 rw [ABx,AGo h,← Oc (Nat.le_refl g.length)]
 have:(fun j=>-Bl (Xg g) g Bs j)=fun j=>(-1)*Bl (Xg g) g Bs j:=by funext j;omega
 rw [this,(AEq hY k).mul,AGl hY]
 funext j
 show -1*Bl (Xg g) g (I3 (Xg g) k Bs) j=-Bl (Xg g) g (I3 (Xg g) k Bs) j
 omega
theorem AA0 {r:List Int}{i:Nat}(h:i<r.length):r.take (i+1)=r.take i++[r.getD i 0]:=by
 rw [List.take_succ_eq_append_getElem h,List.getD_eq_getElem?_getD,List.getElem?_eq_getElem h];rfl
theorem Uv (p:Nat) (e:Int) (g:List Int) (k:Nat) {r:List Int}{i:Nat}:∀ n,k+n≤i→(D3 p e g k n r).take i=D3 p e g k n (r.take i)
 | 0,_=>rfl
 | n+1,h=>by
  rw [D3,D3,List.take_set,Uv p e g k n (by omega)]
  congr 3
  rw [← Uv p e g k n (by omega),List.getD_eq_getElem?_getD,List.getD_eq_getElem?_getD,List.getElem?_take,if_pos (by omega)]
theorem ACO {p:Nat}{g r:List Int}{i:Nat}(hg:1≤g.length) (hi:g.length≤i) (hr:i<r.length) :
  cg p fun j=>Bl (Xg g) ((D3 p (p-r.getD i 0) g (i-g.length) g.length r).take i) Bs j-Bl (Xg g) (r.take (i+1)) Bs j:=by
 have hY:=Ed g
 rw [Uv _ _ _ _ _ (by omega)]
 have h1:=AAi (p:=p) hY Bs (p-r.getD i 0) g (i-g.length) (r:=r.take i) g.length (Nat.le_refl _) (by rw [List.length_take];omega)
 have ht:=AJA hg (i-g.length)
 rw [Nat.sub_add_cancel hi] at ht
 have h2:Bl (Xg g) (r.take (i+1)) Bs=fun j=>Bl (Xg g) (r.take i) Bs j-r.getD i 0*Bl (Xg g) g (I3 (Xg g) (i-g.length) Bs) j:=by
  rw [AA0 hr,Hv hY,List.length_take,Nat.min_eq_left (by omega),ht]
  funext j;grind
 rw [h2]
 rw [List.take_length] at h1
 intro j
 have h3:(p:Int)∣_-(_+(p-r.getD i 0)*Bl (Xg g) g (I3 (Xg g) (i-g.length) Bs) j):=h1 j
 have h4:=Int.dvd_add h3 (⟨Bl (Xg g) g (I3 (Xg g) (i-g.length) Bs) j,rfl⟩:(p:Int)∣p*Bl (Xg g) g (I3 (Xg g) (i-g.length) Bs) j)
 refine Er h4 ?_
 show _=_-(_-r.getD i 0*_)
 grind
def Uf (p m:Nat) (a b:List Int):Nat→List Int
 | 0=>List.replicate (2*m-1) 0
 | i+1=>D3 p (a.getD i 0) b i m (Uf p m a b i)
theorem Vf (p m:Nat) (a b:List Int):∀ i,(Uf p m a b i).length=2*m-1
 | 0=>by simp [Uf]
 | i+1=>by rw [Uf,G0,Vf p m a b i]
theorem Zv {p:Nat}(hp:0<p) (m:Nat) (a b:List Int):∀ i,∀ x∈Uf p m a b i,0≤x∧x<p
 | 0=>fun x hx=>by rw [(List.mem_replicate.1 hx).2];omega
 | i+1=>Ju hp _ _ _ (Zv hp m a b i) m
theorem ABc {Y:Vz→Vz}(h:Xk Y) (w:Vz):∀ n,Bl Y (List.replicate n 0) w=fun _=>0
 | 0=>rfl
 | n+1=>by
  funext j
  show 0*w j+Y (Bl Y (List.replicate n 0) w) j=0
  rw [ABc h w n,h.zero];simp
theorem AEl {p m:Nat}{g a b:List Int}(hb:b.length=m) (ha:a.length=m):∀ i,i≤m→cg p fun j=>Bl (Xg g) (Uf p m a b i) Bs j-Bl (Xg g) (a.take i) (Bl (Xg g) b Bs) j
 | 0,_=>fun j=>by
  rw [Uf,ABc (Ed g)]
  exact ⟨0,by simp [Bl]⟩
 | i+1,hi=>fun j=>by
  have hY:=Ed g
  have ih:(p:Int)∣Bl (Xg g) (Uf p m a b i) Bs j-Bl (Xg g) (a.take i) (Bl (Xg g) b Bs) j:=AEl hb ha i (by omega) j
  have h1:(p:Int)∣Bl (Xg g) (D3 p (a.getD i 0) b i m (Uf p m a b i)) Bs j-(Bl (Xg g) (Uf p m a b i) Bs j+a.getD i 0*Bl (Xg g) (b.take m) (I3 (Xg g) i Bs) j):=AAi (p:=p) hY Bs (a.getD i 0) b i (r:=Uf p m a b i) m (by omega) (by rw [Vf];omega) j
  have h2:=Int.dvd_add h1 ih
  rw [← hb,List.take_length,hb] at h2
  refine Er h2 ?_
  show _=Bl (Xg g) (D3 p (a.getD i 0) b i m (Uf p m a b i)) Bs j-Bl (Xg g) (a.take (i+1)) (Bl (Xg g) b Bs) j
  rw [AA0 (by omega),Hv hY,List.length_take,Nat.min_eq_left (by omega)]
  have h3:=congrFun (AGl hY Bs i b) j
  show _=_-(_+a.getD i 0*I3 (Xg g) i (Bl (Xg g) b Bs) j)
  rw [h3]
  omega
def Rt (p:Nat) (g r:List Int):Nat→List Int
 | 0=>r
 | n+1=>D3 p (p-(Rt p g r n).getD (r.length-1-n) 0) g (r.length-1-n-g.length) g.length (Rt p g r n)
theorem V5 (p:Nat) (g r:List Int):∀ n,(Rt p g r n).length=r.length
 | 0=>rfl
 | n+1=>by rw [Rt,G0,V5 p g r n]
theorem Y7 {p:Nat}(hp:0<p) (g:List Int) {r:List Int}(hr:∀ x∈r,0≤x∧x<p):∀ n,∀ x∈Rt p g r n,0≤x∧x<p
 | 0=>hr
 | n+1=>Ju hp _ _ _ (Y7 hp g hr n) _
theorem AEk {p:Nat}{g r:List Int}(hg:1≤g.length):∀ n,n+g.length≤r.length→cg p fun j=>Bl (Xg g) ((Rt p g r n).take (r.length-n)) Bs j-Bl (Xg g) r Bs j
 | 0,_=>fun j=>by
  rw [Rt,Nat.sub_zero,List.take_length]
  exact ⟨0,by show Bl (Xg g) r Bs j-Bl (Xg g) r Bs j=_;omega⟩
 | n+1,hn=>fun j=>by
  have ih:(p:Int)∣Bl (Xg g) ((Rt p g r n).take (r.length-n)) Bs j-Bl (Xg g) r Bs j:=AEk hg n (by omega) j
  have h1:(p:Int)∣Bl (Xg g) ((D3 p (p-(Rt p g r n).getD (r.length-1-n) 0) g (r.length-1-n-g.length) g.length (Rt p g r n)).take (r.length-1-n)) Bs j-Bl (Xg g) ((Rt p g r n).take (r.length-1-n+1)) Bs j:=ACO (p:=p) hg (r:=Rt p g r n) (i:=r.length-1-n) (by omega) (by rw [V5];omega) j
  rw [show r.length-1-n+1=r.length-n by omega] at h1
  refine Er (Int.dvd_add h1 ih) ?_
  show _=Bl (Xg g) ((Rt p g r (n+1)).take (r.length-(n+1))) Bs j-_
  rw [show r.length-(n+1)=r.length-1-n by omega,Rt]
  omega
theorem Cn (l:List Nat):(Bz l).length=l.length:=List.length_map _
theorem AHr {p:Nat}(hp:0<p) {f:List Int}(hf:1≤f.length) (x y:Nat) :
  (Rt p f (Uf p f.length (Bz (Dh p f.length x)) (Bz (Dh p f.length y)) f.length) (f.length-1)).take f.length=Bz ((List.range f.length).map fun j=>(Co f (C3 p f.length x) (C3 p f.length y) j % p).toNat):=by
 generalize hm:f.length=m at *
 have la:(Bz (Dh p m x)).length=m:=by rw [Cn,Di]
 have lb:(Bz (Dh p m y)).length=m:=by rw [Cn,Di]
 have l1:=Vf p m (Bz (Dh p m x)) (Bz (Dh p m y)) m
 have r1:=Zv hp m (Bz (Dh p m x)) (Bz (Dh p m y)) m
 have c1:=AEl (p:=p) (g:=f) lb la m (Nat.le_refl m)
 rw [List.take_of_length_le (Nat.le_of_eq la)] at c1
 generalize Uf p m (Bz (Dh p m x)) (Bz (Dh p m y)) m=r at *
 have c2:=AEk (p:=p) (g:=f) (r:=r) (by omega) (m-1) (by omega)
 have r2:=Y7 hp f r1 (m-1)
 have l2:=V5 p f r (m-1)
 rw [l1,show 2*m-1-(m-1)=m by omega] at c2
 generalize Rt p f r (m-1)=s at *
 have lt:(s.take m).length=m:=by rw [List.length_take];omega
 have key:∀ j,j<m→(p:Int)∣(s.take m).getD j 0-Co f (C3 p m x) (C3 p m y) j:=fun j hj=>by
  have h3:Bl (Xg f) (s.take m) Bs=Ec (s.take m):=Oc (by omega)
  have h4:Bl (Xg f) (Bz (Dh p m y)) Bs=Ec (Bz (Dh p m y)):=Oc (by omega)
  have h5:(List.range f.length).map (C3 p m x)=Bz (Dh p m x):=by
   refine List.ext_getElem? fun i=>?_
   rw [List.getElem?_map,hm]
   by_cases hi:i<m
   ·rw [List.getElem?_range hi,List.getElem?_eq_getElem (by omega)]
    show some (Ec (Bz (Dh p m x)) i)=_
    rw [Ec,List.getD_eq_getElem?_getD,List.getElem?_eq_getElem (by omega)];rfl
   ·rw [List.getElem?_eq_none (by simpa using hi),List.getElem?_eq_none (by omega)];rfl
  have a1:(p:Int)∣Bl (Xg f) r Bs j-Bl (Xg f) (Bz (Dh p m x)) (Bl (Xg f) (Bz (Dh p m y)) Bs) j:=c1 j
  have a2:(p:Int)∣Bl (Xg f) (s.take m) Bs j-Bl (Xg f) r Bs j:=c2 j
  have a3:=Int.dvd_add a2 a1
  rw [h3,h4] at a3
  refine Er a3 ?_
  rw [Co,h5]
  show _=Ec (s.take m) j-Bl (Xg f) (Bz (Dh p m x)) (Ec (Bz (Dh p m y))) j
  omega
 refine List.ext_getElem? fun j=>?_
 rw [Bz,List.getElem?_map,List.getElem?_map]
 by_cases hj:j<m
 ·rw [List.getElem?_range hj,List.getElem?_eq_getElem (by omega)]
  have h6:=key j hj
  rw [List.getD_eq_getElem?_getD,List.getElem?_eq_getElem (by omega)] at h6
  obtain ⟨b0,b1⟩:=r2 _ (List.mem_of_mem_take (List.getElem_mem (l:=s.take m) (n:=j) (by omega)))
  have h7:=(Int.emod_eq_emod_iff_emod_sub_eq_zero).2 (Int.emod_eq_zero_of_dvd h6)
  simp only [Option.getD_some] at h7
  rw [Int.emod_eq_of_lt b0 b1] at h7
  have h8:=Int.emod_nonneg (Co f (C3 p m x) (C3 p m y) j) (show (p:Int)≠0 by omega)
  simp only [Option.map_some,Option.some.injEq]
  omega
 ·rw [List.getElem?_eq_none (by omega),List.getElem?_eq_none (by simpa using hj)];rfl
theorem AHo {p:Nat}{g h:List Int}(hl:g.length=h.length) (hgh:∀ j,(p:Int)∣g.getD j 0-h.getD j 0) {w:Vz}:∀ F:List Int,cg p fun j=>Bl (Xg g) F w j-Bl (Xg h) F w j
 | []=>fun j=>⟨0,by simp [Bl]⟩
 | a::F=>fun j=>by
  have ih:=AHo hl hgh (w:=w) F
  show (p:Int)∣(a*w j+Xg g (Bl (Xg g) F w) j)-(a*w j+Xg h (Bl (Xg h) F w) j)
  have e1:(fun j=>Bl (Xg g) F w j-Bl (Xg h) F w j)=fun j=>1*Bl (Xg g) F w j+(-1)*Bl (Xg h) F w j:=by funext j;omega
  have h1:=AAd (Ed g) ih
  rw [e1,Ed g] at h1
  have h2:(p:Int)∣1*Xg g (Bl (Xg g) F w) j+(-1)*Xg g (Bl (Xg h) F w) j:=h1 j
  have h3:(p:Int)∣Xg g (Bl (Xg h) F w) j-Xg h (Bl (Xg h) F w) j:=by
   simp only [Xg,hl]
   by_cases hj:j<h.length
   ·rw [if_pos hj,if_pos hj]
    refine Er (Int.dvd_mul_of_dvd_left (c:=-Bl (Xg h) F w (h.length-1)) (hgh j)) ?_
    grind
   ·rw [if_neg hj,if_neg hj];exact ⟨0,by omega⟩
  exact Er (Int.dvd_add h2 h3) (by omega)
def AD8 (p:Nat) (md:List Nat):Prop:=∀ d,1≤d→2*d≤md.length→∀ v,v<p ^ d→¬ cg p (Bl (Xg (Bz (Dh p d v))) (Bz md++[1]) Bs)
theorem ADq {p:Nat}(hp:0<p) {md:List Nat}(h:AD8 p md):¬ ABz p (Bz md):=by
 rintro ⟨g,s,h1,h2,h3,h4,h5⟩
 rw [Cn] at h3
 have key:∀ g:List Int,1≤g.length→2*g.length≤md.length→¬ cg p (Bl (Xg g) (Bz md++[1]) Bs):=fun g h1 h2 hc=>by
  let l:List Nat:=g.map fun x=>(x % (p:Int)).toNat
  have hl:∀ d∈l,d<p:=fun d hd=>by
   obtain ⟨x,_,rfl⟩:=List.mem_map.1 hd
   have:=Int.emod_lt_of_pos x (show (0:Int)<p by omega)
   omega
  have ll:l.length=g.length:=List.length_map _
  have hv:=Nu hp hl
  have e:=AAh hp hl
  rw [ll] at hv e
  refine h g.length h1 h2 (Fz p l) hv ?_
  rw [e]
  have h6:∀ j,(p:Int)∣(Bz l).getD j 0-g.getD j 0:=fun j=>by
   rw [Bz,List.getD_eq_getElem?_getD,List.getD_eq_getElem?_getD,List.getElem?_map,List.getElem?_map]
   cases hg:g[j]? with
   | none=>exact ⟨0,by simp⟩
   | some x =>
    simp only [Option.map_some,Option.getD_some]
    have h7:=Int.emod_nonneg x (show (p:Int)≠0 by omega)
    have h8:=Int.emod_add_mul_ediv x p
    exact ⟨-(x / p),by rw [Int.mul_neg];omega⟩
  have h9:=AHo (by rw [Cn];exact ll) h6 (w:=Bs) (Bz md++[1])
  intro j
  have h10:(p:Int)∣Bl (Xg (Bz l)) (Bz md++[1]) Bs j-Bl (Xg g) (Bz md++[1]) Bs j:=h9 j
  exact Er (Int.dvd_add h10 (hc j)) (by omega)
 by_cases hle:2*g.length≤md.length
 ·exact key g h1 hle h4
 ·exact key s h2 (by omega) h5
open Go Go.Fw
set_option maxHeartbeats 0
def Va (P M:Int):Prop:=2≤P∧1≤M∧M≤8∧P.toNat ^ M.toNat≤256
instance (P M:Int):Decidable (Va P M):=by unfold Va;infer_instance
def Jb (P M:Int):Int:=if Va P M then ((P.toNat ^ M.toNat:Nat):Int) else 0
theorem Bu {P M:Int}{pm:Option Addr}{n c:Nat}{res:Int}(hres:Jb P M=res):Br Tryz.prog 93 [.agg #[.int .i64 P,.int .i64 M,.slice pm n c]] [] [] (Rv (.int .i64 res) []):=by
 refine Ad (F:=O7) rfl fun C=>?_
 have no:¬ Va P M→res=0:=fun h=>by rw [← hres,Jb,if_neg h]
 by_cases h1:P<2
 ·rw [no (by unfold Va;omega)]
  refine wk 15 cz ?_
  intro b1 h2
  exact ge
 by_cases h2:M<1
 ·rw [no (by unfold Va;omega)]
  refine wk 21 cz ?_
  intro b1 h3 h4
  exact ge
 by_cases h3:8<M
 ·rw [no (by unfold Va;omega)]
  refine wk 23 cz ?_
  intro b1 h4 h5 h6
  exact ge
 obtain ⟨p,rfl⟩:∃ p:Nat,P=p:=⟨P.toNat,by omega⟩
 obtain ⟨m,rfl⟩:∃ m:Nat,M=m:=⟨M.toNat,by omega⟩
 refine wk 25 cz ?_
 intro b1 h4 h5 h6
 refine Ag (X:=Nat) [1] [] (fun i=>[(4,.int .i64 (i:Int)),(3,.int .i64 ((p ^ i:Nat):Int))]) (fun _=>[(some b1,24,[.int .i64 (p:Int),.int .i64 (m:Int),.slice pm n c])]) (fun _=>[]) (fun i=>i≤m∧p ^ i≤256) (fun i=>m-i) 0 [] rfl rfl rfl ⟨Nat.zero_le _,by simp⟩ (by repeat (first|exact Fr.sub_nil _|refine Fr.sub_cons rfl ?_)) rfl rfl ?_
 rintro i ⟨hi,hq⟩ ih
 simp only [List.cons_append,List.nil_append] at hi hq ih ⊢
 by_cases hil:i<m
 ·have hp0:0<p:=by omega
  have hdiv:(256:Int) / (p:Int)=((256 / p:Nat):Int):=(Int.natCast_ediv 256 p).symm
  by_cases hb:p ^ (i+1)≤256
  ·have hle:p ^ i≤256 / p:=by rw [Nat.le_div_iff_mul_le hp0];rwa [Nat.pow_succ] at hb
   have e:((p ^ i:Nat):Int)*(p:Int)=((p ^ (i+1):Nat):Int):=by rw [Nat.pow_succ,Int.natCast_mul]
   refine wk 22 cz ?_
   intro h7 h8
   rw [e]
   exact tw (ih (i+1) (by omega) ⟨by omega,hb⟩)
  ·have hgt:256 / p<p ^ i:=by
    refine Nat.lt_of_not_le fun h=>hb ?_
    rw [Nat.le_div_iff_mul_le hp0] at h
    rw [Nat.pow_succ];exact h
   rw [no fun h=>hb (Nat.le_trans (Nat.pow_le_pow_right hp0 hil) (by have:=h.2.2.2;simpa using this))]
   refine wk 17 cz ?_
   intro h7 h8
   exact ge
 ·obtain rfl:m=i:=by omega
  have:res=((p ^ m:Nat):Int):=by
   rw [← hres,Jb,if_pos ⟨by omega,by omega,by omega,by simpa using hq⟩];simp
  rw [this]
  refine wk 10 cz ?_
  intro h7
  exact ge
theorem Dc {n:Nat}(hn:2≤n) (hn2:n≤1000000) {res:Bool}(hres:res=true↔Prm n):Br Tryz.prog 94 [.int .i64 n] [] [] (Rv (.bool res) []):=by
 refine Ad (F:=P8) rfl fun C=>?_
 refine wk 5 cz ?_
 refine Ag (X:=Nat) [0] [] (fun d=>[(3,.int .i64 (d:Int))]) (fun _=>[]) (fun _=>[]) (fun d=>2≤d∧d≤n∧∀ e,2≤e→e<d→¬ e∣n) (fun d=>n-d) 2 [] rfl rfl rfl ⟨Nat.le_refl 2,hn,fun e h1 h2=>by omega⟩ (by repeat (first|exact Fr.sub_nil _|refine Fr.sub_cons rfl ?_)) rfl rfl ?_
 rintro d ⟨hd,hdn,hall⟩ ih
 simp only [List.cons_append,List.nil_append] at hd hdn hall ih ⊢
 by_cases Ly:d<n
 ·by_cases hm:n % d=0
  ·have hm':(n:Int) % (d:Int)=0:=by omega
   have:res=false:=by
    cases res with
    | false=>rfl
    | true=>exact absurd (Nat.dvd_of_mod_eq_zero hm) ((hres.1 rfl).2 d hd Ly)
   rw [this]
   refine wk 11 cz ?_
   intro h1 h2
   exact ge
  ·have hm':¬ (n:Int) % (d:Int)=0:=by omega
   refine wk 11 cz ?_
   intro h1 h2
   exact tw (ih (d+1) (by omega) ⟨by omega,by omega,fun e h1 h2=>by
    rcases Nat.lt_succ_iff_lt_or_eq.1 h2 with h3|rfl
    ·exact hall e h1 h3
    ·exact fun hdv=>hm (Nat.mod_eq_zero_of_dvd hdv)⟩)
 ·obtain rfl:n=d:=by omega
  have:res=true:=hres.2 ⟨hn,hall⟩
  rw [this]
  refine wk 7 cz ?_
  intro h1
  exact ge
theorem Yt {T:List Nat}{i n:Nat}(hT:T.length=n) (hi:i<n) {z:Nat}(hz:T[i]?=some z):(T.take i++List.replicate (n-i) 0).set i z=T.take (i+1)++List.replicate (n-(i+1)) 0:=by
 have hl:(T.take i).length=i:=by rw [List.length_take];omega
 rw [List.set_append,if_neg (by omega),hl,Nat.sub_self,show n-i=(n-(i+1))+1 by omega,List.replicate_succ,List.set_cons_zero,List.take_add_one,hz]
 simp
theorem AB4 {p:Nat}:∀ {n i x:Nat},i<n→(Dh p n x)[i]?=some (x / p ^ i % p)
 | n+1,0,x,_=>by rw [Dh,List.getElem?_cons_zero,Nat.pow_zero,Nat.div_one]
 | n+1,i+1,x,h=>by
  rw [Dh,List.getElem?_cons_succ,AB4 (by omega),Nat.div_div_eq_div_mul,Nat.pow_succ,Nat.mul_comm p]
theorem Js {l:List Nat}{i x:Nat}(h:l[i]?=some x):(Bz l)[i]?=some (x:Int):=by rw [Bz,List.getElem?_map,h];rfl
theorem G1 (k:IntKind) (l:List Nat):Ap k l=Az k (Bz l):=by simp [Ap,Az,Bz]
theorem Wa {l:List Nat}(h:∀ x∈l,x≤9223372036854775807):∀ x∈Bz l,Bf .i64 x:=fun x hx=>by
 obtain ⟨n,hn,rfl⟩:=List.mem_map.1 hx
 have:=h n hn
 simp only [Bf];omega
abbrev SvI (n:Nat) (l:List Int):Value→List Fact→List Bb→Prop:=fun v Φ β=>∃ pa ca,v = .slice pa n ca∧Φ=[A2 Ak pa n ca l]∧β=[]
theorem Hs {p n x:Nat}(hp:1≤p) (hp2:p≤1000000) (hn:n≤100) (hx:x≤1000000000):Br Tryz.prog 123 [.int .i64 x,.int .i64 p,.int .i64 n] [] [] (SvI n (Bz (Dh p n x))):=by
 refine Ad (F:=Hg) rfl fun C=>?_
 have hl:=Di p n x
 refine wk 9 cz ?_
 intro b1
 rw [show List.replicate n 0=(Dh p n x).take 0++List.replicate (n-0) 0 by simp]
 refine Ag (X:=Nat) [1,2,6,7] [] (fun i=>[(8,.int .i64 (i:Int)),(0,.int .i64 ((x / p ^ i:Nat):Int))]) (fun i=>[(some b1,3,Ap .i64 ((Dh p n x).take i++List.replicate (n-i) 0))]) (fun _=>[]) (fun i=>i≤n) (fun i=>n-i) 0 [] rfl rfl rfl (Nat.zero_le _) (by refine Fr.sub_cons rfl ?_;refine Fr.sub_consI rfl (by simp) ?_;repeat (first|exact Fr.sub_nil _|refine Fr.sub_cons rfl ?_)) rfl rfl ?_
 rintro i hi ih
 simp only [List.cons_append,List.nil_append] at hi ih ⊢
 have hxi:x / p ^ i≤x:=Nat.div_le_self _ _
 have hz:=fun h=>AB4 (p:=p) (n:=n) (i:=i) (x:=x) h
 have hnx:x / p ^ (i+1)=x / p ^ i / p:=by rw [Nat.pow_succ,← Nat.div_div_eq_div_mul]
 by_cases hil:i<n
 ·have ih':=ih (i+1) (by omega) (by omega)
  rw [hnx,← Yt hl hil (hz hil)] at ih'
  generalize x / p ^ i=y at *
  have e1:(y:Int) % (p:Int)=((y % p:Nat):Int):=(Int.natCast_emod _ _).symm
  have e2:(y:Int) / (p:Int)=((y / p:Nat):Int):=(Int.natCast_ediv _ _).symm
  have hlen:((Dh p n x).take i++List.replicate (n-i) 0).length=n:=by simp [hl];omega
  refine wk 13 cz ?_
  intro h1
  rw [e2]
  exact tw (ih')
 ·obtain rfl:i=n:=by omega
  clear hz hnx
  rw [List.take_of_length_le (by omega),Nat.sub_self,List.replicate_zero,List.append_nil,G1]
  refine wk 7 cz ?_
  intro h1
  refine Gn 8 (Bz (Dh p i x)) 0 rfl (by rw [Cn,hl]) (Wa fun d hd=>by have:=Kw (by omega) d hd;omega) (by omega) (by omega) ?_
  refine Gl [0] rfl rfl rfl ⟨_,_,rfl,rfl,rfl⟩
theorem AA6 {p:Nat}{l:List Nat}{j:Nat}(hj:j<l.length):Fz p (l.drop j)=l.getD j 0+p*Fz p (l.drop (j+1)):=by
 rw [List.drop_eq_getElem_cons hj,Fz,List.getD_eq_getElem?_getD,List.getElem?_eq_getElem hj];rfl
theorem Fi {P M:Int}{pm pd:Option Addr}{nm cm nd cd p:Nat}{l:List Nat}(hP:P=p) (hp:1≤p) (hp2:p≤256) (hd:∀ x∈l,x<p) (hl:p ^ l.length≤1000000) :
  Br Tryz.prog 89 [.agg #[.int .i64 P,.int .i64 M,.slice pm nm cm],.slice pd nd cd] [] [A2 Ak pd nd cd (Bz l)] (Rv (.int .i64 ((Fz p l:Nat):Int)) []):=by
 subst hP
 refine Ad (F:=Ph) rfl fun C=>?_
 refine Bd 0 rfl fun hn hb _=>?_
 rw [Cn] at hn hb
 subst hn
 have hb:l.length*8≤140737488355328:=hb
 refine wk 10 cz ?_
 intro b1
 refine Ag (X:=Nat) [1,2,4] [0] (fun j=>[(6,.int .i64 ((j:Int)-1)),(5,.int .i64 ((Fz p (l.drop j):Nat):Int))]) (fun _=>[(some b1,24,[.int .i64 (p:Int),.int .i64 M,.slice pm nm cm])]) (fun _=>[]) (fun j=>j≤l.length) (fun j=>j) l.length [] rfl rfl rfl (Nat.le_refl _) (by refine Fr.sub_cons rfl ?_;refine Fr.sub_consI rfl (by simp [Fz]) ?_;repeat (first|exact Fr.sub_nil _|refine Fr.sub_cons rfl ?_)) rfl rfl ?_
 rintro j hj ih
 simp only [List.cons_append,List.nil_append] at hj ih ⊢
 have hlt:Fz p (l.drop j)<p ^ l.length:=Nat.lt_of_lt_of_le (Nu (by omega) fun x hx=>hd x (List.mem_of_mem_drop hx)) (Nat.pow_le_pow_right (by omega) (by rw [List.length_drop];omega))
 cases j with
 | zero =>
  rw [List.drop_zero]
  refine wk 7 cz ?_
  intro h1
  exact ge
 | succ j =>
  have hz:(Bz l)[j]?=some ((l.getD j 0:Nat):Int):=Js (by rw [List.getD_eq_getElem?_getD,List.getElem?_eq_getElem (by omega)];rfl)
  have hz2:l.getD j 0<p:=hd _ (List.mem_of_getElem? (i:=j) (by rw [List.getD_eq_getElem?_getD,List.getElem?_eq_getElem (by omega)];rfl))
  have ih':=ih j (by omega) (by omega)
  have hlt2:Fz p (l.drop j)<p ^ l.length:=Nat.lt_of_lt_of_le (Nu (by omega) fun x hx=>hd x (List.mem_of_mem_drop hx)) (Nat.pow_le_pow_right (by omega) (by rw [List.length_drop];omega))
  rw [AA6 (show j<l.length by omega)] at ih' hlt2
  generalize Fz p (l.drop (j+1))=v at *
  generalize hw:l.getD j 0=w at *
  have hgd:(Bz l).getD (j+1-1) default=(w:Int):=by rw [Nat.add_sub_cancel,List.getD_eq_getElem?_getD,hz];rfl
  have hvp:(v:Int)*(p:Int)≤1000000:=by rw [← Int.natCast_mul,Nat.mul_comm];omega
  have hv0:0≤(v:Int)*(p:Int):=by rw [← Int.natCast_mul];omega
  have e:(v:Int)*(p:Int)+(w:Int)=((w+p*v:Nat):Int):=by rw [Int.natCast_add,Int.natCast_mul,Int.mul_comm];omega
  refine wk 10 cz ?_
  intro h1 b2 o1
  rw [hgd,e]
  exact tw (ih')
def Mm (p:Nat) (g r:List Int):Nat→List Int
 | 0=>r
 | n+1=>(D3 p (p-(Mm p g r n).getD (r.length-1-n) 0) g (r.length-1-n-g.length) g.length (Mm p g r n)).set (r.length-1-n) 0
theorem S7 (p:Nat) (g r:List Int):∀ n,(Mm p g r n).length=r.length
 | 0=>rfl
 | n+1=>by rw [Mm,List.length_set,G0,S7 p g r n]
theorem Z6 {p:Nat}(hp:0<p) (g:List Int) {r:List Int}(hr:∀ x∈r,0≤x∧x<p):∀ n,∀ x∈Mm p g r n,0≤x∧x<p
 | 0=>hr
 | n+1=>fun x hx=>by
  rw [Mm] at hx
  rcases List.mem_or_eq_of_mem_set hx with h|rfl
  ·exact Ju hp _ _ _ (Z6 hp g hr n) _ x h
  ·omega
theorem Z9 {p:Nat}{g r:List Int}:∀ n,n+g.length≤r.length→∀ k,r.length-n≤k→k<r.length→(Mm p g r n).getD k 0=0
 | 0,_,k,h1,h2=>by omega
 | n+1,hn,k,h1,h2=>by
  rw [Mm,List.getD_eq_getElem?_getD,List.getElem?_set]
  by_cases e:r.length-1-n=k
  ·rw [if_pos e,if_pos (by rw [G0,S7];omega)];rfl
  ·rw [if_neg e,← List.getD_eq_getElem?_getD,Xb _ _ _ _ _ _ (by omega)]
   exact Z9 n (by omega) k (by omega) h2
theorem AEO {p:Nat}{g r:List Int}(hg:1≤g.length):∀ n,n+g.length≤r.length→cg p fun j=>Bl (Xg g) ((Mm p g r n).take (r.length-n)) Bs j-Bl (Xg g) r Bs j
 | 0,_=>fun j=>by
  rw [Mm,Nat.sub_zero,List.take_length]
  exact ⟨0,by show Bl (Xg g) r Bs j-Bl (Xg g) r Bs j=_;omega⟩
 | n+1,hn=>fun j=>by
  have ih:(p:Int)∣Bl (Xg g) ((Mm p g r n).take (r.length-n)) Bs j-Bl (Xg g) r Bs j:=AEO hg n (by omega) j
  have h1:(p:Int)∣Bl (Xg g) ((D3 p (p-(Mm p g r n).getD (r.length-1-n) 0) g (r.length-1-n-g.length) g.length (Mm p g r n)).take (r.length-1-n)) Bs j-Bl (Xg g) ((Mm p g r n).take (r.length-1-n+1)) Bs j:=ACO (p:=p) hg (r:=Mm p g r n) (i:=r.length-1-n) (by omega) (by rw [S7];omega) j
  rw [show r.length-1-n+1=r.length-n by omega] at h1
  refine Er (Int.dvd_add h1 ih) ?_
  show _=Bl (Xg g) ((Mm p g r (n+1)).take (r.length-(n+1))) Bs j-_
  rw [show r.length-(n+1)=r.length-1-n by omega,Mm,List.take_set,List.set_eq_of_length_le (by rw [List.length_take];omega)]
  omega
theorem AFG {p:Nat}(hp:0<p) {g r:List Int}(hg:1≤g.length) (hr:∀ x∈r,0≤x∧x<p) (hl:g.length≤r.length) :
  (∀ k,k<r.length→(Mm p g r (r.length-g.length)).getD k 0=0)↔cg p (Bl (Xg g) r Bs):=by
 have h1:=AEO (p:=p) hg (r:=r) (r.length-g.length) (by omega)
 rw [show r.length-(r.length-g.length)=g.length by omega] at h1
 have h2:=Z9 (p:=p) (g:=g) (r:=r) (r.length-g.length) (by omega)
 have h3:=Z6 hp g hr (r.length-g.length)
 have h4:=S7 p g r (r.length-g.length)
 generalize Mm p g r (r.length-g.length)=s at *
 rw [Oc (by rw [List.length_take];omega)] at h1
 constructor
 ·intro h j
  have h5:(p:Int)∣Ec (s.take g.length) j-Bl (Xg g) r Bs j:=h1 j
  have h6:Ec (s.take g.length) j=0:=by
   by_cases hj:j<g.length
   ·have:=h j (by omega)
    rw [Ec,List.getD_eq_getElem?_getD,List.getElem?_take,if_pos hj,← List.getD_eq_getElem?_getD];exact this
   ·exact Lf (by rw [List.length_take];omega)
  rw [h6] at h5
  exact Int.dvd_neg.1 (Er h5 (by omega))
 ·intro h k hk
  by_cases hkd:k<g.length
  ·have h5:(p:Int)∣Ec (s.take g.length) k-Bl (Xg g) r Bs k:=h1 k
   have h6:=Int.dvd_add h5 (h k)
   have h7:Ec (s.take g.length) k=s.getD k 0:=by
    rw [Ec,List.getD_eq_getElem?_getD,List.getElem?_take,if_pos hkd,← List.getD_eq_getElem?_getD]
   rw [h7] at h6
   have h8:(p:Int)∣s.getD k 0:=Er h6 (by omega)
   obtain ⟨b0,b1⟩:=h3 (s.getD k 0) (List.mem_of_getElem? (i:=k) (by rw [List.getD_eq_getElem?_getD,List.getElem?_eq_getElem (by omega)];rfl))
   obtain ⟨z,hz⟩:=h8
   have hp':(0:Int)<p:=by omega
   rcases Int.lt_trichotomy z 0 with h9|h9|h9
   ·have:=Int.mul_le_mul_of_nonneg_left (show z≤-1 by omega) (Int.le_of_lt hp')
    omega
   ·rw [hz,h9,Int.mul_zero]
   ·have:=Int.mul_le_mul_of_nonneg_left (show 1≤z by omega) (Int.le_of_lt hp')
    omega
  ·exact h2 k (by omega) hk
theorem Nj {pg pm:Option Addr}{ng nm cg' cm p:Nat}{g md:List Int}(hp:1≤p) (hp2:p≤256) (hg:1≤g.length) (hl:g.length≤md.length) (hm:md.length≤100) (rg:∀ x∈g,0≤x∧x<p) (rm:∀ x∈md,0≤x∧x<p) (h1p:1<p)
  {res:Bool}(hres:res=true↔cg p (Bl (Xg g) (md++[1]) Bs)) :
  Br Tryz.prog 130 [.slice pg ng cg',.slice pm nm cm,.int .i64 p] [] [A2 Ak pg ng cg' g,A2 Ak pm nm cm md] (Rv (.bool res) []):=by
 refine Ad (F:=Nd) rfl fun C=>?_
 refine Bd 0 rfl fun hn1 _ _=>?_
 refine Bd 1 rfl fun hn2 _ _=>?_
 subst hn1;subst hn2
 refine wk 9 cz ?_
 intro b1
 (apply He (E:=Ca IntKind.i64 8) (n:=0) (cs:=[]) [] [] 0 (fun w A hG=>D5);(· rfl);(· rfl);(· rfl);(· rfl);(· decide))
 refine Ab rfl (AAg 0 0 2 rfl rfl rfl rfl rfl Bj Hb rfl (by omega) _ Iy (by omega) fun r1=>?_)
 refine wk 4 cz ?_
 intro b2
 refine Ab rfl (Ik (z:=(1:Int)) 1 0 0 rfl rfl rfl rfl rfl Bj Hb rfl (fun w A hG=>(Bh (by first|(simp only [Bf];omega)|(simp [Bf];done)))) (by omega) _ Iy (by omega) fun r2=>?_)
 refine wk 6 cz ?_
 simp only [Nat.zero_add,List.nil_append]
 have r0:∀ x∈md++[1],0≤x∧x<(p:Int):=fun x hx=>by
  rcases List.mem_append.1 hx with h|h
  ·exact rm x h
  ·rw [List.mem_singleton.1 h];omega
 have l0:(md++[1]).length=md.length+1:=by simp
 have hz:=AFG (p:=p) (by omega) hg r0 (by omega)
 have hR:=Z6 (p:=p) (by omega) g r0
 have hL:=S7 p g (md++[1])
 have hO:=Z9 (p:=p) (g:=g) (r:=md++[1])
 rw [l0] at hz hL hO
 refine Eu 0 rfl (by omega) fun bR capR csR hRow=>?_
 subst hRow
 refine Ag (X:=Nat×List Value) [0,2,6,7,8] [2,3] (fun x=>[(9,.int .i64 ((md.length:Int)-(x.1:Int)))]) (fun x=>[(some bR,3,x.2),(some b2,3,[.int .i64 1])])
  (fun x=>[Aw Ak ⟨some bR,capR,x.2⟩ (md.length+1) (Mm p g (md++[1]) x.1)]) (fun x=>x.1≤md.length+1-g.length) (fun x=>md.length+1-g.length-x.1) (0,csR) [0] rfl rfl rfl (Nat.zero_le _) (by refine Fr.sub_consI rfl (by simp) ?_;repeat (first|exact Fr.sub_nil _|refine Fr.sub_cons rfl ?_)) rfl rfl ?_
 rintro ⟨n,csA⟩ hn ih
 simp only [List.cons_append,List.nil_append] at hn ih ⊢
 by_cases hil:n<md.length+1-g.length
 ·have hlt:md.length-n<md.length+1:=by omega
  have hLn:=hL n
  have hRn:=hR n
  have ihn:=fun r:List Value=>ih (n+1,r) (by dsimp only;omega) (by dsimp only;omega)
  simp only [Mm,l0] at ihn
  rw [show md.length+1-1-n=md.length-n by omega] at ihn
  generalize Mm p g (md++[1]) n=L at *
  have hzc:L[md.length-n]?=some (L.getD (md.length-n) 0):=by rw [List.getD_eq_getElem?_getD,List.getElem?_eq_getElem (by omega)];rfl
  obtain ⟨c0,c1⟩:=hRn _ (List.mem_of_getElem? hzc)
  generalize L.getD (md.length-n) 0=c at *
  obtain ⟨cN,rfl⟩:∃ cN:Nat,c=cN:=⟨c.toNat,by omega⟩
  have hpc:(p:Int)-(cN:Int)=((p-cN:Nat):Int):=by omega
  rw [hpc] at ihn
  refine wk 12 cz ?_
  intro h1 hr1
  have hk:md.length-n-g.length+g.length≤md.length:=by omega
  generalize hkk:md.length-n-g.length=k at *
  refine Ag (X:=Nat×List Value) [0,2,6,7,8,9,10,24,25,26,29,30,31,32] [1,2] (fun x=>[(11,.int .i64 (x.1:Int))]) (fun x=>[(some bR,3,x.2),(some b2,3,[.int .i64 1])])
   (fun x=>[Aw Ak ⟨some bR,capR,x.2⟩ (md.length+1) (D3 p ((p-cN:Nat):Int) g k x.1 L)]) (fun x=>x.1≤g.length) (fun x=>g.length-x.1) (0,csA) [0] rfl rfl rfl (Nat.zero_le _) (by repeat (first|exact Fr.sub_nil _|refine Fr.sub_cons rfl ?_)) rfl rfl ?_
  rintro ⟨j,csB⟩ hj ihj
  simp only [List.cons_append,List.nil_append] at hj ihj ⊢
  by_cases hjl:j<g.length
  ·have hSl:=G0 p ((p-cN:Nat):Int) g k L j
   have hSr:=Ju (p:=p) (by omega) ((p-cN:Nat):Int) g k hRn j
   have ihj':=fun r:List Value=>ihj (j+1,r) (by dsimp only;omega) (by dsimp only;omega)
   simp only [D3] at ihj'
   generalize D3 p ((p-cN:Nat):Int) g k j L=S at *
   have hzS:S[k+j]?=some (S.getD (k+j) 0):=by rw [List.getD_eq_getElem?_getD,List.getElem?_eq_getElem (by omega)];rfl
   have hgd:g.getD j 0=g.getD j default:=rfl
   rw [hgd] at ihj'
   have hzg:g[j]?=some (g.getD j default):=by rw [List.getD_eq_getElem?_getD,List.getElem?_eq_getElem (by omega)];rfl
   obtain ⟨s0,s1⟩:=hSr _ (List.mem_of_getElem? hzS)
   obtain ⟨g0,g1⟩:=rg _ (List.mem_of_getElem? hzg)
   generalize S.getD (k+j) 0=s at *
   have hm0:0≤((p-cN:Nat):Int)*g.getD j default:=Int.mul_nonneg (by omega) g0
   have hm1:((p-cN:Nat):Int)*g.getD j default≤65536:=Int.le_trans (Int.mul_le_mul (show ((p-cN:Nat):Int)≤256 by omega) (show g.getD j default≤256 by omega) g0 (by decide)) (by decide)
   have em:(s+((p-cN:Nat):Int)*g.getD j default) % (p:Int)<p:=Int.emod_lt_of_pos _ (by omega)
   have em0:0≤(s+((p-cN:Nat):Int)*g.getD j default) % (p:Int):=Int.emod_nonneg _ (by omega)
   rw [← hkk] at hzS ihj'
   refine wk 7 cz ?_
   intro h2 b3 o1
   refine Ab rfl (Cb (vs:=[Value.int IntKind.i64 ((s+↑(p-cN)*g.getD j default) % ↑p)]) (z:=((s+↑(p-cN)*g.getD j default) % ↑p:Int)) 0 1 (md.length-n-g.length+j) rfl rfl rfl rfl rfl Bm (Nat.mul_one _).symm (by omega) (fun w A hG=>(Bh (by first|(simp only [Bf];omega)|(simp [Bf];done)))) fun cs1=>?_)
   refine wk 3 cz ?_
   exact tw (ihj' cs1)
  ·obtain rfl:j=g.length:=by omega
   refine wk 7 cz ?_
   intro h2
   refine Ab rfl (Cb (vs:=[Value.int IntKind.i64 0]) (z:=(0:Int)) 0 0 (md.length-n) rfl rfl rfl rfl rfl Bm (Nat.mul_one _).symm (by omega) (fun w A hG=>(Bh (by first|(simp only [Bf];omega)|(simp [Bf];done)))) fun cs1=>?_)
   refine wk 3 cz ?_
   exact tw (ihn cs1)
 ·obtain rfl:n=md.length+1-g.length:=by omega
  clear ih
  have hLn:=hL (md.length+1-g.length)
  generalize Mm p g (md++[1]) (md.length+1-g.length)=L at *
  refine wk 7 cz ?_
  intro h1
  refine Ag (X:=Nat) [8] [1,2] (fun i=>[(12,.int .i64 (i:Int))]) (fun _=>[(some bR,3,csA),(some b2,3,[.int .i64 1])]) (fun _=>[Aw Ak ⟨some bR,capR,csA⟩ (md.length+1) L]) (fun i=>i≤md.length+1∧∀ k,k<i→L.getD k 0=0) (fun i=>md.length+1-i) 0 [0] rfl rfl rfl ⟨Nat.zero_le _,fun k hk=>by omega⟩ (by repeat (first|exact Fr.sub_nil _|refine Fr.sub_cons rfl ?_)) rfl rfl ?_
  rintro i ⟨hi,hall⟩ ih
  simp only [List.cons_append,List.nil_append] at hi hall ih ⊢
  by_cases hil:i<md.length+1
  ·have hzi:L[i]?=some (L.getD i 0):=by rw [List.getD_eq_getElem?_getD,List.getElem?_eq_getElem (by omega)];rfl
   by_cases h0:L.getD i 0=0
   ·generalize hv:L.getD i 0=v at *
    refine wk 16 cz ?_
    intro h2 hr1 h3
    exact tw (ih (i+1) (by omega) ⟨by omega,fun k hk=>by
     rcases Nat.lt_succ_iff_lt_or_eq.1 hk with h|rfl
     ·exact hall k h
     ·rw [hv];exact h0⟩)
   ·have hf:res=false:=by
     cases res with
     | false=>rfl
     | true=>exact absurd (hz.2 (hres.1 rfl) i hil) h0
    rw [hf]
    generalize L.getD i 0=v at *
    refine wk 16 cz ?_
    intro h2 hr1 h3
    exact ge
  ·obtain rfl:i=md.length+1:=by omega
   have ht:res=true:=hres.2 (hz.1 hall)
   rw [ht]
   refine wk 9 cz ?_
   intro h2
   exact ge
theorem ACV {l:List Nat}{p:Nat}(h:∀ x∈l,x<p):∀ x∈Bz l,0≤x∧x<(p:Int):=fun x hx=>by
 obtain ⟨n,hn,rfl⟩:=List.mem_map.1 hx
 have:=h n hn
 omega
open Classical in
theorem Kj {pm:Option Addr}{nm cm p:Nat}{md:List Nat}(hp:2≤p) (hp2:p≤256) (hq:p ^ md.length≤256) (hm:md.length≤8) (rm:∀ x∈md,x<p) {res:Bool}(hres:res=true↔AD8 p md) :
  Br Tryz.prog 95 [.slice pm nm cm,.int .i64 p] [] [A2 Ak pm nm cm (Bz md)] (Rv (.bool res) []):=by
 refine Ad (F:=Km) rfl fun C=>?_
 refine Bd 0 rfl fun hn1 _ _=>?_
 rw [Cn] at hn1
 subst hn1
 have rI:=ACV rm
 have lI:=Cn md
 refine wk 7 cz ?_
 refine Ag (X:=Nat) [0,1] [0] (fun d=>[(6,.int .i64 ((d+1:Nat):Int)),(5,.int .i64 ((p ^ d:Nat):Int))]) (fun _=>[]) (fun _=>[]) (fun d=>2*d≤md.length∧∀ e,1≤e→e≤d→∀ v,v<p ^ e→¬ cg p (Bl (Xg (Bz (Dh p e v))) (Bz md++[1]) Bs)) (fun d=>md.length-d) 0 [] rfl rfl rfl ⟨Nat.zero_le _,fun e h1 h2=>by omega⟩ (by refine Fr.sub_cons rfl ?_;refine Fr.sub_consI rfl (by simp) ?_;repeat (first|exact Fr.sub_nil _|refine Fr.sub_cons rfl ?_)) rfl rfl ?_
 rintro d ⟨hd,hall⟩ ih
 simp only [List.cons_append,List.nil_append] at hd hall ih ⊢
 have hpd:p ^ d≤256:=Nat.le_trans (Nat.pow_le_pow_right (by omega) (by omega)) hq
 by_cases Ly:2*(d+1)≤md.length
 ·have hpe:p ^ (d+1)≤256:=Nat.le_trans (Nat.pow_le_pow_right (by omega) (by omega)) hq
  have ee:((p ^ d:Nat):Int)*(p:Int)=((p ^ (d+1):Nat):Int):=by rw [Nat.pow_succ,Int.natCast_mul]
  have ih':=ih (d+1) (by omega)
  generalize hP:p ^ (d+1)=P at *
  generalize p ^ d=Q at *
  have hQP:0≤(Q:Int)*(p:Int)∧(Q:Int)*(p:Int)≤256:=by omega
  refine wk 11 cz ?_
  intro h1
  rw [ee]
  refine Ag (X:=Nat) [0,1,5,6,8,9,10,11,12,15,16,17] [0] (fun v=>[(7,.int .i64 (v:Int))]) (fun _=>[]) (fun _=>[]) (fun v=>v≤P∧∀ u,u<v→¬ cg p (Bl (Xg (Bz (Dh p (d+1) u))) (Bz md++[1]) Bs)) (fun v=>P-v) 0 [] rfl rfl rfl ⟨Nat.zero_le _,fun u h=>by omega⟩ (by repeat (first|exact Fr.sub_nil _|refine Fr.sub_cons rfl ?_)) rfl rfl ?_
  rintro v ⟨hv,hvall⟩ ihv
  simp only [List.cons_append,List.nil_append] at hv hvall ihv ⊢
  by_cases hvl:v<P
  ·have gl:(Bz (Dh p (d+1) v)).length=d+1:=by rw [Cn,Di]
   have gr:=ACV fun x hx=>Kw (p:=p) (n:=d+1) (x:=v) (by omega) x hx
   have G6:=fun {pg pm:Option Addr}{ng nm cg' cm:Nat}{res:Bool} hres=>Nj (pg:=pg) (pm:=pm) (ng:=ng) (nm:=nm) (cg':=cg') (cm:=cm) (p:=p) (g:=Bz (Dh p (d+1) v)) (md:=Bz md) (by omega) hp2 (by omega) (by omega) (by omega) gr rI (by omega) (res:=res) hres
   by_cases hdv:cg p (Bl (Xg (Bz (Dh p (d+1) v))) (Bz md++[1]) Bs)
   ·have hf:res=false:=by
     cases res with
     | false=>rfl
     | true=>exact absurd hdv ((hres.1 rfl) (d+1) (by omega) Ly v (by rw [hP];exact hvl))
    have hr:(true=true↔cg p (Bl (Xg (Bz (Dh p (d+1) v))) (Bz md++[1]) Bs)):=⟨fun _=>hdv,fun _=>rfl⟩
    rw [hf]
    refine wk 14 (ct @Hs (ct @G6 cz)) ?_
    intro h2 pa1 ca1
    exact ge
   ·have hr:(false=true↔cg p (Bl (Xg (Bz (Dh p (d+1) v))) (Bz md++[1]) Bs)):=⟨fun h=>(by cases h),fun h=>absurd h hdv⟩
    refine wk 14 (ct @Hs (ct @G6 cz)) ?_
    intro h2 pa1 ca1
    exact tw (ihv (v+1) (by omega) ⟨by omega,fun u hu=>by
     rcases Nat.lt_succ_iff_lt_or_eq.1 hu with h|rfl
     ·exact hvall u h
     ·exact hdv⟩)
  ·obtain rfl:v=P:=by omega
   refine wk 7 cz ?_
   intro h2
   exact tw (ih' ⟨by omega,fun e h1 h2 u hu=>by
    rcases Nat.lt_succ_iff_lt_or_eq.1 (Nat.lt_succ_of_le h2) with h|rfl
    ·exact hall e h1 (by omega) u hu
    ·exact hvall u (by rw [← hP];exact hu)⟩)
 ·have ht:res=true:=hres.2 fun e h1 h2 v hv=>hall e h1 (by omega) v hv
  rw [ht]
  refine wk 9 cz ?_
  intro h1
  exact ge
def Vs (P M:Int) (md:List Int):Prop:=Va P M∧Prm P.toNat∧(M=1→md.length=0)∧(M≠1→(md.length:Int)=M∧(∀ x∈md,0≤x∧x<P)∧AD8 P.toNat (md.map Int.toNat))
theorem T3 {l:List Int}(h:∀ x∈l,0≤x):Bz (l.map Int.toNat)=l:=by
 rw [Bz,List.map_map]
 conv=>rhs;rw [← List.map_id l]
 refine List.map_congr_left fun x hx=>?_
 have:=h x hx
 show ((x.toNat:Nat):Int)=x
 omega
open Classical in
theorem D4 {P M:Int}{pm:Option Addr}{nm cm:Nat}{md:List Int}{e:Int}(he:e=if Vs P M md then 0 else 1):Br Tryz.prog 62 [.agg #[.int .i64 P,.int .i64 M,.slice pm nm cm]] [] [A2 Ak pm nm cm md] (Rv (.int .i64 e) []):=by
 refine Ad (F:=Pk) rfl fun C=>?_
 refine Bd 0 rfl fun hn1 hb1 _=>?_
 subst hn1
 have no:¬ Vs P M md→e=1:=fun h=>by rw [he,if_neg h]
 by_cases ho:Va P M
 case neg =>
  have hI:Jb P M=0:=by rw [Jb,if_neg ho]
  rw [no fun h=>ho h.1]
  refine wk 12 (ct @Bu cz) ?_
  intro b1
  exact ge
 obtain ⟨h1,h2,h3,h4⟩:=ho
 obtain ⟨p,rfl⟩:∃ p:Nat,P=p:=⟨P.toNat,by omega⟩
 obtain ⟨m,rfl⟩:∃ m:Nat,M=m:=⟨M.toNat,by omega⟩
 simp only [Int.toNat_natCast] at h4
 have hI:Jb (p:Int) (m:Int)=((p ^ m:Nat):Int):=by rw [Jb,if_pos ⟨h1,h2,h3,by simpa using h4⟩];simp
 have hpm:p≤p ^ m:=Nat.le_self_pow (by omega) p
 have hq0:¬ ((p ^ m:Nat):Int)=0:=by omega
 by_cases hp:Prm p
 case neg =>
  have hr:(false=true↔Prm p):=⟨fun h=>(by cases h),fun h=>absurd h hp⟩
  rw [no fun h=>hp (by simpa using h.2.1)]
  generalize p ^ m=Q at *
  refine wk 18 (ct @Bu (ct @Dc cz)) ?_
  intro b1 h5
  exact ge
 have hr:(true=true↔Prm p):=⟨fun _=>hp,fun _=>rfl⟩
 by_cases hm1:m=1
 ·subst hm1
  by_cases hl:md.length=0
  ·have:e=0:=by rw [he,if_pos ⟨⟨h1,h2,h3,by simpa using h4⟩,by simpa using hp,fun _=>hl,fun h=>absurd rfl h⟩]
   rw [this]
   generalize p ^ 1=Q at *
   refine wk 31 (ct @Bu (ct @Dc cz)) ?_
   intro b1 h5 h6 h7
   exact ge
  ·rw [no fun h=>hl (h.2.2.1 rfl)]
   generalize p ^ 1=Q at *
   refine wk 31 (ct @Bu (ct @Dc cz)) ?_
   intro b1 h5 h6 h7
   exact ge
 have hm1':¬ (m:Int)=1:=by omega
 by_cases hl:md.length=m
 case neg =>
  rw [no fun h=>hl (by have:=(h.2.2.2 hm1').1;omega)]
  generalize p ^ m=Q at *
  refine wk 33 (ct @Bu (ct @Dc cz)) ?_
  intro b1 h5 h6 h7
  exact ge
 subst hl
 have hm8:md.length≤8:=by omega
 generalize hQ:p ^ md.length=Q at *
 refine wk 33 (ct @Bu (ct @Dc cz)) ?_
 intro b1 h5 h6 h7
 refine Ag (X:=Nat) [1] [0] (fun i=>[(3,.int .i64 (i:Int))]) (fun _=>[(some b1,24,[.int .i64 (p:Int),.int .i64 (md.length:Int),.slice pm md.length cm])]) (fun _=>[]) (fun i=>i≤md.length∧∀ k,k<i→0≤md.getD k 0∧md.getD k 0<p) (fun i=>md.length-i) 0 [] rfl rfl rfl ⟨Nat.zero_le _,fun k hk=>by omega⟩ (by repeat (first|exact Fr.sub_nil _|refine Fr.sub_cons rfl ?_)) rfl rfl ?_
 rintro i ⟨hi,hall⟩ ih
 simp only [List.cons_append,List.nil_append] at hi hall ih ⊢
 by_cases hil:i<md.length
 ·have hz:md[i]?=some (md.getD i 0):=by rw [List.getD_eq_getElem?_getD,List.getElem?_eq_getElem hil];rfl
  have hdd:md.getD i 0=md.getD i default:=rfl
  rw [hdd] at hz
  by_cases ha:md.getD i default<0
  ·rw [no fun h=>by have:=(h.2.2.2 hm1').2.1 _ (List.mem_of_getElem? hz);omega]
   refine wk 14 cz ?_
   intro h8 b2 o1
   exact ge
  by_cases hb:(p:Int)≤md.getD i default
  ·rw [no fun h=>by have:=(h.2.2.2 hm1').2.1 _ (List.mem_of_getElem? hz);omega]
   refine wk 14 cz ?_
   intro h8 b2 o1 b3 o2
   exact ge
  ·refine wk 14 cz ?_
   intro h8 b2 o1 b3 o2
   exact tw (ih (i+1) (by omega) ⟨by omega,fun k hk=>by
    rcases Nat.lt_succ_iff_lt_or_eq.1 hk with h|rfl
    ·exact hall k h
    ·rw [hdd];omega⟩)
 ·obtain rfl:i=md.length:=by omega
  have hrng:∀ x∈md,0≤x∧x<(p:Int):=fun x hx=>by
   obtain ⟨k,hk⟩:=List.getElem?_of_mem hx
   have hkl:=(List.getElem?_eq_some_iff.1 hk).1
   have:=hall k hkl
   rw [List.getD_eq_getElem?_getD,hk] at this
   exact this
  have eI:=T3 fun x hx=>(hrng x hx).1
  have lN:(md.map Int.toNat).length=md.length:=List.length_map _
  have rN:∀ x∈md.map Int.toNat,x<p:=fun x hx=>by
   obtain ⟨y,hy,rfl⟩:=List.mem_map.1 hx
   have:=hrng y hy
   omega
  have Dy:=fun {pm:Option Addr}{nm cm:Nat}{res:Bool} hres=>Kj (pm:=pm) (nm:=nm) (cm:=cm) (p:=p) (md:=md.map Int.toNat) hp.1 (by omega) (by rw [lN,hQ];exact h4) (by omega) rN (res:=res) hres
  rw [eI] at Dy
  by_cases hirr:AD8 p (md.map Int.toNat)
  ·have hri:(true=true↔AD8 p (md.map Int.toNat)):=⟨fun _=>hirr,fun _=>rfl⟩
   have:e=0:=by rw [he,if_pos ⟨⟨h1,h2,h3,by simpa [hQ] using h4⟩,by simpa using hp,fun h=>absurd h hm1',fun _=>⟨rfl,hrng,by simpa using hirr⟩⟩]
   rw [this]
   refine wk 19 (ct @Dy cz) ?_
   intro h8
   exact ge
  ·have hri:(false=true↔AD8 p (md.map Int.toNat)):=⟨fun h=>(by cases h),fun h=>absurd h hirr⟩
   rw [no fun h=>hirr (by have:=(h.2.2.2 hm1').2.2;simpa using this)]
   refine wk 19 (ct @Dy cz) ?_
   intro h8
   exact ge
structure Fok (p m:Nat) (md:List Int):Prop where
 pr:Prm p
 m1:1≤m
 m8:m≤8
 q:p ^ m≤256
 one:m=1→md=[]
 len:m≠1→md.length=m
 rng:∀ x∈md,0≤x∧x<(p:Int)
 irr:m≠1→AD8 p (md.map Int.toNat)
theorem Zf {P M:Int}{md:List Int}(h:Vs P M md):∃ p m:Nat,P=p∧M=m∧Fok p m md:=by
 obtain ⟨⟨h1,h2,h3,h4⟩,hp,ho,hn⟩:=h
 refine ⟨P.toNat,M.toNat,by omega,by omega,hp,by omega,by omega,h4,fun e=>List.length_eq_zero_iff.1 (ho (by omega)),fun e=>?_,fun x hx=>?_,fun e=>(hn (by omega)).2.2⟩
 ·have:=(hn (by omega)).1;omega
 ·by_cases e:M=1
  ·have:=List.length_eq_zero_iff.1 (ho e)
   rw [this] at hx;cases hx
  ·have:=(hn e).2.1 x hx
   omega
def Cc (m:Nat) (md:List Int):List Int:=if m=1 then [0] else md
section
variable {p m:Nat}{md:List Int}(K:Fok p m md)
include K
theorem Fok.p2:2≤p:=K.pr.1
theorem Fok.p256:p≤256:=Nat.le_trans (Nat.le_self_pow (by have:=K.m1;omega) p) K.q
theorem Fok.flen:(Cc m md).length=m:=by
 unfold Cc
 by_cases h:m=1
 ·rw [if_pos h,h];rfl
 ·rw [if_neg h,K.len h]
theorem Fok.fi:FI (p ^ m) (Aq (fA p m)) (Aq (fM p (Cc m md))):=by
 have hl:=K.flen
 have h:=AJU K.pr (f:=Cc m md) (by rw [hl];exact K.m1) (by
  unfold Cc
  by_cases h:m=1
  ·rw [if_pos h]
   rintro ⟨g,s,h1,h2,h3,_⟩
   simp at h3;omega
  ·rw [if_neg h,← T3 fun x hx=>(K.rng x hx).1]
   exact ADq (by have:=K.p2;omega) (K.irr h))
 rw [hl] at h
 exact AKp h
theorem Fok.ord:Jb p m=((p ^ m:Nat):Int):=by
 have:=K.p2;have:=K.m1;have:=K.m8
 rw [Jb,if_pos ⟨by omega,by omega,by omega,by simpa using K.q⟩];simp
end
theorem E8 {P M x:Int}{pm:Option Addr}{n c:Nat}{res:Bool}(hres:decide (0≤x∧x<Jb P M)=res):Br Tryz.prog 74 [.agg #[.int .i64 P,.int .i64 M,.slice pm n c],.int .i64 x] [] [] (Rv (.bool res) []):=by
 subst hres
 refine Ad (F:=Ta) rfl fun C=>?_
 by_cases h:0≤x
 ·rw [show decide (0≤x∧x<Jb P M)=decide (x<Jb P M) from decide_eq_decide.2 ⟨fun h=>h.2,fun h2=>⟨h,h2⟩⟩]
  refine wk 13 (ct @Bu cz) ?_
  intro b1 h1
  exact ge
 ·rw [decide_eq_false fun h2=>h h2.1]
  refine wk 10 cz ?_
  intro b1 h1
  exact ge
def inI (q x:Int):Int:=if 0≤x∧x<q then x else 0
theorem Sn {P M x:Int}{pm:Option Addr}{n c:Nat}{res:Int}(hres:inI (Jb P M) x=res):Br Tryz.prog 124 [.agg #[.int .i64 P,.int .i64 M,.slice pm n c],.int .i64 x] [] [] (Rv (.int .i64 res) []):=by
 subst hres
 refine Ad (F:=Sr) rfl fun C=>?_
 by_cases h:0≤x∧x<Jb P M
 ·have hd:decide (0≤x∧x<Jb P M)=true:=decide_eq_true h
  rw [inI,if_pos h]
  refine wk 12 (ct @E8 cz) ?_
  intro b1
  exact ge
 ·have hd:decide (0≤x∧x<Jb P M)=false:=decide_eq_false h
  rw [inI,if_neg h]
  refine wk 12 (ct @E8 cz) ?_
  intro b1
  exact ge
abbrev OvI (e:TypeId) (n:Nat) (l:List Nat):Value→List Fact→List Bb→Prop:=fun v Φ β=>∃ b,v = .slice (some ⟨b,0,none⟩) n n∧Φ=[]∧β=[(some b,e,Ap .i64 l)]
theorem N8 {p n x:Nat}(hp:1≤p) (hp2:p≤1000000) (hn:n≤100) (hx:x≤1000000000):Br Tryz.prog 123 [.int .i64 x,.int .i64 p,.int .i64 n] [] [] (OvI 3 n (Dh p n x)):=by
 refine Ad (F:=Hg) rfl fun C=>?_
 have hl:=Di p n x
 refine wk 9 cz ?_
 intro b1
 rw [show List.replicate n 0=(Dh p n x).take 0++List.replicate (n-0) 0 by simp]
 refine Ag (X:=Nat) [1,2,6,7] [] (fun i=>[(8,.int .i64 (i:Int)),(0,.int .i64 ((x / p ^ i:Nat):Int))]) (fun i=>[(some b1,3,Ap .i64 ((Dh p n x).take i++List.replicate (n-i) 0))]) (fun _=>[]) (fun i=>i≤n) (fun i=>n-i) 0 [] rfl rfl rfl (Nat.zero_le _) (by refine Fr.sub_cons rfl ?_;refine Fr.sub_consI rfl (by simp) ?_;repeat (first|exact Fr.sub_nil _|refine Fr.sub_cons rfl ?_)) rfl rfl ?_
 rintro i hi ih
 simp only [List.cons_append,List.nil_append] at hi ih ⊢
 have hxi:x / p ^ i≤x:=Nat.div_le_self _ _
 have hz:=fun h=>AB4 (p:=p) (n:=n) (i:=i) (x:=x) h
 have hnx:x / p ^ (i+1)=x / p ^ i / p:=by rw [Nat.pow_succ,← Nat.div_div_eq_div_mul]
 by_cases hil:i<n
 ·have ih':=ih (i+1) (by omega) (by omega)
  rw [hnx,← Yt hl hil (hz hil)] at ih'
  generalize x / p ^ i=y at *
  have e1:(y:Int) % (p:Int)=((y % p:Nat):Int):=(Int.natCast_emod _ _).symm
  have e2:(y:Int) / (p:Int)=((y / p:Nat):Int):=(Int.natCast_ediv _ _).symm
  have hlen:((Dh p n x).take i++List.replicate (n-i) 0).length=n:=by simp [hl];omega
  refine wk 13 cz ?_
  intro h1
  rw [e2]
  exact tw (ih')
 ·obtain rfl:i=n:=by omega
  clear hz hnx
  rw [List.take_of_length_le (by omega),Nat.sub_self,List.replicate_zero,List.append_nil]
  refine wk 7 cz ?_
  intro h1
  refine E4 [] rfl rfl rfl ⟨_,rfl,rfl,rfl⟩
theorem Dv {p m nm cm:Nat}{md:List Int}{pm:Option Addr}(K:Fok p m md) {x:Int}(x0:0≤x) (x1:x<((p ^ m:Nat):Int)):Br Tryz.prog 88 [.agg #[.int .i64 p,.int .i64 m,.slice pm nm cm],.int .i64 x] [] [] (OvI 3 m (Dh p m x.toNat)):=by
 refine Ad (F:=Nv) rfl fun C=>?_
 have h1:=K.p2
 have h2:=K.p256
 have h3:=K.m8
 have h4:=K.q
 have hi:inI (Jb (p:Int) (m:Int)) x=((x.toNat:Nat):Int):=by rw [K.ord,inI,if_pos ⟨x0,x1⟩];omega
 have hx:x.toNat≤1000000000:=by omega
 have Oe:=@N8
 refine wk 4 cz ?_
 intro b1
 (apply Ch it mx 7;(· rfl);(· rfl))
 (apply Ac;(· rfl);(· exact B2 0 rfl rfl AAm rfl))
 (apply Ae 1;(· rfl);(· simp))
 (apply Ac;(· rfl);(· exact Bi fun _=>Ai [] rfl (Sn (by omega)) rfl (by rintro _ _ _ ⟨rfl,rfl,rfl⟩;exact Af)))
 (apply Ac;(· rfl);(· exact Bi fun _=>A3 rfl U9 Af))
 (apply Ac;(· rfl);(· exact Bn 0 rfl rfl Bm rfl))
 (apply Ac;(· rfl);(· exact Bi fun _=>A3 rfl Xq Af))
 (apply Ac;(· rfl);(· exact Bn 0 rfl rfl Bm rfl))
 refine B7 rfl ?_
 simp only [List.map_cons,List.map_nil,List.cons_append,List.nil_append]
 refine wk 3 (ct @Oe cz) ?_
 intro b2
 refine B0 2 [0] [] rfl (.tmp rfl .nil) rfl rfl rfl ⟨_,rfl,rfl,rfl⟩
theorem AEM {T D:List Nat}{i n:Nat}(hT:T.length=n) (hD:D.length=n) (hi:i<n) {z:Nat}(hz:T[i]?=some z):(T.take i++D.drop i).set i z=T.take (i+1)++D.drop (i+1):=by
 have hl:(T.take i).length=i:=by rw [List.length_take];omega
 rw [List.set_append,if_neg (by omega),hl,Nat.sub_self,List.drop_eq_getElem_cons (by omega),List.set_cons_zero,List.take_add_one,hz]
 simp
theorem AF5 {T D:List Nat}{i n:Nat}(hT:T.length=n) (hD:D.length=n) (hi:i<n):(T.take i++D.drop i)[i]?=D[i]?:=by
 have hl:(T.take i).length=i:=by rw [List.length_take];omega
 rw [List.getElem?_append_right (by omega),hl,Nat.sub_self,List.getElem?_drop,Nat.add_zero]
theorem R1 {p m nm cm:Nat}{md:List Int}{pm:Option Addr}(K:Fok p m md) {x y:Int}(x0:0≤x) (x1:x<((p ^ m:Nat):Int)) (y0:0≤y) (y1:y<((p ^ m:Nat):Int)) :
  Br Tryz.prog 54 [.agg #[.int .i64 p,.int .i64 m,.slice pm nm cm],.int .i64 x,.int .i64 y] [] [] (Rv (.int .i64 (Aq (fA p m) x y)) []):=by
 refine Ad (F:=Sa) rfl fun C=>?_
 have h1:=K.p2
 have h2:=K.p256
 have h3:=K.m8
 have h4:=K.q
 let T:List Nat:=(List.range m).map fun j=>((Dh p m x.toNat).getD j 0+(Dh p m y.toNat).getD j 0) % p
 have lT:T.length=m:=by simp [T]
 have lx:=Di p m x.toNat
 have ly:=Di p m y.toNat
 have eT:Fz p T=fA p m x.toNat y.toNat:=by
  rw [fA,un]
  congr 1
  refine List.map_congr_left fun j hj=>?_
  have hj:=List.mem_range.1 hj
  rw [Qa hj,Qa hj,← Int.natCast_add,← Int.natCast_emod]
  exact (Int.toNat_natCast _).symm
 have rT:∀ d∈T,d<p:=fun d hd=>by
  obtain ⟨j,_,rfl⟩:=List.mem_map.1 hd
  exact Nat.mod_lt _ (by omega)
 have tz:∀ i,i<m→T[i]?=some (((Dh p m x.toNat).getD i 0+(Dh p m y.toNat).getD i 0) % p):=fun i hi=>by
  rw [List.getElem?_map,List.getElem?_range hi];rfl
 have xr:=fun d hd=>Kw (p:=p) (n:=m) (x:=x.toNat) (by omega) d hd
 have yr:=fun d hd=>Kw (p:=p) (n:=m) (x:=y.toNat) (by omega) d hd
 have eR:Aq (fA p m) x y=((Fz p T:Nat):Int):=by rw [eT];rfl
 rw [eR]
 clear eR eT
 clear_value T
 have ep:p ^ T.length≤1000000:=by rw [lT];omega
 refine wk 16 (ct @Dv (ct @Dv cz)) ?_
 intro b1 b2 b3
 rw [show Ap .i64 (Dh p m x.toNat)=Ap .i64 (T.take 0++(Dh p m x.toNat).drop 0) by simp]
 refine Ag (X:=Nat) [3,6,7,8] [] (fun i=>[(9,.int .i64 (i:Int))]) (fun i=>[(some b3,3,Ap .i64 (Dh p m y.toNat)),(some b2,3,Ap .i64 (T.take i++(Dh p m x.toNat).drop i)),(some b1,24,[.int .i64 p,.int .i64 m,.slice pm nm cm])]) (fun _=>[]) (fun i=>i≤m) (fun i=>m-i) 0 [] rfl rfl rfl (Nat.zero_le _) (by repeat (first|exact Fr.sub_nil _|refine Fr.sub_cons rfl ?_)) rfl rfl ?_
 rintro i hi ih
 simp only [List.cons_append,List.nil_append] at hi ih ⊢
 by_cases hil:i<m
 ·have zx:(Dh p m x.toNat)[i]?=some ((Dh p m x.toNat).getD i 0):=by rw [List.getD_eq_getElem?_getD,List.getElem?_eq_getElem (by omega)];rfl
  have zy:(Dh p m y.toNat)[i]?=some ((Dh p m y.toNat).getD i 0):=by rw [List.getD_eq_getElem?_getD,List.getElem?_eq_getElem (by omega)];rfl
  have zt:=tz i hil
  have bx:=xr _ (List.mem_of_getElem? zx)
  have by':=yr _ (List.mem_of_getElem? zy)
  have ih':=ih (i+1) (by omega) (by omega)
  have zm:=(AF5 (T:=T) (D:=Dh p m x.toNat) lT lx hil).trans zx
  have lm:(T.take i++(Dh p m x.toNat).drop i).length=m:=by rw [List.length_append,List.length_take,List.length_drop];omega
  rw [← AEM lT lx hil zt] at ih'
  generalize (Dh p m x.toNat).getD i 0=u at *
  generalize (Dh p m y.toNat).getD i 0=v at *
  have em:((u:Int)+(v:Int)) % (p:Int)=(((u+v) % p:Nat):Int):=by rw [← Int.natCast_add,← Int.natCast_emod]
  refine wk 13 cz ?_
  intro h5
  exact tw (ih')
 ·obtain rfl:i=m:=by omega
  clear ih
  rw [List.take_of_length_le (by omega),List.drop_of_length_le (by omega),List.append_nil,G1 .i64 T]
  refine wk 9 cz ?_
  intro h5
  refine Gn 8 (Bz T) 1 rfl (by rw [Cn,lT]) (Wa fun d hd=>by have:=rT d hd;omega) (by omega) (by omega) ?_
  simp only [List.eraseIdx_cons_zero,List.eraseIdx_cons_succ]
  refine wk 3 (ct @Fi cz) ?_
  exact ge
end Go.Proofs.YteadncphjconmaaGreat
namespace Go.Fw
open Go.RowKit (Below)
set_option linter.unusedVariables false
section
variable {P:Program}{F:Fun P}{C:Cx}{S:List It}{σ:Fr}{ty:TypeId}{β:List Bb}{Γ:List Fact}{R:Value→World→Prop}{K:Value→List Bb→List Fact→Prop}
theorem AFe {t:TypeId}{j m:Nat}{x:Operand}{cs:List Value}{v:Value}{fields:Array Field}{f:Field}(hu:P.underlying t=some (.struct fields)) (hf:fields[j]?=some f) (hT:De P f.type=some (false,m)) (hx:ev σ x=some (.agg cs.toArray)) (hv:cs[f.offset]?=some v) (h:K v β Γ):Ej P C (.field t x j) ty σ β Γ K :=
 AGK hu hf hT rfl hx (fun _ u hu=>by rw [hv] at hu;obtain rfl:=Option.some.inj hu;exact h) (fun e=>Bool.noConfusion e) fun _=>(List.getElem?_eq_some_iff.1 hv).1
end
end Go.Fw
namespace Go.Proofs.YteadncphjconmaaGreat
set_option maxRecDepth 100000
set_option linter.unusedVariables false
set_option linter.unusedSimpArgs false
def AKm:List (List Int)→(List Int→Int)→Int
 | [],_=>0
 | u::L,g=>g u+AKm L g
abbrev zW (n:Nat):List Int:=List.replicate n 0
def AKg (A M:Int→Int→Int) (Aa:List (List Int)) (d:List Int):Bool:=Aa.all fun r=>decide (Dn A M d r=0)
section
variable {q:Nat}{A M:Int→Int→Int}(F:FI q A M)
include F
structure SpI (q n:Nat) (A M:Int→Int→Int) (Aa L:List (List Int)):Prop where
 wd:∀ u∈L,Wd q n u
 z:zW n∈L
 ALk:∀ d,Wd q n d→(∀ r∈Aa,Dn A M d r=0)→∀ u∈L,Dn A M d u=0
 sum:∀ (d:List Int) (t:Int),Wd q n d→0≤t→t<q→AKm L (fun c=>AKr q (A t (Dn A M d c)))=if AKg A M Aa d=true then AKr q t*L.length else 0
omit F in
theorem SpI.pos {n:Nat}{Aa L:List (List Int)}(h:SpI q n A M Aa L):0<L.length:=List.length_pos_of_mem h.z
omit F in
def Z2 (n i:Nat):List Int:=(zW n).set i 1
end
set_option maxRecDepth 100000
set_option linter.unusedVariables false
set_option linter.unusedSimpArgs false
def wt:List Int→Nat
 | []=>0
 | x::u=>(if x=0 then 0 else 1)+wt u
section
variable {q:Nat}{A M:Int→Int→Int}(F:FI q A M)
include F
end
set_option maxRecDepth 100000
set_option linter.unusedVariables false
set_option linter.unusedSimpArgs false
section
variable {q:Nat}{A M:Int→Int→Int}(F:FI q A M)
include F
theorem FI.one:(0:Int)≤1∧(1:Int)<q:=by have:=F.q2;omega
theorem FI.zl {x:Int}(x0:0≤x) (x1:x<q):A 0 x=x:=by
 rw [F.ac 0 x (Int.le_refl 0) F.z x0 x1,F.a0 x x0 x1]
end
set_option maxRecDepth 100000
set_option linter.unusedVariables false
set_option linter.unusedSimpArgs false
section
variable {q:Nat}{A M:Int→Int→Int}(F:FI q A M)
theorem AIG {n:Nat}{a:Int}{r u:List Int}(hr:Wd q n r) (hu:Wd q n u) {i:Nat}{x:Int}(h:(Gw A M a r u)[i]?=some x):∃ y z,u[i]?=some y∧r[i]?=some z∧x=A y (M a z)∧(0≤y∧y<q)∧0≤z∧z<q:=by
 rw [Gw,List.getElem?_zipWith] at h
 cases h1:u[i]? with
 | none=>rw [h1] at h;simp at h
 | some y =>
  cases h2:r[i]? with
  | none=>rw [h1,h2] at h;simp at h
  | some z =>
   rw [h1,h2] at h
   exact ⟨y,z,rfl,rfl,by simpa using h.symm,hu.2 y (List.mem_of_getElem? h1),hr.2 z (List.mem_of_getElem? h2)⟩
include F
end
set_option maxRecDepth 100000
set_option linter.unusedVariables false
set_option linter.unusedSimpArgs false
structure FO (q:Nat) (A M:Int→Int→Int) (N V:Int→Int):Prop where
 fi:FI q A M
 ng:∀ x:Int,0≤x→x<q→(0≤N x∧N x<q)∧A x (N x)=0
 iv:∀ x:Int,0≤x→x<q→x≠0→(0≤V x∧V x<q)∧M x (V x)=1
abbrev An (u:List Int) (c:Nat):Int:=u.getD c 0
abbrev A7 (Aa:List (List Int)) (i:Nat):List Int:=Aa.getD i []
abbrev en (Aa:List (List Int)) (i c:Nat):Int:=An (A7 Aa i) c
def B3 (M:Int→Int→Int) (a:Int) (v:List Int):List Int:=v.map (M a)
def Df (Aa:List (List Int)) (i k:Nat):List (List Int):=(Aa.set i (A7 Aa k)).set k (A7 Aa i)
def Ny (A M:Int→Int→Int) (N V:Int→Int) (t k c:Nat) (Aa:List (List Int)):List (List Int) :=
 (List.range Aa.length).map fun i=>if i=t then B3 M (V (en Aa k c)) (A7 Aa k) else Gw A M (N (en (Df Aa t k) i c)) (B3 M (V (en Aa k c)) (A7 Aa k)) (A7 (Df Aa t k) i)
def Jg (Aa:List (List Int)) (t c:Nat):Option Nat:=(List.range' t (Aa.length-t)).find? fun k=>decide (en Aa k c≠0)
def Ea (A M:Int→Int→Int) (N V:Int→Int):Nat→Nat→Nat→List (List Int)→List (List Int)×List Nat
 | 0,_,_,Aa=>(Aa,[])
 | n+1,c,t,Aa=>match Jg Aa t c with
  | none=>Ea A M N V n (c+1) t Aa
  | some k=>let x:=Ea A M N V n (c+1) (t+1) (Ny A M N V t k c Aa);(x.1,c::x.2)
theorem U4 {Aa:List (List Int)}{t c k:Nat}(h:Jg Aa t c=some k):t≤k∧k<Aa.length∧en Aa k c≠0:=by
 have h1:=List.find?_some h
 have h2:=List.mem_range'_1.1 (List.mem_of_find?_eq_some h)
 exact ⟨h2.1,by omega,by simpa using h1⟩
theorem ADl {Aa:List (List Int)}{t c:Nat}(h:Jg Aa t c=none):∀ k,t≤k→k<Aa.length→en Aa k c=0:=fun k h1 h2=>by
 have:=List.find?_eq_none.1 h k (List.mem_range'_1.2 ⟨h1,by omega⟩)
 simpa using this
theorem J1 {A M:Int→Int→Int}{N V:Int→Int}(t k c:Nat) (Aa:List (List Int)):(Ny A M N V t k c Aa).length=Aa.length:=by simp [Ny]
theorem Xd {A M:Int→Int→Int}{N V:Int→Int}:∀ (n c t:Nat) (Aa:List (List Int)),(Ea A M N V n c t Aa).1.length=Aa.length
 | 0,_,_,_=>rfl
 | n+1,c,t,Aa=>by
  rw [Ea]
  cases h:Jg Aa t c with
  | none=>exact Xd n _ _ _
  | some k =>
   show (Ea A M N V n (c+1) (t+1) (Ny A M N V t k c Aa)).1.length=_
   rw [Xd n,J1]
theorem ACH {Aa:List (List Int)}{i:Nat}(h:i<Aa.length):A7 Aa i∈Aa:=by
 rw [A7,List.getD_eq_getElem?_getD,List.getElem?_eq_getElem h];exact List.getElem_mem h
theorem ACz {Aa:List (List Int)}{i j:Nat}{u:List Int}(h:i<Aa.length):A7 (Aa.set i u) j=if j=i then u else A7 Aa j:=by
 rw [A7,A7,List.getD_eq_getElem?_getD,List.getD_eq_getElem?_getD,List.getElem?_set]
 by_cases e:i=j
 ·subst e;rw [if_pos rfl,if_pos h,if_pos rfl];rfl
 ·rw [if_neg e,if_neg (fun h=>e h.symm)]
theorem Gy {Aa:List (List Int)}{t k:Nat}(ht:t<Aa.length) (hk:k<Aa.length) (j:Nat):A7 (Df Aa t k) j=if j=k then A7 Aa t else if j=t then A7 Aa k else A7 Aa j:=by
 rw [Df,ACz (by rw [List.length_set];exact hk),ACz ht]
theorem Tu {A M:Int→Int→Int}{N V:Int→Int}{t k c i:Nat}{Aa:List (List Int)}(h:i<Aa.length):A7 (Ny A M N V t k c Aa) i=if i=t then B3 M (V (en Aa k c)) (A7 Aa k) else Gw A M (N (en (Df Aa t k) i c)) (B3 M (V (en Aa k c)) (A7 Aa k)) (A7 (Df Aa t k) i):=by
 rw [A7,Ny,List.getD_eq_getElem?_getD,List.getElem?_map,List.getElem?_range h];rfl
section
variable {q:Nat}{A M:Int→Int→Int}{N V:Int→Int}(O:FO q A M N V)
include O
theorem FO.q2:2≤q:=O.fi.q2
omit O in
theorem Bo {n:Nat}(hq:0<q) {u:List Int}(hu:Wd q n u) (i:Nat):0≤An u i∧An u i<q:=by
 rw [An,List.getD_eq_getElem?_getD]
 cases h:u[i]? with
 | none=>exact ⟨Int.le_refl 0,by show (0:Int)<q;omega⟩
 | some x=>exact hu.2 x (List.mem_of_getElem? h)
theorem FO.axp_at {n:Nat}{a:Int}(a0:0≤a) (a1:a<q) {r u:List Int}(hr:Wd q n r) (hu:Wd q n u) (i:Nat):An (Gw A M a r u) i=A (An u i) (M a (An r i)):=by
 have F:=O.fi
 have hw:=F.axw a0 a1 hr hu
 by_cases h:i<n
 ·have h1:(Gw A M a r u)[i]?=some (An (Gw A M a r u) i):=by rw [An,List.getD_eq_getElem?_getD,List.getElem?_eq_getElem (by rw [hw.1];exact h)];rfl
  obtain ⟨y,z,e1,e2,e3,_,_⟩:=AIG hr hu h1
  rw [e3,An,An,List.getD_eq_getElem?_getD,List.getD_eq_getElem?_getD,e1,e2];rfl
 ·rw [An,An,An,List.getD_eq_getElem?_getD,List.getD_eq_getElem?_getD,List.getD_eq_getElem?_getD,List.getElem?_eq_none (by rw [hw.1];omega),List.getElem?_eq_none (by rw [hu.1];omega),List.getElem?_eq_none (by rw [hr.1];omega)]
  show (0:Int)=A 0 (M a 0)
  rw [F.m0 a0 a1,F.a0 0 (Int.le_refl 0) F.z]
theorem FO.scl_wd {n:Nat}{a:Int}(a0:0≤a) (a1:a<q) {v:List Int}(hv:Wd q n v):Wd q n (B3 M a v) :=
 ⟨by rw [B3,List.length_map,hv.1],fun x hx=>by
  obtain ⟨y,hy,rfl⟩:=List.mem_map.1 hx
  obtain ⟨y0,y1⟩:=hv.2 y hy
  exact O.fi.ml a y a0 a1 y0 y1⟩
theorem FO.scl_at {a:Int}(a0:0≤a) (a1:a<q) (v:List Int) (i:Nat):An (B3 M a v) i=M a (An v i):=by
 rw [An,An,B3,List.getD_eq_getElem?_getD,List.getD_eq_getElem?_getD,List.getElem?_map]
 cases h:v[i]? with
 | none=>exact (O.fi.m0 a0 a1).symm
 | some x=>rfl
theorem FO.scl_dot {a:Int}(a0:0≤a) (a1:a<q):∀ {n:Nat}{x v:List Int},Wd q n x→Wd q n v→Dn A M x (B3 M a v)=M a (Dn A M x v)
 | _,[],_,_,_=>(O.fi.m0 a0 a1).symm
 | _,_::_,[],_,_=>(O.fi.m0 a0 a1).symm
 | n,x::xs,v::vs,hx,hv=>by
  have F:=O.fi
  obtain ⟨k,rfl⟩:∃ k,n=k+1:=⟨n-1,by have:=hx.1;simp at this;omega⟩
  have hx':Wd q k xs:=⟨by have:=hx.1;simpa using this,fun y hy=>hx.2 y (.tail _ hy)⟩
  have hv':Wd q k vs:=⟨by have:=hv.1;simpa using this,fun y hy=>hv.2 y (.tail _ hy)⟩
  obtain ⟨x0,x1⟩:=hx.2 x (.head _)
  obtain ⟨v0,v1⟩:=hv.2 v (.head _)
  obtain ⟨d0,d1⟩:=F.dlt hx' hv'
  obtain ⟨m0,m1⟩:=F.ml x v x0 x1 v0 v1
  show A (M x (M a v)) (Dn A M xs (B3 M a vs))=M a (A (M x v) (Dn A M xs vs))
  rw [FO.scl_dot a0 a1 hx' hv',F.md a _ _ a0 a1 m0 m1 d0 d1,← F.ma x a v x0 x1 a0 a1 v0 v1,F.mc x a x0 x1 a0 a1,F.ma a x v a0 a1 x0 x1 v0 v1]
def Fc (q n:Nat) (Aa:List (List Int)):Prop:=∀ r∈Aa,Wd q n r
omit O in
theorem Fc.row {n:Nat}{Aa:List (List Int)}(h:Fc q n Aa) {i:Nat}(hi:i<Aa.length):Wd q n (A7 Aa i):=h _ (ACH hi)
omit O in
theorem AI7 {n:Nat}{Aa:List (List Int)}(h:∀ i,i<Aa.length→Wd q n (A7 Aa i)):Fc q n Aa:=fun r hr=>by
 obtain ⟨i,hi,rfl⟩:=List.getElem_of_mem hr
 have:=h i hi
 rwa [A7,List.getD_eq_getElem?_getD,List.getElem?_eq_getElem hi] at this
omit O in
theorem Qr {n:Nat}{Aa:List (List Int)}(h:Fc q n Aa) {t k:Nat}(ht:t<Aa.length) (hk:k<Aa.length) {i:Nat}(hi:i<Aa.length):Wd q n (A7 (Df Aa t k) i):=by
 rw [Gy ht hk]
 split
 ·exact h.row ht
 ·split
  ·exact h.row hk
  ·exact h.row hi
theorem FO.piv_wd {n:Nat}{Aa:List (List Int)}(h:Fc q n Aa) {t k c:Nat}(ht:t<Aa.length) (hk:k<Aa.length) (h0:en Aa k c≠0):Fc q n (Ny A M N V t k c Aa):=by
 have hq:=O.q2
 have wk:=h.row hk
 obtain ⟨c0,c1⟩:=Bo (by omega) wk c
 obtain ⟨⟨v0,v1⟩,_⟩:=O.iv _ c0 c1 h0
 have wp:=O.scl_wd v0 v1 wk
 refine AI7 fun i hi=>?_
 rw [J1] at hi
 rw [Tu hi]
 split
 ·exact wp
 ·have ws:=Qr h ht hk hi
  obtain ⟨s0,s1⟩:=Bo (by omega) ws c
  obtain ⟨⟨n0,n1⟩,_⟩:=O.ng _ s0 s1
  exact O.fi.axw n0 n1 wp ws
theorem FO.piv_en {n:Nat}{Aa:List (List Int)}(h:Fc q n Aa) {t k c:Nat}(ht:t<Aa.length) (hk:k<Aa.length) (h0:en Aa k c≠0) {i:Nat}(hi:i<Aa.length) (e:Nat) :
  en (Ny A M N V t k c Aa) i e=if i=t then M (V (en Aa k c)) (en Aa k e) else A (en (Df Aa t k) i e) (M (N (en (Df Aa t k) i c)) (M (V (en Aa k c)) (en Aa k e))):=by
 have hq:=O.q2
 have wk:=h.row hk
 obtain ⟨c0,c1⟩:=Bo (by omega) wk c
 obtain ⟨⟨v0,v1⟩,_⟩:=O.iv _ c0 c1 h0
 have wp:=O.scl_wd v0 v1 wk
 rw [en,Tu hi]
 split
 ·exact O.scl_at v0 v1 _ e
 ·have ws:=Qr h ht hk hi
  obtain ⟨s0,s1⟩:=Bo (by omega) ws c
  obtain ⟨⟨n0,n1⟩,_⟩:=O.ng _ s0 s1
  rw [O.axp_at n0 n1 wp ws,O.scl_at v0 v1]
def Sol (A M:Int→Int→Int) (Aa:List (List Int)) (x:List Int):Prop:=∀ r∈Aa,Dn A M x r=0
omit O in
theorem Ub {Aa:List (List Int)}{x:List Int}:Sol A M Aa x↔∀ i,i<Aa.length→Dn A M x (A7 Aa i)=0:=by
 constructor
 ·exact fun h i hi=>h _ (ACH hi)
 ·intro h r hr
  obtain ⟨i,hi,rfl⟩:=List.getElem_of_mem hr
  have:=h i hi
  rwa [A7,List.getD_eq_getElem?_getD,List.getElem?_eq_getElem hi] at this
theorem FO.piv_sol {n:Nat}{Aa:List (List Int)}(h:Fc q n Aa) {t k c:Nat}(ht:t<Aa.length) (hk:k<Aa.length) (h0:en Aa k c≠0) {x:List Int}(hx:Wd q n x):Sol A M (Ny A M N V t k c Aa) x↔Sol A M Aa x:=by
 have hq:=O.q2
 have F:=O.fi
 have wk:=h.row hk
 obtain ⟨c0,c1⟩:=Bo (by omega) wk c
 obtain ⟨⟨v0,v1⟩,ev⟩:=O.iv _ c0 c1 h0
 have wp:=O.scl_wd v0 v1 wk
 have vne:V (en Aa k c)≠0:=fun e=>by
  rw [e,F.m0 c0 c1] at ev;cases ev
 have dp:=O.scl_dot v0 v1 hx wk
 obtain ⟨d0,d1⟩:=F.dlt hx wk
 rw [Ub,Ub,J1]
 constructor
 ·intro hs
  have hkz:Dn A M x (A7 Aa k)=0:=by
   have:=hs t ht
   rw [Tu ht,if_pos rfl,dp] at this
   exact (F.nz _ _ v0 v1 d0 d1 this).resolve_left vne
  have hsw:∀ i,i<Aa.length→i≠t→Dn A M x (A7 (Df Aa t k) i)=0:=fun i hi hit=>by
   have ws:=Qr h ht hk hi
   obtain ⟨s0,s1⟩:=Bo (by omega) ws c
   obtain ⟨⟨n0,n1⟩,_⟩:=O.ng _ s0 s1
   obtain ⟨e0,e1⟩:=F.dlt hx ws
   have:=hs i hi
   rw [Tu hi,if_neg hit,F.daxp n0 n1 hx wp ws,dp,hkz,F.m0 v0 v1,F.m0 n0 n1,F.a0 _ e0 e1] at this
   exact this
  intro i hi
  by_cases hik:i=k
  ·rw [hik];exact hkz
  ·by_cases hit:i=t
   ·subst hit
    have:=hsw k hk (fun e=>hik e.symm)
    rw [Gy ht hk,if_pos rfl] at this
    exact this
   ·have:=hsw i hi hit
    rw [Gy ht hk,if_neg hik,if_neg hit] at this
    exact this
 ·intro hs i hi
  have hp:Dn A M x (B3 M (V (en Aa k c)) (A7 Aa k))=0:=by rw [dp,hs k hk,F.m0 v0 v1]
  rw [Tu hi]
  split
  ·exact hp
  ·have ws:=Qr h ht hk hi
   obtain ⟨s0,s1⟩:=Bo (by omega) ws c
   obtain ⟨⟨n0,n1⟩,_⟩:=O.ng _ s0 s1
   have hz:Dn A M x (A7 (Df Aa t k) i)=0:=by
    rw [Gy ht hk]
    by_cases e1:i=k
    ·rw [if_pos e1];exact hs t ht
    ·rw [if_neg e1]
     by_cases e2:i=t
     ·rw [if_pos e2];exact hs k hk
     ·rw [if_neg e2];exact hs i hi
   rw [F.daxp n0 n1 hx wp ws,hp,hz,F.m0 n0 n1,F.a0 0 (Int.le_refl 0) F.z]
structure Ech (Aa:List (List Int)) (c:Nat) (piv:List Nat):Prop where
 le:piv.length≤Aa.length
 inc:∀ (i j a b:Nat),piv[i]?=some a→piv[j]?=some b→i<j→a<b
 lt:∀ a∈piv,a<c
 one:∀ (i a:Nat),piv[i]?=some a→en Aa i a=1
 zer:∀ (i a:Nat),piv[i]?=some a→∀ j,j<Aa.length→j≠i→en Aa j a=0
 low:∀ (i a:Nat),piv[i]?=some a→∀ e,e<a→en Aa i e=0
 bot:∀ i,piv.length≤i→i<Aa.length→∀ e,e<c→en Aa i e=0
omit O in
theorem AE6 (Aa:List (List Int)):Ech Aa 0 [] where
 le:=Nat.zero_le _
 inc:=fun i j a b h=>by simp at h
 lt:=fun a h=>by cases h
 one:=fun i a h=>by simp at h
 zer:=fun i a h=>by simp at h
 low:=fun i a h=>by simp at h
 bot:=fun i _ _ e he=>by omega
omit O in
theorem AHd {Aa:List (List Int)}{c:Nat}{piv:List Nat}(h:Ech Aa c piv) (hn:Jg Aa piv.length c=none):Ech Aa (c+1) piv where
 le:=h.le
 inc:=h.inc
 lt:=fun a ha=>Nat.lt_succ_of_lt (h.lt a ha)
 one:=h.one
 zer:=h.zer
 low:=h.low
 bot:=fun i h1 h2 e he=>by
  rcases Nat.lt_or_eq_of_le (Nat.le_of_lt_succ he) with h3|rfl
  ·exact h.bot i h1 h2 e h3
  ·exact ADl hn i h1 h2
theorem FO.ech_piv {n:Nat}{Aa:List (List Int)}(hM:Fc q n Aa) {c k:Nat}{piv:List Nat}(h:Ech Aa c piv) (hk:Jg Aa piv.length c=some k):Ech (Ny A M N V piv.length k c Aa) (c+1) (piv++[c]):=by
 have hq:=O.q2
 have F:=O.fi
 obtain ⟨k1,k2,k3⟩:=U4 hk
 have ht:piv.length<Aa.length:=by omega
 have wk:=hM.row k2
 obtain ⟨c0,c1⟩:=Bo (by omega) wk c
 obtain ⟨⟨v0,v1⟩,ev⟩:=O.iv _ c0 c1 k3
 have hen:=fun {i:Nat}(hi:i<Aa.length) e=>O.piv_en hM ht k2 k3 hi e
 have hlen:=J1 (A:=A) (M:=M) (N:=N) (V:=V) piv.length k c Aa
 -- where the pivot row is 0,an entry is that of the Aa exchanged
 have same:∀ i e,i<Aa.length→i≠piv.length→en Aa k e=0→en (Ny A M N V piv.length k c Aa) i e=en (Df Aa piv.length k) i e:=fun i e hi hit h0=>by
  have ws:=Qr hM ht k2 hi
  obtain ⟨s0,s1⟩:=Bo (by omega) ws c
  obtain ⟨⟨n0,n1⟩,_⟩:=O.ng _ s0 s1
  obtain ⟨e0,e1⟩:=Bo (by omega) ws e
  rw [hen hi,if_neg hit,h0,F.m0 v0 v1,F.m0 n0 n1,F.a0 _ e0 e1]
 have kz:∀ e,e<c→en Aa k e=0:=h.bot k k1 k2
 have kp:∀ (i a:Nat),piv[i]?=some a→en Aa k a=0:=fun i a hi=>kz a (h.lt a (List.mem_of_getElem? hi))
 have sw:∀ i e,en (Df Aa piv.length k) i e=if i=k then en Aa piv.length e else if i=piv.length then en Aa k e else en Aa i e:=fun i e=>by
  rw [en,Gy ht k2];split
  ·rfl
  ·split <;> rfl
 have lp:∀ (i a:Nat),piv[i]?=some a→i<piv.length:=fun i a hi=>(List.getElem?_eq_some_iff.1 hi).1
 have cut:∀ (i a:Nat),(piv++[c])[i]?=some a→piv[i]?=some a∨i=piv.length∧a=c:=fun i a hi=>by
  rw [List.getElem?_append] at hi
  split at hi
  ·exact .inl hi
  ·rename_i hl
   have:i-piv.length=0:=by
    rcases Nat.eq_zero_or_pos (i-piv.length) with h|h
    ·exact h
    ·rw [List.getElem?_eq_none (by simp;omega)] at hi;cases hi
   rw [this] at hi
   exact .inr ⟨by omega,by simpa using hi.symm⟩
 refine ⟨by rw [hlen,List.length_append,List.length_singleton];omega,fun i j a b hi hj hij=>?_,fun a ha=>?_,fun i a hi=>?_,fun i a hi j hj hji=>?_,fun i a hi e he=>?_,fun i h1 h2 e he=>?_⟩
 ·rcases cut i a hi with h1|⟨e1,e2⟩
  ·rcases cut j b hj with h2|⟨e3,e4⟩
   ·exact h.inc i j a b h1 h2 hij
   ·rw [e4];exact h.lt a (List.mem_of_getElem? h1)
  ·rcases cut j b hj with h2|⟨e3,e4⟩
   ·have:=lp j b h2;omega
   ·omega
 ·rcases List.mem_append.1 ha with ha|ha
  ·exact Nat.lt_succ_of_lt (h.lt a ha)
  ·rw [List.mem_singleton.1 ha];omega
 ·rcases cut i a hi with hi|⟨rfl,rfl⟩
  ·have:=lp i a hi
   rw [same i a (by omega) (by omega) (kp i a hi),sw,if_neg (by omega),if_neg (by omega)]
   exact h.one i a hi
  ·rw [hen ht,if_pos rfl,F.mc _ _ v0 v1 c0 c1];exact ev
 ·rw [hlen] at hj
  rcases cut i a hi with hi|⟨rfl,rfl⟩
  ·have:=lp i a hi
   by_cases hjt:j=piv.length
   ·rw [hen hj,if_pos hjt,kp i a hi,F.m0 v0 v1]
   ·rw [same j a hj hjt (kp i a hi),sw]
    split
    ·exact h.zer i a hi _ ht (by omega)
    ·first|exact h.zer i a hi j hj hji|(rw [if_neg hjt];exact h.zer i a hi j hj hji)
  ·have ws:=Qr hM ht k2 hj
   obtain ⟨s0,s1⟩:=Bo (by omega) ws a
   obtain ⟨⟨n0,n1⟩,en0⟩:=O.ng _ s0 s1
   rw [hen hj,if_neg hji,F.mc _ _ v0 v1 c0 c1,ev,F.m1 _ n0 n1]
   exact en0
 ·rcases cut i a hi with hi|⟨rfl,rfl⟩
  ·have:=lp i a hi
   rw [same i e (by omega) (by omega) (kz e (by have:=h.lt a (List.mem_of_getElem? hi);omega)),sw,if_neg (by omega),if_neg (by omega)]
   exact h.low i a hi e he
  ·rw [hen ht,if_pos rfl,kz e he,F.m0 v0 v1]
 ·rw [List.length_append,List.length_singleton] at h1
  rw [hlen] at h2
  rcases Nat.lt_or_eq_of_le (Nat.le_of_lt_succ he) with h3|rfl
  ·rw [same i e h2 (by omega) (kz e h3),sw]
   split
   ·exact h.bot _ (Nat.le_refl _) ht e h3
   ·first|exact h.bot i (by omega) h2 e h3|(rw [if_neg (by omega)];exact h.bot i (by omega) h2 e h3)
  ·have ws:=Qr hM ht k2 h2
   obtain ⟨s0,s1⟩:=Bo (by omega) ws e
   obtain ⟨⟨n0,n1⟩,en0⟩:=O.ng _ s0 s1
   rw [hen h2,if_neg (by omega),F.mc _ _ v0 v1 c0 c1,ev,F.m1 _ n0 n1]
   exact en0
theorem FO.elim_all {n:Nat}:∀ (m c:Nat) {Aa:List (List Int)}{piv:List Nat},Fc q n Aa→Ech Aa c piv →
  Fc q n (Ea A M N V m c piv.length Aa).1∧Ech (Ea A M N V m c piv.length Aa).1 (c+m) (piv++(Ea A M N V m c piv.length Aa).2)∧∀ x,Wd q n x→(Sol A M (Ea A M N V m c piv.length Aa).1 x↔Sol A M Aa x)
 | 0,c,Aa,piv,hM,h=>⟨hM,by rw [Ea,List.append_nil];exact h,fun x _=>Iff.rfl⟩
 | m+1,c,Aa,piv,hM,h=>by
  rw [Ea]
  cases hf:Jg Aa piv.length c with
  | none =>
   have:=FO.elim_all m (c+1) hM (AHd h hf)
   rw [show c+1+m=c+(m+1) by omega] at this
   exact this
  | some k =>
   obtain ⟨k1,k2,k3⟩:=U4 hf
   have ih:=FO.elim_all m (c+1) (O.piv_wd hM (show piv.length<Aa.length by omega) k2 k3) (O.ech_piv hM h hf)
   rw [List.length_append,List.length_singleton,show c+1+m=c+(m+1) by omega,List.append_assoc] at ih
   exact ⟨ih.1,ih.2.1,fun x hx=>(ih.2.2 x hx).trans (O.piv_sol hM (by omega) k2 k3 hx)⟩
theorem FO.elim {n m:Nat}{Aa:List (List Int)}(hM:Fc q n Aa) :
  Fc q n (Ea A M N V m 0 0 Aa).1∧Ech (Ea A M N V m 0 0 Aa).1 m (Ea A M N V m 0 0 Aa).2∧∀ x,Wd q n x→(Sol A M (Ea A M N V m 0 0 Aa).1 x↔Sol A M Aa x):=by
 have:=O.elim_all m 0 hM (AE6 Aa)
 rw [Nat.zero_add,List.nil_append] at this
 exact this
end
set_option maxRecDepth 100000
set_option linter.unusedVariables false
set_option linter.unusedSimpArgs false
section
variable {q:Nat}{A M:Int→Int→Int}{N V:Int→Int}(O:FO q A M N V)
include O
theorem FO.n0:N 0=0:=by
 have F:=O.fi
 obtain ⟨⟨h0,h1⟩,e⟩:=O.ng 0 (Int.le_refl 0) F.z
 rwa [F.zl h0 h1] at e
omit O in
theorem Nt {n:Nat}{x:Int}{u:List Int}(h:Wd q (n+1) (x::u)):(0≤x∧x<q)∧Wd q n u :=
 ⟨h.2 x (.head _),by simpa using h.1,fun y hy=>h.2 y (.tail _ hy)⟩
theorem FO.dot_zero:∀ {n:Nat}{x r:List Int},Wd q n x→Wd q n r→(∀ e,M (An x e) (An r e)=0)→Dn A M x r=0
 | 0,x,r,hx,_,_=>by rw [List.length_eq_zero_iff.1 hx.1];rfl
 | n+1,[],_,hx,_,_=>rfl
 | n+1,_::_,[],_,hr,_=>rfl
 | n+1,x::u,r::v,hx,hr,h=>by
  have h0:M x r=0:=h 0
  show A (M x r) (Dn A M u v)=0
  rw [h0,FO.dot_zero (Nt hx).2 (Nt hr).2 fun e=>h (e+1),O.fi.a0 0 (Int.le_refl 0) O.fi.z]
theorem FO.dot_one:∀ {n:Nat}{x r:List Int},Wd q n x→Wd q n r→∀ c,(∀ e,e≠c→M (An x e) (An r e)=0)→Dn A M x r=M (An x c) (An r c)
 | 0,x,r,hx,hr,c,_=>by
  have F:=O.fi
  rw [List.length_eq_zero_iff.1 hx.1,List.length_eq_zero_iff.1 hr.1]
  exact (F.m0 (Int.le_refl 0) F.z).symm
 | n+1,[],_,hx,_,_,_=>by have:=hx.1;simp at this
 | n+1,_::_,[],_,hr,_,_=>by have:=hr.1;simp at this
 | n+1,x::u,r::v,hx,hr,c,h=>by
  have F:=O.fi
  obtain ⟨⟨x0,x1⟩,hu⟩:=Nt hx
  obtain ⟨⟨r0,r1⟩,hv⟩:=Nt hr
  obtain ⟨m0,m1⟩:=F.ml x r x0 x1 r0 r1
  show A (M x r) (Dn A M u v)=M (An (x::u) c) (An (r::v) c)
  cases c with
  | zero =>
   rw [O.dot_zero hu hv fun e=>h (e+1) (by omega),F.a0 _ m0 m1];rfl
  | succ c =>
   have h0:M x r=0:=h 0 (by omega)
   obtain ⟨d0,d1⟩:=F.dlt hu hv
   rw [h0,F.zl d0 d1,FO.dot_one hu hv c fun e he=>h (e+1) (by omega)];rfl
theorem FO.dot_two:∀ {n:Nat}{x r:List Int},Wd q n x→Wd q n r→∀ c d,c≠d→(∀ e,e≠c→e≠d→M (An x e) (An r e)=0)→Dn A M x r=A (M (An x c) (An r c)) (M (An x d) (An r d))
 | 0,x,r,hx,hr,c,d,_,_=>by
  have F:=O.fi
  rw [List.length_eq_zero_iff.1 hx.1,List.length_eq_zero_iff.1 hr.1]
  show 0=A (M 0 0) (M 0 0)
  rw [F.m0 (Int.le_refl 0) F.z,F.a0 0 (Int.le_refl 0) F.z]
 | n+1,[],_,hx,_,_,_,_,_=>by have:=hx.1;simp at this
 | n+1,_::_,[],_,hr,_,_,_,_=>by have:=hr.1;simp at this
 | n+1,x::u,r::v,hx,hr,c,d,hcd,h=>by
  have F:=O.fi
  obtain ⟨⟨x0,x1⟩,hu⟩:=Nt hx
  obtain ⟨⟨r0,r1⟩,hv⟩:=Nt hr
  obtain ⟨m0,m1⟩:=F.ml x r x0 x1 r0 r1
  show A (M x r) (Dn A M u v)=A (M (An (x::u) c) (An (r::v) c)) (M (An (x::u) d) (An (r::v) d))
  cases c with
  | zero =>
   obtain ⟨d,rfl⟩:∃ k,d=k+1:=⟨d-1,by omega⟩
   rw [O.dot_one hu hv d fun e he=>h (e+1) (by omega) (by omega)];rfl
  | succ c =>
   cases d with
   | zero =>
    have hq:=O.q2
    obtain ⟨a0,a1⟩:=Bo (by omega) hu c
    obtain ⟨b0,b1⟩:=Bo (by omega) hv c
    obtain ⟨e0,e1⟩:=F.ml _ _ a0 a1 b0 b1
    rw [O.dot_one hu hv c fun e he=>h (e+1) (by omega) (by omega),F.ac _ _ m0 m1 e0 e1];rfl
   | succ d =>
    have h0:M x r=0:=h 0 (by omega) (by omega)
    obtain ⟨d0,d1⟩:=F.dlt hu hv
    rw [h0,F.zl d0 d1,FO.dot_two hu hv c d (by omega) fun e h1 h2=>h (e+1) (by omega) (by omega)];rfl
theorem FO.dot_axp_l {n:Nat}{a:Int}(a0:0≤a) (a1:a<q) {r u d:List Int}(hr:Wd q n r) (hu:Wd q n u) (hd:Wd q n d):Dn A M (Gw A M a r u) d=A (Dn A M u d) (M a (Dn A M r d)):=by
 have F:=O.fi
 rw [F.dcomm (F.axw a0 a1 hr hu) hd,F.daxp a0 a1 hd hr hu,F.dcomm hd hu,F.dcomm hd hr]
structure Red (q n:Nat) (R:List (List Int)) (P:List Nat):Prop where
 mat:Fc q n R
 ech:Ech R n P
omit O in
theorem Red.idx {n:Nat}{R:List (List Int)}{P:List Nat}(h:Red q n R P) {i a:Nat}(hi:P[i]?=some a):P.idxOf a=i:=by
 have hm:=List.mem_of_getElem? hi
 have hl:P.idxOf a<P.length:=List.idxOf_lt_length_iff.2 hm
 have h1:P[P.idxOf a]?=some a:=by rw [List.getElem?_eq_getElem hl,List.getElem_idxOf hl]
 rcases Nat.lt_trichotomy (P.idxOf a) i with h2|h2|h2
 ·have:=h.ech.inc _ _ a a h1 hi h2;omega
 ·exact h2
 ·have:=h.ech.inc _ _ a a hi h1 h2;omega
omit O in
theorem Red.at_idx {n:Nat}{R:List (List Int)}{P:List Nat}(h:Red q n R P) {a:Nat}(hm:a∈P):P.idxOf a<P.length∧P[P.idxOf a]?=some a:=by
 have hl:P.idxOf a<P.length:=List.idxOf_lt_length_iff.2 hm
 exact ⟨hl,by rw [List.getElem?_eq_getElem hl,List.getElem_idxOf hl]⟩
omit O in
theorem ADY {n:Nat}{u:List Int}(h:Wd q n u) {e:Nat}(he:n≤e):An u e=0:=by
 rw [An,List.getD_eq_getElem?_getD,List.getElem?_eq_none (by rw [h.1];exact he)];rfl
omit O in
theorem Red.null_row {n:Nat}{R:List (List Int)}{P:List Nat}(h:Red q n R P) {i:Nat}(h1:P.length≤i) (h2:i<R.length) (e:Nat):en R i e=0:=by
 by_cases he:e<n
 ·exact h.ech.bot i h1 h2 e he
 ·exact ADY (h.mat.row h2) (by omega)
def ACQ (N:Int→Int) (n:Nat) (R:List (List Int)) (P:List Nat) (c:Nat):List Int:=(List.range n).map fun e=>if e=c then 1 else if e∈P then N (en R (P.idxOf e) c) else 0
omit O in
theorem Wc {n:Nat}{R:List (List Int)}{P:List Nat}{c e:Nat}(he:e<n):An (ACQ N n R P c) e=if e=c then 1 else if e∈P then N (en R (P.idxOf e) c) else 0:=by
 rw [An,ACQ,List.getD_eq_getElem?_getD,List.getElem?_map,List.getElem?_range he];rfl
theorem FO.null_wd {n:Nat}{R:List (List Int)}{P:List Nat}(h:Red q n R P) (c:Nat):Wd q n (ACQ N n R P c):=by
 have hq:=O.q2
 refine ⟨by simp [ACQ],fun x hx=>?_⟩
 obtain ⟨e,_,rfl⟩:=List.mem_map.1 hx
 split
 ·omega
 ·split
  ·rename_i hm
   obtain ⟨hl,_⟩:=h.at_idx hm
   obtain ⟨x0,x1⟩:=Bo (by omega) (h.mat.row (Nat.lt_of_lt_of_le hl h.ech.le)) c
   exact (O.ng _ x0 x1).1
  ·omega
theorem FO.null_sol {n:Nat}{R:List (List Int)}{P:List Nat}(h:Red q n R P) {c:Nat}(hc:c<n) (hn:c∉P):Sol A M R (ACQ N n R P c):=by
 have F:=O.fi
 have hq:=O.q2
 have hw:=O.null_wd h c
 rw [Ub]
 intro i hi
 have hr:=h.mat.row hi
 rcases Nat.lt_or_ge i P.length with h1|h1
 ·have hp:P[i]?=some P[i]:=List.getElem?_eq_getElem h1
  generalize P[i]=p at hp
  have hpn:p<n:=h.ech.lt p (List.mem_of_getElem? hp)
  have hpc:c≠p:=fun e=>hn (e▸List.mem_of_getElem? hp)
  rw [O.dot_two hw hr c p hpc fun e he1 he2=>?_]
  ·have e1:An (A7 R i) p=1:=h.ech.one i p hp
   obtain ⟨x0,x1⟩:=Bo (by omega) hr c
   obtain ⟨⟨n0,n1⟩,en0⟩:=O.ng _ x0 x1
   rw [Wc hc,if_pos rfl,Wc hpn,if_neg (fun e=>hpc e.symm),if_pos (List.mem_of_getElem? hp),h.idx hp,e1,F.mc 1 _ (by omega) (by omega) x0 x1,F.m1 _ x0 x1]
   show A (An (A7 R i) c) (M (N (An (A7 R i) c)) 1)=0
   rw [F.m1 _ n0 n1,en0]
  ·obtain ⟨y0,y1⟩:=Bo (by omega) hw e
   obtain ⟨z0,z1⟩:=Bo (by omega) hr e
   by_cases hen:e<n
   ·by_cases hm:e∈P
    ·obtain ⟨j,hj⟩:=List.getElem?_of_mem hm
     have hji:i≠j:=fun e9=>by
      subst e9
      exact he2 (Option.some.inj (hj.symm.trans hp))
     rw [show An (A7 R i) e=0 from h.ech.zer j e hj i hi hji,F.m0 y0 y1]
    ·rw [Wc hen,if_neg he1,if_neg hm,F.mc 0 _ (Int.le_refl 0) F.z z0 z1,F.m0 z0 z1]
   ·rw [ADY hr (by omega),F.m0 y0 y1]
 ·refine O.dot_zero hw hr fun e=>?_
  obtain ⟨y0,y1⟩:=Bo (by omega) hw e
  rw [show An (A7 R i) e=0 from h.null_row h1 hi e,F.m0 y0 y1]
omit O in
theorem Lq:∀ {l l':List Nat},l.Nodup→(∀ x∈l,x∈l')→l.length≤l'.length
 | [],_,_,_=>Nat.zero_le _
 | a::l,l',hn,hs=>by
  obtain ⟨h1,h2⟩:=List.nodup_cons.1 hn
  have ha:=hs a (.head _)
  have hle:=List.length_erase_of_mem ha
  have hpos:=List.length_pos_of_mem ha
  have:=Lq (l:=l) (l':=l'.erase a) h2 fun y hy=>(List.mem_erase_of_ne (fun (e:y=a)=>h1 (e▸hy))).2 (hs y (.tail _ hy))
  rw [List.length_cons];omega
omit O in
theorem Red.nd {n:Nat}{R:List (List Int)}{P:List Nat}(h:Red q n R P):P.Nodup:=by
 rw [List.Nodup,List.pairwise_iff_getElem]
 intro i j hi hj hij e
 have:=h.ech.inc i j P[i] P[j] (List.getElem?_eq_getElem hi) (List.getElem?_eq_getElem hj) hij
 omega
omit O in
theorem Red.piv_le {n:Nat}{R:List (List Int)}{P:List Nat}(h:Red q n R P):P.length≤n:=by
 have h1:∀ x∈P,x∈List.range n:=fun x hx=>List.mem_range.2 (h.ech.lt x hx)
 have h4:=Lq h.nd h1
 rwa [List.length_range] at h4
end
set_option maxRecDepth 100000
set_option linter.unusedVariables false
set_option linter.unusedSimpArgs false
abbrev F8 (Aa:List (List Int)) (j:Nat):List Int:=Aa.map fun r=>An r j
def W0 (A M:Int→Int→Int):List Int→List (List Int)→List Int→List Int
 | a::x,r::Aa,u=>W0 A M x Aa (if a=0 then u else Gw A M a r u)
 | _,_,u=>u
def AFL (A M:Int→Int→Int) (n:Nat) (x:List Int) (Aa:List (List Int)):List Int:=W0 A M x Aa (zW n)
def cnE (A M:Int→Int→Int) (N V:Int→Int) (n:Nat) (Aa:List (List Int)):List (List Int)×List Nat :=
 ((Ea A M N V n 0 0 Aa).1.take (Ea A M N V n 0 0 Aa).2.length,(Ea A M N V n 0 0 Aa).2)
theorem Jt (n j:Nat):An (zW n) j=0:=by
 rw [An,List.getD_eq_getElem?_getD,zW,List.getElem?_replicate];split <;> rfl
theorem Ma {q n:Nat}{Aa:List (List Int)}(hq:0<q) (h:Fc q n Aa) (j:Nat):Wd q Aa.length (F8 Aa j) :=
 ⟨by rw [List.length_map],fun x hx=>by
  obtain ⟨r,hr,rfl⟩:=List.mem_map.1 hx
  exact Bo hq (h r hr) j⟩
section
variable {q:Nat}{A M:Int→Int→Int}{N V:Int→Int}(O:FO q A M N V)
include O
theorem FO.wz (n:Nat):Wd q n (zW n):=by
 have:=O.q2
 exact ⟨by rw [List.length_replicate],fun x hx=>by rw [List.eq_of_mem_replicate hx];omega⟩
theorem FO.axp0 {n:Nat}{r u:List Int}(hr:Wd q n r) (hu:Wd q n u):Gw A M 0 r u=u:=by
 have F:=O.fi
 have q2:=F.q2
 refine List.ext_getElem (by rw [Gw,List.length_zipWith,hr.1,hu.1];omega) fun i h1 h2=>?_
 rw [Gw] at h1
 simp only [Gw,List.getElem_zipWith]
 obtain ⟨y0,y1⟩:=hu.2 _ (List.getElem_mem h2)
 obtain ⟨x0,x1⟩:=hr.2 (r[i]'(by rw [hr.1,← hu.1];exact h2)) (List.getElem_mem _)
 rw [F.mc 0 _ (by omega) (by omega) x0 x1,F.m0 x0 x1,F.a0 _ y0 y1]
theorem FO.cmb_step {n:Nat}{a:Int}{r u:List Int}(hr:Wd q n r) (hu:Wd q n u):(if a=0 then u else Gw A M a r u)=Gw A M a r u:=by
 split
 ·rename_i e;rw [e,O.axp0 hr hu]
 ·rfl
theorem FO.cmbF_at {n:Nat}:∀ {x:List Int}{Aa:List (List Int)}{u:List Int},(∀ a∈x,0≤a∧a<q)→Fc q n Aa→Wd q n u→Wd q n (W0 A M x Aa u)∧∀ j,An (W0 A M x Aa u) j=A (An u j) (Dn A M x (F8 Aa j))
 | [],_,u,_,_,hu=>⟨by rw [W0];exact hu;· intros;contradiction,fun j=>by
   have hq:=O.q2
   obtain ⟨h0,h1⟩:=Bo (by omega) hu j
   rw [W0]
   ·exact (O.fi.a0 _ h0 h1).symm
   ·intros;contradiction⟩
 | _::_,[],u,_,_,hu=>⟨by rw [W0];exact hu;· intros;contradiction,fun j=>by
   have hq:=O.q2
   obtain ⟨h0,h1⟩:=Bo (by omega) hu j
   rw [W0]
   ·exact (O.fi.a0 _ h0 h1).symm
   ·intros;contradiction⟩
 | a::x,r::Aa,u,hx,hM,hu=>by
  have F:=O.fi
  have hq:=O.q2
  have hr:=hM r (.head _)
  have hM':Fc q n Aa:=fun r h=>hM r (.tail _ h)
  obtain ⟨a0,a1⟩:=hx a (.head _)
  have hw:=F.axw a0 a1 hr hu
  rw [W0,O.cmb_step hr hu]
  obtain ⟨h1,h2⟩:=FO.cmbF_at (x:=x) (Aa:=Aa) (fun b hb=>hx b (.tail _ hb)) hM' hw
  refine ⟨h1,fun j=>?_⟩
  rw [h2,O.axp_at a0 a1 hr hu]
  obtain ⟨u0,u1⟩:=Bo (by omega) hu j
  obtain ⟨r0,r1⟩:=Bo (by omega) hr j
  obtain ⟨m0,m1⟩:=F.ml a _ a0 a1 r0 r1
  have hd:0≤Dn A M x (F8 Aa j)∧Dn A M x (F8 Aa j)<q:=FO.dot_rng x (F8 Aa j) (fun b hb=>hx b (.tail _ hb)) (Ma (by omega) hM' j).2
  rw [F.aa _ _ _ u0 u1 m0 m1 hd.1 hd.2]
  rfl
where
 FO.dot_rng:∀ (x y:List Int),(∀ a∈x,0≤a∧a<q)→(∀ a∈y,0≤a∧a<q)→0≤Dn A M x y∧Dn A M x y<q
  | [],_,_,_=>⟨Int.le_refl 0,O.fi.z⟩
  | _::_,[],_,_=>⟨Int.le_refl 0,O.fi.z⟩
  | a::x,b::y,hx,hy=>by
   obtain ⟨a0,a1⟩:=hx a (.head _)
   obtain ⟨b0,b1⟩:=hy b (.head _)
   obtain ⟨m0,m1⟩:=O.fi.ml a b a0 a1 b0 b1
   obtain ⟨d0,d1⟩:=FO.dot_rng x y (fun b hb=>hx b (.tail _ hb)) (fun b hb=>hy b (.tail _ hb))
   exact O.fi.al _ _ m0 m1 d0 d1
theorem FO.cmb_at {n:Nat}{x:List Int}{Aa:List (List Int)}(hx:∀ a∈x,0≤a∧a<q) (hM:Fc q n Aa) (j:Nat):An (AFL A M n x Aa) j=Dn A M x (F8 Aa j):=by
 have hq:=O.q2
 have h:=(O.cmbF_at hx hM (O.wz n)).2 j
 rw [Jt] at h
 rw [AFL,h]
 obtain ⟨d0,d1⟩:=FO.cmbF_at.FO.dot_rng O x (F8 Aa j) hx (Ma (by omega) hM j).2
 exact O.fi.zl d0 d1
omit O in
theorem Ech.take {R:List (List Int)}{P:List Nat}{n:Nat}(h:Ech R n P):Ech (R.take P.length) n P where
 le:=by rw [List.length_take];have:=h.le;omega
 inc:=h.inc
 lt:=h.lt
 one:=fun i a hi=>by rw [en_take (List.getElem?_eq_some_iff.1 hi).1];exact h.one i a hi
 zer:=fun i a hi j hj hji=>by
  rw [List.length_take] at hj
  rw [en_take (by omega)];exact h.zer i a hi j (by omega) hji
 low:=fun i a hi e he=>by rw [en_take (List.getElem?_eq_some_iff.1 hi).1];exact h.low i a hi e he
 bot:=fun i h1 h2=>by rw [List.length_take] at h2;omega
where
 en_take {R:List (List Int)}{k i c:Nat}(hi:i<k):en (R.take k) i c=en R i c:=by
  rw [en,en,A7,A7,List.getD_eq_getElem?_getD,List.getD_eq_getElem?_getD,List.getElem?_take,if_pos hi]
omit O in
theorem Red.take {n:Nat}{R:List (List Int)}{P:List Nat}(h:Red q n R P):Red q n (R.take P.length) P:=⟨fun r hr=>h.mat r (List.mem_of_mem_take hr),h.ech.take⟩
theorem FO.take_sol {n:Nat}{R:List (List Int)}{P:List Nat}(h:Red q n R P) {x:List Int}(hx:Wd q n x):Sol A M (R.take P.length) x↔Sol A M R x:=by
 constructor
 ·intro hs
  rw [Ub]
  intro i hi
  by_cases hp:i<P.length
  ·have:A7 (R.take P.length) i=A7 R i:=by rw [A7,A7,List.getD_eq_getElem?_getD,List.getD_eq_getElem?_getD,List.getElem?_take,if_pos hp]
   rw [← this]
   exact Ub.1 hs i (by rw [List.length_take];omega)
  ·refine O.dot_zero hx (h.mat.row hi) fun e=>?_
   have hq:=O.q2
   obtain ⟨y0,y1⟩:=Bo (by omega) hx e
   rw [show An (A7 R i) e=0 from h.null_row (by omega) hi e,O.fi.m0 y0 y1]
 ·exact fun hs r hr=>hs r (List.mem_of_mem_take hr)
theorem FO.cn {n:Nat}{Aa:List (List Int)}(hM:Fc q n Aa):Red q n (cnE A M N V n Aa).1 (cnE A M N V n Aa).2∧∀ x,Wd q n x→(Sol A M (cnE A M N V n Aa).1 x↔Sol A M Aa x):=by
 obtain ⟨h1,h2,h3⟩:=O.elim (m:=n) hM
 have hr:Red q n (Ea A M N V n 0 0 Aa).1 (Ea A M N V n 0 0 Aa).2:=⟨h1,h2⟩
 exact ⟨hr.take,fun x hx=>(O.take_sol hr hx).trans (h3 x hx)⟩
theorem FO.cn_len {n:Nat}{Aa:List (List Int)}(hM:Fc q n Aa):(cnE A M N V n Aa).1.length=(cnE A M N V n Aa).2.length:=by
 have h:=(O.elim (m:=n) hM).2.1.le
 show (List.take _ _).length=(Ea A M N V n 0 0 Aa).2.length
 rw [List.length_take];omega
theorem FO.dot_unit {n j:Nat}(hj:j<n) {r:List Int}(hr:Wd q n r):Wd q n (Z2 n j)∧Dn A M (Z2 n j) r=An r j:=by
 have hq:=O.q2
 have F:=O.fi
 have hu:Wd q n (Z2 n j):=⟨by simp [Z2,zW],fun x hx=>by
  rcases List.mem_or_eq_of_mem_set hx with h|h
  ·rw [List.eq_of_mem_replicate h];omega
  ·omega⟩
 have hat:∀ e,An (Z2 n j) e=if e=j then 1 else 0:=fun e=>by
  rw [An,Z2,List.getD_eq_getElem?_getD,List.getElem?_set,zW,List.length_replicate]
  by_cases h:j=e
  ·subst h;rw [if_pos rfl,if_pos hj,if_pos rfl];rfl
  ·rw [if_neg h,if_neg fun h'=>h h'.symm,List.getElem?_replicate];split <;> rfl
 obtain ⟨r0,r1⟩:=Bo (by omega) hr j
 refine ⟨hu,?_⟩
 rw [O.dot_one hu hr j fun e he=>?_,hat,if_pos rfl,F.mc 1 _ (by omega) (by omega) r0 r1,F.m1 _ r0 r1]
 obtain ⟨e0,e1⟩:=Bo (by omega) hr e
 rw [hat,if_neg he,F.mc 0 _ (Int.le_refl 0) F.z e0 e1,F.m0 e0 e1]
end
set_option maxRecDepth 100000
set_option linter.unusedVariables false
set_option linter.unusedSimpArgs false
structure Rng (q:Nat) (A M:Nat→Nat→Nat):Prop where
 q2:2≤q
 al:∀ x y,x<q→y<q→A x y<q
 ac:∀ x y,x<q→y<q→A x y=A y x
 aa:∀ x y z,x<q→y<q→z<q→A (A x y) z=A x (A y z)
 a0:∀ x,x<q→A x 0=x
 an:∀ x,x<q→∃ y,y<q∧A x y=0
 ml:∀ x y,x<q→y<q→M x y<q
 mc:∀ x y,x<q→y<q→M x y=M y x
 ma:∀ x y z,x<q→y<q→z<q→M (M x y) z=M x (M y z)
 md:∀ x y z,x<q→y<q→z<q→M x (A y z)=A (M x y) (M x z)
 m1:∀ x,x<q→M x 1=x
theorem Fld.rng {q:Nat}{A M:Nat→Nat→Nat}(F:Fld q A M):Rng q A M:=⟨F.q2,F.al,F.ac,F.aa,F.a0,F.an,F.ml,F.mc,F.ma,F.md,F.m1⟩
theorem Rng.fld {q:Nat}{A M:Nat→Nat→Nat}(R:Rng q A M) (h:∀ x y,x<q→y<q→M x y=0→x=0∨y=0):Fld q A M:=⟨R.q2,R.al,R.ac,R.aa,R.a0,R.an,R.ml,R.mc,R.ma,R.md,R.m1,h⟩
def Cq (M:Nat→Nat→Nat) (x:Nat):Nat→Nat
 | 0=>1
 | k+1=>M (Cq M x k) x
section
variable {q:Nat}{A M:Nat→Nat→Nat}(R:Rng q A M)
include R
theorem Rng.pw_lt {x:Nat}(hx:x<q):∀ k,Cq M x k<q
 | 0=>R.q2
 | k+1=>R.ml _ _ (Rng.pw_lt hx k) hx
theorem Rng.pw_add {x:Nat}(hx:x<q) (i:Nat):∀ j,Cq M x (i+j)=M (Cq M x i) (Cq M x j)
 | 0=>(R.m1 _ (R.pw_lt hx i)).symm
 | j+1=>by
  show M (Cq M x (i+j)) x=M (Cq M x i) (M (Cq M x j) x)
  rw [Rng.pw_add hx i j,R.ma _ _ _ (R.pw_lt hx i) (R.pw_lt hx j) hx]
theorem Rng.one_mul {x:Nat}(hx:x<q):M 1 x=x:=by rw [R.mc 1 x R.q2 hx,R.m1 x hx]
theorem Rng.pw_one:∀ k,Cq M 1 k=1
 | 0=>rfl
 | k+1=>by
  show M (Cq M 1 k) 1=1
  rw [Rng.pw_one k,R.m1 1 R.q2]
theorem Rng.pw_mul {x:Nat}(hx:x<q) (i:Nat):∀ j,Cq M (Cq M x i) j=Cq M x (i*j)
 | 0=>rfl
 | j+1=>by
  show M (Cq M (Cq M x i) j) (Cq M x i)=Cq M x (i*(j+1))
  rw [Rng.pw_mul hx i j,Nat.mul_succ,R.pw_add hx]
theorem Rng.pw_prod {x y:Nat}(hx:x<q) (hy:y<q):∀ k,Cq M (M x y) k=M (Cq M x k) (Cq M y k)
 | 0=>(R.m1 1 R.q2).symm
 | k+1=>by
  have h1:=R.pw_lt hx k
  have h2:=R.pw_lt hy k
  show M (Cq M (M x y) k) (M x y)=M (M (Cq M x k) x) (M (Cq M y k) y)
  rw [Rng.pw_prod hx hy k,R.ma _ _ _ h1 h2 (R.ml _ _ hx hy),R.ma _ _ _ h1 hx (R.ml _ _ h2 hy),← R.ma _ _ _ h2 hx hy,R.mc _ x h2 hx,R.ma _ _ _ hx h2 hy]
theorem Rng.m0 {x:Nat}(hx:x<q):M x 0=0:=by
 have hq:=R.q2
 have h1:=R.md x 0 0 hx (by omega) (by omega)
 have h2:=R.ml x 0 hx (by omega)
 obtain ⟨y,hy,e⟩:=R.an (M x 0) h2
 have h3:A (M x 0) y=A (A (M x 0) (M x 0)) y:=by rw [← h1,R.a0 0 (by omega)]
 rw [R.aa _ _ _ h2 h2 hy,e,R.a0 _ h2] at h3
 exact h3.symm
theorem Rng.z0 {x:Nat}(hx:x<q):A 0 x=x:=by
 have hq:=R.q2
 rw [R.ac 0 x (by omega) hx,R.a0 x hx]
def Nf (q:Nat) (M:Nat→Nat→Nat) (x:Nat):Prop:=(∀ i j,i<j→j<q-1→Cq M x i≠Cq M x j)∧(∀ i,i<q-1→Cq M x i≠0)∧Cq M x (q-1)=1
theorem Rng.gen_mod {x:Nat}(hx:x<q) (h:Nf q M x):∀ k,Cq M x k=Cq M x (k % (q-1)):=by
 intro k
 have h1:∀ n,Cq M x ((q-1)*n)=1:=fun n=>by rw [← R.pw_mul hx,h.2.2,R.pw_one]
 conv=>lhs;rw [← Nat.div_add_mod k (q-1)]
 rw [R.pw_add hx,h1,R.one_mul (R.pw_lt hx _)]
theorem Rng.gen_all {x:Nat}(hx:x<q) (h:Nf q M x) {a:Nat}(ha:a<q) (h0:a≠0):∃ i,i<q-1∧Cq M x i=a:=by
 have hq:=R.q2
 have h1:=AEx (q:=q) (φ:=fun i=>if i=0 then 0 else Cq M x (i-1)) (fun i hi=>by
   split
   ·omega
   ·exact R.pw_lt hx _) (fun i j hi hj e=>by
   by_cases i0:i=0
   ·rw [if_pos i0] at e
    by_cases j0:j=0
    ·omega
    ·rw [if_neg j0] at e
     exact absurd e.symm (h.2.1 _ (by omega))
   ·rw [if_neg i0] at e
    by_cases j0:j=0
    ·rw [if_pos j0] at e
     exact absurd e (h.2.1 _ (by omega))
    ·rw [if_neg j0] at e
     rcases Nat.lt_trichotomy (i-1) (j-1) with h3|h3|h3
     ·exact absurd e (h.1 _ _ h3 (by omega))
     ·omega
     ·exact absurd e.symm (h.1 _ _ h3 (by omega))) (y:=a) ha
 refine Classical.byContradiction fun hn=>?_
 have h2:sm q (fun i=>if (if i=0 then 0 else Cq M x (i-1))=a then (1:Int) else 0)=sm q (fun _=>0):=Sh fun i hi=>if_neg fun e=>by
  by_cases i0:i=0
  ·rw [if_pos i0] at e;exact h0 e.symm
  ·rw [if_neg i0] at e;exact hn ⟨i-1,by omega,e⟩
 rw [h2,Vk] at h1
 omega
theorem Rng.gen_nz {x:Nat}(hx:x<q) (h:Nf q M x):∀ a b,a<q→b<q→M a b=0→a=0∨b=0:=by
 intro a b ha hb e
 have hq:=R.q2
 by_cases a0:a=0
 ·exact .inl a0
 by_cases b0:b=0
 ·exact .inr b0
 obtain ⟨i,hi,rfl⟩:=R.gen_all hx h ha a0
 obtain ⟨j,hj,rfl⟩:=R.gen_all hx h hb b0
 rw [← R.pw_add hx,R.gen_mod hx h] at e
 exact absurd e (h.2.1 _ (Nat.mod_lt _ (by omega)))
end
theorem ABO {P:Nat→Prop}:∀ n,P n→∃ k,k≤n∧P k∧∀ j,j<k→¬ P j:=by
 intro n
 induction n using Nat.strongRecOn with
 | _ n ih =>
  intro h
  by_cases hj:∃ j,j<n∧P j
  ·obtain ⟨j,hj,hp⟩:=hj
   obtain ⟨k,h1,h2,h3⟩:=ih j hj hp
   exact ⟨k,by omega,h2,h3⟩
  ·exact ⟨n,Nat.le_refl _,h,fun j h1 h2=>hj ⟨j,h1,h2⟩⟩
theorem AId {m:Nat}(hm:2≤m):∃ r,Prm r∧r∣m:=by
 obtain ⟨r,_,⟨h1,h2⟩,h3⟩:=ABO (P:=fun d=>2≤d∧d∣m) m ⟨hm,Nat.dvd_refl m⟩
 exact ⟨r,⟨h1,fun d hd hl hdr=>h3 d hl ⟨hd,Nat.dvd_trans hdr h2⟩⟩,h2⟩
theorem ACJ {r:Nat}(hr:2≤r):∀ m:Nat,1≤m→∃ k m',m=r ^ k*m'∧¬ r∣m':=by
 intro m
 induction m using Nat.strongRecOn with
 | _ m ih =>
  intro h1
  by_cases hd:r∣m
  ·obtain ⟨c,rfl⟩:=hd
   have hc:1≤c:=Nat.pos_of_ne_zero fun e=>by subst e;simp at h1
   have:c<r*c:=by
    have:=Nat.mul_le_mul_right c hr
    omega
   obtain ⟨k,m',e,h2⟩:=ih c this hc
   exact ⟨k+1,m',by rw [Nat.pow_succ,Nat.mul_comm (r ^ k) r,Nat.mul_assoc,← e],h2⟩
  ·exact ⟨0,m,by simp,hd⟩
theorem AET {r m:Nat}(hr:Prm r) (h:¬ r∣m) (k:Nat):Nat.Coprime (r ^ k) m:=by
 have h1:Nat.Coprime r m:=by
  have:=AEC hr h
  rwa [Nat.gcd_comm] at this
 exact Nat.Coprime.pow_left k h1
theorem AIk {e:Nat}:∀ m:Nat,1≤m→¬ m∣e→∃ r k,Prm r∧r ^ k∣m∧¬ r ^ k∣e:=by
 intro m
 induction m using Nat.strongRecOn with
 | _ m ih =>
  intro h1 h
  have hm:2≤m:=by
   rcases Nat.lt_or_ge 1 m with h2|h2
   ·exact h2
   ·exfalso;apply h
    have:m=1:=by omega
    rw [this];exact Nat.one_dvd _
  obtain ⟨r,hr,hd⟩:=AId hm
  obtain ⟨k,m',e1,h2⟩:=ACJ hr.1 m h1
  have hk:k≠0:=fun hk=>by subst hk;rw [Nat.pow_zero,Nat.one_mul] at e1;exact h2 (e1▸hd)
  by_cases h3:r ^ k∣e
  ·have hm1:1≤m':=Nat.pos_of_ne_zero fun h0=>by subst h0;simp at e1;omega
   have hlt:m'<m:=by
    have h4:2 ^ 1≤r ^ k:=Nat.le_trans (Nat.pow_le_pow_left hr.1 1) (Nat.pow_le_pow_right (by have:=hr.1;omega) (by omega))
    have:=Nat.mul_le_mul_right m' h4
    omega
   have h5:¬ m'∣e:=fun h6=>h (by rw [e1];exact Nat.Coprime.mul_dvd_of_dvd_of_dvd (AET hr h2 k) h3 h6)
   obtain ⟨r',k',h7,h8,h9⟩:=ih m' hlt hm1 h5
   exact ⟨r',k',h7,Nat.dvd_trans h8 (by rw [e1];exact Nat.dvd_mul_left _ _),h9⟩
  ·exact ⟨r,k,hr,by rw [e1];exact Nat.dvd_mul_right _ _,h3⟩
section
variable {q:Nat}{A M:Nat→Nat→Nat}(F:Fld q A M)
include F
def P3 (M:Nat→Nat→Nat) (x k:Nat):Prop:=1≤k∧Cq M x k=1∧∀ j,1≤j→j<k→Cq M x j≠1
theorem Fld.pw_ne {x:Nat}(hx:x<q) (h0:x≠0):∀ k,Cq M x k≠0
 | 0=>by show 1≠0;decide
 | k+1=>fun e=>(F.nz _ _ (F.rng.pw_lt hx k) hx e).elim (Fld.pw_ne hx h0 k) h0
theorem Fld.mcan {s x y:Nat}(hs:s<q) (h0:s≠0) (hx:x<q) (hy:y<q) (h:M s x=M s y):x=y:=by
 obtain ⟨ny,hn,en⟩:=F.an y hy
 have h1:M s (A x ny)=0:=by rw [F.md _ _ _ hs hx hn,h,← F.md _ _ _ hs hy hn,en,F.rng.m0 hs]
 have h2:=(F.nz _ _ hs (F.al _ _ hx hn) h1).resolve_left h0
 have h3:A (A x ny) y=A 0 y:=by rw [h2]
 rw [F.aa _ _ _ hx hn hy,F.ac ny y hn hy,en,F.a0 x hx,F.rng.z0 hy] at h3
 exact h3
theorem Fld.ord_ex {x:Nat}(hx:x<q) (h0:x≠0):∃ k,k≤q-1∧P3 M x k:=by
 have hq:=F.q2
 have h1:∃ k,k≤q-1∧1≤k∧Cq M x k=1:=by
  refine Classical.byContradiction fun hn=>?_
  have h2:=AEx (q:=q) (φ:=Cq M x) (fun i _=>F.rng.pw_lt hx i) (fun i j hi hj e=>by
   have key:∀ i j,i<j→j<q→Cq M x i≠Cq M x j:=fun i j hij hj e=>by
    refine hn ⟨j-i,by omega,by omega,?_⟩
    have h3:M (Cq M x i) 1=M (Cq M x i) (Cq M x (j-i)):=by
     rw [← F.rng.pw_add hx,show i+(j-i)=j by omega,F.m1 _ (F.rng.pw_lt hx i),e]
    exact (F.mcan (F.rng.pw_lt hx i) (F.pw_ne hx h0 i) (by omega) (F.rng.pw_lt hx _) h3).symm
   rcases Nat.lt_trichotomy i j with h3|h3|h3
   ·exact absurd e (key i j h3 hj)
   ·exact h3
   ·exact absurd e.symm (key j i h3 hi)) (y:=0) (by omega)
  have h3:sm q (fun i=>if Cq M x i=0 then (1:Int) else 0)=sm q (fun _=>0):=Sh fun i _=>if_neg (F.pw_ne hx h0 i)
  rw [h3,Vk] at h2
  omega
 obtain ⟨k,hk,h2,h3⟩:=h1
 obtain ⟨j,hj,⟨h4,h5⟩,h6⟩:=ABO (P:=fun k=>1≤k∧Cq M x k=1) k ⟨h2,h3⟩
 exact ⟨j,by omega,h4,h5,fun i hi hl e=>h6 i hl ⟨hi,e⟩⟩
theorem Fld.ord_dvd {x k:Nat}(hx:x<q) (h:P3 M x k) {n:Nat}(hn:Cq M x n=1):k∣n:=by
 obtain ⟨h1,h2,h3⟩:=h
 refine Nat.dvd_of_mod_eq_zero (Classical.byContradiction fun h0=>?_)
 refine h3 (n % k) (by omega) (Nat.mod_lt _ (by omega)) ?_
 have h4:Cq M x (k*(n / k))=1:=by rw [← F.rng.pw_mul hx,h2,F.rng.pw_one]
 conv at hn=>lhs;rw [← Nat.div_add_mod n k]
 rw [F.rng.pw_add hx,h4,F.rng.one_mul (F.rng.pw_lt hx _)] at hn
 exact hn
theorem Fld.ord_pow {x d k:Nat}(hx:x<q) (hd:1≤d) (h:P3 M x (d*k)):P3 M (Cq M x d) k:=by
 obtain ⟨h1,h2,h3⟩:=h
 refine ⟨Nat.pos_of_ne_zero fun e=>by subst e;simp at h1,by rw [F.rng.pw_mul hx,h2],fun j hj hl e=>?_⟩
 rw [F.rng.pw_mul hx] at e
 exact h3 (d*j) (Nat.mul_pos hd hj) (Nat.mul_lt_mul_of_pos_left hl hd) e
theorem Fld.ord_mul {x y a b:Nat}(hx:x<q) (hy:y<q) (ha:P3 M x a) (hb:P3 M y b) (hc:Nat.Coprime a b):P3 M (M x y) (a*b):=by
 have key:∀ {x y a b:Nat},x<q→y<q→P3 M x a→P3 M y b→Nat.Coprime a b→∀ n,Cq M (M x y) n=1→a∣n:=fun {x y a b} hx hy ha hb hc n hn=>by
  have h1:Cq M (M x y) (n*b)=1:=by rw [← F.rng.pw_mul (F.ml _ _ hx hy),hn,F.rng.pw_one]
  rw [F.rng.pw_prod hx hy,Nat.mul_comm n b,← F.rng.pw_mul hy,hb.2.1,F.rng.pw_one,F.m1 _ (F.rng.pw_lt hx _)] at h1
  exact (Nat.Coprime.dvd_of_dvd_mul_left hc (F.ord_dvd hx ha h1))
 refine ⟨Nat.mul_pos ha.1 hb.1,?_,fun j hj hl e=>?_⟩
 ·rw [F.rng.pw_prod hx hy,← F.rng.pw_mul hx,ha.2.1,F.rng.pw_one,Nat.mul_comm,← F.rng.pw_mul hy,hb.2.1,F.rng.pw_one,F.m1 1 F.q2]
 ·have h1:=key hx hy ha hb hc j e
  have h2:=key hy hx hb ha hc.symm j (by rw [F.mc y x hy hx];exact e)
  have h3:=Nat.le_of_dvd (by omega) (Nat.Coprime.mul_dvd_of_dvd_of_dvd hc h1 h2)
  omega
omit F in
theorem ACp:∀ (l:List Nat) (x:Nat),(l++[x]).getLastD 0=x:=fun l x=>by simp
def evF (A M:Nat→Nat→Nat):List Nat→Nat→Nat
 | [],_=>0
 | c::P,x=>A c (M x (evF A M P x))
theorem Fld.ev_lt {x:Nat}(hx:x<q):∀ {P:List Nat},(∀ c∈P,c<q)→evF A M P x<q
 | [],_=>by have:=F.q2;show 0<q;omega
 | c::P,h=>F.al _ _ (h c (.head _)) (F.ml _ _ hx (Fld.ev_lt hx fun d hd=>h d (.tail _ hd)))
def Ue (A M:Nat→Nat→Nat) (a:Nat):List Nat→List Nat
 | []=>[]
 | [_]=>[]
 | _::d::P=>evF A M (d::P) a::Ue A M a (d::P)
theorem Fld.syn_lt {a:Nat}(ha:a<q):∀ {P:List Nat},(∀ c∈P,c<q)→∀ c∈Ue A M a P,c<q
 | [],_,c,hc=>by cases hc
 | [_],_,c,hc=>by cases hc
 | b::d::P,h,c,hc=>by
  have h2:∀ c∈d::P,c<q:=fun e he=>h e (.tail _ he)
  rw [Ue] at hc
  rcases List.mem_cons.1 hc with rfl|hc
  ·exact F.ev_lt ha h2
  ·exact Fld.syn_lt ha h2 c hc
omit F in
theorem AE1 (a:Nat):∀ P:List Nat,(Ue A M a P).length=P.length-1
 | []=>rfl
 | [_]=>rfl
 | b::d::P=>by
  rw [Ue,List.length_cons,AE1 a (d::P)];simp only [List.length_cons];omega
theorem Fld.syn_last {a:Nat}(ha:a<q):∀ {P:List Nat},(∀ c∈P,c<q)→2≤P.length→(Ue A M a P).getLastD 0=P.getLastD 0
 | [],_,h=>by simp at h
 | [_],_,h=>by simp at h
 | [b,d],hP,_=>by
  have hd:d<q:=hP d (.tail _ (.head _))
  show (A d (M a 0):Nat)=d
  rw [F.rng.m0 ha,F.a0 d hd]
 | b::d::e::P,hP,_=>by
  have ih:=Fld.syn_last ha (P:=d::e::P) (fun c hc=>hP c (.tail _ hc)) (by simp)
  rw [Ue]
  have hne:Ue A M a (d::e::P)≠[]:=fun h=>by rw [Ue] at h;cases h
  rw [show (b::d::e::P).getLastD 0=(d::e::P).getLastD 0 by simp [List.getLastD_cons],← ih]
  obtain ⟨x,l,hl⟩:∃ x l,Ue A M a (d::e::P)=x::l:=by
   cases h:Ue A M a (d::e::P) with
   | nil=>exact absurd h hne
   | cons x l=>exact ⟨x,l,rfl⟩
  rw [hl]
  simp [List.getLastD_cons]
theorem Fld.syn_ev {a na x:Nat}(ha:a<q) (hn:na<q) (en:A a na=0) (hx:x<q):∀ {P:List Nat},(∀ c∈P,c<q)→evF A M P x=A (evF A M P a) (M (A x na) (evF A M (Ue A M a P) x))
 | [],_=>by
  have hq:=F.q2
  show 0=A 0 (M (A x na) 0)
  rw [F.rng.m0 (F.al _ _ hx hn),F.a0 0 (by omega)]
 | [c],h=>by
  have hc:=h c (.head _)
  show A c (M x 0)=A (A c (M a 0)) (M (A x na) 0)
  rw [F.rng.m0 hx,F.rng.m0 ha,F.rng.m0 (F.al _ _ hx hn),F.a0 c hc,F.a0 c hc]
 | c::d::P,h=>by
  have hc:=h c (.head _)
  have h2:∀ c∈d::P,c<q:=fun e he=>h e (.tail _ he)
  have ih:=Fld.syn_ev ha hn en hx h2
  have l1:=F.ev_lt ha h2
  have l2:=F.ev_lt hx (F.syn_lt ha h2)
  rw [Ue]
  show A c (M x (evF A M (d::P) x))=A (A c (M a (evF A M (d::P) a))) (M (A x na) (A (evF A M (d::P) a) (M x (evF A M (Ue A M a (d::P)) x))))
  rw [ih]
  generalize evF A M (d::P) a=u at *
  generalize evF A M (Ue A M a (d::P)) x=v at *
  have hd:=F.al _ _ hx hn
  have m1:=F.ml _ _ hd l2
  have m2:=F.ml _ _ hx m1
  have m3:=F.ml _ _ hx l1
  have m4:=F.ml _ _ ha l1
  have m5:=F.ml _ _ hn l1
  have m6:=F.ml _ _ hd l1
  have m7:=F.ml _ _ hx l2
  have m8:=F.ml _ _ hd m7
  rw [F.md _ _ _ hx l1 m1,F.md _ _ _ hd l1 m7,← F.ma _ _ _ hx hd l2,F.mc x _ hx hd,F.ma _ _ _ hd hx l2]
  have e1:M (A x na) u=A (M x u) (M na u):=by
   rw [F.mc _ u hd l1,F.md _ _ _ l1 hx hn,F.mc u x l1 hx,F.mc u na l1 hn]
  have e2:A (M a u) (M na u)=0:=by
   rw [F.mc a u ha l1,F.mc na u hn l1,← F.md _ _ _ l1 ha hn,en,F.rng.m0 l1]
  rw [e1]
  have e3:A (M a u) (A (A (M x u) (M na u)) (M (A x na) (M x v)))=A (M x u) (M (A x na) (M x v)):=by
   rw [← F.aa _ _ _ m4 (F.al _ _ m3 m5) m8,F.ac (M x u) _ m3 m5,← F.aa _ _ _ m4 m5 m3,e2,F.rng.z0 m3]
  rw [F.aa _ _ _ hc m4 (F.al _ _ (F.al _ _ m3 m5) m8),e3]
theorem Fld.roots:∀ (d:Nat) {P:List Nat},P.length=d+1→(∀ c∈P,c<q)→P.getLastD 0≠0→∀ {l:List Nat},l.Nodup→(∀ x∈l,x<q∧evF A M P x=0)→l.length≤d
 | 0,P,hP,hc,h0,l,hn,hl=>by
  obtain ⟨c,rfl⟩:=List.length_eq_one_iff.1 hP
  cases l with
  | nil=>exact Nat.le_refl _
  | cons x l =>
   obtain ⟨hx,e⟩:=hl x (.head _)
   have hcq:=hc c (.head _)
   have e:A c (M x 0)=0:=e
   rw [F.rng.m0 hx,F.a0 c hcq] at e
   exact absurd e h0
 | d+1,P,hP,hc,h0,l,hn,hl=>by
  cases l with
  | nil=>exact Nat.zero_le _
  | cons a l =>
   obtain ⟨ha,ea⟩:=hl a (.head _)
   obtain ⟨h1,h2⟩:=List.nodup_cons.1 hn
   obtain ⟨na,hna,en⟩:=F.an a ha
   have ih:=Fld.roots d (P:=Ue A M a P) (by rw [AE1,hP];omega) (F.syn_lt ha hc) (by rw [F.syn_last ha hc (by omega)];exact h0) (l:=l) h2 (fun x hx=>by
    obtain ⟨hxq,ex⟩:=hl x (.tail _ hx)
    refine ⟨hxq,?_⟩
    have h3:=F.syn_ev ha hna en hxq hc
    have h4:=F.ev_lt hxq (F.syn_lt ha hc)
    have h5:=F.al _ _ hxq hna
    rw [ex,ea,F.rng.z0 (F.ml _ _ h5 h4)] at h3
    refine (F.nz _ _ h5 h4 h3.symm).resolve_left fun e=>h1 ?_
    have h6:A (A x na) a=A 0 a:=by rw [e]
    rw [F.aa _ _ _ hxq hna ha,F.ac na a hna ha,en,F.a0 x hxq,F.rng.z0 ha] at h6
    exact h6▸hx)
   rw [List.length_cons];omega
theorem Fld.ev_mono {x:Nat}(hx:x<q):∀ k,evF A M (List.replicate k 0++[1]) x=Cq M x k
 | 0=>by
  have hq:=F.q2
  show A 1 (M x 0)=1
  rw [F.rng.m0 hx,F.a0 1 (by omega)]
 | k+1=>by
  rw [List.replicate_succ,List.cons_append]
  show A 0 (M x (evF A M (List.replicate k 0++[1]) x))=M (Cq M x k) x
  rw [Fld.ev_mono hx k,F.rng.z0 (F.ml _ _ hx (F.rng.pw_lt hx k)),F.mc _ _ hx (F.rng.pw_lt hx k)]
theorem Fld.gen_ex:∃ x,1≤x∧x<q∧Nf q M x:=by
 have hq:=F.q2
 -- the greatest order
 obtain ⟨k0,_,⟨g,hg,hg0,e,ek,he⟩,hmax⟩:=ABO (P:=fun k=>∃ g,g<q∧g≠0∧∃ e,e+k=q-1∧P3 M g e) (q-1-(Classical.choose (F.ord_ex (x:=1) (by omega) (by decide)))) (by
  obtain ⟨h1,h2⟩:=Classical.choose_spec (F.ord_ex (x:=1) (by omega) (by decide))
  exact ⟨1,by omega,by decide,_,by omega,h2⟩)
 have hle:∀ x,x<q→x≠0→∀ k,P3 M x k→k≤e:=fun x hx h0 k hk=>by
  refine Nat.le_of_not_lt fun hlt=>?_
  obtain ⟨k',hk',ho⟩:=F.ord_ex hx h0
  have hkk:k=k':=by
   have h1:=F.ord_dvd hx hk ho.2.1
   have h2:=F.ord_dvd hx ho hk.2.1
   exact Nat.dvd_antisymm h1 h2
  exact hmax (q-1-k) (by omega) ⟨x,hx,h0,k,by omega,hk⟩
 have hall:∀ x,x<q→x≠0→Cq M x e=1:=fun x hx h0=>by
  obtain ⟨m,_,ho⟩:=F.ord_ex hx h0
  have hd:m∣e:=Classical.byContradiction fun hn=>by
   obtain ⟨r,k,hr,h1,h2⟩:=AIk m ho.1 hn
   obtain ⟨c,rfl⟩:=h1
   obtain ⟨j,e',ee,h3⟩:=ACJ hr.1 e he.1
   have hrk:0<r ^ k:=Nat.pow_pos (by have:=hr.1;omega)
   have hrj:0<r ^ j:=Nat.pow_pos (by have:=hr.1;omega)
   have hc:1≤c:=Nat.pos_of_ne_zero fun h0=>by subst h0;have:=ho.1;simp at this
   have o1:P3 M (Cq M x c) (r ^ k):=F.ord_pow hx hc (by rw [Nat.mul_comm];exact ho)
   have o2:P3 M (Cq M g (r ^ j)) e':=F.ord_pow hg hrj (by rw [← ee];exact he)
   have o3:=F.ord_mul (F.rng.pw_lt hx c) (F.rng.pw_lt hg _) o1 o2 (AET hr h3 k)
   have hne:M (Cq M x c) (Cq M g (r ^ j))≠0:=fun h=>(F.nz _ _ (F.rng.pw_lt hx c) (F.rng.pw_lt hg _) h).elim (F.pw_ne hx h0 c) (F.pw_ne hg hg0 _)
   have h4:=hle _ (F.ml _ _ (F.rng.pw_lt hx c) (F.rng.pw_lt hg _)) hne _ o3
   have h5:j<k:=Nat.lt_of_not_le fun hkj=>h2 (by rw [ee];exact Nat.dvd_trans (Nat.pow_dvd_pow r hkj) (Nat.dvd_mul_right _ _))
   have h6:r ^ j<r ^ k:=Nat.pow_lt_pow_right hr.1 h5
   have h7:=Nat.mul_lt_mul_of_pos_right h6 (show 0<e' from o2.1)
   omega
  obtain ⟨c,rfl⟩:=hd
  rw [← F.rng.pw_mul hx,ho.2.1,F.rng.pw_one]
 obtain ⟨n1,hn1,en1⟩:=F.an 1 (by omega)
 obtain ⟨e0,rfl⟩:∃ e0,e=e0+1:=⟨e-1,by have:=he.1;omega⟩
 have hroots:=F.roots (e0+1) (P:=n1::(List.replicate e0 0++[1])) (by simp) (fun c hc=>by
   rcases List.mem_cons.1 hc with rfl|hc
   ·exact hn1
   ·rcases List.mem_append.1 hc with hc|hc
    ·rw [(List.mem_replicate.1 hc).2];omega
    ·rw [List.mem_singleton.1 hc];omega) (by rw [← List.cons_append,ACp];decide) (l:=List.range' 1 (q-1)) (List.nodup_range' ..) (fun x hx=>by
   obtain ⟨h1,h2⟩:=List.mem_range'_1.1 hx
   refine ⟨by omega,?_⟩
   have hxq:x<q:=by omega
   show A n1 (M x (evF A M (List.replicate e0 0++[1]) x))=0
   have:=hall x hxq (by omega)
   rw [F.ev_mono hxq,F.mc _ _ hxq (F.rng.pw_lt hxq _)]
   have h3:M (Cq M x e0) x=1:=this
   rw [h3,F.ac n1 1 hn1 (by omega),en1])
 rw [List.length_range'] at hroots
 have eq:e0+1=q-1:=by omega
 rw [eq] at he
 refine ⟨g,by omega,hg,fun i j hij hj e=>?_,fun i _=>F.pw_ne hg hg0 i,he.2.1⟩
 have h3:M (Cq M g i) 1=M (Cq M g i) (Cq M g (j-i)):=by
  rw [← F.rng.pw_add hg,show i+(j-i)=j by omega,F.m1 _ (F.rng.pw_lt hg i),e]
 exact he.2.2 (j-i) (by omega) (by omega) (F.mcan (F.rng.pw_lt hg i) (F.pw_ne hg hg0 i) (by omega) (F.rng.pw_lt hg _) h3).symm
end
open Go Go.Fw
set_option maxRecDepth 100000
set_option linter.unusedVariables false
set_option linter.unusedSimpArgs false
set_option maxHeartbeats 0
theorem Du {P M:Int}{res:Int}(hres:Jb P M=res):Br Tryz.prog 78 [.int .i64 P,.int .i64 M] [] [] (Rv (.int .i64 res) []):=by
 refine Ad (F:=AAq) rfl fun C=>?_
 have no:¬ Va P M→res=0:=fun h=>by rw [← hres,Jb,if_neg h]
 by_cases h1:P<2
 ·rw [no (by unfold Va;omega)]
  refine wk 13 cz ?_
  intro h2
  exact ge
 by_cases h0:256<P
 ·rw [no fun h=>by
   have h9:=h.2.2.2
   have h8:=Nat.le_self_pow (n:=M.toNat) (by have:=h.2.1;omega) P.toNat
   omega]
  refine wk 18 cz ?_
  intro h2 h3
  exact ge
 by_cases h2:M<1
 ·rw [no (by unfold Va;omega)]
  refine wk 23 cz ?_
  intro h3 h4 h5
  exact ge
 by_cases h3:8<M
 ·rw [no (by unfold Va;omega)]
  refine wk 23 cz ?_
  intro h4 h5 h6 h7
  exact ge
 obtain ⟨p,rfl⟩:∃ p:Nat,P=p:=⟨P.toNat,by omega⟩
 obtain ⟨m,rfl⟩:∃ m:Nat,M=m:=⟨M.toNat,by omega⟩
 refine wk 25 cz ?_
 intro h4 h5 h6 h7
 refine Ag (X:=Nat) [0,20] [] (fun i=>[(21,.int .i64 (i:Int)),(5,.int .i64 ((p ^ i:Nat):Int))]) (fun _=>[]) (fun _=>[]) (fun i=>i≤m∧p ^ i≤256) (fun i=>m-i) 0 [] rfl rfl rfl ⟨Nat.zero_le _,by simp⟩ (by repeat (first|exact Fr.sub_nil _|refine Fr.sub_cons rfl ?_)) rfl rfl ?_
 rintro i ⟨hi,hq⟩ ih
 simp only [List.cons_append,List.nil_append] at hi hq ih ⊢
 by_cases hil:i<m
 ·have hp0:0<p:=by omega
  have e:((p ^ i:Nat):Int)*(p:Int)=((p ^ (i+1):Nat):Int):=by rw [Nat.pow_succ,Int.natCast_mul]
  have h65:p ^ (i+1)≤65536:=by rw [Nat.pow_succ];exact Nat.mul_le_mul hq (show p≤256 by omega)
  have e2:0≤((p ^ i:Nat):Int)*(p:Int):=by rw [e];omega
  have e3:((p ^ i:Nat):Int)*(p:Int)≤65536:=by rw [e];omega
  by_cases hb:p ^ (i+1)≤256
  ·have e4:((p ^ i:Nat):Int)*(p:Int)≤256:=by rw [e];omega
   refine wk 13 cz ?_
   intro h8 h9
   rw [e]
   exact tw (ih (i+1) (by omega) ⟨by omega,hb⟩)
  ·have e4:256<((p ^ i:Nat):Int)*(p:Int):=by rw [e];omega
   rw [no fun h=>hb (Nat.le_trans (Nat.pow_le_pow_right hp0 hil) (by have:=h.2.2.2;simpa using this))]
   refine wk 13 cz ?_
   intro h8 h9
   exact ge
 ·obtain rfl:m=i:=by omega
  have:res=((p ^ m:Nat):Int):=by
   rw [← hres,Jb,if_pos ⟨by omega,by omega,by omega,by simpa using hq⟩];simp
  rw [this]
  refine wk 7 cz ?_
  intro h8
  exact ge
theorem AGq {n:Nat}(hn:2≤n) (h:∀ d,2≤d→d*d≤n→¬ d∣n):Prm n:=by
 refine ⟨hn,fun d hd hl hdv=>?_⟩
 obtain ⟨c,rfl⟩:=hdv
 have hc:2≤c:=by
  rcases Nat.lt_or_ge c 2 with h1|h1
  ·exfalso
   have:c=0∨c=1:=by omega
   rcases this with rfl|rfl <;> simp at hn hl
  ·exact h1
 rcases Nat.le_total d c with h1|h1
 ·exact h d hd (Nat.mul_le_mul_left d h1) (Nat.dvd_mul_right _ _)
 ·exact h c hc (Nat.mul_le_mul_right c h1) (Nat.dvd_mul_left _ _)
theorem Rj {n:Nat}(hn:2≤n) (hn2:n≤1000000) {res:Bool}(hres:res=true↔Prm n):Br Tryz.prog 116 [.int .i64 n] [] [] (Rv (.bool res) []):=by
 refine Ad (F:=X8) rfl fun C=>?_
 refine wk 5 cz ?_
 refine Ag (X:=Nat) [0] [] (fun d=>[(3,.int .i64 (d:Int))]) (fun _=>[]) (fun _=>[]) (fun d=>2≤d∧d≤n∧∀ e,2≤e→e<d→¬ e∣n) (fun d=>n-d) 2 [] rfl rfl rfl ⟨Nat.le_refl 2,hn,fun e h1 h2=>by omega⟩ (by repeat (first|exact Fr.sub_nil _|refine Fr.sub_cons rfl ?_)) rfl rfl ?_
 rintro d ⟨hd,hdn,hall⟩ ih
 simp only [List.cons_append,List.nil_append] at hd hdn hall ih ⊢
 have q0:(0:Int)≤(d:Int)*(d:Int):=Int.mul_nonneg (by omega) (by omega)
 have q1:(d:Int)*(d:Int)≤1000000*1000000:=Int.mul_le_mul (by omega) (by omega) (by omega) (by omega)
 have q2:(d:Int)*(d:Int)=((d*d:Nat):Int):=(Int.natCast_mul d d).symm
 by_cases Ly:d*d≤n
 ·have hlt:d<n:=by
   have:=Nat.mul_le_mul_right d hd
   omega
  by_cases hm:n % d=0
  ·have hm':(n:Int) % (d:Int)=0:=by omega
   have:res=false:=by
    cases res with
    | false=>rfl
    | true=>exact absurd (Nat.dvd_of_mod_eq_zero hm) ((hres.1 rfl).2 d hd hlt)
   rw [this]
   refine wk 11 cz ?_
   intro h1 h2
   exact ge
  ·have hm':¬ (n:Int) % (d:Int)=0:=by omega
   refine wk 11 cz ?_
   intro h1 h2
   exact tw (ih (d+1) (by omega) ⟨by omega,by omega,fun e h1 h2=>by
    rcases Nat.lt_succ_iff_lt_or_eq.1 h2 with h3|rfl
    ·exact hall e h1 h3
    ·exact fun hdv=>hm (Nat.mod_eq_zero_of_dvd hdv)⟩)
 ·have:res=true:=hres.2 (AGq hn fun e h1 h2=>by
   refine hall e h1 (Nat.lt_of_not_le fun hle=>Ly ?_)
   exact Nat.le_trans (Nat.mul_le_mul hle hle) h2)
  rw [this]
  refine wk 7 cz ?_
  intro h1
  rw [decide_eq_true (show (2:Int)≤(n:Int) by omega)]
  exact ge
theorem P5 {p n x:Nat}(hp:1≤p) (hp2:p≤1000000) (hn:n≤100) (hx:x≤1000000000):Br Tryz.prog 144 [.int .i64 x,.int .i64 p,.int .i64 n] [] [] (SvI n (Bz (Dh p n x))):=by
 refine Ad (F:=W3) rfl fun C=>?_
 have hl:=Di p n x
 refine wk 11 cz ?_
 intro b1
 rw [show List.replicate n 0=(Dh p n x).take 0++List.replicate (n-0) 0 by simp]
 refine Ag (X:=Nat) [1,6,7,12] [] (fun i=>[(13,.int .i64 (i:Int)),(0,.int .i64 ((x / p ^ i:Nat):Int))]) (fun i=>[(some b1,3,Ap .i64 ((Dh p n x).take i++List.replicate (n-i) 0))]) (fun _=>[]) (fun i=>i≤n) (fun i=>n-i) 0 [] rfl rfl rfl (Nat.zero_le _) (by refine Fr.sub_cons rfl ?_;refine Fr.sub_consI rfl (by simp) ?_;repeat (first|exact Fr.sub_nil _|refine Fr.sub_cons rfl ?_)) rfl rfl ?_
 rintro i hi ih
 simp only [List.cons_append,List.nil_append] at hi ih ⊢
 have hxi:x / p ^ i≤x:=Nat.div_le_self _ _
 have hz:=fun h=>AB4 (p:=p) (n:=n) (i:=i) (x:=x) h
 have hnx:x / p ^ (i+1)=x / p ^ i / p:=by rw [Nat.pow_succ,← Nat.div_div_eq_div_mul]
 by_cases hil:i<n
 ·have ih':=ih (i+1) (by omega) (by omega)
  rw [hnx,← Yt hl hil (hz hil)] at ih'
  generalize x / p ^ i=y at *
  have e1:(y:Int) % (p:Int)=((y % p:Nat):Int):=(Int.natCast_emod _ _).symm
  have e2:(y:Int) / (p:Int)=((y / p:Nat):Int):=(Int.natCast_ediv _ _).symm
  have hlen:((Dh p n x).take i++List.replicate (n-i) 0).length=n:=by simp [hl];omega
  refine wk 15 cz ?_
  intro h1
  rw [e2]
  exact tw (ih')
 ·obtain rfl:i=n:=by omega
  clear hz hnx
  rw [List.take_of_length_le (by omega),Nat.sub_self,List.replicate_zero,List.append_nil,G1]
  refine wk 7 cz ?_
  intro h1
  refine Gn 8 (Bz (Dh p i x)) 0 rfl (by rw [Cn,hl]) (Wa fun d hd=>by have:=Kw (by omega) d hd;omega) (by omega) (by omega) ?_
  refine Gl [0] rfl rfl rfl ⟨_,_,rfl,rfl,rfl⟩
theorem Yf {pd:Option Addr}{nd cd p:Nat}{l:List Nat}(hp:1≤p) (hp2:p≤256) (hd:∀ x∈l,x<p) (hl:p ^ l.length≤1000000) :
  Br Tryz.prog 145 [.slice pd nd cd,.int .i64 p] [] [A2 Ak pd nd cd (Bz l)] (Rv (.int .i64 ((Fz p l:Nat):Int)) []):=by
 refine Ad (F:=X0) rfl fun C=>?_
 refine Bd 0 rfl fun hn hb _=>?_
 rw [Cn] at hn hb
 subst hn
 have hb:l.length*8≤140737488355328:=hb
 refine wk 9 cz ?_
 refine Ag (X:=Nat) [0,1,4] [0] (fun j=>[(6,.int .i64 ((j:Int)-1)),(5,.int .i64 ((Fz p (l.drop j):Nat):Int))]) (fun _=>[]) (fun _=>[]) (fun j=>j≤l.length) (fun j=>j) l.length [] rfl rfl rfl (Nat.le_refl _) (by refine Fr.sub_cons rfl ?_;refine Fr.sub_consI rfl (by simp [Fz]) ?_;repeat (first|exact Fr.sub_nil _|refine Fr.sub_cons rfl ?_)) rfl rfl ?_
 rintro j hj ih
 simp only [List.cons_append,List.nil_append] at hj ih ⊢
 have hlt:Fz p (l.drop j)<p ^ l.length:=Nat.lt_of_lt_of_le (Nu (by omega) fun x hx=>hd x (List.mem_of_mem_drop hx)) (Nat.pow_le_pow_right (by omega) (by rw [List.length_drop];omega))
 cases j with
 | zero =>
  rw [List.drop_zero]
  refine wk 7 cz ?_
  intro h1
  exact ge
 | succ j =>
  have at_z:(Bz l)[j]?=some ((l.getD j 0:Nat):Int):=Js (by rw [List.getD_eq_getElem?_getD,List.getElem?_eq_getElem (by omega)];rfl)
  have hz2:l.getD j 0<p:=hd _ (List.mem_of_getElem? (i:=j) (by rw [List.getD_eq_getElem?_getD,List.getElem?_eq_getElem (by omega)];rfl))
  have ih':=ih j (by omega) (by omega)
  have hlt2:Fz p (l.drop j)<p ^ l.length:=Nat.lt_of_lt_of_le (Nu (by omega) fun x hx=>hd x (List.mem_of_mem_drop hx)) (Nat.pow_le_pow_right (by omega) (by rw [List.length_drop];omega))
  rw [AA6 (show j<l.length by omega)] at ih' hlt2
  generalize Fz p (l.drop (j+1))=v at *
  generalize hw:l.getD j 0=w at *
  have at_z2:(Bz l)[j+1-1]?=some (w:Int):=by rw [Nat.add_sub_cancel];exact at_z
  have hvp:(v:Int)*(p:Int)≤1000000:=by rw [← Int.natCast_mul,Nat.mul_comm];omega
  have hv0:0≤(v:Int)*(p:Int):=by rw [← Int.natCast_mul];omega
  have e:(v:Int)*(p:Int)+(w:Int)=((w+p*v:Nat):Int):=by rw [Int.natCast_add,Int.natCast_mul,Int.mul_comm];omega
  refine wk 7 cz ?_
  intro h1 b1 o1 hz1
  refine Ab rfl (Aj 0 rfl rfl Bm fun ⟨r1,r2⟩=>?_)
  refine wk 4 cz ?_
  rw [e]
  exact tw (ih')
def AGZ (P M:Int) (md:List Int):Prop:=Va P M∧Prm P.toNat∧(M=1→md.length=0)∧(M≠1→(md.length:Int)=M∧∀ x∈md,0≤x∧x<P)
theorem Jy {P M:Int}{pm:Option Addr}{nm cm:Nat}{md:List Int}{res:Bool}(hres:res=true↔AGZ P M md):Br Tryz.prog 77 [.agg #[.int .i64 P,.int .i64 M,.slice pm nm cm]] [] [A2 Ak pm nm cm md] (Rv (.bool res) []):=by
 refine Ad (F:=AAx) rfl fun C=>?_
 refine Bd 0 rfl fun hn1 hb1 _=>?_
 subst hn1
 have hb1':md.length*8≤140737488355328:=hb1
 have no:¬ AGZ P M md→res=false:=fun h=>by
  cases res with
  | false=>rfl
  | true=>exact absurd (hres.1 rfl) h
 by_cases h1:Va P M
 ·have ho:Jb P M≠0:=by
   rw [Jb,if_pos h1]
   have:=Nat.pow_pos (n:=M.toNat) (show 0<P.toNat by have:=h1.1;omega)
   omega
  have hP256:P.toNat≤256:=Nat.le_trans (Nat.le_self_pow (by have:=h1.2.1;omega) _) h1.2.2.2
  obtain ⟨p,rfl⟩:∃ p:Nat,P=p:=⟨P.toNat,by have:=h1.1;omega⟩
  rw [Int.toNat_natCast] at hP256
  have hp2:2≤p:=by have:=h1.1;omega
  by_cases h2:Prm p
  ·have Ey:=Rj hp2 (by omega) (res:=true) ⟨fun _=>h2,fun _=>rfl⟩
   by_cases hM:M=1
   ·subst hM
    by_cases h3:md.length=0
    ·have:res=true:=hres.2 ⟨h1,h2,fun _=>h3,fun h=>absurd rfl h⟩
     rw [this]
     refine wk 30 (ct @Du (ct @Ey cz)) ?_
     intro b1 h4 h5
     rw [decide_eq_true (show (md.length:Int)=0 by omega)]
     exact ge
    ·rw [no fun h=>h3 (h.2.2.1 rfl)]
     refine wk 30 (ct @Du (ct @Ey cz)) ?_
     intro b1 h4 h5
     rw [decide_eq_false (show ¬ (md.length:Int)=0 by omega)]
     exact ge
   ·by_cases h3:(md.length:Int)=M
    ·generalize hall:md.all (fun x=>decide (0≤x∧x<(p:Int)))=al
     have hr:res=al:=by
      cases al with
      | true=>exact hres.2 ⟨h1,h2,fun h=>absurd h hM,fun _=>⟨h3,fun x hx=>by simpa using List.all_eq_true.1 hall x hx⟩⟩
      | false =>
       refine no fun h=>?_
       obtain ⟨x,hx,hn⟩:=List.all_eq_false.1 hall
       exact hn (decide_eq_true ((h.2.2.2 hM).2 x hx))
     rw [hr]
     clear hr hres no
     refine wk 39 (ct @Du (ct @Ey cz)) ?_
     intro b1 h4 h5 h6
     refine Ag (X:=Nat) [1,31,32] [0] (fun i=>[(33,.int .i64 (i:Int))]) (fun _=>[(some b1,24,[.int .i64 (p:Int),.int .i64 M,.slice pm md.length cm])]) (fun _=>[]) (fun i=>i≤md.length∧(md.drop i).all (fun x=>decide (0≤x∧x<(p:Int)))=al) (fun i=>md.length-i) 0 [] rfl rfl rfl ⟨Nat.zero_le _,hall⟩ (by repeat (first|exact Fr.sub_nil _|refine Fr.sub_cons rfl ?_)) rfl rfl ?_
     rintro i ⟨hi,he⟩ ih
     simp only [List.cons_append,List.nil_append] at hi he ih ⊢
     by_cases hil:i<md.length
     ·obtain ⟨z,at_z,ed⟩:∃ z,md[i]?=some z∧md.drop i=z::md.drop (i+1):=⟨md[i],List.getElem?_eq_getElem hil,List.drop_eq_getElem_cons hil⟩
      rw [ed,List.all_cons] at he
      by_cases h4:0≤z∧z<(p:Int)
      ·rw [decide_eq_true h4,Bool.true_and] at he
       refine wk 13 cz ?_
       intro h7 b2 o1 hz1 _ r1 r2
       refine Bp (t:=39) rfl (fun h8=>by exfalso;omega) (fun h8=>?_)
       refine wk 9 cz ?_
       intro h9
       exact tw (ih (i+1) (by omega) ⟨by omega,he⟩)
      ·rw [decide_eq_false h4,Bool.false_and] at he
       subst he
       by_cases h5:z<0
       ·refine Be [_,_,_,_,_] rfl ?_
        refine Au it 1 rfl (by simp) ?_
        refine Be [_,_,_,_,_] rfl ?_
        refine M1 rfl rfl (fun h7=>?_) (fun h7=>by exfalso;omega)
        refine Be [_,_,_,_,_,_,_] rfl ?_
        refine Ab rfl (E0 0 (i) rfl rfl rfl Bj rfl (by omega) fun z1 hz1 b2 o1=>?_)
        obtain rfl:_=z1:=Option.some.inj (at_z.symm.trans hz1)
        refine Ab rfl (Aj 0 rfl rfl Bm fun ⟨r1,r2⟩=>?_)
        refine Au it 1 rfl (by simp) ?_
        refine Be [_,_,_,_,_,_,_] rfl ?_
        refine Au it 3 rfl (by simp) ?_
        refine Bp (t:=39) rfl (fun h8=>?_) (fun h8=>by exfalso;omega)
        refine Au it 5 rfl (by simp) ?_
        refine Be [_,_,_,_,_,_] rfl ?_
        refine Sf rfl rfl ?_
        refine Be [_,_,_,_,_,_,_] rfl ?_
        refine Au it 1 rfl (by simp) ?_
        refine Be [_,_,_,_,_,_] rfl ?_
        exact ge
       ·refine wk 13 cz ?_
        intro h7 b2 o1 hz1 _ r1 r2
        refine Bp (t:=39) rfl (fun h8=>by exfalso;omega) (fun h8=>?_)
        refine wk 9 cz ?_
        intro h9
        exact ge
     ·obtain rfl:i=md.length:=by omega
      rw [List.drop_length,List.all_nil] at he
      subst he
      refine wk 7 cz ?_
      intro h7
      exact ge
    ·rw [no fun h=>h3 (h.2.2.2 hM).1]
     refine wk 36 (ct @Du (ct @Ey cz)) ?_
     intro b1 h4 h5 h6
     exact ge
  ·have Ey:=Rj hp2 (by omega) (res:=false) ⟨fun h=>(by cases h),fun h=>absurd h h2⟩
   rw [no fun h=>h2 h.2.1]
   refine wk 21 (ct @Du (ct @Ey cz)) ?_
   intro b1 h3
   exact ge
 ·have ho:Jb P M=0:=by rw [Jb,if_neg h1]
  rw [no fun h=>h1 h.1]
  refine wk 15 (ct @Du cz) ?_
  intro b1
  exact ge
theorem Xi {p:Nat}(hp:2≤p) {f:List Int}(hf:1≤f.length):Rng (p ^ f.length) (fA p f.length) (fM p f):=by
 have hp0:0<p:=by omega
 generalize hm:f.length=m at *
 have hq:1<p ^ m:=Nat.one_lt_pow (by omega) hp
 have uc:∀ {u v:Vz},(cg p fun j=>u j-v j)→un p m u=un p m v:=fun h=>Gc fun j _=>h j
 have mo:∀ {u v:Vz},(∀ j,m≤j→v j=0)→∀ j,m≤j→Co f u v j=0:=fun hv=>by rw [← hm] at hv ⊢;exact ACM hv
 have mcm:∀ {u v:Vz},(∀ j,m≤j→u j=0)→(∀ j,m≤j→v j=0)→Co f u v=Co f v u:=fun hu hv=>by rw [← hm] at hu hv;exact Oq hu hv
 have fMe:∀ x y,fM p f x y=un p m (Co f (C3 p m x) (C3 p m y)):=fun x y=>by rw [fM,hm]
 have mass:∀ {u v w:Vz},(∀ j,m≤j→u j=0)→(∀ j,m≤j→v j=0)→(∀ j,m≤j→w j=0)→Co f (Co f u v) w=Co f u (Co f v w):=fun {u v w} hu hv hw=>by
  rw [mcm (mo hv) hw,mcm hv hw]
  exact Kg (Ed f) _ _ _
 refine ⟨by omega,fun x y _ _=>Xr hp0 _,fun x y _ _=>?_,fun x y z _ _ _=>?_,fun x hx=>?_,fun x hx=>?_,fun x y _ _=>by rw [fMe];exact Xr hp0 _,fun x y _ _=>?_,fun x y z _ _ _=>?_,fun x y z _ _ _=>?_,fun x hx=>?_⟩
 ·exact congrArg (un p m) (funext fun j=>Int.add_comm _ _)
 ·refine Gc fun j hj=>?_
  have h1:=Dj hp0 (fun j=>C3 p m x j+C3 p m y j) hj
  have h2:=Dj hp0 (fun j=>C3 p m y j+C3 p m z j) hj
  have:=Int.dvd_sub h1 h2
  rw [fA,fA]
  exact Er this (by omega)
 ·rw [fA,show (fun j=>C3 p m x j+C3 p m 0 j)=C3 p m x from funext fun j=>by rw [Hl];omega]
  exact Q4 hp0 hx
 ·refine ⟨un p m fun j=>-C3 p m x j,Xr hp0 _,?_⟩
  rw [fA]
  have:un p m (fun j=>C3 p m x j+C3 p m (un p m fun j=>-C3 p m x j) j)=un p m (C3 p m 0):=Gc fun j hj=>by
   have h1:=Dj hp0 (fun j=>-C3 p m x j) hj
   rw [Hl]
   exact Er h1 (by omega)
  rw [this,Q4 hp0 (by omega)]
 ·rw [fMe,fMe,mcm (rp p m x) (rp p m y)]
 ·rw [fMe,fMe,fMe,fMe]
  have e1:un p m (Co f (C3 p m (un p m (Co f (C3 p m x) (C3 p m y)))) (C3 p m z))=un p m (Co f (Co f (C3 p m x) (C3 p m y)) (C3 p m z)):=by
   rw [mcm (rp p m _) (rp p m z),mcm (mo (rp p m y)) (rp p m z)]
   exact uc (Nn _ (Ib hp0 (mo (rp p m y))))
  have e2:un p m (Co f (C3 p m x) (C3 p m (un p m (Co f (C3 p m y) (C3 p m z)))))=un p m (Co f (C3 p m x) (Co f (C3 p m y) (C3 p m z))):=uc (Nn _ (Ib hp0 (mo (rp p m z))))
  rw [e1,e2,mass (rp p m x) (rp p m y) (rp p m z)]
 ·rw [fMe,fMe,fMe,fA,fA]
  have e1:un p m (Co f (C3 p m x) (C3 p m (un p m fun j=>C3 p m y j+C3 p m z j)))=un p m (Co f (C3 p m x) (fun j=>C3 p m y j+C3 p m z j)):=uc (Nn _ (Ib hp0 (AEn (rp p m y) (rp p m z))))
  rw [e1,(Vt f _).add]
  refine Gc fun j hj=>?_
  have h1:=Dj hp0 (Co f (C3 p m x) (C3 p m y)) hj
  have h2:=Dj hp0 (Co f (C3 p m x) (C3 p m z)) hj
  have h3:=Int.dvd_add h1 h2
  exact Er (Int.dvd_neg.2 h3) (by omega)
 ·rw [fMe,AED hp hf,Co,Pg (g:=f) (fun j hj=>rp p m x j (by omega)),Q4 hp0 hx]
theorem AA8 {l:List Int}{k:Nat}(h:l.length=k+1):Ec l k=l.getLastD 0:=by
 have h1:=On (l:=l) (by omega)
 have h2:l.dropLast.length=k:=by rw [List.length_dropLast];omega
 conv=>lhs;rw [h1]
 rw [Ec,List.getD_eq_getElem?_getD,List.getElem?_append_right (by omega),h2,Nat.sub_self];rfl
theorem AI1 {p:Nat}(hp:2≤p) {f g:List Int}(hnz:∀ x y,x<p ^ f.length→y<p ^ f.length→fM p f x y=0→x=0∨y=0) (hg:1≤g.length) (hgf:g.length<f.length):¬ cg p (Bl (Xg g) (f++[1]) Bs):=by
 intro hc
 have hp0:0<p:=by omega
 let d:=g.length
 let A:=(f++[1]).take (f.length+1-d)
 let r0:=(f++[1]).drop (f.length+1-d)
 have hA:A.length=f.length+1-d:=by simp only [A,List.length_take,List.length_append,List.length_singleton];omega
 have hr0:r0.length=d:=by simp only [r0,List.length_drop,List.length_append,List.length_singleton];omega
 have hAr:f++[1]=A++r0:=(List.take_append_drop _ _).symm
 have hlast:r0.getLastD 0=1:=by
  have h3:r0=(f.drop (f.length+1-d))++[1]:=by
   simp only [r0]
   rw [List.drop_append_of_le_length (by omega)]
  rw [h3];simp
 obtain ⟨q1,q2⟩:=V1 (g:=g) (F:=A) (r0:=r0) hg hr0
 have ev:=fun {Y:Vz→Vz}(hY:Xk Y) (w:Vz)=>ABC hY (g:=g) hg w (F:=A) (r0:=r0) hr0
 have qt:=Z7 g (F:=A) (r0:=r0) (by omega)
 rw [hlast] at qt
 rw [← hAr] at ev
 generalize (Nw g A r0).1=s at *
 generalize (Nw g A r0).2=r at *
 have hX:=Ed f
 have hr:∀ x∈r,(p:Int)∣x:=by
  rw [ev (Ed g) Bs,Si hg,(K3 (Ed g) s).zero,Oc (show r.length≤g.length by omega)] at hc
  intro x hx
  obtain ⟨i,hi⟩:=List.getElem?_of_mem hx
  have:=hc i
  have e:(0:Int)+Ec r i=x:=by rw [Ec,List.getD_eq_getElem?_getD,hi,Int.zero_add];rfl
  exact Er this e
 have hs:cg p (Bl (Xg f) s (Bl (Xg f) (g++[1]) Bs)):=by
  have h3:=ev hX Bs
  rw [Si (show 1≤f.length by omega)] at h3
  refine fun j=>?_
  have h5:(0:Int)=Bl (Xg f) s (Bl (Xg f) (g++[1]) Bs) j+Bl (Xg f) r Bs j:=congrFun h3 j
  exact Er (Int.dvd_neg.2 (Yl hX Bs hr j)) (by omega)
 have es:Bl (Xg f) s Bs=Ec s:=Oc (by omega)
 have eg:Bl (Xg f) (g++[1]) Bs=Ec (g++[1]):=Oc (by simp;omega)
 have os:∀ j,f.length≤j→Ec s j=0:=fun j hj=>Lf (by omega)
 have og:∀ j,f.length≤j→Ec (g++[1]) j=0:=fun j hj=>Lf (by simp;omega)
 have hm:cg p (Co f (Ec s) (Ec (g++[1]))):=by
  have e:Co f (Ec s) (Ec (g++[1]))=Bl (Xg f) s (Bl (Xg f) (g++[1]) Bs):=by
   rw [Co,← eg,Kg hX,Pg os,← es,Kg hX]
  rw [e];exact hs
 have h0:fM p f (un p f.length (Ec s)) (un p f.length (Ec (g++[1])))=0:=by
  rw [fM]
  have e1:un p f.length (Co f (C3 p f.length (un p f.length (Ec s))) (C3 p f.length (un p f.length (Ec (g++[1])))))=un p f.length (Co f (C3 p f.length (un p f.length (Ec s))) (Ec (g++[1]))) :=
   Gc fun j _=>Nn _ (Ib hp0 og) j
  have e2:un p f.length (Co f (C3 p f.length (un p f.length (Ec s))) (Ec (g++[1])))=un p f.length (Co f (Ec s) (Ec (g++[1]))):=by
   rw [Oq (rp p f.length _) og,Oq os og]
   exact Gc fun j _=>Nn _ (Ib hp0 os) j
  have e3:un p f.length (Co f (Ec s) (Ec (g++[1])))=un p f.length (C3 p f.length 0):=Gc fun j _=>by
   rw [Hl,Int.sub_zero];exact hm j
  rw [e1,e2,e3,Q4 hp0 (Nat.pow_pos hp0)]
 have no1:¬ (p:Int)∣1:=fun h=>by
  have:=Int.le_of_dvd (by decide) h
  omega
 rcases hnz _ _ (Xr hp0 _) (Xr hp0 _) h0 with h|h
 ·have h1:=Dj hp0 (Ec s) (show f.length-d<f.length by show f.length-g.length<f.length;omega)
  rw [h,Hl,AA8 (by omega),qt] at h1
  exact no1 (Er (Int.dvd_neg.2 h1) (by decide))
 ·have h1:=Dj hp0 (Ec (g++[1])) (j:=g.length) (by omega)
  have h2:Ec (g++[1]) g.length=1:=by
   rw [AA8 (l:=g++[1]) (k:=g.length) (by simp)];simp
  rw [h,Hl,h2] at h1
  exact no1 (Er (Int.dvd_neg.2 h1) (by decide))
def hoF (p m:Nat) (f a:List Int) (c:Int) (r:List Int):List Int:=(List.range m).map fun j=>((if j=0 then 0 else r.getD (j-1) 0)+((p:Int)-r.getD (m-1) 0)*f.getD j 0+c*a.getD j 0) % p
theorem ACc (p m:Nat) (f a:List Int) (c:Int) (r:List Int):(hoF p m f a c r).length=m:=by simp [hoF]
theorem AIb {p m:Nat}(hp:0<p) (f a:List Int) (c:Int) (r:List Int):∀ x∈hoF p m f a c r,0≤x∧x<p:=fun x hx=>by
 obtain ⟨j,_,rfl⟩:=List.mem_map.1 hx
 exact ⟨Int.emod_nonneg _ (by omega),Int.emod_lt_of_pos _ (by omega)⟩
theorem AJa {p m:Nat}{f a r:List Int}(hf:f.length=m) (ha:a.length=m) (c:Int):cg p fun j=>Ec (hoF p m f a c r) j-(c*Ec a j+Xg f (Ec r) j):=by
 intro j
 by_cases hj:j<m
 ·have e:Ec (hoF p m f a c r) j=((if j=0 then 0 else r.getD (j-1) 0)+((p:Int)-r.getD (m-1) 0)*f.getD j 0+c*a.getD j 0) % p:=by
   rw [Ec,hoF,List.getD_eq_getElem?_getD,List.getElem?_map,List.getElem?_range hj];rfl
  show (p:Int)∣Ec (hoF p m f a c r) j-(c*Ec a j+Xg f (Ec r) j)
  have h8:=Int.emod_add_mul_ediv ((if j=0 then 0 else r.getD (j-1) 0)+((p:Int)-r.getD (m-1) 0)*f.getD j 0+c*a.getD j 0) p
  rw [e,Xg,if_pos (show j<f.length by omega),hf]
  generalize ((if j=0 then 0 else r.getD (j-1) 0)+((p:Int)-r.getD (m-1) 0)*f.getD j 0+c*a.getD j 0) / (p:Int)=k at h8
  refine ⟨f.getD j 0-k,?_⟩
  have e2:∀ i,Ec r i=r.getD i 0:=fun i=>rfl
  have e3:Ec a j=a.getD j 0:=rfl
  rw [e3,e2,e2]
  generalize ((if j=0 then 0 else r.getD (j-1) 0)+((p:Int)-r.getD (m-1) 0)*f.getD j 0+c*a.getD j 0) % (p:Int)=z at *
  grind
 ·show (p:Int)∣Ec (hoF p m f a c r) j-(c*Ec a j+Xg f (Ec r) j)
  rw [Lf (by rw [ACc];omega),Lf (by omega),AGP (by omega)]
  exact ⟨0,by simp⟩
def Xv (p m:Nat) (f a:List Int):List Int→List Int
 | []=>List.replicate m 0
 | c::b=>hoF p m f a c (Xv p m f a b)
theorem AER (p m:Nat) (f a:List Int):∀ b,(Xv p m f a b).length=m
 | []=>by simp [Xv]
 | c::b=>ACc ..
theorem AEo {p m:Nat}(hp:0<p) (f a:List Int):∀ b,∀ x∈Xv p m f a b,0≤x∧x<p
 | [],x,hx=>by
  rw [Xv] at hx
  rw [(List.mem_replicate.1 hx).2];omega
 | c::b,x,hx=>AIb hp f a c _ x hx
theorem AG1 {p m:Nat}{f a:List Int}(hf:f.length=m) (ha:a.length=m):∀ b,cg p fun j=>Ec (Xv p m f a b) j-Bl (Xg f) b (Ec a) j
 | []=>fun j=>by
  have:Ec (List.replicate m (0:Int)) j=0:=by
   rw [Ec,List.getD_eq_getElem?_getD]
   cases e:(List.replicate m (0:Int))[j]? with
   | none=>rfl
   | some x=>exact (List.mem_replicate.1 (List.mem_of_getElem? e)).2
  show (p:Int)∣Ec (List.replicate m 0) j-0
  rw [this];exact ⟨0,by simp⟩
 | c::b=>fun j=>by
  have h1:=AJa (p:=p) (r:=Xv p m f a b) hf ha c j
  have h2:cg p fun j=>Xg f (Ec (Xv p m f a b)) j-Xg f (Bl (Xg f) b (Ec a)) j:=by
   have h3:=AAd (Ed f) (AG1 (p:=p) hf ha b)
   have e:=Ed f 1 (-1) (Ec (Xv p m f a b)) (Bl (Xg f) b (Ec a))
   have e1:(fun j=>1*Ec (Xv p m f a b) j+-1*Bl (Xg f) b (Ec a) j)=fun j=>Ec (Xv p m f a b) j-Bl (Xg f) b (Ec a) j:=by funext j;omega
   rw [e1] at e
   rw [e] at h3
   intro j
   have h4:(p:Int)∣1*Xg f (Ec (Xv p m f a b)) j+-1*Xg f (Bl (Xg f) b (Ec a)) j:=h3 j
   show (p:Int)∣Xg f (Ec (Xv p m f a b)) j-Xg f (Bl (Xg f) b (Ec a)) j
   exact Er h4 (by omega)
  have h1:(p:Int)∣Ec (hoF p m f a c (Xv p m f a b)) j-(c*Ec a j+Xg f (Ec (Xv p m f a b)) j):=h1
  have h4:(p:Int)∣Xg f (Ec (Xv p m f a b)) j-Xg f (Bl (Xg f) b (Ec a)) j:=h2 j
  show (p:Int)∣Ec (hoF p m f a c (Xv p m f a b)) j-(c*Ec a j+Xg f (Bl (Xg f) b (Ec a)) j)
  exact Er (Int.dvd_add h1 h4) (by omega)
theorem AIv {p:Nat}(hp:0<p) {f:List Int}(x y:Nat):Fz p ((Xv p f.length f (Bz (Dh p f.length x)) (Bz (Dh p f.length y))).map Int.toNat)=fM p f x y:=by
 have hl:=AER p f.length f (Bz (Dh p f.length x)) (Bz (Dh p f.length y))
 have hr:=AEo hp f (m:=f.length) (Bz (Dh p f.length x)) (Bz (Dh p f.length y))
 have hc:=AG1 (p:=p) (f:=f) rfl (show (Bz (Dh p f.length x)).length=f.length by rw [Cn,Di]) (Bz (Dh p f.length y))
 rw [fM]
 have e1:Co f (C3 p f.length x) (C3 p f.length y)=Bl (Xg f) (Bz (Dh p f.length y)) (Ec (Bz (Dh p f.length x))):=by
  rw [Oq (rp p _ x) (rp p _ y),Co]
  congr 1
  refine List.ext_getElem (by simp [Cn,Di]) fun i h1 h2=>?_
  rw [List.getElem_map,List.getElem_range,C3,Ec,List.getD_eq_getElem?_getD,List.getElem?_eq_getElem h2];rfl
 rw [e1]
 rw [un]
 congr 1
 refine List.ext_getElem (by simp [hl]) fun i h1 h2=>?_
 rw [List.getElem_map,List.getElem_map,List.getElem_range]
 have hi:i<(Xv p f.length f (Bz (Dh p f.length x)) (Bz (Dh p f.length y))).length:=by simpa using h1
 have h3:=hr _ (List.getElem_mem hi)
 have h4:(p:Int)∣Ec (Xv p f.length f (Bz (Dh p f.length x)) (Bz (Dh p f.length y))) i-Bl (Xg f) (Bz (Dh p f.length y)) (Ec (Bz (Dh p f.length x))) i:=hc i
 rw [Ec,List.getD_eq_getElem?_getD,List.getElem?_eq_getElem hi] at h4
 have h5:(Xv p f.length f (Bz (Dh p f.length x)) (Bz (Dh p f.length y)))[i] % (p:Int)=Bl (Xg f) (Bz (Dh p f.length y)) (Ec (Bz (Dh p f.length x))) i % (p:Int):=Int.emod_eq_emod_iff_emod_sub_eq_zero.2 (Int.emod_eq_zero_of_dvd h4)
 rw [← h5,Int.emod_eq_of_lt h3.1 h3.2]
theorem AEi (l:List Nat) (i z:Nat):Bz (l.set i z)=(Bz l).set i (z:Int):=by simp [Bz,List.map_set]
theorem O5 {l:List Nat}{i:Nat}:(Bz l).getD i 0=((l.getD i 0:Nat):Int):=by
 rw [Bz,List.getD_eq_getElem?_getD,List.getD_eq_getElem?_getD,List.getElem?_map]
 cases l[i]? <;> rfl
theorem Xm {l:List Nat}{i:Nat}(h:i<l.length):l[i]?=some (l.getD i 0):=by
 rw [List.getD_eq_getElem?_getD,List.getElem?_eq_getElem h];rfl
theorem AA5 (n:Nat):Bz (List.replicate n 0)=List.replicate n 0:=by simp [Bz]
theorem Gf {p m nm cm:Nat}{md:List Int}{pm:Option Addr}(K:Fok p m md) {x y:Int}(x0:0≤x) (x1:x<((p ^ m:Nat):Int)) (y0:0≤y) (y1:y<((p ^ m:Nat):Int)) :
  Br Tryz.prog 115 [.agg #[.int .i64 p,.int .i64 m,.slice pm nm cm],.int .i64 x,.int .i64 y] [] [A2 Ak pm nm cm md] (Rv (.int .i64 (Aq (fM p (Cc m md)) x y)) []):=by
 refine Ad (F:=R5) rfl fun C=>?_
 have h1:=K.p2
 have h2:=K.p256
 have h3:=K.m8
 have h4:=K.q
 have h5:=K.m1
 have lx:=Di p m x.toNat
 have ly:=Di p m y.toNat
 have fl:=K.flen
 have md0:=AHr (p:=p) (by omega) (f:=Cc m md) (by omega) x.toNat y.toNat
 rw [fl] at md0
 have xr:=fun d hd=>Kw (p:=p) (n:=m) (x:=x.toNat) (by omega) d hd
 have yr:=fun d hd=>Kw (p:=p) (n:=m) (x:=y.toNat) (by omega) d hd
 have eR:Aq (fM p (Cc m md)) x y=((Fz p ((List.range m).map fun j=>(Co (Cc m md) (C3 p m x.toNat) (C3 p m y.toNat) j % p).toNat):Nat):Int):=by
  rw [Aq,fM,un,fl]
 rw [eR]
 clear eR
 refine Bd 0 rfl fun hn _ _=>?_
 subst hn
 generalize hT:(List.range m).map (fun j=>(Co (Cc m md) (C3 p m x.toNat) (C3 p m y.toNat) j % p).toNat)=T at *
 have lT:T.length=m:=by rw [← hT];simp
 have rT:∀ d∈T,d<p:=fun d hd=>by rw [← hT] at hd;exact ABr (by omega) _ d hd
 clear hT
 have ep:p ^ T.length≤1000000:=by rw [lT];omega
 have Hn:=fun {z:Int}(z0:0≤z) (z1:z<((p ^ m:Nat):Int))=>Dv (nm:=md.length) (cm:=cm) (pm:=pm) K z0 z1
 refine wk 22 (ct @Hn (ct @Hn cz)) ?_
 intro b1 b2 b3 b4
 generalize hDX:Dh p m x.toNat=DX at *
 generalize hDY:Dh p m y.toNat=DY at *
 have mL:=Vf p m (Bz DX) (Bz DY)
 have mR:=Zv (p:=p) (by omega) m (Bz DX) (Bz DY)
 refine Ag (X:=Nat×List Nat) [3,6,7,8,9] [0] (fun x=>[(10,.int .i64 (x.1:Int))]) (fun x=>[(some b4,3,Ap .i64 x.2),(some b3,3,Ap .i64 DY),(some b2,3,Ap .i64 DX),(some b1,24,[.int .i64 p,.int .i64 m,.slice pm md.length cm])]) (fun _=>[])
  (fun x=>x.1≤m∧Bz x.2=Uf p m (Bz DX) (Bz DY) x.1) (fun x=>m-x.1) (0,List.replicate (2*m-1) 0) [] rfl rfl rfl ⟨Nat.zero_le _,AA5 _⟩ (by repeat (first|exact Fr.sub_nil _|refine Fr.sub_cons rfl ?_)) rfl rfl ?_
 rintro ⟨i,L⟩ ⟨hi,hL⟩ ih
 simp only [List.cons_append,List.nil_append] at hi hL ih ⊢
 by_cases hil:i<m
 ·refine wk 10 cz ?_
  intro h6
  have ihn:=fun l h=>ih (i+1,l) (by dsimp only;omega) ⟨by dsimp only;omega,h⟩
  simp only [Uf] at ihn
  rw [← hL] at ihn
  have lL:L.length=2*m-1:=by rw [← Cn,hL,mL]
  have rL:∀ z∈Bz L,0≤z∧z<(p:Int):=by rw [hL];exact mR i
  have zx:=Xm (l:=DX) (i:=i) (by omega)
  have bx:=xr _ (List.mem_of_getElem? zx)
  rw [O5] at ihn
  generalize DX.getD i 0=u at *
  refine Ag (X:=Nat×List Nat) [3,6,7,8,9,10,25,26,27,28] [0] (fun x=>[(11,.int .i64 (x.1:Int))]) (fun x=>[(some b4,3,Ap .i64 x.2),(some b3,3,Ap .i64 DY),(some b2,3,Ap .i64 DX),(some b1,24,[.int .i64 p,.int .i64 m,.slice pm md.length cm])]) (fun _=>[])
   (fun x=>x.1≤m∧Bz x.2=D3 p (u:Int) (Bz DY) i x.1 (Bz L)) (fun x=>m-x.1) (0,L) [] rfl rfl rfl ⟨Nat.zero_le _,rfl⟩ (by repeat (first|exact Fr.sub_nil _|refine Fr.sub_cons rfl ?_)) rfl rfl ?_
  rintro ⟨j,S⟩ ⟨hj,hS⟩ ihj
  simp only [List.cons_append,List.nil_append] at hj hS ihj ⊢
  by_cases hjl:j<m
  ·have lS:S.length=2*m-1:=by rw [← Cn,hS,G0,Cn,lL]
   have rS:=Ju (p:=p) (by omega) (u:Int) (Bz DY) i rL j
   rw [← hS] at rS
   have ihj':=fun l h=>ihj (j+1,l) (by dsimp only;omega) ⟨by dsimp only;omega,h⟩
   simp only [D3] at ihj'
   rw [← hS] at ihj'
   simp only [O5] at ihj'
   have zy:=Xm (l:=DY) (i:=j) (by omega)
   have by':=yr _ (List.mem_of_getElem? zy)
   have zs:=Xm (l:=S) (i:=i+j) (by omega)
   have bs:=rS _ (List.mem_of_getElem? (Js zs))
   generalize DY.getD j 0=v at *
   generalize S.getD (i+j) 0=s at *
   have huv:u*v≤65536:=Nat.le_trans (Nat.mul_le_mul (show u≤256 by omega) (show v≤256 by omega)) (by decide)
   have huv':(u:Int)*(v:Int)=((u*v:Nat):Int):=by omega
   have hb0:0≤(u:Int)*(v:Int)∧(u:Int)*(v:Int)≤65536:=by omega
   have em:((s:Int)+(u:Int)*(v:Int)) % (p:Int)=(((s+u*v) % p:Nat):Int):=by rw [huv',← Int.natCast_add,← Int.natCast_emod]
   have hmod:(s+u*v) % p<p:=Nat.mod_lt _ (by omega)
   refine wk 14 cz ?_
   intro h7
   exact tw (ihj' (S.set (i+j) ((s+u*v) % p)) (by rw [AEi,← em]))
  ·obtain rfl:j=m:=by omega
   refine wk 10 cz ?_
   intro h7
   exact tw (ihn S hS)
 ·obtain rfl:i=m:=by omega
  clear ih
  rw [← hL] at md0
  have lL:L.length=2*i-1:=by rw [← Cn,hL,mL]
  have rL:∀ z∈Bz L,0≤z∧z<(p:Int):=by rw [hL];exact mR i
  clear hL mL mR
  have kL:=V5 p (Cc i md) (Bz L)
  have kR:=Y7 (p:=p) (by omega) (Cc i md) rL
  have tl:(Bz L).length=2*i-1:=by rw [Cn,lL]
  rw [tl] at kL
  refine wk 12 cz ?_
  intro h6
  refine Ag (X:=Nat×List Nat) [3,6,9] [0] (fun x=>[(12,.int .i64 (2*(i:Int)-2-(x.1:Int)))]) (fun x=>[(some b4,3,Ap .i64 x.2),(some b3,3,Ap .i64 DY),(some b2,3,Ap .i64 DX),(some b1,24,[.int .i64 p,.int .i64 i,.slice pm md.length cm])]) (fun _=>[])
   (fun x=>x.1≤i-1∧Bz x.2=Rt p (Cc i md) (Bz L) x.1) (fun x=>i-1-x.1) (0,L) [] rfl rfl rfl ⟨Nat.zero_le _,rfl⟩ (by refine Fr.sub_consI rfl (by simp) ?_;repeat (first|exact Fr.sub_nil _|refine Fr.sub_cons rfl ?_)) rfl rfl ?_
  rintro ⟨n,Z⟩ ⟨hn,hZ⟩ ih
  simp only [List.cons_append,List.nil_append] at hn hZ ih ⊢
  by_cases hnl:n<i-1
  ·have hi1:i≠1:=by omega
   have hfp:Cc i md=md:=if_neg hi1
   have hml:md.length=i:=K.len hi1
   have hrm:=K.rng
   refine wk 10 cz ?_
   intro h7
   have ihn:=fun l h=>ih (n+1,l) (by dsimp only;omega) ⟨by dsimp only;omega,h⟩
   simp only [Rt] at ihn
   rw [← hZ,tl,hfp,O5,show 2*i-1-1-n=2*i-2-n by omega] at ihn
   have lZ:Z.length=2*i-1:=by rw [← Cn,hZ,kL]
   have rZ:∀ z∈Bz Z,0≤z∧z<(p:Int):=by rw [hZ];exact kR n
   have zc:=Xm (l:=Z) (i:=2*i-2-n) (by omega)
   have bc:=rZ _ (List.mem_of_getElem? (Js zc))
   generalize hcv:Z.getD (2*i-2-n) 0=c at *
   have hpc:(p:Int)-(c:Int)=((p-c:Nat):Int):=by omega
   rw [hpc] at ihn
   refine Ag (X:=Nat×List Nat) [3,6,9,12,65,66,67,68] [0] (fun x=>[(13,.int .i64 (x.1:Int))]) (fun x=>[(some b4,3,Ap .i64 x.2),(some b3,3,Ap .i64 DY),(some b2,3,Ap .i64 DX),(some b1,24,[.int .i64 p,.int .i64 i,.slice pm md.length cm])]) (fun _=>[])
    (fun x=>x.1≤i∧Bz x.2=D3 p ((p-c:Nat):Int) md (2*i-2-n-i) x.1 (Bz Z)) (fun x=>i-x.1) (0,Z) [] rfl rfl rfl ⟨Nat.zero_le _,rfl⟩ (by repeat (first|exact Fr.sub_nil _|refine Fr.sub_cons rfl ?_)) rfl rfl ?_
   rintro ⟨j,S⟩ ⟨hj,hS⟩ ihj
   simp only [List.cons_append,List.nil_append] at hj hS ihj ⊢
   by_cases hjl:j<i
   ·have lS:S.length=2*i-1:=by rw [← Cn,hS,G0,Cn,lZ]
    have rS:=Ju (p:=p) (by omega) ((p-c:Nat):Int) md (2*i-2-n-i) rZ j
    rw [← hS] at rS
    have oS:=Xb p ((p-c:Nat):Int) md (2*i-2-n-i) (Bz Z) (i:=2*i-2-n) j (by omega)
    rw [← hS,O5,O5,hcv] at oS
    have ihj':=fun l h=>ihj (j+1,l) (by dsimp only;omega) ⟨by dsimp only;omega,h⟩
    simp only [D3] at ihj'
    rw [← hS] at ihj'
    simp only [O5] at ihj'
    have hdd:md.getD j 0=md.getD j default:=rfl
    rw [hdd] at ihj'
    have zm:md[j]?=some (md.getD j default):=by rw [List.getD_eq_getElem?_getD,List.getElem?_eq_getElem (by omega)];rfl
    have bm:=hrm _ (List.mem_of_getElem? zm)
    have zi:=Xm (l:=S) (i:=2*i-2-n) (by omega)
    rw [show S.getD (2*i-2-n) 0=c by omega] at zi
    have zs:=Xm (l:=S) (i:=2*i-2-n-i+j) (by omega)
    have bs:=rS _ (List.mem_of_getElem? (Js zs))
    generalize S.getD (2*i-2-n-i+j) 0=s at *
    have hb0:0≤((p-c:Nat):Int)*md.getD j default:=Int.mul_nonneg (by omega) bm.1
    have hb1:((p-c:Nat):Int)*md.getD j default≤65536:=Int.le_trans (Int.mul_le_mul (show ((p-c:Nat):Int)≤256 by omega) (show md.getD j default≤256 by omega) bm.1 (by decide)) (by decide)
    have em0:0≤((s:Int)+((p-c:Nat):Int)*md.getD j default) % (p:Int):=Int.emod_nonneg _ (by omega)
    have em1:((s:Int)+((p-c:Nat):Int)*md.getD j default) % (p:Int)<p:=Int.emod_lt_of_pos _ (by omega)
    refine wk 10 cz ?_
    intro h8 b5 o1
    refine Ab rfl (Tn 0 (((s)+((p-c)*((md.getD j default:Int).toNat))) % (p)) rfl rfl rfl Bm ?_ ?_ ?_)
    ·rw [Int.natCast_emod,Int.natCast_add,Int.natCast_mul,Int.toNat_of_nonneg bm.1]
    ·rw [lS];omega
    refine wk 3 cz ?_
    exact tw (ihj' (S.set (2*i-2-n-i+j) ((s+(p-c)*(md.getD j default).toNat) % p)) (by rw [AEi,Int.natCast_emod,Int.natCast_add,Int.natCast_mul,Int.toNat_of_nonneg bm.1]))
   ·obtain rfl:j=i:=by omega
    refine wk 10 cz ?_
    intro h8
    exact tw (ihn S (by rw [hml];exact hS))
  ·obtain rfl:n=i-1:=by omega
   rw [← hZ] at md0
   have lZ:Z.length=2*i-1:=by rw [← Cn,hZ,kL]
   have rZ:∀ z∈Bz Z,0≤z∧z<(p:Int):=by rw [hZ];exact kR (i-1)
   have H7:=fun {pd:Option Addr}{cd:Nat}=>Fi (P:=(p:Int)) (M:=(i:Int)) (pm:=pm) (pd:=pd) (nm:=md.length) (cm:=cm) (nd:=i) (cd:=cd) (p:=p) (l:=T) rfl (by omega) h2 rT ep
   rw [← md0] at H7
   rw [G1 .i64 Z]
   refine Gn 8 (Bz Z) 0 rfl (by rw [Cn,lZ]) (fun z hz=>by have:=rZ z hz;simp only [Bf];omega) (by omega) (by omega) ?_
   simp only [List.eraseIdx_cons_zero]
   generalize (some (⟨b4,0,none⟩:Addr))=pc
   refine wk 8 cz ?_
   intro h7
   (apply Ch it mx 6;(· rfl);(· rfl))
   (apply Ac;(· rfl);(· exact B2 2 rfl rfl AAm rfl))
   (apply Ae 1;(· rfl);(· simp))
   (apply Ac;(· rfl);(· exact Bi fun _=>A3 rfl Xq Af))
   (apply Ac;(· rfl);(· exact Bn 2 rfl rfl Bm rfl))
   (apply Dl;(· rfl);(· exact Bi fun _=>T6 0 (i) rfl rfl rfl Bj (by omega) (by omega) (E7 0 rfl));intro pa1 ca1)
   (apply Ac;(· rfl);(· exact Bi fun _=>Ai [0] rfl (H7) rfl (by rintro _ _ _ ⟨rfl,rfl,rfl⟩;exact Af)))
   refine B7 rfl ?_
   simp only [List.map_cons,List.map_nil,List.cons_append,List.nil_append]
   refine wk 2 cz ?_
   exact ge
structure Shp (p m:Nat) (md:List Int):Prop where
 p2:2≤p
 m1:1≤m
 m8:m≤8
 q:p ^ m≤256
 one:m=1→md=[]
 len:m≠1→md.length=m
 rng:∀ x∈md,0≤x∧x<(p:Int)
theorem Fok.shp {p m:Nat}{md:List Int}(K:Fok p m md):Shp p m md:=⟨K.p2,K.m1,K.m8,K.q,K.one,K.len,K.rng⟩
section
variable {p m:Nat}{md:List Int}(K:Shp p m md)
include K
theorem Shp.p256:p≤256:=Nat.le_trans (Nat.le_self_pow (by have:=K.m1;omega) p) K.q
theorem Shp.flen:(Cc m md).length=m:=by
 unfold Cc
 by_cases h:m=1
 ·rw [if_pos h,h];rfl
 ·rw [if_neg h,K.len h]
end
theorem AHK {T Z S:List Int}{j m:Nat}{z:Int}(hT:T.length=m) (hZ:Z.length=m) (hj:j<m) (hS:S=T.take j++Z.drop j) (hz:T.getD j 0=z):S.set j z=T.take (j+1)++Z.drop (j+1):=by
 rw [hS,List.set_append,if_neg (by rw [List.length_take];omega),List.length_take,Nat.min_eq_left (by omega),Nat.sub_self,List.drop_eq_getElem_cons (by omega),List.set_cons_zero,List.take_succ_eq_append_getElem (by omega),List.append_assoc]
 rw [List.getD_eq_getElem?_getD,List.getElem?_eq_getElem (by omega)] at hz
 rw [← hz];rfl
theorem AHn {R:List Int}{m:Nat}(h:R.length=m) (hm:1≤m):(cpL R 1 0 (m-1)).set 0 0=0::R.take (m-1):=by
 refine List.ext_getElem? fun i=>?_
 have hl:=AEI (cs:=R) (o1:=1) (o2:=0) (n:=m-1) (by omega) (by omega)
 rw [List.getElem?_set]
 by_cases h0:0=i
 ·subst h0
  rw [if_pos rfl,if_pos (by omega)];rfl
 ·rw [if_neg h0,AIq (by omega) (by omega),if_neg (by omega)]
  obtain ⟨i,rfl⟩:∃ k,i=k+1:=⟨i-1,by omega⟩
  rw [List.getElem?_cons_succ,List.getElem?_take]
  by_cases h1:i+1<1+(m-1)
  ·rw [if_pos h1,if_pos (by omega)];congr 1;omega
  ·rw [if_neg h1,if_neg (by omega),List.getElem?_eq_none (by omega)]
theorem AF3 {l:List Int}{i:Nat}(h:i<l.length):l[i]?=some (l.getD i 0):=by
 rw [List.getD_eq_getElem?_getD,List.getElem?_eq_getElem h];rfl
theorem Jm {nm cm:Nat}{pm:Option Addr}{p m:Nat}{md:List Int}(K:Shp p m md) {x y:Nat}(hx:x<p ^ m) (hy:y<p ^ m) :
  Br Tryz.prog 118 [.agg #[.int .i64 p,.int .i64 m,.slice pm nm cm],.int .i64 x,.int .i64 y] [] [A2 Ak pm nm cm md] (Rv (.int .i64 ((fM p (Cc m md) x y:Nat):Int)) []):=by
 refine Ad (F:=W6) rfl fun C=>?_
 have h1:=K.p2
 have h2:=K.p256
 have h3:=K.m8
 have h4:=K.m1
 have hq:=K.q
 have hl:=K.flen
 refine Bd 0 rfl fun en hb _=>?_
 subst en
 have hmul:=AIv (p:=p) (by omega) (f:=Cc m md) x y
 rw [hl] at hmul
 have lx:(Bz (Dh p m x)).length=m:=by rw [Cn,Di]
 have ly:(Bz (Dh p m y)).length=m:=by rw [Cn,Di]
 have rx:∀ z∈Bz (Dh p m x),0≤z∧z<(p:Int):=fun z hz=>by
  obtain ⟨d,hd,rfl⟩:=List.mem_map.1 hz
  have:=Kw (p:=p) (by omega) d hd;omega
 have ry:∀ z∈Bz (Dh p m y),0≤z∧z<(p:Int):=fun z hz=>by
  obtain ⟨d,hd,rfl⟩:=List.mem_map.1 hz
  have:=Kw (p:=p) (by omega) d hd;omega
 have hx9:x≤1000000000:=by omega
 have hy9:y≤1000000000:=by omega
 refine wk 16 (ct @P5 (ct @P5 cz)) ?_
 intro b1 pa1 ca1 pa2 ca2 b2
 generalize Bz (Dh p m x)=DX at *
 generalize Bz (Dh p m y)=DY at *
 generalize fM p (Cc m md) x y=res at *
 rw [G1,AA5]
 have hd0:Xv p m (Cc m md) DX (DY.drop m)=List.replicate m 0:=by
  rw [List.drop_of_length_le (by omega),Xv]
 refine Ag (X:=Nat×List Int) [3,6,7,8,9] [0,1,2] (fun x=>[(10,.int .i64 ((x.1:Int)-1))]) (fun x=>[(some b2,3,Az .i64 x.2),(some b1,24,[.int .i64 p,.int .i64 m,.slice pm md.length cm])]) (fun _=>[])
  (fun x=>x.1≤m∧x.2=Xv p m (Cc m md) DX (DY.drop x.1)) (fun x=>x.1) (m,List.replicate m 0) [] rfl rfl rfl ⟨Nat.le_refl _,hd0.symm⟩ (by repeat (first|exact Fr.sub_nil _|refine Fr.sub_cons rfl ?_)) rfl rfl ?_
 rintro ⟨j,R⟩ ⟨hj,hR⟩ ih
 simp only [List.cons_append,List.nil_append] at hj hR ih ⊢
 have lR:R.length=m:=by rw [hR,AER]
 have rR:∀ z∈R,0≤z∧z<(p:Int):=by rw [hR];exact AEo (by omega) _ _ _
 cases j with
 | zero =>
  rw [List.drop_zero] at hR
  rw [← hR] at hmul
  have eRn:Bz (R.map Int.toNat)=R:=T3 fun z hz=>(rR z hz).1
  have rRn:∀ z∈R.map Int.toNat,z<p:=fun z hz=>by
   obtain ⟨d,hd,rfl⟩:=List.mem_map.1 hz
   have:=rR d hd;omega
  have Ri:=fun {pd:Option Addr}{nd cd:Nat}=>Yf (pd:=pd) (nd:=nd) (cd:=cd) (p:=p) (l:=R.map Int.toNat) (by omega) h2 rRn (by rw [List.length_map,lR];omega)
  rw [hmul,eRn] at Ri
  refine Gn 8 R 0 rfl lR.symm (fun z hz=>by have:=rR z hz;simp only [Bf];omega) (by omega) (by omega) ?_
  simp only [List.eraseIdx_cons_zero]
  refine wk 11 (ct @Ri cz) ?_
  intro h5
  exact ge
 | succ j =>
  have at_v:DY[j]?=some (DY.getD j 0):=AF3 (by omega)
  have bv:=ry _ (List.mem_of_getElem? at_v)
  have eR:Xv p m (Cc m md) DX (DY.drop j)=hoF p m (Cc m md) DX (DY.getD j 0) R:=by
   have hjl:j<DY.length:=by omega
   rw [List.drop_eq_getElem_cons hjl,Xv,← hR,show DY[j]=DY.getD j 0 from Option.some.inj ((List.getElem?_eq_getElem hjl).symm.trans at_v)]
  have ih':=fun l (h:l=hoF p m (Cc m md) DX (DY.getD j 0) R)=>ih (j,l) (by dsimp only;omega) ⟨by dsimp only;omega,by dsimp only;rw [eR];exact h⟩
  dsimp only at ih'
  have lT:=ACc p m (Cc m md) DX (DY.getD j 0) R
  have at_t:R[m-1]?=some (R.getD (m-1) 0):=AF3 (by omega)
  have rt:=rR _ (List.mem_of_getElem? at_t)
  have hT:∀ i,i<m→(hoF p m (Cc m md) DX (DY.getD j 0) R).getD i 0=((if i=0 then 0 else R.getD (i-1) 0)+((p:Int)-R.getD (m-1) 0)*(Cc m md).getD i 0+DY.getD j 0*DX.getD i 0) % p:=fun i hi=>by
   rw [hoF,List.getD_eq_getElem?_getD,List.getElem?_map,List.getElem?_range hi];rfl
  generalize hoF p m (Cc m md) DX (DY.getD j 0) R=T at *
  generalize hvv:DY.getD j 0=v at *
  generalize htop:R.getD (m-1) 0=top at *
  have hcl:(cpL R (1*1) 0 (m-1)).length=m:=by rw [AEI (by omega) (by omega),lR]
  refine wk 10 cz ?_
  intro h5
  refine Ab rfl (ABg 0 rfl rfl Bm (by first|omega|(simp;omega)) fun z1 hz1=>?_)
  obtain rfl:_=z1:=Option.some.inj (at_t.symm.trans hz1)
  refine wk 2 cz ?_
  (refine Xo [0,1] rfl rfl ?_;apply AAa it mx 1 8;(· rfl);(· rfl);(· rfl))
  (apply Ae 1;(· rfl);(· simp))
  (apply Ac;(· rfl);(· exact Bi fun _=>AAp (1) rfl rfl Bj (by omega) (by omega) (by omega) Af))
  (apply Ae 1;(· rfl);(· simp))
  (apply Ac;(· rfl);(· exact Bi fun _=>A3 rfl Xq Af))
  (apply Ac;(· rfl);(· exact Bn 0 rfl rfl Bm rfl))
  (apply Ac (v:=Value.int IntKind.i64 ((((m)-1:Nat)):Int));(· rfl);(· exact Bi fun _=>V0 it _ rfl ⟨by omega,by omega⟩ (by omega) Af))
  simp only [Nat.add_sub_cancel]
  (apply Ac;(· rfl);(· exact Bi fun _=>AAs (m-1) rfl rfl Bj (by omega) (by omega) (by omega) Af))
  (apply AHj (o1:=1*1) (o2:=0) (m-1);(· rfl);(· rfl);(· rfl);(· exact Bj);(· first|rfl|exact Nat.min_self _|(show min _ _=_;omega));(· first|exact .inl rfl|exact .inl (by omega)|exact .inr ⟨rfl,rfl⟩|exact .inr ⟨if_neg (by omega),rfl⟩|exact (Nat.eq_zero_or_pos (m-1)).elim .inl fun h=>.inr ⟨if_neg (by omega),rfl⟩);(· first|omega|(simp only [Rn,Hx];omega));(· first|omega|(simp only [Rn,Hx];omega));(· first|exact ACa _ _|exact ABH _ _))
  simp only [AHM,AIr]
  refine B7 rfl ?_
  simp only [List.map_cons,List.map_nil,List.cons_append,List.nil_append]
  refine wk 9 cz ?_
  rw [AHn lR h4]
  have lZ:(0::R.take (m-1)).length=m:=by rw [List.length_cons,List.length_take];omega
  have hZ:∀ i,i<m→(0::R.take (m-1)).getD i 0=if i=0 then 0 else R.getD (i-1) 0:=fun i hi=>by
   cases i with
   | zero=>rfl
   | succ i =>
    rw [if_neg (by omega),Nat.add_sub_cancel,List.getD_cons_succ,List.getD_eq_getElem?_getD,List.getD_eq_getElem?_getD,List.getElem?_take,if_pos (by omega)]
  have rZ:∀ z∈0::R.take (m-1),0≤z∧z<(p:Int):=fun z hz=>by
   rcases List.mem_cons.1 hz with rfl|hz
   ·omega
   ·exact rR z (List.mem_of_mem_take hz)
  generalize 0::R.take (m-1)=Z at *
  refine Ag (X:=Nat×List Int) [3,6,7,8,9,10,11,32,33,36,37,38,39,40,41,42,43,44,45,46,47,48,50,51,52,53] [0,1,2] (fun x=>[(54,.int .i64 (x.1:Int))]) (fun x=>[(some b2,3,Az .i64 x.2),(some b1,24,[.int .i64 p,.int .i64 m,.slice pm md.length cm])]) (fun _=>[])
   (fun x=>x.1≤m∧x.2=T.take x.1++Z.drop x.1) (fun x=>m-x.1) (0,Z) [] rfl rfl rfl ⟨Nat.zero_le _,by simp⟩ (by repeat (first|exact Fr.sub_nil _|refine Fr.sub_cons rfl ?_)) rfl rfl ?_
  rintro ⟨i,S⟩ ⟨hi,hS⟩ ihi
  simp only [List.cons_append,List.nil_append] at hi hS ihi ⊢
  by_cases hil:i<m
  ·have lS:S.length=m:=by rw [hS,List.length_append,List.length_take,List.length_drop];omega
   have zs:=AF3 (l:=S) (i:=i) (by omega)
   have es:S.getD i 0=if i=0 then 0 else R.getD (i-1) 0:=by
    rw [← hZ i hil,hS,List.getD_eq_getElem?_getD,List.getD_eq_getElem?_getD,List.getElem?_append_right (by rw [List.length_take];omega),List.length_take,Nat.min_eq_left (by omega),Nat.sub_self,List.getElem?_drop,Nat.add_zero]
   have hsp:0≤S.getD i 0∧S.getD i 0<(p:Int):=by
    rw [es,← hZ i hil]
    exact rZ _ (List.mem_of_getElem? (AF3 (l:=Z) (i:=i) (by omega)))
   have za:=AF3 (l:=DX) (i:=i) (by omega)
   have ba:=rx _ (List.mem_of_getElem? za)
   have hTi:=hT i hil
   rw [← es] at hTi
   have ihi':=fun (z:Int) (h:T.getD i 0=z)=>ihi (i+1,S.set i z) (by dsimp only;omega) ⟨by dsimp only;omega,AHK lT lZ hil hS h⟩
   generalize S.getD i 0=s at *
   generalize haa:DX.getD i 0=a at *
   have hb0:0≤v*a:=Int.mul_nonneg (by omega) (by omega)
   have hb1:v*a≤65536:=Int.le_trans (Int.mul_le_mul (show v≤256 by omega) (show a≤256 by omega) (by omega) (by decide)) (by decide)
   have gv:DY.getD (j+1-1) default=v:=hvv
   have ga:DX.getD i default=a:=haa
   have hpt:((p-top.toNat:Nat):Int)=(p:Int)-top:=by omega
   have hb2:0≤DY.getD (j+1-1) default*DX.getD i default:=by rw [gv,ga];exact hb0
   have hb3:DY.getD (j+1-1) default*DX.getD i default≤65536:=by rw [gv,ga];exact hb1
   by_cases hm:m=1
   ·have hf:(Cc m md).getD i 0=0:=by
     rw [Cc,if_pos hm]
     obtain rfl:i=0:=by omega
     rfl
    rw [hf] at hTi
    refine wk 21 cz ?_
    intro h6 h7 b3 o1 b4 o2
    exact tw (ihi' ((s+((p-top.toNat:Nat):Int)*0+DY.getD (j+1-1) default*DX.getD i default) % (p:Int)) (by rw [hTi,hpt,gv,ga]))
   ·have hf:(Cc m md)=md:=if_neg hm
    have hml:=K.len hm
    obtain ⟨c,at_c⟩:∃ c,md[i]?=some c:=⟨md[i],List.getElem?_eq_getElem (by omega)⟩
    have bc:=K.rng c (List.mem_of_getElem? at_c)
    have gc:md.getD i 0=c:=by rw [List.getD_eq_getElem?_getD,at_c];rfl
    rw [hf,gc] at hTi
    have hc0:0≤((p:Int)-top)*c:=Int.mul_nonneg (by omega) bc.1
    have hc1:((p:Int)-top)*c≤65536:=Int.le_trans (Int.mul_le_mul (show (p:Int)-top≤256 by omega) (show c≤256 by omega) bc.1 (by decide)) (by decide)
    rw [← hpt] at hc0 hc1
    refine wk 19 cz ?_
    intro h6 h7 b3 o1 hz2
    refine Ab rfl (Aj 0 rfl rfl Bm fun ⟨r1,r2⟩=>?_)
    refine wk 8 cz ?_
    intro b4 o2 b5 o3
    exact tw (ihi' ((s+((p-top.toNat:Nat):Int)*c+DY.getD (j+1-1) default*DX.getD i default) % (p:Int)) (by rw [hTi,hpt,gv,ga]))
  ·obtain rfl:i=m:=by omega
   rw [List.take_of_length_le (by omega),List.drop_of_length_le (by omega),List.append_nil] at hS
   refine wk 7 cz ?_
   intro h6
   exact tw (ih' S hS)
open Go Go.Fw
set_option maxRecDepth 100000
set_option linter.unusedVariables false
set_option linter.unusedSimpArgs false
set_option maxHeartbeats 0
def J4 (M:Nat→Nat→Nat) (x k:Nat):Prop:=Cq M x k=0∨∃ j,j<k∧Cq M x j=Cq M x k
instance (M:Nat→Nat→Nat) (x k:Nat):Decidable (J4 M x k):=by unfold J4;infer_instance
def kP (q:Nat) (M:Nat→Nat→Nat) (x:Nat):Nat:=((List.range' 1 q).find? fun k=>decide (J4 M x k)).getD 0
theorem AFZ {q k:Nat}{M:Nat→Nat→Nat}{x:Nat}(h1:1≤k) (h2:k≤q) (h:J4 M x k) (hn:∀ i,1≤i→i<k→¬ J4 M x i):kP q M x=k:=by
 rw [kP]
 have hs:(List.range' 1 q).find? (fun k=>decide (J4 M x k))=some k:=by
  rw [show List.range' 1 q=List.range' 1 (k-1)++k::List.range' (k+1) (q-k) by
   rw [← List.range'_succ]
   have:=List.range'_append_1 (s:=1) (m:=k-1) (n:=q-k+1)
   rw [show 1+(k-1)=k by omega,show k-1+(q-k+1)=q by omega] at this
   exact this.symm]
  rw [List.find?_append,List.find?_eq_none.2 fun i hi=>by
   obtain ⟨a,b⟩:=List.mem_range'_1.1 hi
   simpa using hn i a (by omega)]
  rw [Option.none_or,List.find?_cons,decide_eq_true h]
 rw [hs];rfl
theorem AKz {q k:Nat}{M:Nat→Nat→Nat}{x:Nat}(hl:∀ i,Cq M x i<q) (hn:∀ i,1≤i→i<k+1→¬ J4 M x i):k+1≤q-1:=by
 have hnd:((List.range (k+1)).map (Cq M x)).Nodup:=by
  rw [List.Nodup,List.pairwise_map,List.pairwise_iff_getElem]
  intro i j hi hj hij e
  rw [List.getElem_range,List.getElem_range] at e
  rw [List.length_range] at hj
  exact hn j (by omega) hj (.inr ⟨i,hij,e⟩)
 have:=Lq (l':=List.range' 1 (q-1)) hnd fun y hy=>by
  obtain ⟨i,hi,rfl⟩:=List.mem_map.1 hy
  have hi:=List.mem_range.1 hi
  have h1:=hl i
  have h2:Cq M x i≠0:=fun e=>by
   rcases Nat.eq_zero_or_pos i with h|h
   ·subst h;exact absurd (show (1:Nat)=0 from e) (by decide)
   ·exact hn i h hi (.inl e)
  exact List.mem_range'_1.2 ⟨by omega,by omega⟩
 rwa [List.length_map,List.length_range,List.length_range'] at this
abbrev AES (l:List Bool):List Value:=l.map Value.bool
theorem AFE {l:List Bool}{i:Nat}{b:Bool}(h:l[i]?=some b):(AES l)[i]?=some (.bool b):=by rw [List.getElem?_map,h];rfl
theorem Sl {nm cm:Nat}{pm:Option Addr}{p m q:Nat}{md:List Int}(K:Shp p m md) (hq:q=p ^ m) {x:Nat}(hx1:1≤x) (hx:x<q) :
  Br Tryz.prog 117 [.agg #[.int .i64 p,.int .i64 m,.slice pm nm cm],.int .i64 q,.int .i64 x] [] [A2 Ak pm nm cm md] (SvI (kP q (fM p (Cc m md)) x) (Bz ((List.range (kP q (fM p (Cc m md)) x)).map (Cq (fM p (Cc m md)) x)))):=by
 refine Ad (F:=Yw) rfl fun C=>?_
 have h1:=K.p2
 have hqb:=K.q
 have hl:=K.flen
 have R:Rng q (fA p m) (fM p (Cc m md)):=by
  have:=Xi h1 (f:=Cc m md) (by rw [hl];exact K.m1)
  rwa [hl,← hq] at this
 have hpl:=R.pw_lt hx
 have Bx:=fun {nm cm:Nat}{pm:Option Addr}{x y:Nat}(hx:x<q) (hy:y<q)=>Jm (nm:=nm) (cm:=cm) (pm:=pm) K (x:=x) (y:=y) (hq▸hx) (hq▸hy)
 have e1:Cq (fM p (Cc m md)) x 1=x:=R.one_mul hx
 generalize fM p (Cc m md)=M at *
 refine wk 8 cz ?_
 intro b1 b2
 refine Ab rfl (ADC (q) _ rfl rfl AKO AJV rfl rfl AI0 (by omega) (by omega) (by omega) fun b3=>?_)
 refine wk 4 cz ?_
 refine Ab rfl (Qd 0 rfl rfl rfl rfl ld4 rfl (by first|omega|(simp;omega)) ?_)
 refine wk 3 cz ?_
 rw [show (List.replicate q [Value.bool false]).flatten.set 1 (Value.bool true)=AES ((List.replicate q false).set 1 true) by simp [List.map_set]]
 refine He (E:=Ak) (n:=1) [[.int .i64 1]] [1] 1 (fun w A hG=>Ji (Bh (by simp only [Bf];omega)) D5) rfl rfl rfl rfl (by decide) ?_
 have hp1:Cq M x 0=1:=rfl
 refine Ag (X:=Nat×Row×List Bool×List Int) [2,3,6,8] [0,1] (fun k=>[(9,.int .i64 ((Cq M x k.1:Nat):Int)),(7,.slice (ad k.2.1.bo) k.2.2.2.length k.2.1.cap)]) (fun k=>[(some b3,4,AES k.2.2.1),(k.2.1.bo,3,k.2.1.cs),(some b1,24,[.int .i64 p,.int .i64 m,.slice pm nm cm])]) (fun k=>[Aw Ak k.2.1 k.2.2.2.length k.2.2.2])
  (fun k=>1≤k.1∧k.1≤q∧k.2.2.2=Bz ((List.range k.1).map (Cq M x))∧k.2.2.1.length=q∧(∀ j,j<q→(k.2.2.1[j]?=some true↔∃ i,i<k.1∧Cq M x i=j))∧(∀ i,1≤i→i<k.1→¬ J4 M x i)) (fun k=>q-k.1) (1,⟨some b2,1,[.int .i64 1]⟩,(List.replicate q false).set 1 true,[1]) [0] rfl rfl rfl ⟨Nat.le_refl 1,by omega,rfl,by simp,fun j hj=>?_,fun i h1 h2=>by omega⟩ (by refine Fr.sub_consI rfl (by rw [e1]) ?_;repeat (first|exact Fr.sub_nil _|refine Fr.sub_cons rfl ?_)) rfl rfl ?_
 ·rw [List.getElem?_set]
  by_cases h9:1=j
  ·subst h9
   rw [if_pos rfl,if_pos (by simp;omega)]
   exact ⟨fun _=>⟨0,Nat.zero_lt_one,rfl⟩,fun _=>rfl⟩
  ·rw [if_neg h9,List.getElem?_replicate,if_pos hj]
   exact ⟨fun h=>by simp at h,fun ⟨i,hi,e⟩=>by
    obtain rfl:i=0:=by omega
    exact absurd e h9⟩
 rintro ⟨k,r,B,L⟩ ⟨hk1,hkq,hL,hBl,hB,hns⟩ ih
 simp only [List.cons_append,List.nil_append] at hk1 hkq hL hBl hB hns ih ⊢
 have hkl:=hpl k
 have hLl:L.length=k:=by rw [hL];simp [Bz]
 by_cases h0:Cq M x k=0
 ·have hst:J4 M x k:=.inl h0
  rw [AFZ hk1 hkq hst hns,← hL]
  refine wk 11 cz ?_
  intro h2
  refine Ev 1 0 rfl rfl (by show L.length*8≤140737488355328;omega) ?_
  rw [hLl]
  refine Gl [0] rfl rfl rfl ⟨_,_,rfl,rfl,rfl⟩
 ·obtain ⟨b,hb⟩:∃ b,B[Cq M x k]?=some b:=⟨B[Cq M x k],List.getElem?_eq_getElem (by omega)⟩
  have hbc:=AFE hb
  cases b with
  | true =>
   have hst:J4 M x k:=.inr ((hB _ hkl).1 hb)
   rw [AFZ hk1 hkq hst hns,← hL]
   refine wk 7 cz ?_
   intro h2
   refine Bg rfl rfl (Dt 0 rfl rfl ld4 (by assumption) ?_)
   refine wk 6 cz ?_
   refine Ev 1 0 rfl rfl (by show L.length*8≤140737488355328;omega) ?_
   rw [hLl]
   refine Gl [0] rfl rfl rfl ⟨_,_,rfl,rfl,rfl⟩
  | false =>
   have hst:¬ J4 M x k:=fun h=>by
    rcases h with h|h
    ·exact h0 h
    ·have:=(hB _ hkl).2 h
     rw [hb] at this;cases this
   have hns':∀ i,1≤i→i<k+1→¬ J4 M x i:=fun i h1 h2=>by
    rcases Nat.lt_succ_iff_lt_or_eq.1 h2 with h3|rfl
    ·exact hns i h1 h3
    ·exact hst
   have hgo:=AKz hpl hns'
   have ih':=fun r1=>ih (k+1,r1,B.set (Cq M x k) true,L++[((Cq M x k:Nat):Int)]) (by dsimp only;omega) ⟨by dsimp only;omega,by dsimp only;omega,by dsimp only;rw [List.range_succ,List.map_append,Bz,List.map_append,← Bz,← hL];rfl,by dsimp only;rw [List.length_set,hBl],fun j hj=>by
    dsimp only
    rw [List.getElem?_set]
    by_cases h9:Cq M x k=j
    ·rw [if_pos h9,if_pos (by omega)]
     exact ⟨fun _=>⟨k,by omega,h9⟩,fun _=>rfl⟩
    ·rw [if_neg h9,hB j hj]
     constructor
     ·rintro ⟨i,hi,e⟩;exact ⟨i,by omega,e⟩
     ·rintro ⟨i,hi,e⟩
      rcases Nat.lt_succ_iff_lt_or_eq.1 hi with h3|rfl
      ·exact ⟨i,h3,e⟩
      ·exact absurd e h9,hns'⟩
   simp only [List.length_append,List.length_singleton,show Cq M x (k+1)=M (Cq M x k) x from rfl,AES,List.map_set] at ih'
   refine wk 7 cz ?_
   intro h2
   refine Bg rfl rfl (Dt 0 rfl rfl ld4 (by assumption) ?_)
   refine wk 6 cz ?_
   refine Ab rfl (Qd 0 rfl rfl rfl rfl ld4 rfl (by first|omega|(simp;omega)) ?_)
   refine wk 3 cz ?_
   intro b4
   refine Ab rfl (Ik (z:=(↑(Cq M x k):Int)) 2 0 0 rfl rfl rfl rfl rfl Bj Hb rfl (fun w A hG=>(Bh (by first|(simp only [Bf];omega)|(simp [Bf];done)))) (by omega) _ Iy (by omega) fun r1=>?_)
   refine wk 7 (ct @Bx cz) ?_
   refine AKC [2,0,3] [0,2,3] (by exact Zr rfl) rfl rfl rfl (ih' r1)
theorem AH8 {q k:Nat}{M:Nat→Nat→Nat}{x:Nat}(h:kP q M x=k) (h1:1≤k):J4 M x k∧∀ i,1≤i→i<k→¬ J4 M x i:=by
 rw [kP] at h
 cases hf:(List.range' 1 q).find? fun k=>decide (J4 M x k) with
 | none=>rw [hf] at h;simp at h;omega
 | some y =>
  rw [hf] at h
  obtain rfl:y=k:=h
  refine ⟨by simpa using List.find?_some hf,fun i hi hl hs=>?_⟩
  obtain ⟨hp,as0,bs0,e,hall⟩:=List.find?_eq_some_iff_append.1 hf
  have hm:i∈List.range' 1 q:=List.mem_range'_1.2 ⟨hi,by
   have:=List.mem_range'_1.1 (List.mem_of_find?_eq_some hf);omega⟩
  rw [e] at hm
  have hpw:(as0++y::bs0).Pairwise (·<·):=by rw [← e];exact List.pairwise_lt_range'
  rw [List.pairwise_append] at hpw
  rcases List.mem_append.1 hm with hm|hm
  ·have:=hall i hm
   simp [hs] at this
  ·rcases List.mem_cons.1 hm with rfl|hm
   ·omega
   ·have:=(List.pairwise_cons.1 hpw.2.1).1 i hm
    omega
theorem ABI {q:Nat}{A M:Nat→Nat→Nat}(R:Rng q A M) {x:Nat}(hx:x<q):Nf q M x↔kP q M x=q-1∧M (Cq M x (q-2)) x=1:=by
 have hq:=R.q2
 have e2:Cq M x (q-1)=M (Cq M x (q-2)) x:=by
  rw [show q-1=(q-2)+1 by omega];rfl
 constructor
 ·intro h
  refine ⟨AFZ (by omega) (by omega) (.inr ⟨0,by omega,h.2.2.symm⟩) fun i h1 h2 hs=>?_,by rw [← e2];exact h.2.2⟩
  rcases hs with hs|⟨j,hj,e⟩
  ·exact h.2.1 i h2 hs
  ·exact h.1 j i hj h2 e
 ·rintro ⟨h1,h2⟩
  obtain ⟨hs,hn⟩:=AH8 h1 (by omega)
  refine ⟨fun i j hij hj e=>?_,fun i hi e=>?_,by rw [e2];exact h2⟩
  ·exact hn j (by omega) hj (.inr ⟨i,hij,e⟩)
  ·rcases Nat.eq_zero_or_pos i with h|h
   ·subst h;exact absurd (show (1:Nat)=0 from e) (by decide)
   ·exact hn i h hi (.inl e)
def Yc (q:Nat) (M:Nat→Nat→Nat) (x:Nat):List Int:=Bz ((List.range (q-1)).map (Cq M x))
abbrev SvP (n:Nat) (l:List Int):Value→List Fact→List Bb→Prop:=fun v Φ β=>∃ b o ca,v = .slice (some ⟨b,o,none⟩) n ca∧Φ=[A2 Ak (some ⟨b,o,none⟩) n ca l]∧β=[]
theorem Ih {nm cm:Nat}{pm:Option Addr}{p m q:Nat}{md:List Int}(K:Shp p m md) (hq:q=p ^ m) {x:Nat}(hx1:1≤x) (hx:x<q) (hg:Nf q (fM p (Cc m md)) x) (hno:∀ y,1≤y→y<x→¬ Nf q (fM p (Cc m md)) y) :
  Br Tryz.prog 79 [.agg #[.int .i64 p,.int .i64 m,.slice pm nm cm],.int .i64 q] [] [A2 Ak pm nm cm md] (SvP (q-1) (Yc q (fM p (Cc m md)) x)):=by
 refine Ad (F:=Nq) rfl fun C=>?_
 have h1:=K.p2
 have hqb:=K.q
 have hl:=K.flen
 have R:Rng q (fA p m) (fM p (Cc m md)):=by
  have:=Xi h1 (f:=Cc m md) (by rw [hl];exact K.m1)
  rwa [hl,← hq] at this
 have Bx:=fun {nm cm:Nat}{pm:Option Addr}{x y:Nat}(hx:x<q) (hy:y<q)=>Jm (nm:=nm) (cm:=cm) (pm:=pm) K (x:=x) (y:=y) (hq▸hx) (hq▸hy)
 have Fs:=fun {nm cm:Nat}{pm:Option Addr}{x:Nat}(hx1:1≤x) (hx:x<q)=>Sl (nm:=nm) (cm:=cm) (pm:=pm) K hq hx1 hx
 generalize fM p (Cc m md)=M at *
 refine wk 6 cz ?_
 intro b1
 refine Ag (X:=Nat) [1,2] [0] (fun y=>[(5,.int .i64 (y:Int))]) (fun _=>[(some b1,24,[.int .i64 p,.int .i64 m,.slice pm nm cm])]) (fun _=>[]) (fun y=>1≤y∧y≤x) (fun y=>q-y) 1 [] rfl rfl rfl ⟨Nat.le_refl 1,hx1⟩ (by repeat (first|exact Fr.sub_nil _|refine Fr.sub_cons rfl ?_)) rfl rfl ?_
 rintro y ⟨hy1,hyx⟩ ih
 simp only [List.cons_append,List.nil_append] at hy1 hyx ih ⊢
 have hyq:y<q:=by omega
 have hpl:=R.pw_lt hyq (q-2)
 have hkq:kP q M y≤q:=by
  rw [kP]
  cases hf:(List.range' 1 q).find? fun k=>decide (J4 M y k) with
  | none=>exact Nat.zero_le _
  | some z =>
   have:=List.mem_range'_1.1 (List.mem_of_find?_eq_some hf)
   show z≤q;omega
 have hz:1≤kP q M y→kP q M y=q-1→(Bz ((List.range (kP q M y)).map (Cq M y)))[q-2]?=some ((Cq M y (q-2):Nat):Int):=fun h0 h=>Js (by rw [List.getElem?_map,List.getElem?_range (by omega)];rfl)
 have hc:kP q M y=q-1→∀ {nm cm:Nat}{pm:Option Addr},Br Tryz.prog 118 [.agg #[.int .i64 p,.int .i64 m,.slice pm nm cm],.int .i64 ((Bz ((List.range (kP q M y)).map (Cq M y))).getD (q-2) default),.int .i64 y] [] [A2 Ak pm nm cm md] (Rv (.int .i64 ((M (Cq M y (q-2)) y:Nat):Int)) []):=fun h nm cm pm=>by
  have e:(Bz ((List.range (kP q M y)).map (Cq M y))).getD (q-2) default=((Cq M y (q-2):Nat):Int):=by
   rw [List.getD_eq_getElem?_getD,hz (by omega) h];rfl
  rw [e]
  exact Bx hpl hyq
 have hml:=R.ml _ _ hpl hyq
 by_cases hyx2:y=x
 ·subst hyx2
  obtain ⟨g1,g2⟩:=(ABI R hyq).1 hg
  have hz:=hz (by omega) g1
  have Bx:=fun {nm cm:Nat}{pm:Option Addr}=>hc g1 (nm:=nm) (cm:=cm) (pm:=pm)
  rw [g2] at Bx
  refine wk 16 (ct @Fs (ct @Bx cz)) ?_
  intro h2 pa1 ca1 b2 o1
  refine AGy (n:=kP q M y) 1 rfl (by omega) fun b o eb=>?_
  subst eb
  rw [Yc,← g1]
  refine Gl [1] rfl rfl rfl ⟨_,_,_,rfl,rfl,rfl⟩
 ·have hng:=hno y hy1 (by omega)
  rw [ABI R hyq] at hng
  by_cases g1:kP q M y=q-1
  ·have g2:¬ M (Cq M y (q-2)) y=1:=fun h=>hng ⟨g1,h⟩
   have hz:=hz (by omega) g1
   have Bx:=fun {nm cm:Nat}{pm:Option Addr}=>hc g1 (nm:=nm) (cm:=cm) (pm:=pm)
   refine wk 16 (ct @Fs (ct @Bx cz)) ?_
   intro h2 pa1 ca1 b2 o1
   exact tw (ih (y+1) (by omega) ⟨by omega,by omega⟩)
  ·refine wk 16 (ct @Fs cz) ?_
   intro h2 pa1 ca1
   exact tw (ih (y+1) (by omega) ⟨by omega,by omega⟩)
theorem Qx {nm cm:Nat}{pm:Option Addr}{p m q:Nat}{md:List Int}(K:Shp p m md) (hq:q=p ^ m) (hno:∀ y,1≤y→y<q→¬ Nf q (fM p (Cc m md)) y) :
  Br Tryz.prog 79 [.agg #[.int .i64 p,.int .i64 m,.slice pm nm cm],.int .i64 q] [] [A2 Ak pm nm cm md] (Rv (.slice none 0 0) []):=by
 refine Ad (F:=Nq) rfl fun C=>?_
 have h1:=K.p2
 have hqb:=K.q
 have hl:=K.flen
 have R:Rng q (fA p m) (fM p (Cc m md)):=by
  have:=Xi h1 (f:=Cc m md) (by rw [hl];exact K.m1)
  rwa [hl,← hq] at this
 have hq2:=R.q2
 have Bx:=fun {nm cm:Nat}{pm:Option Addr}{x y:Nat}(hx:x<q) (hy:y<q)=>Jm (nm:=nm) (cm:=cm) (pm:=pm) K (x:=x) (y:=y) (hq▸hx) (hq▸hy)
 have Fs:=fun {nm cm:Nat}{pm:Option Addr}{x:Nat}(hx1:1≤x) (hx:x<q)=>Sl (nm:=nm) (cm:=cm) (pm:=pm) K hq hx1 hx
 generalize fM p (Cc m md)=M at *
 refine wk 6 cz ?_
 intro b1
 refine Ag (X:=Nat) [1,2] [0] (fun y=>[(5,.int .i64 (y:Int))]) (fun _=>[(some b1,24,[.int .i64 p,.int .i64 m,.slice pm nm cm])]) (fun _=>[]) (fun y=>1≤y∧y≤q) (fun y=>q-y) 1 [] rfl rfl rfl ⟨Nat.le_refl 1,by omega⟩ (by repeat (first|exact Fr.sub_nil _|refine Fr.sub_cons rfl ?_)) rfl rfl ?_
 rintro y ⟨hy1,hyx⟩ ih
 simp only [List.cons_append,List.nil_append] at hy1 hyx ih ⊢
 by_cases hyq:y<q
 ·have hpl:=R.pw_lt hyq (q-2)
  have hkq:kP q M y≤q:=by
   rw [kP]
   cases hf:(List.range' 1 q).find? fun k=>decide (J4 M y k) with
   | none=>exact Nat.zero_le _
   | some z =>
    have:=List.mem_range'_1.1 (List.mem_of_find?_eq_some hf)
    show z≤q;omega
  have hz:1≤kP q M y→kP q M y=q-1→(Bz ((List.range (kP q M y)).map (Cq M y)))[q-2]?=some ((Cq M y (q-2):Nat):Int):=fun h0 h=>Js (by rw [List.getElem?_map,List.getElem?_range (by omega)];rfl)
  have hc:kP q M y=q-1→∀ {nm cm:Nat}{pm:Option Addr},Br Tryz.prog 118 [.agg #[.int .i64 p,.int .i64 m,.slice pm nm cm],.int .i64 ((Bz ((List.range (kP q M y)).map (Cq M y))).getD (q-2) default),.int .i64 y] [] [A2 Ak pm nm cm md] (Rv (.int .i64 ((M (Cq M y (q-2)) y:Nat):Int)) []):=fun h nm cm pm=>by
   have e:(Bz ((List.range (kP q M y)).map (Cq M y))).getD (q-2) default=((Cq M y (q-2):Nat):Int):=by
    rw [List.getD_eq_getElem?_getD,hz (by omega) h];rfl
   rw [e]
   exact Bx hpl hyq
  have hml:=R.ml _ _ hpl hyq
  have hng:=hno y hy1 hyq
  rw [ABI R hyq] at hng
  by_cases g1:kP q M y=q-1
  ·have g2:¬ M (Cq M y (q-2)) y=1:=fun h=>hng ⟨g1,h⟩
   have hz:=hz (by omega) g1
   have Bx:=fun {nm cm:Nat}{pm:Option Addr}=>hc g1 (nm:=nm) (cm:=cm) (pm:=pm)
   refine wk 16 (ct @Fs (ct @Bx cz)) ?_
   intro h2 pa1 ca1 b2 o1
   exact tw (ih (y+1) (by omega) ⟨by omega,by omega⟩)
  ·refine wk 16 (ct @Fs cz) ?_
   intro h2 pa1 ca1
   exact tw (ih (y+1) (by omega) ⟨by omega,by omega⟩)
 ·obtain rfl:y=q:=by omega
  refine wk 7 cz ?_
  intro h2
  exact ge
theorem Q6 {p m:Nat}{md:List Int}(K:Shp p m md) (hp:Prm p):(∃ x,1≤x∧x<p ^ m∧Nf (p ^ m) (fM p (Cc m md)) x)↔Fok p m md:=by
 have h1:=K.p2
 have hl:=K.flen
 have R:Rng (p ^ m) (fA p m) (fM p (Cc m md)):=by
  have:=Xi h1 (f:=Cc m md) (by rw [hl];exact K.m1)
  rwa [hl] at this
 constructor
 ·rintro ⟨x,hx1,hx,hg⟩
  refine ⟨hp,K.m1,K.m8,K.q,K.one,K.len,K.rng,fun hm d hd hd2 v hv=>?_⟩
  have hlm:=K.len hm
  have ef:Cc m md=md:=if_neg hm
  have et:Bz (md.map Int.toNat)=md:=T3 fun x hx=>(K.rng x hx).1
  rw [et]
  rw [List.length_map] at hd2
  refine AI1 h1 (f:=md) (g:=Bz (Dh p d v)) (fun a b ha hb e=>?_) (by rw [Cn,Di];exact hd) (by rw [Cn,Di];omega)
  rw [hlm] at ha hb
  exact R.gen_nz hx hg a b ha hb (by rw [ef];exact e)
 ·intro F
  have hf:=F.fi
  have FF:Fld (p ^ m) (fA p m) (fM p (Cc m md)):=R.fld fun x y hx hy e=>by
   have:=hf.nz (x:Int) (y:Int) (by omega) (by omega) (by omega) (by omega) (by show ((fM p (Cc m md) (x:Int).toNat (y:Int).toNat:Nat):Int)=0;rw [Int.toNat_natCast,Int.toNat_natCast,e];rfl)
   omega
  exact FF.gen_ex
theorem AJf {P M:Int}{md:List Int}(h:AGZ P M md):∃ p m:Nat,P=p∧M=m∧Shp p m md∧Prm p:=by
 obtain ⟨⟨h1,h2,h3,h4⟩,hp,ho,hn⟩:=h
 refine ⟨P.toNat,M.toNat,by omega,by omega,⟨by omega,by omega,by omega,h4,fun e=>List.length_eq_zero_iff.1 (ho (by omega)),fun e=>?_,fun x hx=>?_⟩,hp⟩
 ·have:=(hn (by omega)).1;omega
 ·by_cases e:M=1
  ·have:=List.length_eq_zero_iff.1 (ho e)
   rw [this] at hx;cases hx
  ·have:=(hn e).2 x hx
   omega
theorem Yj {p m:Nat}{md:List Int}(K:Fok p m md):Vs p m md:=by
 have h2:=K.p2;have h1:=K.m1;have h8:=K.m8
 refine ⟨⟨by omega,by omega,by omega,by simpa using K.q⟩,by simpa using K.pr,fun h=>by rw [K.one (by omega)];rfl,fun h=>⟨by rw [K.len (by omega)],K.rng,by simpa using K.irr (by omega)⟩⟩
theorem AEL {P M:Int}{md:List Int}(h:Vs P M md):AGZ P M md:=⟨h.1,h.2.1,h.2.2.1,fun hm=>⟨(h.2.2.2 hm).1,(h.2.2.2 hm).2.1⟩⟩
theorem AA1 {q:Nat}{M:Nat→Nat→Nat}(h:∃ x,1≤x∧x<q∧Nf q M x):∃ x,1≤x∧x<q∧Nf q M x∧∀ y,1≤y→y<x→¬ Nf q M y:=by
 obtain ⟨x,h1,h2,h3⟩:=h
 obtain ⟨k,hk,⟨a,b,c⟩,d⟩:=ABO (P:=fun x=>1≤x∧x<q∧Nf q M x) x ⟨h1,h2,h3⟩
 exact ⟨k,a,b,c,fun y y1 y2 hg=>d y y2 ⟨y1,by omega,hg⟩⟩
open Classical in
noncomputable def gnX (q:Nat) (M:Nat→Nat→Nat):Nat:=if h:∃ x,1≤x∧x<q∧Nf q M x then Classical.choose (AA1 h) else 1
theorem W7 {q:Nat}{M:Nat→Nat→Nat}(h:∃ x,1≤x∧x<q∧Nf q M x):1≤gnX q M∧gnX q M<q∧Nf q M (gnX q M)∧∀ y,1≤y→y<gnX q M→¬ Nf q M y:=by
 rw [gnX,dif_pos h]
 exact Classical.choose_spec (AA1 h)
def lgN (q:Nat) (M:Nat→Nat→Nat) (x a:Nat):Nat:=((List.range (q-1)).find? fun i=>decide (Cq M x i=a)).getD 0
def Zj (q:Nat) (M:Nat→Nat→Nat) (x:Nat):List Int:=Bz ((List.range q).map (lgN q M x))
def lgK (M:Nat→Nat→Nat) (x k a:Nat):Nat:=((List.range k).find? fun i=>decide (Cq M x i=a)).getD 0
theorem AJN {M:Nat→Nat→Nat}{x k a:Nat}:lgK M x k a≤k:=by
 rw [lgK]
 cases hf:(List.range k).find? fun i=>decide (Cq M x i=a) with
 | none=>exact Nat.zero_le _
 | some j=>exact Nat.le_of_lt (List.mem_range.1 (List.mem_of_find?_eq_some hf))
theorem AHA {q k:Nat}{M:Nat→Nat→Nat}{x:Nat}(hg:Nf q M x) (hk:k<q-1) (h:Cq M x k<q):(Bz ((List.range q).map (lgK M x k))).set (Cq M x k) (k:Int)=Bz ((List.range q).map (lgK M x (k+1))):=by
 apply List.ext_getElem
 ·simp [Bz]
 intro i h1 h2
 simp only [Bz,List.getElem_set,List.getElem_map,List.getElem_range]
 have h3:i<q:=by simpa [Bz] using h2
 split
 ·rename_i e
  subst e
  rw [lgK,List.range_succ,List.find?_append,List.find?_eq_none.2 fun j hj=>by
   simpa using hg.1 j k (List.mem_range.1 hj) hk]
  simp
 ·rename_i e
  rw [lgK,lgK,List.range_succ,List.find?_append]
  simp [e]
theorem ADM {q:Nat}{M:Nat→Nat→Nat}{x i:Nat}(hg:Nf q M x) (hi:i<q-1):lgN q M x (Cq M x i)=i:=by
 rw [lgN]
 cases hf:(List.range (q-1)).find? fun j=>decide (Cq M x j=Cq M x i) with
 | none =>
  have:=List.find?_eq_none.1 hf i (List.mem_range.2 hi)
  simp at this
 | some j =>
  have h1:Cq M x j=Cq M x i:=by simpa using List.find?_some hf
  have h2:=List.mem_range.1 (List.mem_of_find?_eq_some hf)
  show j=i
  rcases Nat.lt_trichotomy j i with h|h|h
  ·exact absurd h1 (hg.1 j i h hi)
  ·exact h
  ·exact absurd h1.symm (hg.1 i j h h2)
noncomputable abbrev T8 (p m:Nat) (md:List Int):List Int:=Yc (p ^ m) (fM p (Cc m md)) (gnX (p ^ m) (fM p (Cc m md)))
noncomputable abbrev Tt (p m:Nat) (md:List Int):List Int:=Zj (p ^ m) (fM p (Cc m md)) (gnX (p ^ m) (fM p (Cc m md)))
noncomputable abbrev gfL (p m:Nat) (md:List Int) (b:Nat) (pg:Option Addr) (cg:Nat) (pe:Option Addr) (ce:Nat) (pl:Option Addr) (cl:Nat):List Fact :=
 [AB8 b [.int .i64 p,.int .i64 m,.slice pg md.length cg,.int .i64 ((p ^ m:Nat):Int),.slice pe (p ^ m-1) ce,.slice pl (p ^ m) cl],A2 Ak pg md.length cg md,A2 Ak pe (p ^ m-1) ce (T8 p m md),A2 Ak pl (p ^ m) cl (Tt p m md)]
theorem I0 {pm:Option Addr}{nm cm p m:Nat}{md:List Int}(K:Fok p m md):Br Tryz.prog 45 [.agg #[.int .i64 p,.int .i64 m,.slice pm nm cm]] [] [A2 Ak pm nm cm md]
  (fun v Φ β=>∃ b pg cg pe ce pl cl,v = .tuple #[.pointer (some ⟨b,0,none⟩),.int .i64 0]∧Φ=gfL p m md b pg cg pe ce pl cl∧β=[]):=by
 refine Ad (F:=ACn) rfl fun C=>?_
 have Fa:=fun {pm:Option Addr}{nm cm:Nat}=>Jy (P:=(p:Int)) (M:=(m:Int)) (pm:=pm) (nm:=nm) (cm:=cm) (md:=md) (res:=true) ⟨fun _=>AEL (Yj K),fun _=>rfl⟩
 have Hf:=Du K.ord
 have hx:=W7 ((Q6 K.shp K.pr).2 K)
 have E6:=fun {nm cm:Nat}{pm:Option Addr}=>Ih (nm:=nm) (cm:=cm) (pm:=pm) K.shp rfl hx.1 hx.2.1 hx.2.2.1 hx.2.2.2
 have h2:=K.p2
 have hqb:=K.q
 have F:=K.fi
 have R:Rng (p ^ m) (fA p m) (fM p (Cc m md)):=by
  have:=Xi h2 (f:=Cc m md) (by rw [K.shp.flen];exact K.shp.m1)
  rwa [K.shp.flen] at this
 have hplt:=R.pw_lt (x:=gnX (p ^ m) (fM p (Cc m md))) hx.2.1
 have hq2:=F.q2
 unfold gfL T8 Tt
 generalize gnX (p ^ m) (fM p (Cc m md))=x at *
 generalize fM p (Cc m md)=M at *
 generalize p ^ m=q at *
 refine Bd 0 rfl fun en hb _=>?_
 subst en
 have hb':md.length*8≤140737488355328:=hb
 refine wk 23 (ct @Fa (ct @Hf (ct @E6 cz))) ?_
 intro b1 b2 o1 ca1
 refine Ab rfl (Vu Bj rfl rfl ?_)
 refine wk 3 cz ?_
 (apply AAa it mx 0 14;(· rfl);(· rfl);(· rfl))
 (apply Ac;(· rfl);(· exact Bi fun _=>A3 rfl U9 Af))
 (apply Ac;(· rfl);(· exact Bn 0 rfl rfl Bm rfl))
 (apply Ac;(· rfl);(· exact Bi fun _=>A3 rfl Xq Af))
 (apply Ac;(· rfl);(· exact Bn 0 rfl rfl Bm rfl))
 (apply AG6 (Ca IntKind.i64 8);(· rfl);(· exact Bj);intro pa1)
 (apply Ac;(· rfl);(· exact Bi fun _=>A3 rfl AJl Af))
 (apply Ac;(· rfl);(· exact Bn 0 rfl rfl Ez rfl))
 (apply AFx 0 2;(· rfl);(· rfl);(· rfl);(· rfl);(· rfl);(· exact Bj);(· exact Hb);(· rfl);(· (first|omega|(simp only [List.length_cons,List.length_nil];omega)));(· exact Iy);(· (first|omega|(simp only [List.length_cons,List.length_nil];omega)));intro pa2 cap1 b3 cs1)
 (apply Kp [23,25,29] (fun vs=>Value.agg ((Y2 ([(0,1),(1,1),(2,1)]) ([Value.int IntKind.i64 0,Value.int IntKind.i64 0,Value.slice none 0 0]) [(0,C8 (vs.getD 0 undef)),(1,C8 (vs.getD 1 undef)),(2,C8 (vs.getD 2 undef))]).getD []).toArray) (v:=Value.agg #[Value.int IntKind.i64 ↑p,Value.int IntKind.i64 ↑m,Value.slice pa2 (0+md.length) cap1]);(· rfl);(· rfl);(· rfl);(· rfl);(· exact Bi fun _=>Tq (cs:=[Value.int IntKind.i64 ↑p,Value.int IntKind.i64 ↑m,Value.slice pa2 (0+md.length) cap1]) ALi ALr rfl rfl Af))
 (apply Ae 3;(· rfl);(· simp))
 (apply AG9 (q) _;(· rfl);(· rfl);(· rfl);(· exact Bj);(· exact Hb);(· rfl);(· rfl);(· exact Iy);(· rfl);(· omega);(· omega);intro b4)
 (apply Kp [30,31,32,34] (fun vs=>Value.agg ((Y2 ([(0,3),(3,1),(4,1),(5,1)]) ([Value.int IntKind.i64 0,Value.int IntKind.i64 0,Value.slice none 0 0,Value.int IntKind.i64 0,Value.slice none 0 0,Value.slice none 0 0]) [(0,C8 (vs.getD 0 undef)),(1,C8 (vs.getD 1 undef)),(2,C8 (vs.getD 2 undef)),(3,C8 (vs.getD 3 undef))]).getD []).toArray) (v:=Value.agg #[Value.int IntKind.i64 ↑p,Value.int IntKind.i64 ↑m,Value.slice pa2 (0+md.length) cap1,Value.int IntKind.i64 ↑q,Value.slice (some { block:=b2,off:=o1 }) (q-1) ca1,Value.slice (some { block:=b4,off:=0 }) q q]);(· rfl);(· rfl);(· rfl);(· rfl);(· exact Bi fun _=>Tq (cs:=[Value.int IntKind.i64 ↑p,Value.int IntKind.i64 ↑m,Value.slice pa2 (0+md.length) cap1,Value.int IntKind.i64 ↑q,Value.slice (some { block:=b2,off:=o1 }) (q-1) ca1,Value.slice (some { block:=b4,off:=0 }) q q]) AKK AKn rfl rfl Af))
 refine AGs rfl ?_
 (rotate_left;rfl;rotate_right)
 simp only [List.append_nil,List.append_assoc,List.map_cons,List.map_nil,List.cons_append,List.nil_append,List.drop_zero]
 (refine AJz 1 0 (by first|rfl|exact (List.append_nil _).symm) rfl (by show (0+md.length)*8≤140737488355328;omega) ?_;simp only [List.take_succ_cons,List.take_zero,List.cons_append,List.nil_append,List.append_nil])
 refine wk 7 cz ?_
 intro b5
 rw [AFV]
 have hr0:List.replicate q (0:Int)=Bz ((List.range q).map (lgK M x 0)):=by
  rw [show (lgK M x 0)=fun _=>0 from rfl,List.map_const',List.length_range]
  simp [Bz]
 rw [hr0]
 have hgx:=hx.2.2.1
 refine Ag (X := Nat) [2,3,6,37,38] [0,1,2,3,4] (fun k => [(39, .int .i64 k)]) (fun k => [(some b5,107, [Value.int IntKind.i64 ↑p, Value.int IntKind.i64 ↑m, Value.slice pa2 (0 + md.length) cap1,
         Value.int IntKind.i64 ↑q, Value.slice (some { block := b2, off := o1 }) (q-1) ca1,
         Value.slice (some { block := b4, off := 0 }) q q]), (some b4,3, Az .i64 (Bz ((List.range q).map (lgK M x k)))), (some b1,24, [.int .i64 p, .int .i64 m, .slice pm md.length cm])]) (fun _ => [])
  (fun k=>k≤q-1) (fun k=>q-1-k) 0 [] rfl rfl rfl (Nat.zero_le _) (by refine Fr.sub_consI rfl rfl ?_;repeat (first|exact Fr.sub_nil _|refine Fr.sub_cons rfl ?_)) rfl rfl ?_
 rintro k hk ih
 simp only [List.cons_append,List.nil_append] at hk ih ⊢
 by_cases h9:k<q-1
 ·have at_x:(Yc q M x)[k]?=some ((Cq M x k:Nat):Int):=by simp [Yc,Bz,h9]
  have ht:=hplt k
  have ih':=ih (k+1) (by omega) (by omega)
  rw [← AHA hgx h9 ht] at ih'
  have hln:(Bz (List.map (lgK M x k) (List.range q))).length=q:=by simp [Bz]
  generalize Bz (List.map (lgK M x k) (List.range q))=L at *
  refine wk 7 cz ?_
  intro h1 b6 o2 hz1
  refine Ab rfl (Aj 0 rfl rfl Bm fun ⟨r1,r2⟩=>?_)
  refine wk 11 cz ?_
  exact tw (ih')
 ·obtain rfl:k=q-1:=by omega
  refine wk 7 cz ?_
  intro h1
  have hq47:q*8≤140737488355328:=by omega
  refine Gn 8 (Bz ((List.range q).map (lgK M x (q-1)))) 1 rfl (by simp [Bz]) (Wa fun d hd=>?_) hq47 (by omega) ?_
  ·obtain ⟨i,hi,rfl⟩:=List.mem_map.1 hd
   have:=AJN (M:=M) (x:=x) (k:=q-1) (a:=i)
   omega
  rw [Nat.zero_add]
  refine AJh 0 rfl ?_
  refine Gl [0,2,5,1] rfl rfl rfl ⟨_,_,_,_,_,_,_,rfl,rfl,rfl⟩
theorem AAO (p m x:Nat):C3 p (m+1) x 0=((x % p:Nat):Int):=by rw [Qa (by omega)];rfl
theorem ACB (p m x j:Nat):C3 p (m+1) x (j+1)=C3 p m (x / p) j:=by
 by_cases h:j<m
 ·rw [Qa (by omega),Qa h];rfl
 ·rw [We (by omega),We (by omega)]
theorem AIc (p m:Nat) (v:Vz):un p (m+1) v=(v 0 % p).toNat+p*un p m fun j=>v (j+1):=by
 rw [un,List.range_succ_eq_map,List.map_cons,Fz,List.map_map];rfl
theorem Yp (p m x y:Nat):fA p (m+1) x y=(x % p+y % p) % p+p*fA p m (x / p) (y / p):=by
 rw [fA,AIc,AAO,AAO,← Int.natCast_add,← Int.natCast_emod,Int.toNat_natCast,fA]
 rw [show (fun j=>C3 p (m+1) x (j+1)+C3 p (m+1) y (j+1))=fun j=>C3 p m (x / p) j+C3 p m (y / p) j from funext fun j=>by rw [ACB,ACB]]
theorem AIP (p:Nat):∀ m,fA p m 0 0=0
 | 0=>rfl
 | m+1=>by rw [Yp,Nat.zero_div,AIP p m,Nat.zero_mod,Nat.zero_mod];rfl
theorem AHe:∀ {m x y:Nat},x<2 ^ m→y<2 ^ m→fA 2 m x y=x ^^^ y
 | 0,x,y,hx,hy=>by
  obtain rfl:x=0:=by simpa using hx
  obtain rfl:y=0:=by simpa using hy
  rfl
 | m+1,x,y,hx,hy=>by
  rw [Nat.pow_succ] at hx hy
  rw [Yp,AHe (by omega) (by omega)]
  have h1:(x ^^^ y) / 2=x / 2 ^^^ y / 2:=by rw [Nat.xor_div_two]
  have h2:(x ^^^ y) % 2=(x % 2+y % 2) % 2:=by
   have h3:=Nat.xor_mod_two_pow (a:=x) (b:=y) (n:=1)
   rw [Nat.pow_one] at h3
   rw [h3]
   rcases Nat.mod_two_eq_zero_or_one x with e|e <;> rcases Nat.mod_two_eq_zero_or_one y with e'|e' <;> rw [e,e'] <;> rfl
  rw [← h1,← h2]
  omega
def nP (p m x:Nat):Nat:=Fz p ((Dh p m x).map fun d=>(p-d) % p)
theorem ABB (p m x:Nat):nP p (m+1) x=(p-x % p) % p+p*nP p m (x / p):=rfl
theorem AJj (p:Nat):∀ m,nP p m 0=0
 | 0=>rfl
 | m+1=>by rw [ABB,Nat.zero_div,AJj p m,Nat.zero_mod,Nat.sub_zero,Nat.mod_self,Nat.mul_zero]
theorem AEj {p:Nat}(hp:0<p) (m x:Nat):nP p m x<p ^ m:=by
 have:=Nu hp (l:=(Dh p m x).map fun d=>(p-d) % p) fun d hd=>by
  obtain ⟨e,_,rfl⟩:=List.mem_map.1 hd
  exact Nat.mod_lt _ hp
 rwa [List.length_map,Di] at this
theorem AIQ {p:Nat}(hp:0<p):∀ (m x:Nat),fA p m x (nP p m x)=0
 | 0,_=>rfl
 | m+1,x=>by
  have h1:=Nat.mod_lt (p-x % p) hp
  have h2:=Nat.mod_lt x hp
  rw [Yp,ABB,Nat.add_mul_div_left _ _ hp,Nat.div_eq_of_lt h1,Nat.zero_add,AIQ hp m,Nat.add_mul_mod_self_left,Nat.mod_mod,Nat.add_mod_mod,Nat.mul_zero,Nat.add_zero,Nat.add_sub_of_le (by omega),Nat.mod_self]
def iF (q:Nat) (M:Nat→Nat→Nat) (x:Nat):Nat:=((List.range' 1 (q-1)).find? fun y=>decide (M x y=1)).getD 0
theorem AGp {q x:Nat}{M:Nat→Nat→Nat}(h:∃ y,1≤y∧y<q∧M x y=1):(1≤iF q M x∧iF q M x<q)∧M x (iF q M x)=1:=by
 obtain ⟨y,h1,h2,h3⟩:=h
 rw [iF]
 cases hf:(List.range' 1 (q-1)).find? fun y=>decide (M x y=1) with
 | none =>
  have:=List.find?_eq_none.1 hf y (List.mem_range'_1.2 ⟨h1,by omega⟩)
  simp [h3] at this
 | some z =>
  have h4:=List.mem_range'_1.1 (List.mem_of_find?_eq_some hf)
  exact ⟨⟨h4.1,by show z<q;omega⟩,by simpa using List.find?_some hf⟩
section
variable {q:Nat}{A M:Nat→Nat→Nat}(R:Rng q A M)
include R
theorem Rng.inv_one {x y z:Nat}(hx:x<q) (hy:y<q) (hz:z<q) (h1:M x y=1) (h2:M x z=1):y=z:=by
 have e:M y (M x z)=y:=by rw [h2,R.m1 _ hy]
 rw [← e,← R.ma _ _ _ hy hx hz,R.mc _ _ hy hx,h1,R.mc _ _ R.q2 hz,R.m1 _ hz]
theorem Rng.exp_mul {g i j:Nat}(hg:g<q) (h:Nf q M g):Cq M g ((i+j) % (q-1))=M (Cq M g i) (Cq M g j):=by
 rw [← R.gen_mod hg h,R.pw_add hg]
theorem Rng.exp_inv {g i:Nat}(hg:g<q) (h:Nf q M g) (hi:i<q-1):M (Cq M g i) (Cq M g ((q-1-i) % (q-1)))=1:=by
 rw [← R.gen_mod hg h,← R.pw_add hg,show i+(q-1-i)=q-1 by omega,h.2.2]
end
end Go.Proofs.YteadncphjconmaaGreat
