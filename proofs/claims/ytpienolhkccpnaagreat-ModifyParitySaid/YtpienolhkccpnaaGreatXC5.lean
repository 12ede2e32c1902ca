/-
The elements of a finite field other than 0 are the powers of one of them. Sums digit by digit, negatives and inverses. The document's fields: products. Residues without divisors of 0 come from irreducible polynomials; the program's product. The program's fields: orders, primes, digits, values, shapes. The program's product of residues. The program's powers of an element. The program's generator, Check and New. The program's New: a field behind a pointer. The methods of a field behind a pointer. The negative and the inverse in the document. Sums of products of two rows of fractions: bounds, steps; what is feasible, as a test. Columns of Krawtchouk numbers as rows of fractions; certificates as they are handed in. The library of slices. Copies of rows, checks of matrices. A multiple of a row is added to a row in place. A matrix is copied row by row. The steps of an elimination. The clearing step of an elimination. The scaling step of an elimination. The steps of an elimination on the rows alone. Elimination over a field, in place.
-/
import Derived.Test.YtpienolhkccpnaaGreatXC4
set_option linter.unusedVariables false
set_option linter.unusedSimpArgs false
namespace Go.Proofs.YtpienolhkccpnaaGreat
set_option maxRecDepth 100000
set_option linter.unusedVariables false
set_option linter.unusedSimpArgs false
structure Rng (q:Nat) (A M:Nat→Nat→Nat):Prop where
 q2:2≤q
 al:∀ x y,x<q→y<q→A x y<q
 ac:∀ x y,x<q→y<q→A x y=A y x
 aa:∀ x y z,x<q→y<q→z<q→A (A x y) z=A x (A y z)
 a0:∀ x,x<q→A x 0=x
 an:∀ x,x<q→∃ y,y<q∧A x y=0
 ml:∀ x y,x<q→y<q→M x y<q
 mc:∀ x y,x<q→y<q→M x y=M y x
 ma:∀ x y z,x<q→y<q→z<q→M (M x y) z=M x (M y z)
 md:∀ x y z,x<q→y<q→z<q→M x (A y z)=A (M x y) (M x z)
 m1:∀ x,x<q→M x 1=x
theorem Fld.rng {q:Nat}{A M:Nat→Nat→Nat}(F:Fld q A M):Rng q A M:=⟨F.q2,F.al,F.ac,F.aa,F.a0,F.an,F.ml,F.mc,F.ma,F.md,F.m1⟩
theorem Rng.fld {q:Nat}{A M:Nat→Nat→Nat}(R:Rng q A M) (h:∀ x y,x<q→y<q→M x y=0→x=0∨y=0):Fld q A M:=⟨R.q2,R.al,R.ac,R.aa,R.a0,R.an,R.ml,R.mc,R.ma,R.md,R.m1,h⟩
def B2 (M:Nat→Nat→Nat) (x:Nat):Nat→Nat
 | 0=>1
 | k+1=>M (B2 M x k) x
section
variable {q:Nat}{A M:Nat→Nat→Nat}(R:Rng q A M)
include R
theorem Rng.pw_lt {x:Nat}(hx:x<q):∀ k,B2 M x k<q
 | 0=>R.q2
 | k+1=>R.ml _ _ (Rng.pw_lt hx k) hx
theorem Rng.pw_add {x:Nat}(hx:x<q) (i:Nat):∀ j,B2 M x (i+j)=M (B2 M x i) (B2 M x j)
 | 0=>(R.m1 _ (R.pw_lt hx i)).symm
 | j+1=>by
  show M (B2 M x (i+j)) x=M (B2 M x i) (M (B2 M x j) x)
  rw [Rng.pw_add hx i j,R.ma _ _ _ (R.pw_lt hx i) (R.pw_lt hx j) hx]
theorem Rng.one_mul {x:Nat}(hx:x<q):M 1 x=x:=by rw [R.mc 1 x R.q2 hx,R.m1 x hx]
theorem Rng.pw_one:∀ k,B2 M 1 k=1
 | 0=>rfl
 | k+1=>by
  show M (B2 M 1 k) 1=1
  rw [Rng.pw_one k,R.m1 1 R.q2]
theorem Rng.pw_mul {x:Nat}(hx:x<q) (i:Nat):∀ j,B2 M (B2 M x i) j=B2 M x (i*j)
 | 0=>rfl
 | j+1=>by
  show M (B2 M (B2 M x i) j) (B2 M x i)=B2 M x (i*(j+1))
  rw [Rng.pw_mul hx i j,Nat.mul_succ,R.pw_add hx]
theorem Rng.pw_prod {x y:Nat}(hx:x<q) (hy:y<q):∀ k,B2 M (M x y) k=M (B2 M x k) (B2 M y k)
 | 0=>(R.m1 1 R.q2).symm
 | k+1=>by
  have h1:=R.pw_lt hx k
  have h2:=R.pw_lt hy k
  show M (B2 M (M x y) k) (M x y)=M (M (B2 M x k) x) (M (B2 M y k) y)
  rw [Rng.pw_prod hx hy k,R.ma _ _ _ h1 h2 (R.ml _ _ hx hy),R.ma _ _ _ h1 hx (R.ml _ _ h2 hy),← R.ma _ _ _ h2 hx hy,R.mc _ x h2 hx,R.ma _ _ _ hx h2 hy]
theorem Rng.m0 {x:Nat}(hx:x<q):M x 0=0:=by
 have hq:=R.q2
 have h1:=R.md x 0 0 hx (by omega) (by omega)
 have h2:=R.ml x 0 hx (by omega)
 obtain ⟨y,hy,e⟩:=R.an (M x 0) h2
 have h3:A (M x 0) y=A (A (M x 0) (M x 0)) y:=by rw [← h1,R.a0 0 (by omega)]
 rw [R.aa _ _ _ h2 h2 hy,e,R.a0 _ h2] at h3
 exact h3.symm
theorem Rng.z0 {x:Nat}(hx:x<q):A 0 x=x:=by
 have hq:=R.q2
 rw [R.ac 0 x (by omega) hx,R.a0 x hx]
def Ma (q:Nat) (M:Nat→Nat→Nat) (x:Nat):Prop:=(∀ i j,i<j→j<q-1→B2 M x i≠B2 M x j)∧(∀ i,i<q-1→B2 M x i≠0)∧B2 M x (q-1)=1
theorem Rng.gen_mod {x:Nat}(hx:x<q) (h:Ma q M x):∀ k,B2 M x k=B2 M x (k % (q-1)):=by
 intro k
 have h1:∀ n,B2 M x ((q-1)*n)=1:=fun n=>by rw [← R.pw_mul hx,h.2.2,R.pw_one]
 conv=>lhs;rw [← Nat.div_add_mod k (q-1)]
 rw [R.pw_add hx,h1,R.one_mul (R.pw_lt hx _)]
theorem Rng.gen_all {x:Nat}(hx:x<q) (h:Ma q M x) {a:Nat}(ha:a<q) (h0:a≠0):∃ i,i<q-1∧B2 M x i=a:=by
 have hq:=R.q2
 have h1:=AFg (q:=q) (φ:=fun i=>if i=0 then 0 else B2 M x (i-1)) (fun i hi=>by
   split
   ·omega
   ·exact R.pw_lt hx _) (fun i j hi hj e=>by
   by_cases i0:i=0
   ·rw [if_pos i0] at e
    by_cases j0:j=0
    ·omega
    ·rw [if_neg j0] at e
     exact absurd e.symm (h.2.1 _ (by omega))
   ·rw [if_neg i0] at e
    by_cases j0:j=0
    ·rw [if_pos j0] at e
     exact absurd e (h.2.1 _ (by omega))
    ·rw [if_neg j0] at e
     rcases Nat.lt_trichotomy (i-1) (j-1) with h3|h3|h3
     ·exact absurd e (h.1 _ _ h3 (by omega))
     ·omega
     ·exact absurd e.symm (h.1 _ _ h3 (by omega))) (y:=a) ha
 refine Classical.byContradiction fun hn=>?_
 have h2:sm q (fun i=>if (if i=0 then 0 else B2 M x (i-1))=a then (1:Int) else 0)=sm q (fun _=>0):=Sg fun i hi=>if_neg fun e=>by
  by_cases i0:i=0
  ·rw [if_pos i0] at e;exact h0 e.symm
  ·rw [if_neg i0] at e;exact hn ⟨i-1,by omega,e⟩
 rw [h2,Wf] at h1
 omega
theorem Rng.gen_nz {x:Nat}(hx:x<q) (h:Ma q M x):∀ a b,a<q→b<q→M a b=0→a=0∨b=0:=by
 intro a b ha hb e
 have hq:=R.q2
 by_cases a0:a=0
 ·exact .inl a0
 by_cases b0:b=0
 ·exact .inr b0
 obtain ⟨i,hi,rfl⟩:=R.gen_all hx h ha a0
 obtain ⟨j,hj,rfl⟩:=R.gen_all hx h hb b0
 rw [← R.pw_add hx,R.gen_mod hx h] at e
 exact absurd e (h.2.1 _ (Nat.mod_lt _ (by omega)))
end
theorem ABP {P:Nat→Prop}:∀ n,P n→∃ k,k≤n∧P k∧∀ j,j<k→¬ P j:=by
 intro n
 induction n using Nat.strongRecOn with
 | _ n ih =>
  intro h
  by_cases hj:∃ j,j<n∧P j
  ·obtain ⟨j,hj,hp⟩:=hj
   obtain ⟨k,h1,h2,h3⟩:=ih j hj hp
   exact ⟨k,by omega,h2,h3⟩
  ·exact ⟨n,Nat.le_refl _,h,fun j h1 h2=>hj ⟨j,h1,h2⟩⟩
theorem AIQ {m:Nat}(hm:2≤m):∃ r,Prm r∧r∣m:=by
 obtain ⟨r,_,⟨h1,h2⟩,h3⟩:=ABP (P:=fun d=>2≤d∧d∣m) m ⟨hm,Nat.dvd_refl m⟩
 exact ⟨r,⟨h1,fun d hd hl hdr=>h3 d hl ⟨hd,Nat.dvd_trans hdr h2⟩⟩,h2⟩
theorem ADA {r:Nat}(hr:2≤r):∀ m:Nat,1≤m→∃ k m',m=r ^ k*m'∧¬ r∣m':=by
 intro m
 induction m using Nat.strongRecOn with
 | _ m ih =>
  intro h1
  by_cases hd:r∣m
  ·obtain ⟨c,rfl⟩:=hd
   have hc:1≤c:=Nat.pos_of_ne_zero fun e=>by subst e;simp at h1
   have:c<r*c:=by
    have:=Nat.mul_le_mul_right c hr
    omega
   obtain ⟨k,m',e,h2⟩:=ih c this hc
   exact ⟨k+1,m',by rw [Nat.pow_succ,Nat.mul_comm (r ^ k) r,Nat.mul_assoc,← e],h2⟩
  ·exact ⟨0,m,by simp,hd⟩
theorem AFb {r m:Nat}(hr:Prm r) (h:¬ r∣m) (k:Nat):Nat.Coprime (r ^ k) m:=by
 have h1:Nat.Coprime r m:=by
  have:=AFp hr h
  rwa [Nat.gcd_comm] at this
 exact Nat.Coprime.pow_left k h1
theorem AJr {e:Nat}:∀ m:Nat,1≤m→¬ m∣e→∃ r k,Prm r∧r ^ k∣m∧¬ r ^ k∣e:=by
 intro m
 induction m using Nat.strongRecOn with
 | _ m ih =>
  intro h1 h
  have hm:2≤m:=by
   rcases Nat.lt_or_ge 1 m with h2|h2
   ·exact h2
   ·exfalso;apply h
    have:m=1:=by omega
    rw [this];exact Nat.one_dvd _
  obtain ⟨r,hr,hd⟩:=AIQ hm
  obtain ⟨k,m',e1,h2⟩:=ADA hr.1 m h1
  have hk:k≠0:=fun hk=>by subst hk;rw [Nat.pow_zero,Nat.one_mul] at e1;exact h2 (e1▸hd)
  by_cases h3:r ^ k∣e
  ·have hm1:1≤m':=Nat.pos_of_ne_zero fun h0=>by subst h0;simp at e1;omega
   have hlt:m'<m:=by
    have h4:2 ^ 1≤r ^ k:=Nat.le_trans (Nat.pow_le_pow_left hr.1 1) (Nat.pow_le_pow_right (by have:=hr.1;omega) (by omega))
    have:=Nat.mul_le_mul_right m' h4
    omega
   have h5:¬ m'∣e:=fun h6=>h (by rw [e1];exact Nat.Coprime.mul_dvd_of_dvd_of_dvd (AFb hr h2 k) h3 h6)
   obtain ⟨r',k',h7,h8,h9⟩:=ih m' hlt hm1 h5
   exact ⟨r',k',h7,Nat.dvd_trans h8 (by rw [e1];exact Nat.dvd_mul_left _ _),h9⟩
  ·exact ⟨r,k,hr,by rw [e1];exact Nat.dvd_mul_right _ _,h3⟩
section
variable {q:Nat}{A M:Nat→Nat→Nat}(F:Fld q A M)
include F
def N8 (M:Nat→Nat→Nat) (x k:Nat):Prop:=1≤k∧B2 M x k=1∧∀ j,1≤j→j<k→B2 M x j≠1
theorem Fld.pw_ne {x:Nat}(hx:x<q) (h0:x≠0):∀ k,B2 M x k≠0
 | 0=>by show 1≠0;decide
 | k+1=>fun e=>(F.nz _ _ (F.rng.pw_lt hx k) hx e).elim (Fld.pw_ne hx h0 k) h0
theorem Fld.mcan {s x y:Nat}(hs:s<q) (h0:s≠0) (hx:x<q) (hy:y<q) (h:M s x=M s y):x=y:=by
 obtain ⟨ny,hn,en⟩:=F.an y hy
 have h1:M s (A x ny)=0:=by rw [F.md _ _ _ hs hx hn,h,← F.md _ _ _ hs hy hn,en,F.rng.m0 hs]
 have h2:=(F.nz _ _ hs (F.al _ _ hx hn) h1).resolve_left h0
 have h3:A (A x ny) y=A 0 y:=by rw [h2]
 rw [F.aa _ _ _ hx hn hy,F.ac ny y hn hy,en,F.a0 x hx,F.rng.z0 hy] at h3
 exact h3
theorem Fld.ord_ex {x:Nat}(hx:x<q) (h0:x≠0):∃ k,k≤q-1∧N8 M x k:=by
 have hq:=F.q2
 have h1:∃ k,k≤q-1∧1≤k∧B2 M x k=1:=by
  refine Classical.byContradiction fun hn=>?_
  have h2:=AFg (q:=q) (φ:=B2 M x) (fun i _=>F.rng.pw_lt hx i) (fun i j hi hj e=>by
   have key:∀ i j,i<j→j<q→B2 M x i≠B2 M x j:=fun i j hij hj e=>by
    refine hn ⟨j-i,by omega,by omega,?_⟩
    have h3:M (B2 M x i) 1=M (B2 M x i) (B2 M x (j-i)):=by
     rw [← F.rng.pw_add hx,show i+(j-i)=j by omega,F.m1 _ (F.rng.pw_lt hx i),e]
    exact (F.mcan (F.rng.pw_lt hx i) (F.pw_ne hx h0 i) (by omega) (F.rng.pw_lt hx _) h3).symm
   rcases Nat.lt_trichotomy i j with h3|h3|h3
   ·exact absurd e (key i j h3 hj)
   ·exact h3
   ·exact absurd e.symm (key j i h3 hi)) (y:=0) (by omega)
  have h3:sm q (fun i=>if B2 M x i=0 then (1:Int) else 0)=sm q (fun _=>0):=Sg fun i _=>if_neg (F.pw_ne hx h0 i)
  rw [h3,Wf] at h2
  omega
 obtain ⟨k,hk,h2,h3⟩:=h1
 obtain ⟨j,hj,⟨h4,h5⟩,h6⟩:=ABP (P:=fun k=>1≤k∧B2 M x k=1) k ⟨h2,h3⟩
 exact ⟨j,by omega,h4,h5,fun i hi hl e=>h6 i hl ⟨hi,e⟩⟩
theorem Fld.ord_dvd {x k:Nat}(hx:x<q) (h:N8 M x k) {n:Nat}(hn:B2 M x n=1):k∣n:=by
 obtain ⟨h1,h2,h3⟩:=h
 refine Nat.dvd_of_mod_eq_zero (Classical.byContradiction fun h0=>?_)
 refine h3 (n % k) (by omega) (Nat.mod_lt _ (by omega)) ?_
 have h4:B2 M x (k*(n / k))=1:=by rw [← F.rng.pw_mul hx,h2,F.rng.pw_one]
 conv at hn=>lhs;rw [← Nat.div_add_mod n k]
 rw [F.rng.pw_add hx,h4,F.rng.one_mul (F.rng.pw_lt hx _)] at hn
 exact hn
theorem Fld.ord_pow {x d k:Nat}(hx:x<q) (hd:1≤d) (h:N8 M x (d*k)):N8 M (B2 M x d) k:=by
 obtain ⟨h1,h2,h3⟩:=h
 refine ⟨Nat.pos_of_ne_zero fun e=>by subst e;simp at h1,by rw [F.rng.pw_mul hx,h2],fun j hj hl e=>?_⟩
 rw [F.rng.pw_mul hx] at e
 exact h3 (d*j) (Nat.mul_pos hd hj) (Nat.mul_lt_mul_of_pos_left hl hd) e
theorem Fld.ord_mul {x y a b:Nat}(hx:x<q) (hy:y<q) (ha:N8 M x a) (hb:N8 M y b) (hc:Nat.Coprime a b):N8 M (M x y) (a*b):=by
 have key:∀ {x y a b:Nat},x<q→y<q→N8 M x a→N8 M y b→Nat.Coprime a b→∀ n,B2 M (M x y) n=1→a∣n:=fun {x y a b} hx hy ha hb hc n hn=>by
  have h1:B2 M (M x y) (n*b)=1:=by rw [← F.rng.pw_mul (F.ml _ _ hx hy),hn,F.rng.pw_one]
  rw [F.rng.pw_prod hx hy,Nat.mul_comm n b,← F.rng.pw_mul hy,hb.2.1,F.rng.pw_one,F.m1 _ (F.rng.pw_lt hx _)] at h1
  exact (Nat.Coprime.dvd_of_dvd_mul_left hc (F.ord_dvd hx ha h1))
 refine ⟨Nat.mul_pos ha.1 hb.1,?_,fun j hj hl e=>?_⟩
 ·rw [F.rng.pw_prod hx hy,← F.rng.pw_mul hx,ha.2.1,F.rng.pw_one,Nat.mul_comm,← F.rng.pw_mul hy,hb.2.1,F.rng.pw_one,F.m1 1 F.q2]
 ·have h1:=key hx hy ha hb hc j e
  have h2:=key hy hx hb ha hc.symm j (by rw [F.mc y x hy hx];exact e)
  have h3:=Nat.le_of_dvd (by omega) (Nat.Coprime.mul_dvd_of_dvd_of_dvd hc h1 h2)
  omega
omit F in
theorem ADc:∀ (l:List Nat) (x:Nat),(l++[x]).getLastD 0=x:=fun l x=>by simp
def evF (A M:Nat→Nat→Nat):List Nat→Nat→Nat
 | [],_=>0
 | c::P,x=>A c (M x (evF A M P x))
theorem Fld.ev_lt {x:Nat}(hx:x<q):∀ {P:List Nat},(∀ c∈P,c<q)→evF A M P x<q
 | [],_=>by have:=F.q2;show 0<q;omega
 | c::P,h=>F.al _ _ (h c (.head _)) (F.ml _ _ hx (Fld.ev_lt hx fun d hd=>h d (.tail _ hd)))
def Te (A M:Nat→Nat→Nat) (a:Nat):List Nat→List Nat
 | []=>[]
 | [_]=>[]
 | _::d::P=>evF A M (d::P) a::Te A M a (d::P)
theorem Fld.syn_lt {a:Nat}(ha:a<q):∀ {P:List Nat},(∀ c∈P,c<q)→∀ c∈Te A M a P,c<q
 | [],_,c,hc=>by cases hc
 | [_],_,c,hc=>by cases hc
 | b::d::P,h,c,hc=>by
  have h2:∀ c∈d::P,c<q:=fun e he=>h e (.tail _ he)
  rw [Te] at hc
  rcases List.mem_cons.1 hc with rfl|hc
  ·exact F.ev_lt ha h2
  ·exact Fld.syn_lt ha h2 c hc
omit F in
theorem AET (a:Nat):∀ P:List Nat,(Te A M a P).length=P.length-1
 | []=>rfl
 | [_]=>rfl
 | b::d::P=>by
  rw [Te,List.length_cons,AET a (d::P)];simp only [List.length_cons];omega
theorem Fld.syn_last {a:Nat}(ha:a<q):∀ {P:List Nat},(∀ c∈P,c<q)→2≤P.length→(Te A M a P).getLastD 0=P.getLastD 0
 | [],_,h=>by simp at h
 | [_],_,h=>by simp at h
 | [b,d],hP,_=>by
  have hd:d<q:=hP d (.tail _ (.head _))
  show (A d (M a 0):Nat)=d
  rw [F.rng.m0 ha,F.a0 d hd]
 | b::d::e::P,hP,_=>by
  have ih:=Fld.syn_last ha (P:=d::e::P) (fun c hc=>hP c (.tail _ hc)) (by simp)
  rw [Te]
  have hne:Te A M a (d::e::P)≠[]:=fun h=>by rw [Te] at h;cases h
  rw [show (b::d::e::P).getLastD 0=(d::e::P).getLastD 0 by simp [List.getLastD_cons],← ih]
  obtain ⟨x,l,hl⟩:∃ x l,Te A M a (d::e::P)=x::l:=by
   cases h:Te A M a (d::e::P) with
   | nil=>exact absurd h hne
   | cons x l=>exact ⟨x,l,rfl⟩
  rw [hl]
  simp [List.getLastD_cons]
theorem Fld.syn_ev {a na x:Nat}(ha:a<q) (hn:na<q) (en:A a na=0) (hx:x<q):∀ {P:List Nat},(∀ c∈P,c<q)→evF A M P x=A (evF A M P a) (M (A x na) (evF A M (Te A M a P) x))
 | [],_=>by
  have hq:=F.q2
  show 0=A 0 (M (A x na) 0)
  rw [F.rng.m0 (F.al _ _ hx hn),F.a0 0 (by omega)]
 | [c],h=>by
  have hc:=h c (.head _)
  show A c (M x 0)=A (A c (M a 0)) (M (A x na) 0)
  rw [F.rng.m0 hx,F.rng.m0 ha,F.rng.m0 (F.al _ _ hx hn),F.a0 c hc,F.a0 c hc]
 | c::d::P,h=>by
  have hc:=h c (.head _)
  have h2:∀ c∈d::P,c<q:=fun e he=>h e (.tail _ he)
  have ih:=Fld.syn_ev ha hn en hx h2
  have l1:=F.ev_lt ha h2
  have l2:=F.ev_lt hx (F.syn_lt ha h2)
  rw [Te]
  show A c (M x (evF A M (d::P) x))=A (A c (M a (evF A M (d::P) a))) (M (A x na) (A (evF A M (d::P) a) (M x (evF A M (Te A M a (d::P)) x))))
  rw [ih]
  generalize evF A M (d::P) a=u at *
  generalize evF A M (Te A M a (d::P)) x=v at *
  have hd:=F.al _ _ hx hn
  have m1:=F.ml _ _ hd l2
  have m2:=F.ml _ _ hx m1
  have m3:=F.ml _ _ hx l1
  have m4:=F.ml _ _ ha l1
  have m5:=F.ml _ _ hn l1
  have m6:=F.ml _ _ hd l1
  have m7:=F.ml _ _ hx l2
  have m8:=F.ml _ _ hd m7
  rw [F.md _ _ _ hx l1 m1,F.md _ _ _ hd l1 m7,← F.ma _ _ _ hx hd l2,F.mc x _ hx hd,F.ma _ _ _ hd hx l2]
  have e1:M (A x na) u=A (M x u) (M na u):=by
   rw [F.mc _ u hd l1,F.md _ _ _ l1 hx hn,F.mc u x l1 hx,F.mc u na l1 hn]
  have e2:A (M a u) (M na u)=0:=by
   rw [F.mc a u ha l1,F.mc na u hn l1,← F.md _ _ _ l1 ha hn,en,F.rng.m0 l1]
  rw [e1]
  have e3:A (M a u) (A (A (M x u) (M na u)) (M (A x na) (M x v)))=A (M x u) (M (A x na) (M x v)):=by
   rw [← F.aa _ _ _ m4 (F.al _ _ m3 m5) m8,F.ac (M x u) _ m3 m5,← F.aa _ _ _ m4 m5 m3,e2,F.rng.z0 m3]
  rw [F.aa _ _ _ hc m4 (F.al _ _ (F.al _ _ m3 m5) m8),e3]
theorem Fld.roots:∀ (d:Nat) {P:List Nat},P.length=d+1→(∀ c∈P,c<q)→P.getLastD 0≠0→∀ {l:List Nat},l.Nodup→(∀ x∈l,x<q∧evF A M P x=0)→l.length≤d
 | 0,P,hP,hc,h0,l,hn,hl=>by
  obtain ⟨c,rfl⟩:=List.length_eq_one_iff.1 hP
  cases l with
  | nil=>exact Nat.le_refl _
  | cons x l =>
   obtain ⟨hx,e⟩:=hl x (.head _)
   have hcq:=hc c (.head _)
   have e:A c (M x 0)=0:=e
   rw [F.rng.m0 hx,F.a0 c hcq] at e
   exact absurd e h0
 | d+1,P,hP,hc,h0,l,hn,hl=>by
  cases l with
  | nil=>exact Nat.zero_le _
  | cons a l =>
   obtain ⟨ha,ea⟩:=hl a (.head _)
   obtain ⟨h1,h2⟩:=List.nodup_cons.1 hn
   obtain ⟨na,hna,en⟩:=F.an a ha
   have ih:=Fld.roots d (P:=Te A M a P) (by rw [AET,hP];omega) (F.syn_lt ha hc) (by rw [F.syn_last ha hc (by omega)];exact h0) (l:=l) h2 (fun x hx=>by
    obtain ⟨hxq,ex⟩:=hl x (.tail _ hx)
    refine ⟨hxq,?_⟩
    have h3:=F.syn_ev ha hna en hxq hc
    have h4:=F.ev_lt hxq (F.syn_lt ha hc)
    have h5:=F.al _ _ hxq hna
    rw [ex,ea,F.rng.z0 (F.ml _ _ h5 h4)] at h3
    refine (F.nz _ _ h5 h4 h3.symm).resolve_left fun e=>h1 ?_
    have h6:A (A x na) a=A 0 a:=by rw [e]
    rw [F.aa _ _ _ hxq hna ha,F.ac na a hna ha,en,F.a0 x hxq,F.rng.z0 ha] at h6
    exact h6▸hx)
   rw [List.length_cons];omega
theorem Fld.ev_mono {x:Nat}(hx:x<q):∀ k,evF A M (List.replicate k 0++[1]) x=B2 M x k
 | 0=>by
  have hq:=F.q2
  show A 1 (M x 0)=1
  rw [F.rng.m0 hx,F.a0 1 (by omega)]
 | k+1=>by
  rw [List.replicate_succ,List.cons_append]
  show A 0 (M x (evF A M (List.replicate k 0++[1]) x))=M (B2 M x k) x
  rw [Fld.ev_mono hx k,F.rng.z0 (F.ml _ _ hx (F.rng.pw_lt hx k)),F.mc _ _ hx (F.rng.pw_lt hx k)]
theorem Fld.gen_ex:∃ x,1≤x∧x<q∧Ma q M x:=by
 have hq:=F.q2
 -- the greatest order
 obtain ⟨k0,_,⟨g,hg,hg0,e,ek,he⟩,hmax⟩:=ABP (P:=fun k=>∃ g,g<q∧g≠0∧∃ e,e+k=q-1∧N8 M g e) (q-1-(Classical.choose (F.ord_ex (x:=1) (by omega) (by decide)))) (by
  obtain ⟨h1,h2⟩:=Classical.choose_spec (F.ord_ex (x:=1) (by omega) (by decide))
  exact ⟨1,by omega,by decide,_,by omega,h2⟩)
 have hle:∀ x,x<q→x≠0→∀ k,N8 M x k→k≤e:=fun x hx h0 k hk=>by
  refine Nat.le_of_not_lt fun hlt=>?_
  obtain ⟨k',hk',ho⟩:=F.ord_ex hx h0
  have hkk:k=k':=by
   have h1:=F.ord_dvd hx hk ho.2.1
   have h2:=F.ord_dvd hx ho hk.2.1
   exact Nat.dvd_antisymm h1 h2
  exact hmax (q-1-k) (by omega) ⟨x,hx,h0,k,by omega,hk⟩
 have hall:∀ x,x<q→x≠0→B2 M x e=1:=fun x hx h0=>by
  obtain ⟨m,_,ho⟩:=F.ord_ex hx h0
  have hd:m∣e:=Classical.byContradiction fun hn=>by
   obtain ⟨r,k,hr,h1,h2⟩:=AJr m ho.1 hn
   obtain ⟨c,rfl⟩:=h1
   obtain ⟨j,e',ee,h3⟩:=ADA hr.1 e he.1
   have hrk:0<r ^ k:=Nat.pow_pos (by have:=hr.1;omega)
   have hrj:0<r ^ j:=Nat.pow_pos (by have:=hr.1;omega)
   have hc:1≤c:=Nat.pos_of_ne_zero fun h0=>by subst h0;have:=ho.1;simp at this
   have o1:N8 M (B2 M x c) (r ^ k):=F.ord_pow hx hc (by rw [Nat.mul_comm];exact ho)
   have o2:N8 M (B2 M g (r ^ j)) e':=F.ord_pow hg hrj (by rw [← ee];exact he)
   have o3:=F.ord_mul (F.rng.pw_lt hx c) (F.rng.pw_lt hg _) o1 o2 (AFb hr h3 k)
   have hne:M (B2 M x c) (B2 M g (r ^ j))≠0:=fun h=>(F.nz _ _ (F.rng.pw_lt hx c) (F.rng.pw_lt hg _) h).elim (F.pw_ne hx h0 c) (F.pw_ne hg hg0 _)
   have h4:=hle _ (F.ml _ _ (F.rng.pw_lt hx c) (F.rng.pw_lt hg _)) hne _ o3
   have h5:j<k:=Nat.lt_of_not_le fun hkj=>h2 (by rw [ee];exact Nat.dvd_trans (Nat.pow_dvd_pow r hkj) (Nat.dvd_mul_right _ _))
   have h6:r ^ j<r ^ k:=Nat.pow_lt_pow_right hr.1 h5
   have h7:=Nat.mul_lt_mul_of_pos_right h6 (show 0<e' from o2.1)
   omega
  obtain ⟨c,rfl⟩:=hd
  rw [← F.rng.pw_mul hx,ho.2.1,F.rng.pw_one]
 obtain ⟨n1,hn1,en1⟩:=F.an 1 (by omega)
 obtain ⟨e0,rfl⟩:∃ e0,e=e0+1:=⟨e-1,by have:=he.1;omega⟩
 have hroots:=F.roots (e0+1) (P:=n1::(List.replicate e0 0++[1])) (by simp) (fun c hc=>by
   rcases List.mem_cons.1 hc with rfl|hc
   ·exact hn1
   ·rcases List.mem_append.1 hc with hc|hc
    ·rw [(List.mem_replicate.1 hc).2];omega
    ·rw [List.mem_singleton.1 hc];omega) (by rw [← List.cons_append,ADc];decide) (l:=List.range' 1 (q-1)) (List.nodup_range' ..) (fun x hx=>by
   obtain ⟨h1,h2⟩:=List.mem_range'_1.1 hx
   refine ⟨by omega,?_⟩
   have hxq:x<q:=by omega
   show A n1 (M x (evF A M (List.replicate e0 0++[1]) x))=0
   have:=hall x hxq (by omega)
   rw [F.ev_mono hxq,F.mc _ _ hxq (F.rng.pw_lt hxq _)]
   have h3:M (B2 M x e0) x=1:=this
   rw [h3,F.ac n1 1 hn1 (by omega),en1])
 rw [List.length_range'] at hroots
 have eq:e0+1=q-1:=by omega
 rw [eq] at he
 refine ⟨g,by omega,hg,fun i j hij hj e=>?_,fun i _=>F.pw_ne hg hg0 i,he.2.1⟩
 have h3:M (B2 M g i) 1=M (B2 M g i) (B2 M g (j-i)):=by
  rw [← F.rng.pw_add hg,show i+(j-i)=j by omega,F.m1 _ (F.rng.pw_lt hg i),e]
 exact he.2.2 (j-i) (by omega) (by omega) (F.mcan (F.rng.pw_lt hg i) (F.pw_ne hg hg0 i) (by omega) (F.rng.pw_lt hg _) h3).symm
end
set_option maxRecDepth 100000
set_option linter.unusedVariables false
set_option linter.unusedSimpArgs false
theorem ABt (p m x:Nat):C9 p (m+1) x 0=((x % p:Nat):Int):=by rw [P1 (by omega)];rfl
theorem ADo (p m x j:Nat):C9 p (m+1) x (j+1)=C9 p m (x / p) j:=by
 by_cases h:j<m
 ·rw [P1 (by omega),P1 h];rfl
 ·rw [U9 (by omega),U9 (by omega)]
theorem AI4 (p m:Nat) (v:Vz):un p (m+1) v=(v 0 % p).toNat+p*un p m fun j=>v (j+1):=by
 rw [un,List.range_succ_eq_map,List.map_cons,Gj,List.map_map];rfl
theorem Yz (p m x y:Nat):fA p (m+1) x y=(x % p+y % p) % p+p*fA p m (x / p) (y / p):=by
 rw [fA,AI4,ABt,ABt,← Int.natCast_add,← Int.natCast_emod,Int.toNat_natCast,fA]
 rw [show (fun j=>C9 p (m+1) x (j+1)+C9 p (m+1) y (j+1))=fun j=>C9 p m (x / p) j+C9 p m (y / p) j from funext fun j=>by rw [ADo,ADo]]
theorem AJT (p:Nat):∀ m,fA p m 0 0=0
 | 0=>rfl
 | m+1=>by rw [Yz,Nat.zero_div,AJT p m,Nat.zero_mod,Nat.zero_mod];rfl
theorem AHd:∀ {m x y:Nat},x<2 ^ m→y<2 ^ m→fA 2 m x y=x ^^^ y
 | 0,x,y,hx,hy=>by
  obtain rfl:x=0:=by simpa using hx
  obtain rfl:y=0:=by simpa using hy
  rfl
 | m+1,x,y,hx,hy=>by
  rw [Nat.pow_succ] at hx hy
  rw [Yz,AHd (by omega) (by omega)]
  have h1:(x ^^^ y) / 2=x / 2 ^^^ y / 2:=by rw [Nat.xor_div_two]
  have h2:(x ^^^ y) % 2=(x % 2+y % 2) % 2:=by
   have h3:=Nat.xor_mod_two_pow (a:=x) (b:=y) (n:=1)
   rw [Nat.pow_one] at h3
   rw [h3]
   rcases Nat.mod_two_eq_zero_or_one x with e|e <;> rcases Nat.mod_two_eq_zero_or_one y with e'|e' <;> rw [e,e'] <;> rfl
  rw [← h1,← h2]
  omega
def nP (p m x:Nat):Nat:=Gj p ((Db p m x).map fun d=>(p-d) % p)
theorem ABA (p m x:Nat):nP p (m+1) x=(p-x % p) % p+p*nP p m (x / p):=rfl
theorem AJp (p:Nat):∀ m,nP p m 0=0
 | 0=>rfl
 | m+1=>by rw [ABA,Nat.zero_div,AJp p m,Nat.zero_mod,Nat.sub_zero,Nat.mod_self,Nat.mul_zero]
theorem AC7 {p:Nat}(hp:0<p) (m x:Nat):nP p m x<p ^ m:=by
 have:=M5 hp (l:=(Db p m x).map fun d=>(p-d) % p) fun d hd=>by
  obtain ⟨e,_,rfl⟩:=List.mem_map.1 hd
  exact Nat.mod_lt _ hp
 rwa [List.length_map,Dx] at this
theorem AJS {p:Nat}(hp:0<p):∀ (m x:Nat),fA p m x (nP p m x)=0
 | 0,_=>rfl
 | m+1,x=>by
  have h1:=Nat.mod_lt (p-x % p) hp
  have h2:=Nat.mod_lt x hp
  rw [Yz,ABA,Nat.add_mul_div_left _ _ hp,Nat.div_eq_of_lt h1,Nat.zero_add,AJS hp m,Nat.add_mul_mod_self_left,Nat.mod_mod,Nat.add_mod_mod,Nat.mul_zero,Nat.add_zero,Nat.add_sub_of_le (by omega),Nat.mod_self]
def iF (q:Nat) (M:Nat→Nat→Nat) (x:Nat):Nat:=((List.range' 1 (q-1)).find? fun y=>decide (M x y=1)).getD 0
theorem AHO {q x:Nat}{M:Nat→Nat→Nat}(h:∃ y,1≤y∧y<q∧M x y=1):(1≤iF q M x∧iF q M x<q)∧M x (iF q M x)=1:=by
 obtain ⟨y,h1,h2,h3⟩:=h
 rw [iF]
 cases hf:(List.range' 1 (q-1)).find? fun y=>decide (M x y=1) with
 | none =>
  have:=List.find?_eq_none.1 hf y (List.mem_range'_1.2 ⟨h1,by omega⟩)
  simp [h3] at this
 | some z =>
  have h4:=List.mem_range'_1.1 (List.mem_of_find?_eq_some hf)
  exact ⟨⟨h4.1,by show z<q;omega⟩,by simpa using List.find?_some hf⟩
section
variable {q:Nat}{A M:Nat→Nat→Nat}(R:Rng q A M)
include R
theorem Rng.inv_one {x y z:Nat}(hx:x<q) (hy:y<q) (hz:z<q) (h1:M x y=1) (h2:M x z=1):y=z:=by
 have e:M y (M x z)=y:=by rw [h2,R.m1 _ hy]
 rw [← e,← R.ma _ _ _ hy hx hz,R.mc _ _ hy hx,h1,R.mc _ _ R.q2 hz,R.m1 _ hz]
theorem Rng.exp_mul {g i j:Nat}(hg:g<q) (h:Ma q M g):B2 M g ((i+j) % (q-1))=M (B2 M g i) (B2 M g j):=by
 rw [← R.gen_mod hg h,R.pw_add hg]
theorem Rng.exp_inv {g i:Nat}(hg:g<q) (h:Ma q M g) (hi:i<q-1):M (B2 M g i) (B2 M g ((q-1-i) % (q-1)))=1:=by
 rw [← R.gen_mod hg h,← R.pw_add hg,show i+(q-1-i)=q-1 by omega,h.2.2]
end
open Go Go.Fw
set_option maxRecDepth 100000
set_option linter.unusedVariables false
set_option linter.unusedSimpArgs false
set_option maxHeartbeats 0
theorem AEP (l:List Nat) (i z:Nat):Bb (l.set i z)=(Bb l).set i (z:Int):=by simp [Bb,List.map_set]
theorem Oq {l:List Nat}{i:Nat}:(Bb l).getD i 0=((l.getD i 0:Nat):Int):=by
 rw [Bb,List.getD_eq_getElem?_getD,List.getD_eq_getElem?_getD,List.getElem?_map]
 cases l[i]? <;> rfl
theorem Wp {l:List Nat}{i:Nat}(h:i<l.length):l[i]?=some (l.getD i 0):=by
 rw [List.getD_eq_getElem?_getD,List.getElem?_eq_getElem h];rfl
theorem AA5 (n:Nat):Bb (List.replicate n 0)=List.replicate n 0:=by simp [Bb]
theorem Gz {p m nm cm:Nat}{md:List Int}{pm:Option Addr}(K:Fok p m md) {x y:Int}(x0:0≤x) (x1:x<((p ^ m:Nat):Int)) (y0:0≤y) (y1:y<((p ^ m:Nat):Int)) :
  Bt Tryz.prog 132 [.agg #[.int .i64 p,.int .i64 m,.slice pm nm cm],.int .i64 x,.int .i64 y] [] [Ap Ai pm nm cm md] (Rv (.int .i64 (Ad (fM p (Ax m md)) x y)) []):=by
 refine Ab (F:=Q7) rfl fun C=>?_
 have h1:=K.p2
 have h2:=K.p256
 have h3:=K.m8
 have h4:=K.q
 have h5:=K.m1
 have lx:=Dx p m x.toNat
 have ly:=Dx p m y.toNat
 have fl:=K.flen
 have md0:=AHM (p:=p) (by omega) (f:=Ax m md) (by omega) x.toNat y.toNat
 rw [fl] at md0
 have xr:=fun d hd=>I3 (p:=p) (n:=m) (x:=x.toNat) (by omega) d hd
 have yr:=fun d hd=>I3 (p:=p) (n:=m) (x:=y.toNat) (by omega) d hd
 have eR:Ad (fM p (Ax m md)) x y=((Gj p ((List.range m).map fun j=>(Cq (Ax m md) (C9 p m x.toNat) (C9 p m y.toNat) j % p).toNat):Nat):Int):=by
  rw [Ad,fM,un,fl]
 rw [eR]
 clear eR
 refine Ba 0 rfl fun hn _ _=>?_
 subst hn
 generalize hT:(List.range m).map (fun j=>(Cq (Ax m md) (C9 p m x.toNat) (C9 p m y.toNat) j % p).toNat)=T at *
 have lT:T.length=m:=by rw [← hT];simp
 have rT:∀ d∈T,d<p:=fun d hd=>by rw [← hT] at hd;exact ABR (by omega) _ d hd
 clear hT
 have ep:p ^ T.length≤1000000:=by rw [lT];omega
 have H5:=fun {z:Int}(z0:0≤z) (z1:z<((p ^ m:Nat):Int))=>Ec (nm:=md.length) (cm:=cm) (pm:=pm) K z0 z1
 refine wk 22 (ct @H5 (ct @H5 cz)) ?_
 intro b1 b2 b3 b4
 generalize hDX:Db p m x.toNat=DX at *
 generalize hDY:Db p m y.toNat=DY at *
 have mL:=U0 p m (Bb DX) (Bb DY)
 have mR:=Zc (p:=p) (by omega) m (Bb DX) (Bb DY)
 refine Ah (X:=Nat×List Nat) [3,6,7,8,9] [0] (fun x=>[(10,.int .i64 (x.1:Int))]) (fun x=>[(some b4,3,Ao .i64 x.2),(some b3,3,Ao .i64 DY),(some b2,3,Ao .i64 DX),(some b1,24,[.int .i64 p,.int .i64 m,.slice pm md.length cm])]) (fun _=>[])
  (fun x=>x.1≤m∧Bb x.2=Th p m (Bb DX) (Bb DY) x.1) (fun x=>m-x.1) (0,List.replicate (2*m-1) 0) [] rfl rfl rfl ⟨Nat.zero_le _,AA5 _⟩ (by repeat (first|exact Fr.sub_nil _|refine Fr.sub_cons rfl ?_)) rfl rfl ?_
 rintro ⟨i,L⟩ ⟨hi,hL⟩ ih
 simp only [List.cons_append,List.nil_append] at hi hL ih ⊢
 by_cases hil:i<m
 ·refine wk 10 cz ?_
  intro h6
  have ihn:=fun l h=>ih (i+1,l) (by dsimp only;omega) ⟨by dsimp only;omega,h⟩
  simp only [Th] at ihn
  rw [← hL] at ihn
  have lL:L.length=2*m-1:=by rw [← Ch,hL,mL]
  have rL:∀ z∈Bb L,0≤z∧z<(p:Int):=by rw [hL];exact mR i
  have zx:=Wp (l:=DX) (i:=i) (by omega)
  have bx:=xr _ (List.mem_of_getElem? zx)
  rw [Oq] at ihn
  generalize DX.getD i 0=u at *
  refine Ah (X:=Nat×List Nat) [3,6,7,8,9,10,25,26,27,28] [0] (fun x=>[(11,.int .i64 (x.1:Int))]) (fun x=>[(some b4,3,Ao .i64 x.2),(some b3,3,Ao .i64 DY),(some b2,3,Ao .i64 DX),(some b1,24,[.int .i64 p,.int .i64 m,.slice pm md.length cm])]) (fun _=>[])
   (fun x=>x.1≤m∧Bb x.2=Eg p (u:Int) (Bb DY) i x.1 (Bb L)) (fun x=>m-x.1) (0,L) [] rfl rfl rfl ⟨Nat.zero_le _,rfl⟩ (by repeat (first|exact Fr.sub_nil _|refine Fr.sub_cons rfl ?_)) rfl rfl ?_
  rintro ⟨j,S⟩ ⟨hj,hS⟩ ihj
  simp only [List.cons_append,List.nil_append] at hj hS ihj ⊢
  by_cases hjl:j<m
  ·have lS:S.length=2*m-1:=by rw [← Ch,hS,Hl,Ch,lL]
   have rS:=Jr (p:=p) (by omega) (u:Int) (Bb DY) i rL j
   rw [← hS] at rS
   have ihj':=fun l h=>ihj (j+1,l) (by dsimp only;omega) ⟨by dsimp only;omega,h⟩
   simp only [Eg] at ihj'
   rw [← hS] at ihj'
   simp only [Oq] at ihj'
   have zy:=Wp (l:=DY) (i:=j) (by omega)
   have by':=yr _ (List.mem_of_getElem? zy)
   have zs:=Wp (l:=S) (i:=i+j) (by omega)
   have bs:=rS _ (List.mem_of_getElem? (Il zs))
   generalize DY.getD j 0=v at *
   generalize S.getD (i+j) 0=s at *
   have huv:u*v≤65536:=Nat.le_trans (Nat.mul_le_mul (show u≤256 by omega) (show v≤256 by omega)) (by decide)
   have huv':(u:Int)*(v:Int)=((u*v:Nat):Int):=by omega
   have hb0:0≤(u:Int)*(v:Int)∧(u:Int)*(v:Int)≤65536:=by omega
   have em:((s:Int)+(u:Int)*(v:Int)) % (p:Int)=(((s+u*v) % p:Nat):Int):=by rw [huv',← Int.natCast_add,← Int.natCast_emod]
   have hmod:(s+u*v) % p<p:=Nat.mod_lt _ (by omega)
   refine wk 14 cz ?_
   intro h7
   exact tw (ihj' (S.set (i+j) ((s+u*v) % p)) (by rw [AEP,← em]))
  ·obtain rfl:j=m:=by omega
   refine wk 10 cz ?_
   intro h7
   exact tw (ihn S hS)
 ·obtain rfl:i=m:=by omega
  clear ih
  rw [← hL] at md0
  have lL:L.length=2*i-1:=by rw [← Ch,hL,mL]
  have rL:∀ z∈Bb L,0≤z∧z<(p:Int):=by rw [hL];exact mR i
  clear hL mL mR
  have kL:=V3 p (Ax i md) (Bb L)
  have kR:=AAo (p:=p) (by omega) (Ax i md) rL
  have tl:(Bb L).length=2*i-1:=by rw [Ch,lL]
  rw [tl] at kL
  refine wk 12 cz ?_
  intro h6
  refine Ah (X:=Nat×List Nat) [3,6,9] [0] (fun x=>[(12,.int .i64 (2*(i:Int)-2-(x.1:Int)))]) (fun x=>[(some b4,3,Ao .i64 x.2),(some b3,3,Ao .i64 DY),(some b2,3,Ao .i64 DX),(some b1,24,[.int .i64 p,.int .i64 i,.slice pm md.length cm])]) (fun _=>[])
   (fun x=>x.1≤i-1∧Bb x.2=Qq p (Ax i md) (Bb L) x.1) (fun x=>i-1-x.1) (0,L) [] rfl rfl rfl ⟨Nat.zero_le _,rfl⟩ (by refine Fr.sub_consI rfl (by simp) ?_;repeat (first|exact Fr.sub_nil _|refine Fr.sub_cons rfl ?_)) rfl rfl ?_
  rintro ⟨n,Z⟩ ⟨hn,hZ⟩ ih
  simp only [List.cons_append,List.nil_append] at hn hZ ih ⊢
  by_cases hnl:n<i-1
  ·have hi1:i≠1:=by omega
   have hfp:Ax i md=md:=if_neg hi1
   have hml:md.length=i:=K.len hi1
   have hrm:=K.rng
   refine wk 10 cz ?_
   intro h7
   have ihn:=fun l h=>ih (n+1,l) (by dsimp only;omega) ⟨by dsimp only;omega,h⟩
   simp only [Qq] at ihn
   rw [← hZ,tl,hfp,Oq,show 2*i-1-1-n=2*i-2-n by omega] at ihn
   have lZ:Z.length=2*i-1:=by rw [← Ch,hZ,kL]
   have rZ:∀ z∈Bb Z,0≤z∧z<(p:Int):=by rw [hZ];exact kR n
   have zc:=Wp (l:=Z) (i:=2*i-2-n) (by omega)
   have bc:=rZ _ (List.mem_of_getElem? (Il zc))
   generalize hcv:Z.getD (2*i-2-n) 0=c at *
   have hpc:(p:Int)-(c:Int)=((p-c:Nat):Int):=by omega
   rw [hpc] at ihn
   refine Ah (X:=Nat×List Nat) [3,6,9,12,65,66,67,68] [0] (fun x=>[(13,.int .i64 (x.1:Int))]) (fun x=>[(some b4,3,Ao .i64 x.2),(some b3,3,Ao .i64 DY),(some b2,3,Ao .i64 DX),(some b1,24,[.int .i64 p,.int .i64 i,.slice pm md.length cm])]) (fun _=>[])
    (fun x=>x.1≤i∧Bb x.2=Eg p ((p-c:Nat):Int) md (2*i-2-n-i) x.1 (Bb Z)) (fun x=>i-x.1) (0,Z) [] rfl rfl rfl ⟨Nat.zero_le _,rfl⟩ (by repeat (first|exact Fr.sub_nil _|refine Fr.sub_cons rfl ?_)) rfl rfl ?_
   rintro ⟨j,S⟩ ⟨hj,hS⟩ ihj
   simp only [List.cons_append,List.nil_append] at hj hS ihj ⊢
   by_cases hjl:j<i
   ·have lS:S.length=2*i-1:=by rw [← Ch,hS,Hl,Ch,lZ]
    have rS:=Jr (p:=p) (by omega) ((p-c:Nat):Int) md (2*i-2-n-i) rZ j
    rw [← hS] at rS
    have oS:=Xq p ((p-c:Nat):Int) md (2*i-2-n-i) (Bb Z) (i:=2*i-2-n) j (by omega)
    rw [← hS,Oq,Oq,hcv] at oS
    have ihj':=fun l h=>ihj (j+1,l) (by dsimp only;omega) ⟨by dsimp only;omega,h⟩
    simp only [Eg] at ihj'
    rw [← hS] at ihj'
    simp only [Oq] at ihj'
    have hdd:md.getD j 0=md.getD j default:=rfl
    rw [hdd] at ihj'
    have zm:md[j]?=some (md.getD j default):=by rw [List.getD_eq_getElem?_getD,List.getElem?_eq_getElem (by omega)];rfl
    have bm:=hrm _ (List.mem_of_getElem? zm)
    have zi:=Wp (l:=S) (i:=2*i-2-n) (by omega)
    rw [show S.getD (2*i-2-n) 0=c by omega] at zi
    have zs:=Wp (l:=S) (i:=2*i-2-n-i+j) (by omega)
    have bs:=rS _ (List.mem_of_getElem? (Il zs))
    generalize S.getD (2*i-2-n-i+j) 0=s at *
    have hb0:0≤((p-c:Nat):Int)*md.getD j default:=Int.mul_nonneg (by omega) bm.1
    have hb1:((p-c:Nat):Int)*md.getD j default≤65536:=Int.le_trans (Int.mul_le_mul (show ((p-c:Nat):Int)≤256 by omega) (show md.getD j default≤256 by omega) bm.1 (by decide)) (by decide)
    have em0:0≤((s:Int)+((p-c:Nat):Int)*md.getD j default) % (p:Int):=Int.emod_nonneg _ (by omega)
    have em1:((s:Int)+((p-c:Nat):Int)*md.getD j default) % (p:Int)<p:=Int.emod_lt_of_pos _ (by omega)
    refine wk 10 cz ?_
    intro h8 b5 o1
    refine Aa rfl (Wt 0 (((s)+((p-c)*((md.getD j default:Int).toNat))) % (p)) rfl rfl rfl Ci ?_ ?_ ?_)
    ·rw [Int.natCast_emod,Int.natCast_add,Int.natCast_mul,Int.toNat_of_nonneg bm.1]
    ·rw [lS];omega
    refine wk 3 cz ?_
    exact tw (ihj' (S.set (2*i-2-n-i+j) ((s+(p-c)*(md.getD j default).toNat) % p)) (by rw [AEP,Int.natCast_emod,Int.natCast_add,Int.natCast_mul,Int.toNat_of_nonneg bm.1]))
   ·obtain rfl:j=i:=by omega
    refine wk 10 cz ?_
    intro h8
    exact tw (ihn S (by rw [hml];exact hS))
  ·obtain rfl:n=i-1:=by omega
   rw [← hZ] at md0
   have lZ:Z.length=2*i-1:=by rw [← Ch,hZ,kL]
   have rZ:∀ z∈Bb Z,0≤z∧z<(p:Int):=by rw [hZ];exact kR (i-1)
   have Ir:=fun {pd:Option Addr}{cd:Nat}=>F7 (P:=(p:Int)) (M:=(i:Int)) (pm:=pm) (pd:=pd) (nm:=md.length) (cm:=cm) (nd:=i) (cd:=cd) (p:=p) (l:=T) rfl (by omega) h2 rT ep
   rw [← md0] at Ir
   rw [Ho .i64 Z]
   refine Hh 8 (Bb Z) 0 rfl (by rw [Ch,lZ]) (fun z hz=>by have:=rZ z hz;simp only [Bv];omega) (by omega) (by omega) ?_
   simp only [List.eraseIdx_cons_zero]
   generalize (some (⟨b4,0,none⟩:Addr))=pc
   refine wk 8 cz ?_
   intro h7
   (apply E5 it mx 6;(· rfl);(· rfl))
   (apply Ac;(· rfl);(· exact Cy 2 rfl rfl Hy rfl))
   (apply A3 1;(· rfl);(· simp))
   (apply Ac;(· rfl);(· exact Cg fun _=>Aq rfl P9 An))
   (apply Ac;(· rfl);(· exact Ca 2 rfl rfl Ci rfl))
   (apply Ih;(· rfl);(· exact Cg fun _=>AF9 0 (i) rfl rfl rfl Ce (by omega) (by omega) (Lq 0 rfl));intro pa1 ca1)
   (apply Ac;(· rfl);(· exact Cg fun _=>Aw [0] rfl (Ir) rfl (by rintro _ _ _ ⟨rfl,rfl,rfl⟩;exact An)))
   refine Et rfl ?_
   simp only [List.map_cons,List.map_nil,List.cons_append,List.nil_append]
   refine wk 2 cz ?_
   exact ge
theorem Wy {p:Nat}(hp:2≤p) {f:List Int}(hf:1≤f.length):Rng (p ^ f.length) (fA p f.length) (fM p f):=by
 have hp0:0<p:=by omega
 generalize hm:f.length=m at *
 have hq:1<p ^ m:=Nat.one_lt_pow (by omega) hp
 have uc:∀ {u v:Vz},(cg p fun j=>u j-v j)→un p m u=un p m v:=fun h=>Gn fun j _=>h j
 have mo:∀ {u v:Vz},(∀ j,m≤j→v j=0)→∀ j,m≤j→Cq f u v j=0:=fun hv=>by rw [← hm] at hv ⊢;exact ADu hv
 have mcm:∀ {u v:Vz},(∀ j,m≤j→u j=0)→(∀ j,m≤j→v j=0)→Cq f u v=Cq f v u:=fun hu hv=>by rw [← hm] at hu hv;exact Oj hu hv
 have fMe:∀ x y,fM p f x y=un p m (Cq f (C9 p m x) (C9 p m y)):=fun x y=>by rw [fM,hm]
 have mass:∀ {u v w:Vz},(∀ j,m≤j→u j=0)→(∀ j,m≤j→v j=0)→(∀ j,m≤j→w j=0)→Cq f (Cq f u v) w=Cq f u (Cq f v w):=fun {u v w} hu hv hw=>by
  rw [mcm (mo hv) hw,mcm hv hw]
  exact Ke (Eu f) _ _ _
 refine ⟨by omega,fun x y _ _=>Xt hp0 _,fun x y _ _=>?_,fun x y z _ _ _=>?_,fun x hx=>?_,fun x hx=>?_,fun x y _ _=>by rw [fMe];exact Xt hp0 _,fun x y _ _=>?_,fun x y z _ _ _=>?_,fun x y z _ _ _=>?_,fun x hx=>?_⟩
 ·exact congrArg (un p m) (funext fun j=>Int.add_comm _ _)
 ·refine Gn fun j hj=>?_
  have h1:=Du hp0 (fun j=>C9 p m x j+C9 p m y j) hj
  have h2:=Du hp0 (fun j=>C9 p m y j+C9 p m z j) hj
  have:=Int.dvd_sub h1 h2
  rw [fA,fA]
  exact E9 this (by omega)
 ·rw [fA,show (fun j=>C9 p m x j+C9 p m 0 j)=C9 p m x from funext fun j=>by rw [H3];omega]
  exact P7 hp0 hx
 ·refine ⟨un p m fun j=>-C9 p m x j,Xt hp0 _,?_⟩
  rw [fA]
  have:un p m (fun j=>C9 p m x j+C9 p m (un p m fun j=>-C9 p m x j) j)=un p m (C9 p m 0):=Gn fun j hj=>by
   have h1:=Du hp0 (fun j=>-C9 p m x j) hj
   rw [H3]
   exact E9 h1 (by omega)
  rw [this,P7 hp0 (by omega)]
 ·rw [fMe,fMe,mcm (rp p m x) (rp p m y)]
 ·rw [fMe,fMe,fMe,fMe]
  have e1:un p m (Cq f (C9 p m (un p m (Cq f (C9 p m x) (C9 p m y)))) (C9 p m z))=un p m (Cq f (Cq f (C9 p m x) (C9 p m y)) (C9 p m z)):=by
   rw [mcm (rp p m _) (rp p m z),mcm (mo (rp p m y)) (rp p m z)]
   exact uc (Mz _ (Ip hp0 (mo (rp p m y))))
  have e2:un p m (Cq f (C9 p m x) (C9 p m (un p m (Cq f (C9 p m y) (C9 p m z)))))=un p m (Cq f (C9 p m x) (Cq f (C9 p m y) (C9 p m z))):=uc (Mz _ (Ip hp0 (mo (rp p m z))))
  rw [e1,e2,mass (rp p m x) (rp p m y) (rp p m z)]
 ·rw [fMe,fMe,fMe,fA,fA]
  have e1:un p m (Cq f (C9 p m x) (C9 p m (un p m fun j=>C9 p m y j+C9 p m z j)))=un p m (Cq f (C9 p m x) (fun j=>C9 p m y j+C9 p m z j)):=uc (Mz _ (Ip hp0 (AFj (rp p m y) (rp p m z))))
  rw [e1,(V8 f _).add]
  refine Gn fun j hj=>?_
  have h1:=Du hp0 (Cq f (C9 p m x) (C9 p m y)) hj
  have h2:=Du hp0 (Cq f (C9 p m x) (C9 p m z)) hj
  have h3:=Int.dvd_add h1 h2
  exact E9 (Int.dvd_neg.2 h3) (by omega)
 ·rw [fMe,AE5 hp hf,Cq,Pa (g:=f) (fun j hj=>rp p m x j (by omega)),P7 hp0 hx]
theorem ABg {l:List Int}{k:Nat}(h:l.length=k+1):Es l k=l.getLastD 0:=by
 have h1:=Oa (l:=l) (by omega)
 have h2:l.dropLast.length=k:=by rw [List.length_dropLast];omega
 conv=>lhs;rw [h1]
 rw [Es,List.getD_eq_getElem?_getD,List.getElem?_append_right (by omega),h2,Nat.sub_self];rfl
theorem AKQ {p:Nat}(hp:2≤p) {f g:List Int}(hnz:∀ x y,x<p ^ f.length→y<p ^ f.length→fM p f x y=0→x=0∨y=0) (hg:1≤g.length) (hgf:g.length<f.length):¬ cg p (Bi (Xg g) (f++[1]) Bx):=by
 intro hc
 have hp0:0<p:=by omega
 let d:=g.length
 let A:=(f++[1]).take (f.length+1-d)
 let r0:=(f++[1]).drop (f.length+1-d)
 have hA:A.length=f.length+1-d:=by simp only [A,List.length_take,List.length_append,List.length_singleton];omega
 have hr0:r0.length=d:=by simp only [r0,List.length_drop,List.length_append,List.length_singleton];omega
 have hAr:f++[1]=A++r0:=(List.take_append_drop _ _).symm
 have hlast:r0.getLastD 0=1:=by
  have h3:r0=(f.drop (f.length+1-d))++[1]:=by
   simp only [r0]
   rw [List.drop_append_of_le_length (by omega)]
  rw [h3];simp
 obtain ⟨q1,q2⟩:=V7 (g:=g) (F:=A) (r0:=r0) hg hr0
 have ev:=fun {Y:Vz→Vz}(hY:Wx Y) (w:Vz)=>ACA hY (g:=g) hg w (F:=A) (r0:=r0) hr0
 have qt:=Z6 g (F:=A) (r0:=r0) (by omega)
 rw [hlast] at qt
 rw [← hAr] at ev
 generalize (Ny g A r0).1=s at *
 generalize (Ny g A r0).2=r at *
 have hX:=Eu f
 have hr:∀ x∈r,(p:Int)∣x:=by
  rw [ev (Eu g) Bx,Ro hg,(K1 (Eu g) s).zero,Nv (show r.length≤g.length by omega)] at hc
  intro x hx
  obtain ⟨i,hi⟩:=List.getElem?_of_mem hx
  have:=hc i
  have e:(0:Int)+Es r i=x:=by rw [Es,List.getD_eq_getElem?_getD,hi,Int.zero_add];rfl
  exact E9 this e
 have hs:cg p (Bi (Xg f) s (Bi (Xg f) (g++[1]) Bx)):=by
  have h3:=ev hX Bx
  rw [Ro (show 1≤f.length by omega)] at h3
  refine fun j=>?_
  have h5:(0:Int)=Bi (Xg f) s (Bi (Xg f) (g++[1]) Bx) j+Bi (Xg f) r Bx j:=congrFun h3 j
  exact E9 (Int.dvd_neg.2 (Y4 hX Bx hr j)) (by omega)
 have es:Bi (Xg f) s Bx=Es s:=Nv (by omega)
 have eg:Bi (Xg f) (g++[1]) Bx=Es (g++[1]):=Nv (by simp;omega)
 have os:∀ j,f.length≤j→Es s j=0:=fun j hj=>Lb (by omega)
 have og:∀ j,f.length≤j→Es (g++[1]) j=0:=fun j hj=>Lb (by simp;omega)
 have hm:cg p (Cq f (Es s) (Es (g++[1]))):=by
  have e:Cq f (Es s) (Es (g++[1]))=Bi (Xg f) s (Bi (Xg f) (g++[1]) Bx):=by
   rw [Cq,← eg,Ke hX,Pa os,← es,Ke hX]
  rw [e];exact hs
 have h0:fM p f (un p f.length (Es s)) (un p f.length (Es (g++[1])))=0:=by
  rw [fM]
  have e1:un p f.length (Cq f (C9 p f.length (un p f.length (Es s))) (C9 p f.length (un p f.length (Es (g++[1])))))=un p f.length (Cq f (C9 p f.length (un p f.length (Es s))) (Es (g++[1]))) :=
   Gn fun j _=>Mz _ (Ip hp0 og) j
  have e2:un p f.length (Cq f (C9 p f.length (un p f.length (Es s))) (Es (g++[1])))=un p f.length (Cq f (Es s) (Es (g++[1]))):=by
   rw [Oj (rp p f.length _) og,Oj os og]
   exact Gn fun j _=>Mz _ (Ip hp0 os) j
  have e3:un p f.length (Cq f (Es s) (Es (g++[1])))=un p f.length (C9 p f.length 0):=Gn fun j _=>by
   rw [H3,Int.sub_zero];exact hm j
  rw [e1,e2,e3,P7 hp0 (Nat.pow_pos hp0)]
 have no1:¬ (p:Int)∣1:=fun h=>by
  have:=Int.le_of_dvd (by decide) h
  omega
 rcases hnz _ _ (Xt hp0 _) (Xt hp0 _) h0 with h|h
 ·have h1:=Du hp0 (Es s) (show f.length-d<f.length by show f.length-g.length<f.length;omega)
  rw [h,H3,ABg (by omega),qt] at h1
  exact no1 (E9 (Int.dvd_neg.2 h1) (by decide))
 ·have h1:=Du hp0 (Es (g++[1])) (j:=g.length) (by omega)
  have h2:Es (g++[1]) g.length=1:=by
   rw [ABg (l:=g++[1]) (k:=g.length) (by simp)];simp
  rw [h,H3,h2] at h1
  exact no1 (E9 (Int.dvd_neg.2 h1) (by decide))
def hoF (p m:Nat) (f a:List Int) (c:Int) (r:List Int):List Int:=(List.range m).map fun j=>((if j=0 then 0 else r.getD (j-1) 0)+((p:Int)-r.getD (m-1) 0)*f.getD j 0+c*a.getD j 0) % p
theorem ABU (p m:Nat) (f a:List Int) (c:Int) (r:List Int):(hoF p m f a c r).length=m:=by simp [hoF]
theorem AJj {p m:Nat}(hp:0<p) (f a:List Int) (c:Int) (r:List Int):∀ x∈hoF p m f a c r,0≤x∧x<p:=fun x hx=>by
 obtain ⟨j,_,rfl⟩:=List.mem_map.1 hx
 exact ⟨Int.emod_nonneg _ (by omega),Int.emod_lt_of_pos _ (by omega)⟩
theorem AKc {p m:Nat}{f a r:List Int}(hf:f.length=m) (ha:a.length=m) (c:Int):cg p fun j=>Es (hoF p m f a c r) j-(c*Es a j+Xg f (Es r) j):=by
 intro j
 by_cases hj:j<m
 ·have e:Es (hoF p m f a c r) j=((if j=0 then 0 else r.getD (j-1) 0)+((p:Int)-r.getD (m-1) 0)*f.getD j 0+c*a.getD j 0) % p:=by
   rw [Es,hoF,List.getD_eq_getElem?_getD,List.getElem?_map,List.getElem?_range hj];rfl
  show (p:Int)∣Es (hoF p m f a c r) j-(c*Es a j+Xg f (Es r) j)
  have h8:=Int.emod_add_mul_ediv ((if j=0 then 0 else r.getD (j-1) 0)+((p:Int)-r.getD (m-1) 0)*f.getD j 0+c*a.getD j 0) p
  rw [e,Xg,if_pos (show j<f.length by omega),hf]
  generalize ((if j=0 then 0 else r.getD (j-1) 0)+((p:Int)-r.getD (m-1) 0)*f.getD j 0+c*a.getD j 0) / (p:Int)=k at h8
  refine ⟨f.getD j 0-k,?_⟩
  have e2:∀ i,Es r i=r.getD i 0:=fun i=>rfl
  have e3:Es a j=a.getD j 0:=rfl
  rw [e3,e2,e2]
  generalize ((if j=0 then 0 else r.getD (j-1) 0)+((p:Int)-r.getD (m-1) 0)*f.getD j 0+c*a.getD j 0) % (p:Int)=z at *
  grind
 ·show (p:Int)∣Es (hoF p m f a c r) j-(c*Es a j+Xg f (Es r) j)
  rw [Lb (by rw [ABU];omega),Lb (by omega),AHh (by omega)]
  exact ⟨0,by simp⟩
def Xw (p m:Nat) (f a:List Int):List Int→List Int
 | []=>List.replicate m 0
 | c::b=>hoF p m f a c (Xw p m f a b)
theorem AFc (p m:Nat) (f a:List Int):∀ b,(Xw p m f a b).length=m
 | []=>by simp [Xw]
 | c::b=>ABU ..
theorem AFt {p m:Nat}(hp:0<p) (f a:List Int):∀ b,∀ x∈Xw p m f a b,0≤x∧x<p
 | [],x,hx=>by
  rw [Xw] at hx
  rw [(List.mem_replicate.1 hx).2];omega
 | c::b,x,hx=>AJj hp f a c _ x hx
theorem AHD {p m:Nat}{f a:List Int}(hf:f.length=m) (ha:a.length=m):∀ b,cg p fun j=>Es (Xw p m f a b) j-Bi (Xg f) b (Es a) j
 | []=>fun j=>by
  have:Es (List.replicate m (0:Int)) j=0:=by
   rw [Es,List.getD_eq_getElem?_getD]
   cases e:(List.replicate m (0:Int))[j]? with
   | none=>rfl
   | some x=>exact (List.mem_replicate.1 (List.mem_of_getElem? e)).2
  show (p:Int)∣Es (List.replicate m 0) j-0
  rw [this];exact ⟨0,by simp⟩
 | c::b=>fun j=>by
  have h1:=AKc (p:=p) (r:=Xw p m f a b) hf ha c j
  have h2:cg p fun j=>Xg f (Es (Xw p m f a b)) j-Xg f (Bi (Xg f) b (Es a)) j:=by
   have h3:=Z2 (Eu f) (AHD (p:=p) hf ha b)
   have e:=Eu f 1 (-1) (Es (Xw p m f a b)) (Bi (Xg f) b (Es a))
   have e1:(fun j=>1*Es (Xw p m f a b) j+-1*Bi (Xg f) b (Es a) j)=fun j=>Es (Xw p m f a b) j-Bi (Xg f) b (Es a) j:=by funext j;omega
   rw [e1] at e
   rw [e] at h3
   intro j
   have h4:(p:Int)∣1*Xg f (Es (Xw p m f a b)) j+-1*Xg f (Bi (Xg f) b (Es a)) j:=h3 j
   show (p:Int)∣Xg f (Es (Xw p m f a b)) j-Xg f (Bi (Xg f) b (Es a)) j
   exact E9 h4 (by omega)
  have h1:(p:Int)∣Es (hoF p m f a c (Xw p m f a b)) j-(c*Es a j+Xg f (Es (Xw p m f a b)) j):=h1
  have h4:(p:Int)∣Xg f (Es (Xw p m f a b)) j-Xg f (Bi (Xg f) b (Es a)) j:=h2 j
  show (p:Int)∣Es (hoF p m f a c (Xw p m f a b)) j-(c*Es a j+Xg f (Bi (Xg f) b (Es a)) j)
  exact E9 (Int.dvd_add h1 h4) (by omega)
theorem AJG {p:Nat}(hp:0<p) {f:List Int}(x y:Nat):Gj p ((Xw p f.length f (Bb (Db p f.length x)) (Bb (Db p f.length y))).map Int.toNat)=fM p f x y:=by
 have hl:=AFc p f.length f (Bb (Db p f.length x)) (Bb (Db p f.length y))
 have hr:=AFt hp f (m:=f.length) (Bb (Db p f.length x)) (Bb (Db p f.length y))
 have hc:=AHD (p:=p) (f:=f) rfl (show (Bb (Db p f.length x)).length=f.length by rw [Ch,Dx]) (Bb (Db p f.length y))
 rw [fM]
 have e1:Cq f (C9 p f.length x) (C9 p f.length y)=Bi (Xg f) (Bb (Db p f.length y)) (Es (Bb (Db p f.length x))):=by
  rw [Oj (rp p _ x) (rp p _ y),Cq]
  congr 1
  refine List.ext_getElem (by simp [Ch,Dx]) fun i h1 h2=>?_
  rw [List.getElem_map,List.getElem_range,C9,Es,List.getD_eq_getElem?_getD,List.getElem?_eq_getElem h2];rfl
 rw [e1]
 rw [un]
 congr 1
 refine List.ext_getElem (by simp [hl]) fun i h1 h2=>?_
 rw [List.getElem_map,List.getElem_map,List.getElem_range]
 have hi:i<(Xw p f.length f (Bb (Db p f.length x)) (Bb (Db p f.length y))).length:=by simpa using h1
 have h3:=hr _ (List.getElem_mem hi)
 have h4:(p:Int)∣Es (Xw p f.length f (Bb (Db p f.length x)) (Bb (Db p f.length y))) i-Bi (Xg f) (Bb (Db p f.length y)) (Es (Bb (Db p f.length x))) i:=hc i
 rw [Es,List.getD_eq_getElem?_getD,List.getElem?_eq_getElem hi] at h4
 have h5:(Xw p f.length f (Bb (Db p f.length x)) (Bb (Db p f.length y)))[i] % (p:Int)=Bi (Xg f) (Bb (Db p f.length y)) (Es (Bb (Db p f.length x))) i % (p:Int):=Int.emod_eq_emod_iff_emod_sub_eq_zero.2 (Int.emod_eq_zero_of_dvd h4)
 rw [← h5,Int.emod_eq_of_lt h3.1 h3.2]
theorem Ea {P M:Int}{res:Int}(hres:Hv P M=res):Bt Tryz.prog 119 [.int .i64 P,.int .i64 M] [] [] (Rv (.int .i64 res) []):=by
 refine Ab (F:=AAJ) rfl fun C=>?_
 have no:¬ Ue P M→res=0:=fun h=>by rw [← hres,Hv,if_neg h]
 by_cases h1:P<2
 ·rw [no (by unfold Ue;omega)]
  refine wk 13 cz ?_
  intro h2
  exact ge
 by_cases h0:256<P
 ·rw [no fun h=>by
   have h9:=h.2.2.2
   have h8:=Nat.le_self_pow (n:=M.toNat) (by have:=h.2.1;omega) P.toNat
   omega]
  refine wk 18 cz ?_
  intro h2 h3
  exact ge
 by_cases h2:M<1
 ·rw [no (by unfold Ue;omega)]
  refine wk 23 cz ?_
  intro h3 h4 h5
  exact ge
 by_cases h3:8<M
 ·rw [no (by unfold Ue;omega)]
  refine wk 23 cz ?_
  intro h4 h5 h6 h7
  exact ge
 obtain ⟨p,rfl⟩:∃ p:Nat,P=p:=⟨P.toNat,by omega⟩
 obtain ⟨m,rfl⟩:∃ m:Nat,M=m:=⟨M.toNat,by omega⟩
 refine wk 25 cz ?_
 intro h4 h5 h6 h7
 refine Ah (X:=Nat) [0,20] [] (fun i=>[(21,.int .i64 (i:Int)),(5,.int .i64 ((p ^ i:Nat):Int))]) (fun _=>[]) (fun _=>[]) (fun i=>i≤m∧p ^ i≤256) (fun i=>m-i) 0 [] rfl rfl rfl ⟨Nat.zero_le _,by simp⟩ (by repeat (first|exact Fr.sub_nil _|refine Fr.sub_cons rfl ?_)) rfl rfl ?_
 rintro i ⟨hi,hq⟩ ih
 simp only [List.cons_append,List.nil_append] at hi hq ih ⊢
 by_cases hil:i<m
 ·have hp0:0<p:=by omega
  have e:((p ^ i:Nat):Int)*(p:Int)=((p ^ (i+1):Nat):Int):=by rw [Nat.pow_succ,Int.natCast_mul]
  have h65:p ^ (i+1)≤65536:=by rw [Nat.pow_succ];exact Nat.mul_le_mul hq (show p≤256 by omega)
  have e2:0≤((p ^ i:Nat):Int)*(p:Int):=by rw [e];omega
  have e3:((p ^ i:Nat):Int)*(p:Int)≤65536:=by rw [e];omega
  by_cases hb:p ^ (i+1)≤256
  ·have e4:((p ^ i:Nat):Int)*(p:Int)≤256:=by rw [e];omega
   refine wk 13 cz ?_
   intro h8 h9
   rw [e]
   exact tw (ih (i+1) (by omega) ⟨by omega,hb⟩)
  ·have e4:256<((p ^ i:Nat):Int)*(p:Int):=by rw [e];omega
   rw [no fun h=>hb (Nat.le_trans (Nat.pow_le_pow_right hp0 hil) (by have:=h.2.2.2;simpa using this))]
   refine wk 13 cz ?_
   intro h8 h9
   exact ge
 ·obtain rfl:m=i:=by omega
  have:res=((p ^ m:Nat):Int):=by
   rw [← hres,Hv,if_pos ⟨by omega,by omega,by omega,by simpa using hq⟩];simp
  rw [this]
  refine wk 7 cz ?_
  intro h8
  exact ge
theorem AHN {n:Nat}(hn:2≤n) (h:∀ d,2≤d→d*d≤n→¬ d∣n):Prm n:=by
 refine ⟨hn,fun d hd hl hdv=>?_⟩
 obtain ⟨c,rfl⟩:=hdv
 have hc:2≤c:=by
  rcases Nat.lt_or_ge c 2 with h1|h1
  ·exfalso
   have:c=0∨c=1:=by omega
   rcases this with rfl|rfl <;> simp at hn hl
  ·exact h1
 rcases Nat.le_total d c with h1|h1
 ·exact h d hd (Nat.mul_le_mul_left d h1) (Nat.dvd_mul_right _ _)
 ·exact h c hc (Nat.mul_le_mul_right c h1) (Nat.dvd_mul_left _ _)
theorem Qg {n:Nat}(hn:2≤n) (hn2:n≤1000000) {res:Bool}(hres:res=true↔Prm n):Bt Tryz.prog 155 [.int .i64 n] [] [] (Rv (.bool res) []):=by
 refine Ab (F:=Yf) rfl fun C=>?_
 refine wk 5 cz ?_
 refine Ah (X:=Nat) [0] [] (fun d=>[(3,.int .i64 (d:Int))]) (fun _=>[]) (fun _=>[]) (fun d=>2≤d∧d≤n∧∀ e,2≤e→e<d→¬ e∣n) (fun d=>n-d) 2 [] rfl rfl rfl ⟨Nat.le_refl 2,hn,fun e h1 h2=>by omega⟩ (by repeat (first|exact Fr.sub_nil _|refine Fr.sub_cons rfl ?_)) rfl rfl ?_
 rintro d ⟨hd,hdn,hall⟩ ih
 simp only [List.cons_append,List.nil_append] at hd hdn hall ih ⊢
 have q0:(0:Int)≤(d:Int)*(d:Int):=Int.mul_nonneg (by omega) (by omega)
 have q1:(d:Int)*(d:Int)≤1000000*1000000:=Int.mul_le_mul (by omega) (by omega) (by omega) (by omega)
 have q2:(d:Int)*(d:Int)=((d*d:Nat):Int):=(Int.natCast_mul d d).symm
 by_cases Iy:d*d≤n
 ·have hlt:d<n:=by
   have:=Nat.mul_le_mul_right d hd
   omega
  by_cases hm:n % d=0
  ·have hm':(n:Int) % (d:Int)=0:=by omega
   have:res=false:=by
    cases res with
    | false=>rfl
    | true=>exact absurd (Nat.dvd_of_mod_eq_zero hm) ((hres.1 rfl).2 d hd hlt)
   rw [this]
   refine wk 11 cz ?_
   intro h1 h2
   exact ge
  ·have hm':¬ (n:Int) % (d:Int)=0:=by omega
   refine wk 11 cz ?_
   intro h1 h2
   exact tw (ih (d+1) (by omega) ⟨by omega,by omega,fun e h1 h2=>by
    rcases Nat.lt_succ_iff_lt_or_eq.1 h2 with h3|rfl
    ·exact hall e h1 h3
    ·exact fun hdv=>hm (Nat.mod_eq_zero_of_dvd hdv)⟩)
 ·have:res=true:=hres.2 (AHN hn fun e h1 h2=>by
   refine hall e h1 (Nat.lt_of_not_le fun hle=>Iy ?_)
   exact Nat.le_trans (Nat.mul_le_mul hle hle) h2)
  rw [this]
  refine wk 7 cz ?_
  intro h1
  rw [decide_eq_true (show (2:Int)≤(n:Int) by omega)]
  exact ge
theorem Ju {p n x:Nat}(hp:1≤p) (hp2:p≤1000000) (hn:n≤100) (hx:x≤1000000000):Bt Tryz.prog 194 [.int .i64 x,.int .i64 p,.int .i64 n] [] [] (SvI n (Bb (Db p n x))):=by
 refine Ab (F:=W3) rfl fun C=>?_
 have hl:=Dx p n x
 refine wk 11 cz ?_
 intro b1
 rw [show List.replicate n 0=(Db p n x).take 0++List.replicate (n-0) 0 by simp]
 refine Ah (X:=Nat) [1,6,7,12] [] (fun i=>[(13,.int .i64 (i:Int)),(0,.int .i64 ((x / p ^ i:Nat):Int))]) (fun i=>[(some b1,3,Ao .i64 ((Db p n x).take i++List.replicate (n-i) 0))]) (fun _=>[]) (fun i=>i≤n) (fun i=>n-i) 0 [] rfl rfl rfl (Nat.zero_le _) (by refine Fr.sub_cons rfl ?_;refine Fr.sub_consI rfl (by simp) ?_;repeat (first|exact Fr.sub_nil _|refine Fr.sub_cons rfl ?_)) rfl rfl ?_
 rintro i hi ih
 simp only [List.cons_append,List.nil_append] at hi ih ⊢
 have hxi:x / p ^ i≤x:=Nat.div_le_self _ _
 have hz:=fun h=>ACe (p:=p) (n:=n) (i:=i) (x:=x) h
 have hnx:x / p ^ (i+1)=x / p ^ i / p:=by rw [Nat.pow_succ,← Nat.div_div_eq_div_mul]
 by_cases hil:i<n
 ·have ih':=ih (i+1) (by omega) (by omega)
  rw [hnx,← AAe hl hil (hz hil)] at ih'
  generalize x / p ^ i=y at *
  have e1:(y:Int) % (p:Int)=((y % p:Nat):Int):=(Int.natCast_emod _ _).symm
  have e2:(y:Int) / (p:Int)=((y / p:Nat):Int):=(Int.natCast_ediv _ _).symm
  have hlen:((Db p n x).take i++List.replicate (n-i) 0).length=n:=by simp [hl];omega
  refine wk 15 cz ?_
  intro h1
  rw [e2]
  exact tw (ih')
 ·obtain rfl:i=n:=by omega
  clear hz hnx
  rw [List.take_of_length_le (by omega),Nat.sub_self,List.replicate_zero,List.append_nil,Ho]
  refine wk 7 cz ?_
  intro h1
  refine Hh 8 (Bb (Db p i x)) 0 rfl (by rw [Ch,hl]) (Vu fun d hd=>by have:=I3 (by omega) d hd;omega) (by omega) (by omega) ?_
  refine Ov [0] rfl rfl rfl ⟨_,_,rfl,rfl,rfl⟩
theorem X6 {pd:Option Addr}{nd cd p:Nat}{l:List Nat}(hp:1≤p) (hp2:p≤256) (hd:∀ x∈l,x<p) (hl:p ^ l.length≤1000000) :
  Bt Tryz.prog 195 [.slice pd nd cd,.int .i64 p] [] [Ap Ai pd nd cd (Bb l)] (Rv (.int .i64 ((Gj p l:Nat):Int)) []):=by
 refine Ab (F:=Ym) rfl fun C=>?_
 refine Ba 0 rfl fun hn hb _=>?_
 rw [Ch] at hn hb
 subst hn
 have hb:l.length*8≤140737488355328:=hb
 refine wk 9 cz ?_
 refine Ah (X:=Nat) [0,1,4] [0] (fun j=>[(6,.int .i64 ((j:Int)-1)),(5,.int .i64 ((Gj p (l.drop j):Nat):Int))]) (fun _=>[]) (fun _=>[]) (fun j=>j≤l.length) (fun j=>j) l.length [] rfl rfl rfl (Nat.le_refl _) (by refine Fr.sub_cons rfl ?_;refine Fr.sub_consI rfl (by simp [Gj]) ?_;repeat (first|exact Fr.sub_nil _|refine Fr.sub_cons rfl ?_)) rfl rfl ?_
 rintro j hj ih
 simp only [List.cons_append,List.nil_append] at hj ih ⊢
 have hlt:Gj p (l.drop j)<p ^ l.length:=Nat.lt_of_lt_of_le (M5 (by omega) fun x hx=>hd x (List.mem_of_mem_drop hx)) (Nat.pow_le_pow_right (by omega) (by rw [List.length_drop];omega))
 cases j with
 | zero =>
  rw [List.drop_zero]
  refine wk 7 cz ?_
  intro h1
  exact ge
 | succ j =>
  have at_z:(Bb l)[j]?=some ((l.getD j 0:Nat):Int):=Il (by rw [List.getD_eq_getElem?_getD,List.getElem?_eq_getElem (by omega)];rfl)
  have hz2:l.getD j 0<p:=hd _ (List.mem_of_getElem? (i:=j) (by rw [List.getD_eq_getElem?_getD,List.getElem?_eq_getElem (by omega)];rfl))
  have ih':=ih j (by omega) (by omega)
  have hlt2:Gj p (l.drop j)<p ^ l.length:=Nat.lt_of_lt_of_le (M5 (by omega) fun x hx=>hd x (List.mem_of_mem_drop hx)) (Nat.pow_le_pow_right (by omega) (by rw [List.length_drop];omega))
  rw [ABx (show j<l.length by omega)] at ih' hlt2
  generalize Gj p (l.drop (j+1))=v at *
  generalize hw:l.getD j 0=w at *
  have at_z2:(Bb l)[j+1-1]?=some (w:Int):=by rw [Nat.add_sub_cancel];exact at_z
  have hvp:(v:Int)*(p:Int)≤1000000:=by rw [← Int.natCast_mul,Nat.mul_comm];omega
  have hv0:0≤(v:Int)*(p:Int):=by rw [← Int.natCast_mul];omega
  have e:(v:Int)*(p:Int)+(w:Int)=((w+p*v:Nat):Int):=by rw [Int.natCast_add,Int.natCast_mul,Int.mul_comm];omega
  refine wk 7 cz ?_
  intro h1 b1 o1 hz1
  refine Aa rfl (Av 0 rfl rfl Ci fun ⟨r1,r2⟩=>?_)
  refine wk 4 cz ?_
  rw [e]
  exact tw (ih')
def AHR (P M:Int) (md:List Int):Prop:=Ue P M∧Prm P.toNat∧(M=1→md.length=0)∧(M≠1→(md.length:Int)=M∧∀ x∈md,0≤x∧x<P)
theorem Jy {P M:Int}{pm:Option Addr}{nm cm:Nat}{md:List Int}{res:Bool}(hres:res=true↔AHR P M md):Bt Tryz.prog 118 [.agg #[.int .i64 P,.int .i64 M,.slice pm nm cm]] [] [Ap Ai pm nm cm md] (Rv (.bool res) []):=by
 refine Ab (F:=AAF) rfl fun C=>?_
 refine Ba 0 rfl fun hn1 hb1 _=>?_
 subst hn1
 have hb1':md.length*8≤140737488355328:=hb1
 have no:¬ AHR P M md→res=false:=fun h=>by
  cases res with
  | false=>rfl
  | true=>exact absurd (hres.1 rfl) h
 by_cases h1:Ue P M
 ·have ho:Hv P M≠0:=by
   rw [Hv,if_pos h1]
   have:=Nat.pow_pos (n:=M.toNat) (show 0<P.toNat by have:=h1.1;omega)
   omega
  have hP256:P.toNat≤256:=Nat.le_trans (Nat.le_self_pow (by have:=h1.2.1;omega) _) h1.2.2.2
  obtain ⟨p,rfl⟩:∃ p:Nat,P=p:=⟨P.toNat,by have:=h1.1;omega⟩
  rw [Int.toNat_natCast] at hP256
  have hp2:2≤p:=by have:=h1.1;omega
  by_cases h2:Prm p
  ·have Fe:=Qg hp2 (by omega) (res:=true) ⟨fun _=>h2,fun _=>rfl⟩
   by_cases hM:M=1
   ·subst hM
    by_cases h3:md.length=0
    ·have:res=true:=hres.2 ⟨h1,h2,fun _=>h3,fun h=>absurd rfl h⟩
     rw [this]
     refine wk 30 (ct @Ea (ct @Fe cz)) ?_
     intro b1 h4 h5
     rw [decide_eq_true (show (md.length:Int)=0 by omega)]
     exact ge
    ·rw [no fun h=>h3 (h.2.2.1 rfl)]
     refine wk 30 (ct @Ea (ct @Fe cz)) ?_
     intro b1 h4 h5
     rw [decide_eq_false (show ¬ (md.length:Int)=0 by omega)]
     exact ge
   ·by_cases h3:(md.length:Int)=M
    ·generalize hall:md.all (fun x=>decide (0≤x∧x<(p:Int)))=al
     have hr:res=al:=by
      cases al with
      | true=>exact hres.2 ⟨h1,h2,fun h=>absurd h hM,fun _=>⟨h3,fun x hx=>by simpa using List.all_eq_true.1 hall x hx⟩⟩
      | false =>
       refine no fun h=>?_
       obtain ⟨x,hx,hn⟩:=List.all_eq_false.1 hall
       exact hn (decide_eq_true ((h.2.2.2 hM).2 x hx))
     rw [hr]
     clear hr hres no
     refine wk 39 (ct @Ea (ct @Fe cz)) ?_
     intro b1 h4 h5 h6
     refine Ah (X:=Nat) [1,31,32] [0] (fun i=>[(33,.int .i64 (i:Int))]) (fun _=>[(some b1,24,[.int .i64 (p:Int),.int .i64 M,.slice pm md.length cm])]) (fun _=>[]) (fun i=>i≤md.length∧(md.drop i).all (fun x=>decide (0≤x∧x<(p:Int)))=al) (fun i=>md.length-i) 0 [] rfl rfl rfl ⟨Nat.zero_le _,hall⟩ (by repeat (first|exact Fr.sub_nil _|refine Fr.sub_cons rfl ?_)) rfl rfl ?_
     rintro i ⟨hi,he⟩ ih
     simp only [List.cons_append,List.nil_append] at hi he ih ⊢
     by_cases hil:i<md.length
     ·obtain ⟨z,at_z,ed⟩:∃ z,md[i]?=some z∧md.drop i=z::md.drop (i+1):=⟨md[i],List.getElem?_eq_getElem hil,List.drop_eq_getElem_cons hil⟩
      rw [ed,List.all_cons] at he
      by_cases h4:0≤z∧z<(p:Int)
      ·rw [decide_eq_true h4,Bool.true_and] at he
       refine wk 13 cz ?_
       intro h7 b2 o1 hz1 _ r1 r2
       refine By (t:=39) rfl (fun h8=>by exfalso;omega) (fun h8=>?_)
       refine wk 9 cz ?_
       intro h9
       exact tw (ih (i+1) (by omega) ⟨by omega,he⟩)
      ·rw [decide_eq_false h4,Bool.false_and] at he
       subst he
       by_cases h5:z<0
       ·refine Am [_,_,_,_,_] rfl ?_
        refine Ae it 1 rfl (by simp) ?_
        refine Am [_,_,_,_,_] rfl ?_
        refine Lc rfl rfl (fun h7=>?_) (fun h7=>by exfalso;omega)
        refine Am [_,_,_,_,_,_,_] rfl ?_
        refine Aa rfl (Iw 0 (i) rfl rfl rfl Ce rfl (by omega) fun z1 hz1 b2 o1=>?_)
        obtain rfl:_=z1:=Option.some.inj (at_z.symm.trans hz1)
        refine Aa rfl (Av 0 rfl rfl Ci fun ⟨r1,r2⟩=>?_)
        refine Ae it 1 rfl (by simp) ?_
        refine Am [_,_,_,_,_,_,_] rfl ?_
        refine Ae it 3 rfl (by simp) ?_
        refine By (t:=39) rfl (fun h8=>?_) (fun h8=>by exfalso;omega)
        refine Ae it 5 rfl (by simp) ?_
        refine Am [_,_,_,_,_,_] rfl ?_
        refine So rfl rfl ?_
        refine Am [_,_,_,_,_,_,_] rfl ?_
        refine Ae it 1 rfl (by simp) ?_
        refine Am [_,_,_,_,_,_] rfl ?_
        exact ge
       ·refine wk 13 cz ?_
        intro h7 b2 o1 hz1 _ r1 r2
        refine By (t:=39) rfl (fun h8=>by exfalso;omega) (fun h8=>?_)
        refine wk 9 cz ?_
        intro h9
        exact ge
     ·obtain rfl:i=md.length:=by omega
      rw [List.drop_length,List.all_nil] at he
      subst he
      refine wk 7 cz ?_
      intro h7
      exact ge
    ·rw [no fun h=>h3 (h.2.2.2 hM).1]
     refine wk 36 (ct @Ea (ct @Fe cz)) ?_
     intro b1 h4 h5 h6
     exact ge
  ·have Fe:=Qg hp2 (by omega) (res:=false) ⟨fun h=>(by cases h),fun h=>absurd h h2⟩
   rw [no fun h=>h2 h.2.1]
   refine wk 21 (ct @Ea (ct @Fe cz)) ?_
   intro b1 h3
   exact ge
 ·have ho:Hv P M=0:=by rw [Hv,if_neg h1]
  rw [no fun h=>h1 h.1]
  refine wk 15 (ct @Ea cz) ?_
  intro b1
  exact ge
structure Shp (p m:Nat) (md:List Int):Prop where
 p2:2≤p
 m1:1≤m
 m8:m≤8
 q:p ^ m≤256
 one:m=1→md=[]
 len:m≠1→md.length=m
 rng:∀ x∈md,0≤x∧x<(p:Int)
theorem Fok.shp {p m:Nat}{md:List Int}(K:Fok p m md):Shp p m md:=⟨K.p2,K.m1,K.m8,K.q,K.one,K.len,K.rng⟩
section
variable {p m:Nat}{md:List Int}(K:Shp p m md)
include K
theorem Shp.p256:p≤256:=Nat.le_trans (Nat.le_self_pow (by have:=K.m1;omega) p) K.q
theorem Shp.flen:(Ax m md).length=m:=by
 unfold Ax
 by_cases h:m=1
 ·rw [if_pos h,h];rfl
 ·rw [if_neg h,K.len h]
end
theorem AIM {T Z S:List Int}{j m:Nat}{z:Int}(hT:T.length=m) (hZ:Z.length=m) (hj:j<m) (hS:S=T.take j++Z.drop j) (hz:T.getD j 0=z):S.set j z=T.take (j+1)++Z.drop (j+1):=by
 rw [hS,List.set_append,if_neg (by rw [List.length_take];omega),List.length_take,Nat.min_eq_left (by omega),Nat.sub_self,List.drop_eq_getElem_cons (by omega),List.set_cons_zero,List.take_succ_eq_append_getElem (by omega),List.append_assoc]
 rw [List.getD_eq_getElem?_getD,List.getElem?_eq_getElem (by omega)] at hz
 rw [← hz];rfl
theorem AH3 {R:List Int}{m:Nat}(h:R.length=m) (hm:1≤m):(cpL R 1 0 (m-1)).set 0 0=0::R.take (m-1):=by
 refine List.ext_getElem? fun i=>?_
 have hl:=AE4 (cs:=R) (o1:=1) (o2:=0) (n:=m-1) (by omega) (by omega)
 rw [List.getElem?_set]
 by_cases h0:0=i
 ·subst h0
  rw [if_pos rfl,if_pos (by omega)];rfl
 ·rw [if_neg h0,AI7 (by omega) (by omega),if_neg (by omega)]
  obtain ⟨i,rfl⟩:∃ k,i=k+1:=⟨i-1,by omega⟩
  rw [List.getElem?_cons_succ,List.getElem?_take]
  by_cases h1:i+1<1+(m-1)
  ·rw [if_pos h1,if_pos (by omega)];congr 1;omega
  ·rw [if_neg h1,if_neg (by omega),List.getElem?_eq_none (by omega)]
theorem AHQ {l:List Int}{i:Nat}(h:i<l.length):l[i]?=some (l.getD i 0):=by
 rw [List.getD_eq_getElem?_getD,List.getElem?_eq_getElem h];rfl
theorem Js {nm cm:Nat}{pm:Option Addr}{p m:Nat}{md:List Int}(K:Shp p m md) {x y:Nat}(hx:x<p ^ m) (hy:y<p ^ m) :
  Bt Tryz.prog 157 [.agg #[.int .i64 p,.int .i64 m,.slice pm nm cm],.int .i64 x,.int .i64 y] [] [Ap Ai pm nm cm md] (Rv (.int .i64 ((fM p (Ax m md) x y:Nat):Int)) []):=by
 refine Ab (F:=Xb) rfl fun C=>?_
 have h1:=K.p2
 have h2:=K.p256
 have h3:=K.m8
 have h4:=K.m1
 have hq:=K.q
 have hl:=K.flen
 refine Ba 0 rfl fun en hb _=>?_
 subst en
 have hmul:=AJG (p:=p) (by omega) (f:=Ax m md) x y
 rw [hl] at hmul
 have lx:(Bb (Db p m x)).length=m:=by rw [Ch,Dx]
 have ly:(Bb (Db p m y)).length=m:=by rw [Ch,Dx]
 have rx:∀ z∈Bb (Db p m x),0≤z∧z<(p:Int):=fun z hz=>by
  obtain ⟨d,hd,rfl⟩:=List.mem_map.1 hz
  have:=I3 (p:=p) (by omega) d hd;omega
 have ry:∀ z∈Bb (Db p m y),0≤z∧z<(p:Int):=fun z hz=>by
  obtain ⟨d,hd,rfl⟩:=List.mem_map.1 hz
  have:=I3 (p:=p) (by omega) d hd;omega
 have hx9:x≤1000000000:=by omega
 have hy9:y≤1000000000:=by omega
 refine wk 16 (ct @Ju (ct @Ju cz)) ?_
 intro b1 pa1 ca1 pa2 ca2 b2
 generalize Bb (Db p m x)=DX at *
 generalize Bb (Db p m y)=DY at *
 generalize fM p (Ax m md) x y=res at *
 rw [Ho,AA5]
 have hd0:Xw p m (Ax m md) DX (DY.drop m)=List.replicate m 0:=by
  rw [List.drop_of_length_le (by omega),Xw]
 refine Ah (X:=Nat×List Int) [3,6,7,8,9] [0,1,2] (fun x=>[(10,.int .i64 ((x.1:Int)-1))]) (fun x=>[(some b2,3,Al .i64 x.2),(some b1,24,[.int .i64 p,.int .i64 m,.slice pm md.length cm])]) (fun _=>[])
  (fun x=>x.1≤m∧x.2=Xw p m (Ax m md) DX (DY.drop x.1)) (fun x=>x.1) (m,List.replicate m 0) [] rfl rfl rfl ⟨Nat.le_refl _,hd0.symm⟩ (by repeat (first|exact Fr.sub_nil _|refine Fr.sub_cons rfl ?_)) rfl rfl ?_
 rintro ⟨j,R⟩ ⟨hj,hR⟩ ih
 simp only [List.cons_append,List.nil_append] at hj hR ih ⊢
 have lR:R.length=m:=by rw [hR,AFc]
 have rR:∀ z∈R,0≤z∧z<(p:Int):=by rw [hR];exact AFt (by omega) _ _ _
 cases j with
 | zero =>
  rw [List.drop_zero] at hR
  rw [← hR] at hmul
  have eRn:Bb (R.map Int.toNat)=R:=Sx fun z hz=>(rR z hz).1
  have rRn:∀ z∈R.map Int.toNat,z<p:=fun z hz=>by
   obtain ⟨d,hd,rfl⟩:=List.mem_map.1 hz
   have:=rR d hd;omega
  have Qk:=fun {pd:Option Addr}{nd cd:Nat}=>X6 (pd:=pd) (nd:=nd) (cd:=cd) (p:=p) (l:=R.map Int.toNat) (by omega) h2 rRn (by rw [List.length_map,lR];omega)
  rw [hmul,eRn] at Qk
  refine Hh 8 R 0 rfl lR.symm (fun z hz=>by have:=rR z hz;simp only [Bv];omega) (by omega) (by omega) ?_
  simp only [List.eraseIdx_cons_zero]
  refine wk 11 (ct @Qk cz) ?_
  intro h5
  exact ge
 | succ j =>
  have at_v:DY[j]?=some (DY.getD j 0):=AHQ (by omega)
  have bv:=ry _ (List.mem_of_getElem? at_v)
  have eR:Xw p m (Ax m md) DX (DY.drop j)=hoF p m (Ax m md) DX (DY.getD j 0) R:=by
   have hjl:j<DY.length:=by omega
   rw [List.drop_eq_getElem_cons hjl,Xw,← hR,show DY[j]=DY.getD j 0 from Option.some.inj ((List.getElem?_eq_getElem hjl).symm.trans at_v)]
  have ih':=fun l (h:l=hoF p m (Ax m md) DX (DY.getD j 0) R)=>ih (j,l) (by dsimp only;omega) ⟨by dsimp only;omega,by dsimp only;rw [eR];exact h⟩
  dsimp only at ih'
  have lT:=ABU p m (Ax m md) DX (DY.getD j 0) R
  have at_t:R[m-1]?=some (R.getD (m-1) 0):=AHQ (by omega)
  have rt:=rR _ (List.mem_of_getElem? at_t)
  have hT:∀ i,i<m→(hoF p m (Ax m md) DX (DY.getD j 0) R).getD i 0=((if i=0 then 0 else R.getD (i-1) 0)+((p:Int)-R.getD (m-1) 0)*(Ax m md).getD i 0+DY.getD j 0*DX.getD i 0) % p:=fun i hi=>by
   rw [hoF,List.getD_eq_getElem?_getD,List.getElem?_map,List.getElem?_range hi];rfl
  generalize hoF p m (Ax m md) DX (DY.getD j 0) R=T at *
  generalize hvv:DY.getD j 0=v at *
  generalize htop:R.getD (m-1) 0=top at *
  have hcl:(cpL R (1*1) 0 (m-1)).length=m:=by rw [AE4 (by omega) (by omega),lR]
  refine wk 10 cz ?_
  intro h5
  refine Aa rfl (ABu 0 rfl rfl Ci (by first|omega|(simp;omega)) fun z1 hz1=>?_)
  obtain rfl:_=z1:=Option.some.inj (at_t.symm.trans hz1)
  refine wk 2 cz ?_
  (refine Py [0,1] rfl rfl ?_;apply Vd it mx 1 8;(· rfl);(· rfl);(· rfl))
  (apply A3 1;(· rfl);(· simp))
  (apply Ac;(· rfl);(· exact Cg fun _=>AAD (1) rfl rfl Ce (by omega) (by omega) (by omega) An))
  (apply A3 1;(· rfl);(· simp))
  (apply Ac;(· rfl);(· exact Cg fun _=>Aq rfl P9 An))
  (apply Ac;(· rfl);(· exact Ca 0 rfl rfl Ci rfl))
  (apply Ac (v:=Value.int IntKind.i64 ((((m)-1:Nat)):Int));(· rfl);(· exact Cg fun _=>ADl it _ rfl ⟨by omega,by omega⟩ (by omega) An))
  simp only [Nat.add_sub_cancel]
  (apply Ac;(· rfl);(· exact Cg fun _=>T0 (m-1) rfl rfl Ce (by omega) (by omega) (by omega) An))
  (apply AIg (o1:=1*1) (o2:=0) (m-1);(· rfl);(· rfl);(· rfl);(· exact Ce);(· first|rfl|exact Nat.min_self _|(show min _ _=_;omega));(· first|exact .inl rfl|exact .inl (by omega)|exact .inr ⟨rfl,rfl⟩|exact .inr ⟨if_neg (by omega),rfl⟩|exact (Nat.eq_zero_or_pos (m-1)).elim .inl fun h=>.inr ⟨if_neg (by omega),rfl⟩);(· first|omega|(simp only [Qn,Ia];omega));(· first|omega|(simp only [Qn,Ia];omega));(· first|exact ACs _ _|exact ABJ _ _))
  simp only [AIn,AJm]
  refine Et rfl ?_
  simp only [List.map_cons,List.map_nil,List.cons_append,List.nil_append]
  refine wk 9 cz ?_
  rw [AH3 lR h4]
  have lZ:(0::R.take (m-1)).length=m:=by rw [List.length_cons,List.length_take];omega
  have hZ:∀ i,i<m→(0::R.take (m-1)).getD i 0=if i=0 then 0 else R.getD (i-1) 0:=fun i hi=>by
   cases i with
   | zero=>rfl
   | succ i =>
    rw [if_neg (by omega),Nat.add_sub_cancel,List.getD_cons_succ,List.getD_eq_getElem?_getD,List.getD_eq_getElem?_getD,List.getElem?_take,if_pos (by omega)]
  have rZ:∀ z∈0::R.take (m-1),0≤z∧z<(p:Int):=fun z hz=>by
   rcases List.mem_cons.1 hz with rfl|hz
   ·omega
   ·exact rR z (List.mem_of_mem_take hz)
  generalize 0::R.take (m-1)=Z at *
  refine Ah (X:=Nat×List Int) [3,6,7,8,9,10,11,32,33,36,37,38,39,40,41,42,43,44,45,46,47,48,50,51,52,53] [0,1,2] (fun x=>[(54,.int .i64 (x.1:Int))]) (fun x=>[(some b2,3,Al .i64 x.2),(some b1,24,[.int .i64 p,.int .i64 m,.slice pm md.length cm])]) (fun _=>[])
   (fun x=>x.1≤m∧x.2=T.take x.1++Z.drop x.1) (fun x=>m-x.1) (0,Z) [] rfl rfl rfl ⟨Nat.zero_le _,by simp⟩ (by repeat (first|exact Fr.sub_nil _|refine Fr.sub_cons rfl ?_)) rfl rfl ?_
  rintro ⟨i,S⟩ ⟨hi,hS⟩ ihi
  simp only [List.cons_append,List.nil_append] at hi hS ihi ⊢
  by_cases hil:i<m
  ·have lS:S.length=m:=by rw [hS,List.length_append,List.length_take,List.length_drop];omega
   have zs:=AHQ (l:=S) (i:=i) (by omega)
   have es:S.getD i 0=if i=0 then 0 else R.getD (i-1) 0:=by
    rw [← hZ i hil,hS,List.getD_eq_getElem?_getD,List.getD_eq_getElem?_getD,List.getElem?_append_right (by rw [List.length_take];omega),List.length_take,Nat.min_eq_left (by omega),Nat.sub_self,List.getElem?_drop,Nat.add_zero]
   have hsp:0≤S.getD i 0∧S.getD i 0<(p:Int):=by
    rw [es,← hZ i hil]
    exact rZ _ (List.mem_of_getElem? (AHQ (l:=Z) (i:=i) (by omega)))
   have za:=AHQ (l:=DX) (i:=i) (by omega)
   have ba:=rx _ (List.mem_of_getElem? za)
   have hTi:=hT i hil
   rw [← es] at hTi
   have ihi':=fun (z:Int) (h:T.getD i 0=z)=>ihi (i+1,S.set i z) (by dsimp only;omega) ⟨by dsimp only;omega,AIM lT lZ hil hS h⟩
   generalize S.getD i 0=s at *
   generalize haa:DX.getD i 0=a at *
   have hb0:0≤v*a:=Int.mul_nonneg (by omega) (by omega)
   have hb1:v*a≤65536:=Int.le_trans (Int.mul_le_mul (show v≤256 by omega) (show a≤256 by omega) (by omega) (by decide)) (by decide)
   have gv:DY.getD (j+1-1) default=v:=hvv
   have ga:DX.getD i default=a:=haa
   have hpt:((p-top.toNat:Nat):Int)=(p:Int)-top:=by omega
   have hb2:0≤DY.getD (j+1-1) default*DX.getD i default:=by rw [gv,ga];exact hb0
   have hb3:DY.getD (j+1-1) default*DX.getD i default≤65536:=by rw [gv,ga];exact hb1
   by_cases hm:m=1
   ·have hf:(Ax m md).getD i 0=0:=by
     rw [Ax,if_pos hm]
     obtain rfl:i=0:=by omega
     rfl
    rw [hf] at hTi
    refine wk 21 cz ?_
    intro h6 h7 b3 o1 b4 o2
    exact tw (ihi' ((s+((p-top.toNat:Nat):Int)*0+DY.getD (j+1-1) default*DX.getD i default) % (p:Int)) (by rw [hTi,hpt,gv,ga]))
   ·have hf:(Ax m md)=md:=if_neg hm
    have hml:=K.len hm
    obtain ⟨c,at_c⟩:∃ c,md[i]?=some c:=⟨md[i],List.getElem?_eq_getElem (by omega)⟩
    have bc:=K.rng c (List.mem_of_getElem? at_c)
    have gc:md.getD i 0=c:=by rw [List.getD_eq_getElem?_getD,at_c];rfl
    rw [hf,gc] at hTi
    have hc0:0≤((p:Int)-top)*c:=Int.mul_nonneg (by omega) bc.1
    have hc1:((p:Int)-top)*c≤65536:=Int.le_trans (Int.mul_le_mul (show (p:Int)-top≤256 by omega) (show c≤256 by omega) bc.1 (by decide)) (by decide)
    rw [← hpt] at hc0 hc1
    refine wk 19 cz ?_
    intro h6 h7 b3 o1 hz2
    refine Aa rfl (Av 0 rfl rfl Ci fun ⟨r1,r2⟩=>?_)
    refine wk 8 cz ?_
    intro b4 o2 b5 o3
    exact tw (ihi' ((s+((p-top.toNat:Nat):Int)*c+DY.getD (j+1-1) default*DX.getD i default) % (p:Int)) (by rw [hTi,hpt,gv,ga]))
  ·obtain rfl:i=m:=by omega
   rw [List.take_of_length_le (by omega),List.drop_of_length_le (by omega),List.append_nil] at hS
   refine wk 7 cz ?_
   intro h6
   exact tw (ih' S hS)
open Go Go.Fw
set_option maxRecDepth 100000
set_option linter.unusedVariables false
set_option linter.unusedSimpArgs false
set_option maxHeartbeats 0
def J2 (M:Nat→Nat→Nat) (x k:Nat):Prop:=B2 M x k=0∨∃ j,j<k∧B2 M x j=B2 M x k
instance (M:Nat→Nat→Nat) (x k:Nat):Decidable (J2 M x k):=by unfold J2;infer_instance
def kP (q:Nat) (M:Nat→Nat→Nat) (x:Nat):Nat:=((List.range' 1 q).find? fun k=>decide (J2 M x k)).getD 0
theorem AHL {q k:Nat}{M:Nat→Nat→Nat}{x:Nat}(h1:1≤k) (h2:k≤q) (h:J2 M x k) (hn:∀ i,1≤i→i<k→¬ J2 M x i):kP q M x=k:=by
 rw [kP]
 have hs:(List.range' 1 q).find? (fun k=>decide (J2 M x k))=some k:=by
  rw [show List.range' 1 q=List.range' 1 (k-1)++k::List.range' (k+1) (q-k) by
   rw [← List.range'_succ]
   have:=List.range'_append_1 (s:=1) (m:=k-1) (n:=q-k+1)
   rw [show 1+(k-1)=k by omega,show k-1+(q-k+1)=q by omega] at this
   exact this.symm]
  rw [List.find?_append,List.find?_eq_none.2 fun i hi=>by
   obtain ⟨a,b⟩:=List.mem_range'_1.1 hi
   simpa using hn i a (by omega)]
  rw [Option.none_or,List.find?_cons,decide_eq_true h]
 rw [hs];rfl
theorem AL0 {q k:Nat}{M:Nat→Nat→Nat}{x:Nat}(hl:∀ i,B2 M x i<q) (hn:∀ i,1≤i→i<k+1→¬ J2 M x i):k+1≤q-1:=by
 have hnd:((List.range (k+1)).map (B2 M x)).Nodup:=by
  rw [List.Nodup,List.pairwise_map,List.pairwise_iff_getElem]
  intro i j hi hj hij e
  rw [List.getElem_range,List.getElem_range] at e
  rw [List.length_range] at hj
  exact hn j (by omega) hj (.inr ⟨i,hij,e⟩)
 have:=Wv (l':=List.range' 1 (q-1)) hnd fun y hy=>by
  obtain ⟨i,hi,rfl⟩:=List.mem_map.1 hy
  have hi:=List.mem_range.1 hi
  have h1:=hl i
  have h2:B2 M x i≠0:=fun e=>by
   rcases Nat.eq_zero_or_pos i with h|h
   ·subst h;exact absurd (show (1:Nat)=0 from e) (by decide)
   ·exact hn i h hi (.inl e)
  exact List.mem_range'_1.2 ⟨by omega,by omega⟩
 rwa [List.length_map,List.length_range,List.length_range'] at this
abbrev AFy (l:List Bool):List Value:=l.map Value.bool
theorem AF7 {l:List Bool}{i:Nat}{b:Bool}(h:l[i]?=some b):(AFy l)[i]?=some (.bool b):=by rw [List.getElem?_map,h];rfl
theorem Rx {nm cm:Nat}{pm:Option Addr}{p m q:Nat}{md:List Int}(K:Shp p m md) (hq:q=p ^ m) {x:Nat}(hx1:1≤x) (hx:x<q) :
  Bt Tryz.prog 156 [.agg #[.int .i64 p,.int .i64 m,.slice pm nm cm],.int .i64 q,.int .i64 x] [] [Ap Ai pm nm cm md] (SvI (kP q (fM p (Ax m md)) x) (Bb ((List.range (kP q (fM p (Ax m md)) x)).map (B2 (fM p (Ax m md)) x)))):=by
 refine Ab (F:=Zu) rfl fun C=>?_
 have h1:=K.p2
 have hqb:=K.q
 have hl:=K.flen
 have R:Rng q (fA p m) (fM p (Ax m md)):=by
  have:=Wy h1 (f:=Ax m md) (by rw [hl];exact K.m1)
  rwa [hl,← hq] at this
 have hpl:=R.pw_lt hx
 have B0:=fun {nm cm:Nat}{pm:Option Addr}{x y:Nat}(hx:x<q) (hy:y<q)=>Js (nm:=nm) (cm:=cm) (pm:=pm) K (x:=x) (y:=y) (hq▸hx) (hq▸hy)
 have e1:B2 (fM p (Ax m md)) x 1=x:=R.one_mul hx
 generalize fM p (Ax m md)=M at *
 refine wk 8 cz ?_
 intro b1 b2
 refine Aa rfl (ACx (q) _ rfl rfl ANd ALG rfl rfl ALC (by omega) (by omega) (by omega) fun b3=>?_)
 refine wk 4 cz ?_
 refine Aa rfl (Nx 0 rfl rfl rfl rfl ld4 rfl (by first|omega|(simp;omega)) ?_)
 refine wk 3 cz ?_
 rw [show (List.replicate q [Value.bool false]).flatten.set 1 (Value.bool true)=AFy ((List.replicate q false).set 1 true) by simp [List.map_set]]
 refine Ly (E:=Ai) (n:=1) [[.int .i64 1]] [1] 1 (fun w A hG=>Az (Dq (by simp only [Bv];omega)) Bd) rfl rfl rfl rfl (by decide) ?_
 have hp1:B2 M x 0=1:=rfl
 refine Ah (X:=Nat×Row×List Bool×List Int) [2,3,6,8] [0,1] (fun k=>[(9,.int .i64 ((B2 M x k.1:Nat):Int)),(7,.slice (ad k.2.1.bo) k.2.2.2.length k.2.1.cap)]) (fun k=>[(some b3,4,AFy k.2.2.1),(k.2.1.bo,3,k.2.1.cs),(some b1,24,[.int .i64 p,.int .i64 m,.slice pm nm cm])]) (fun k=>[A7 Ai k.2.1 k.2.2.2.length k.2.2.2])
  (fun k=>1≤k.1∧k.1≤q∧k.2.2.2=Bb ((List.range k.1).map (B2 M x))∧k.2.2.1.length=q∧(∀ j,j<q→(k.2.2.1[j]?=some true↔∃ i,i<k.1∧B2 M x i=j))∧(∀ i,1≤i→i<k.1→¬ J2 M x i)) (fun k=>q-k.1) (1,⟨some b2,1,[.int .i64 1]⟩,(List.replicate q false).set 1 true,[1]) [0] rfl rfl rfl ⟨Nat.le_refl 1,by omega,rfl,by simp,fun j hj=>?_,fun i h1 h2=>by omega⟩ (by refine Fr.sub_consI rfl (by rw [e1]) ?_;repeat (first|exact Fr.sub_nil _|refine Fr.sub_cons rfl ?_)) rfl rfl ?_
 ·rw [List.getElem?_set]
  by_cases h9:1=j
  ·subst h9
   rw [if_pos rfl,if_pos (by simp;omega)]
   exact ⟨fun _=>⟨0,Nat.zero_lt_one,rfl⟩,fun _=>rfl⟩
  ·rw [if_neg h9,List.getElem?_replicate,if_pos hj]
   exact ⟨fun h=>by simp at h,fun ⟨i,hi,e⟩=>by
    obtain rfl:i=0:=by omega
    exact absurd e h9⟩
 rintro ⟨k,r,B,L⟩ ⟨hk1,hkq,hL,hBl,hB,hns⟩ ih
 simp only [List.cons_append,List.nil_append] at hk1 hkq hL hBl hB hns ih ⊢
 have hkl:=hpl k
 have hLl:L.length=k:=by rw [hL];simp [Bb]
 by_cases h0:B2 M x k=0
 ·have hst:J2 M x k:=.inl h0
  rw [AHL hk1 hkq hst hns,← hL]
  refine wk 11 cz ?_
  intro h2
  refine D2 1 0 rfl rfl (by show L.length*8≤140737488355328;omega) ?_
  rw [hLl]
  refine Ov [0] rfl rfl rfl ⟨_,_,rfl,rfl,rfl⟩
 ·obtain ⟨b,hb⟩:∃ b,B[B2 M x k]?=some b:=⟨B[B2 M x k],List.getElem?_eq_getElem (by omega)⟩
  have hbc:=AF7 hb
  cases b with
  | true =>
   have hst:J2 M x k:=.inr ((hB _ hkl).1 hb)
   rw [AHL hk1 hkq hst hns,← hL]
   refine wk 7 cz ?_
   intro h2
   refine Bp rfl rfl (Bm 0 rfl rfl ld4 (by assumption) ?_)
   refine wk 6 cz ?_
   refine D2 1 0 rfl rfl (by show L.length*8≤140737488355328;omega) ?_
   rw [hLl]
   refine Ov [0] rfl rfl rfl ⟨_,_,rfl,rfl,rfl⟩
  | false =>
   have hst:¬ J2 M x k:=fun h=>by
    rcases h with h|h
    ·exact h0 h
    ·have:=(hB _ hkl).2 h
     rw [hb] at this;cases this
   have hns':∀ i,1≤i→i<k+1→¬ J2 M x i:=fun i h1 h2=>by
    rcases Nat.lt_succ_iff_lt_or_eq.1 h2 with h3|rfl
    ·exact hns i h1 h3
    ·exact hst
   have hgo:=AL0 hpl hns'
   have ih':=fun r1=>ih (k+1,r1,B.set (B2 M x k) true,L++[((B2 M x k:Nat):Int)]) (by dsimp only;omega) ⟨by dsimp only;omega,by dsimp only;omega,by dsimp only;rw [List.range_succ,List.map_append,Bb,List.map_append,← Bb,← hL];rfl,by dsimp only;rw [List.length_set,hBl],fun j hj=>by
    dsimp only
    rw [List.getElem?_set]
    by_cases h9:B2 M x k=j
    ·rw [if_pos h9,if_pos (by omega)]
     exact ⟨fun _=>⟨k,by omega,h9⟩,fun _=>rfl⟩
    ·rw [if_neg h9,hB j hj]
     constructor
     ·rintro ⟨i,hi,e⟩;exact ⟨i,by omega,e⟩
     ·rintro ⟨i,hi,e⟩
      rcases Nat.lt_succ_iff_lt_or_eq.1 hi with h3|rfl
      ·exact ⟨i,h3,e⟩
      ·exact absurd e h9,hns'⟩
   simp only [List.length_append,List.length_singleton,show B2 M x (k+1)=M (B2 M x k) x from rfl,AFy,List.map_set] at ih'
   refine wk 7 cz ?_
   intro h2
   refine Bp rfl rfl (Bm 0 rfl rfl ld4 (by assumption) ?_)
   refine wk 6 cz ?_
   refine Aa rfl (Nx 0 rfl rfl rfl rfl ld4 rfl (by first|omega|(simp;omega)) ?_)
   refine wk 3 cz ?_
   intro b4
   refine Aa rfl (Ga (z:=(↑(B2 M x k):Int)) 2 0 0 rfl rfl rfl rfl rfl Ce Ep rfl (fun w A hG=>(Dq (by first|(simp only [Bv];omega)|(simp [Bv];done)))) (by omega) _ Hu (by omega) fun r1=>?_)
   refine wk 7 (ct @B0 cz) ?_
   refine AMl [2,0,3] [0,2,3] (by exact Uy rfl) rfl rfl rfl (ih' r1)
theorem AJu {q k:Nat}{M:Nat→Nat→Nat}{x:Nat}(h:kP q M x=k) (h1:1≤k):J2 M x k∧∀ i,1≤i→i<k→¬ J2 M x i:=by
 rw [kP] at h
 cases hf:(List.range' 1 q).find? fun k=>decide (J2 M x k) with
 | none=>rw [hf] at h;simp at h;omega
 | some y =>
  rw [hf] at h
  obtain rfl:y=k:=h
  refine ⟨by simpa using List.find?_some hf,fun i hi hl hs=>?_⟩
  obtain ⟨hp,as0,bs0,e,hall⟩:=List.find?_eq_some_iff_append.1 hf
  have hm:i∈List.range' 1 q:=List.mem_range'_1.2 ⟨hi,by
   have:=List.mem_range'_1.1 (List.mem_of_find?_eq_some hf);omega⟩
  rw [e] at hm
  have hpw:(as0++y::bs0).Pairwise (·<·):=by rw [← e];exact List.pairwise_lt_range'
  rw [List.pairwise_append] at hpw
  rcases List.mem_append.1 hm with hm|hm
  ·have:=hall i hm
   simp [hs] at this
  ·rcases List.mem_cons.1 hm with rfl|hm
   ·omega
   ·have:=(List.pairwise_cons.1 hpw.2.1).1 i hm
    omega
theorem AB4 {q:Nat}{A M:Nat→Nat→Nat}(R:Rng q A M) {x:Nat}(hx:x<q):Ma q M x↔kP q M x=q-1∧M (B2 M x (q-2)) x=1:=by
 have hq:=R.q2
 have e2:B2 M x (q-1)=M (B2 M x (q-2)) x:=by
  rw [show q-1=(q-2)+1 by omega];rfl
 constructor
 ·intro h
  refine ⟨AHL (by omega) (by omega) (.inr ⟨0,by omega,h.2.2.symm⟩) fun i h1 h2 hs=>?_,by rw [← e2];exact h.2.2⟩
  rcases hs with hs|⟨j,hj,e⟩
  ·exact h.2.1 i h2 hs
  ·exact h.1 j i hj h2 e
 ·rintro ⟨h1,h2⟩
  obtain ⟨hs,hn⟩:=AJu h1 (by omega)
  refine ⟨fun i j hij hj e=>?_,fun i hi e=>?_,by rw [e2];exact h2⟩
  ·exact hn j (by omega) hj (.inr ⟨i,hij,e⟩)
  ·rcases Nat.eq_zero_or_pos i with h|h
   ·subst h;exact absurd (show (1:Nat)=0 from e) (by decide)
   ·exact hn i h hi (.inl e)
def Vt (q:Nat) (M:Nat→Nat→Nat) (x:Nat):List Int:=Bb ((List.range (q-1)).map (B2 M x))
abbrev SvP (n:Nat) (l:List Int):Value→List Fact→List A4→Prop:=fun v Φ β=>∃ b o ca,v = .slice (some ⟨b,o,none⟩) n ca∧Φ=[Ap Ai (some ⟨b,o,none⟩) n ca l]∧β=[]
theorem I8 {nm cm:Nat}{pm:Option Addr}{p m q:Nat}{md:List Int}(K:Shp p m md) (hq:q=p ^ m) {x:Nat}(hx1:1≤x) (hx:x<q) (hg:Ma q (fM p (Ax m md)) x) (hno:∀ y,1≤y→y<x→¬ Ma q (fM p (Ax m md)) y) :
  Bt Tryz.prog 120 [.agg #[.int .i64 p,.int .i64 m,.slice pm nm cm],.int .i64 q] [] [Ap Ai pm nm cm md] (SvP (q-1) (Vt q (fM p (Ax m md)) x)):=by
 refine Ab (F:=Nb) rfl fun C=>?_
 have h1:=K.p2
 have hqb:=K.q
 have hl:=K.flen
 have R:Rng q (fA p m) (fM p (Ax m md)):=by
  have:=Wy h1 (f:=Ax m md) (by rw [hl];exact K.m1)
  rwa [hl,← hq] at this
 have B0:=fun {nm cm:Nat}{pm:Option Addr}{x y:Nat}(hx:x<q) (hy:y<q)=>Js (nm:=nm) (cm:=cm) (pm:=pm) K (x:=x) (y:=y) (hq▸hx) (hq▸hy)
 have F8:=fun {nm cm:Nat}{pm:Option Addr}{x:Nat}(hx1:1≤x) (hx:x<q)=>Rx (nm:=nm) (cm:=cm) (pm:=pm) K hq hx1 hx
 generalize fM p (Ax m md)=M at *
 refine wk 6 cz ?_
 intro b1
 refine Ah (X:=Nat) [1,2] [0] (fun y=>[(5,.int .i64 (y:Int))]) (fun _=>[(some b1,24,[.int .i64 p,.int .i64 m,.slice pm nm cm])]) (fun _=>[]) (fun y=>1≤y∧y≤x) (fun y=>q-y) 1 [] rfl rfl rfl ⟨Nat.le_refl 1,hx1⟩ (by repeat (first|exact Fr.sub_nil _|refine Fr.sub_cons rfl ?_)) rfl rfl ?_
 rintro y ⟨hy1,hyx⟩ ih
 simp only [List.cons_append,List.nil_append] at hy1 hyx ih ⊢
 have hyq:y<q:=by omega
 have hpl:=R.pw_lt hyq (q-2)
 have hkq:kP q M y≤q:=by
  rw [kP]
  cases hf:(List.range' 1 q).find? fun k=>decide (J2 M y k) with
  | none=>exact Nat.zero_le _
  | some z =>
   have:=List.mem_range'_1.1 (List.mem_of_find?_eq_some hf)
   show z≤q;omega
 have hz:1≤kP q M y→kP q M y=q-1→(Bb ((List.range (kP q M y)).map (B2 M y)))[q-2]?=some ((B2 M y (q-2):Nat):Int):=fun h0 h=>Il (by rw [List.getElem?_map,List.getElem?_range (by omega)];rfl)
 have hc:kP q M y=q-1→∀ {nm cm:Nat}{pm:Option Addr},Bt Tryz.prog 157 [.agg #[.int .i64 p,.int .i64 m,.slice pm nm cm],.int .i64 ((Bb ((List.range (kP q M y)).map (B2 M y))).getD (q-2) default),.int .i64 y] [] [Ap Ai pm nm cm md] (Rv (.int .i64 ((M (B2 M y (q-2)) y:Nat):Int)) []):=fun h nm cm pm=>by
  have e:(Bb ((List.range (kP q M y)).map (B2 M y))).getD (q-2) default=((B2 M y (q-2):Nat):Int):=by
   rw [List.getD_eq_getElem?_getD,hz (by omega) h];rfl
  rw [e]
  exact B0 hpl hyq
 have hml:=R.ml _ _ hpl hyq
 by_cases hyx2:y=x
 ·subst hyx2
  obtain ⟨g1,g2⟩:=(AB4 R hyq).1 hg
  have hz:=hz (by omega) g1
  have B0:=fun {nm cm:Nat}{pm:Option Addr}=>hc g1 (nm:=nm) (cm:=cm) (pm:=pm)
  rw [g2] at B0
  refine wk 16 (ct @F8 (ct @B0 cz)) ?_
  intro h2 pa1 ca1 b2 o1
  refine AIa (n:=kP q M y) 1 rfl (by omega) fun b o eb=>?_
  subst eb
  rw [Vt,← g1]
  refine Ov [1] rfl rfl rfl ⟨_,_,_,rfl,rfl,rfl⟩
 ·have hng:=hno y hy1 (by omega)
  rw [AB4 R hyq] at hng
  by_cases g1:kP q M y=q-1
  ·have g2:¬ M (B2 M y (q-2)) y=1:=fun h=>hng ⟨g1,h⟩
   have hz:=hz (by omega) g1
   have B0:=fun {nm cm:Nat}{pm:Option Addr}=>hc g1 (nm:=nm) (cm:=cm) (pm:=pm)
   refine wk 16 (ct @F8 (ct @B0 cz)) ?_
   intro h2 pa1 ca1 b2 o1
   exact tw (ih (y+1) (by omega) ⟨by omega,by omega⟩)
  ·refine wk 16 (ct @F8 cz) ?_
   intro h2 pa1 ca1
   exact tw (ih (y+1) (by omega) ⟨by omega,by omega⟩)
theorem P0 {nm cm:Nat}{pm:Option Addr}{p m q:Nat}{md:List Int}(K:Shp p m md) (hq:q=p ^ m) (hno:∀ y,1≤y→y<q→¬ Ma q (fM p (Ax m md)) y) :
  Bt Tryz.prog 120 [.agg #[.int .i64 p,.int .i64 m,.slice pm nm cm],.int .i64 q] [] [Ap Ai pm nm cm md] (Rv (.slice none 0 0) []):=by
 refine Ab (F:=Nb) rfl fun C=>?_
 have h1:=K.p2
 have hqb:=K.q
 have hl:=K.flen
 have R:Rng q (fA p m) (fM p (Ax m md)):=by
  have:=Wy h1 (f:=Ax m md) (by rw [hl];exact K.m1)
  rwa [hl,← hq] at this
 have hq2:=R.q2
 have B0:=fun {nm cm:Nat}{pm:Option Addr}{x y:Nat}(hx:x<q) (hy:y<q)=>Js (nm:=nm) (cm:=cm) (pm:=pm) K (x:=x) (y:=y) (hq▸hx) (hq▸hy)
 have F8:=fun {nm cm:Nat}{pm:Option Addr}{x:Nat}(hx1:1≤x) (hx:x<q)=>Rx (nm:=nm) (cm:=cm) (pm:=pm) K hq hx1 hx
 generalize fM p (Ax m md)=M at *
 refine wk 6 cz ?_
 intro b1
 refine Ah (X:=Nat) [1,2] [0] (fun y=>[(5,.int .i64 (y:Int))]) (fun _=>[(some b1,24,[.int .i64 p,.int .i64 m,.slice pm nm cm])]) (fun _=>[]) (fun y=>1≤y∧y≤q) (fun y=>q-y) 1 [] rfl rfl rfl ⟨Nat.le_refl 1,by omega⟩ (by repeat (first|exact Fr.sub_nil _|refine Fr.sub_cons rfl ?_)) rfl rfl ?_
 rintro y ⟨hy1,hyx⟩ ih
 simp only [List.cons_append,List.nil_append] at hy1 hyx ih ⊢
 by_cases hyq:y<q
 ·have hpl:=R.pw_lt hyq (q-2)
  have hkq:kP q M y≤q:=by
   rw [kP]
   cases hf:(List.range' 1 q).find? fun k=>decide (J2 M y k) with
   | none=>exact Nat.zero_le _
   | some z =>
    have:=List.mem_range'_1.1 (List.mem_of_find?_eq_some hf)
    show z≤q;omega
  have hz:1≤kP q M y→kP q M y=q-1→(Bb ((List.range (kP q M y)).map (B2 M y)))[q-2]?=some ((B2 M y (q-2):Nat):Int):=fun h0 h=>Il (by rw [List.getElem?_map,List.getElem?_range (by omega)];rfl)
  have hc:kP q M y=q-1→∀ {nm cm:Nat}{pm:Option Addr},Bt Tryz.prog 157 [.agg #[.int .i64 p,.int .i64 m,.slice pm nm cm],.int .i64 ((Bb ((List.range (kP q M y)).map (B2 M y))).getD (q-2) default),.int .i64 y] [] [Ap Ai pm nm cm md] (Rv (.int .i64 ((M (B2 M y (q-2)) y:Nat):Int)) []):=fun h nm cm pm=>by
   have e:(Bb ((List.range (kP q M y)).map (B2 M y))).getD (q-2) default=((B2 M y (q-2):Nat):Int):=by
    rw [List.getD_eq_getElem?_getD,hz (by omega) h];rfl
   rw [e]
   exact B0 hpl hyq
  have hml:=R.ml _ _ hpl hyq
  have hng:=hno y hy1 hyq
  rw [AB4 R hyq] at hng
  by_cases g1:kP q M y=q-1
  ·have g2:¬ M (B2 M y (q-2)) y=1:=fun h=>hng ⟨g1,h⟩
   have hz:=hz (by omega) g1
   have B0:=fun {nm cm:Nat}{pm:Option Addr}=>hc g1 (nm:=nm) (cm:=cm) (pm:=pm)
   refine wk 16 (ct @F8 (ct @B0 cz)) ?_
   intro h2 pa1 ca1 b2 o1
   exact tw (ih (y+1) (by omega) ⟨by omega,by omega⟩)
  ·refine wk 16 (ct @F8 cz) ?_
   intro h2 pa1 ca1
   exact tw (ih (y+1) (by omega) ⟨by omega,by omega⟩)
 ·obtain rfl:y=q:=by omega
  refine wk 7 cz ?_
  intro h2
  exact ge
theorem My {p m:Nat}{md:List Int}(K:Shp p m md) (hp:Prm p):(∃ x,1≤x∧x<p ^ m∧Ma (p ^ m) (fM p (Ax m md)) x)↔Fok p m md:=by
 have h1:=K.p2
 have hl:=K.flen
 have R:Rng (p ^ m) (fA p m) (fM p (Ax m md)):=by
  have:=Wy h1 (f:=Ax m md) (by rw [hl];exact K.m1)
  rwa [hl] at this
 constructor
 ·rintro ⟨x,hx1,hx,hg⟩
  refine ⟨hp,K.m1,K.m8,K.q,K.one,K.len,K.rng,fun hm d hd hd2 v hv=>?_⟩
  have hlm:=K.len hm
  have ef:Ax m md=md:=if_neg hm
  have et:Bb (md.map Int.toNat)=md:=Sx fun x hx=>(K.rng x hx).1
  rw [et]
  rw [List.length_map] at hd2
  refine AKQ h1 (f:=md) (g:=Bb (Db p d v)) (fun a b ha hb e=>?_) (by rw [Ch,Dx];exact hd) (by rw [Ch,Dx];omega)
  rw [hlm] at ha hb
  exact R.gen_nz hx hg a b ha hb (by rw [ef];exact e)
 ·intro F
  have hf:=F.fi
  have FF:Fld (p ^ m) (fA p m) (fM p (Ax m md)):=R.fld fun x y hx hy e=>by
   have:=hf.nz (x:Int) (y:Int) (by omega) (by omega) (by omega) (by omega) (by show ((fM p (Ax m md) (x:Int).toNat (y:Int).toNat:Nat):Int)=0;rw [Int.toNat_natCast,Int.toNat_natCast,e];rfl)
   omega
  exact FF.gen_ex
theorem AKI {P M:Int}{md:List Int}(h:AHR P M md):∃ p m:Nat,P=p∧M=m∧Shp p m md∧Prm p:=by
 obtain ⟨⟨h1,h2,h3,h4⟩,hp,ho,hn⟩:=h
 refine ⟨P.toNat,M.toNat,by omega,by omega,⟨by omega,by omega,by omega,h4,fun e=>List.length_eq_zero_iff.1 (ho (by omega)),fun e=>?_,fun x hx=>?_⟩,hp⟩
 ·have:=(hn (by omega)).1;omega
 ·by_cases e:M=1
  ·have:=List.length_eq_zero_iff.1 (ho e)
   rw [this] at hx;cases hx
  ·have:=(hn e).2 x hx
   omega
theorem Yr {p m:Nat}{md:List Int}(K:Fok p m md):Wg p m md:=by
 have h2:=K.p2;have h1:=K.m1;have h8:=K.m8
 refine ⟨⟨by omega,by omega,by omega,by simpa using K.q⟩,by simpa using K.pr,fun h=>by rw [K.one (by omega)];rfl,fun h=>⟨by rw [K.len (by omega)],K.rng,by simpa using K.irr (by omega)⟩⟩
theorem AEY {P M:Int}{md:List Int}(h:Wg P M md):AHR P M md:=⟨h.1,h.2.1,h.2.2.1,fun hm=>⟨(h.2.2.2 hm).1,(h.2.2.2 hm).2.1⟩⟩
theorem AA8 {q:Nat}{M:Nat→Nat→Nat}(h:∃ x,1≤x∧x<q∧Ma q M x):∃ x,1≤x∧x<q∧Ma q M x∧∀ y,1≤y→y<x→¬ Ma q M y:=by
 obtain ⟨x,h1,h2,h3⟩:=h
 obtain ⟨k,hk,⟨a,b,c⟩,d⟩:=ABP (P:=fun x=>1≤x∧x<q∧Ma q M x) x ⟨h1,h2,h3⟩
 exact ⟨k,a,b,c,fun y y1 y2 hg=>d y y2 ⟨y1,by omega,hg⟩⟩
open Classical in
noncomputable def gnX (q:Nat) (M:Nat→Nat→Nat):Nat:=if h:∃ x,1≤x∧x<q∧Ma q M x then Classical.choose (AA8 h) else 1
theorem Uf {q:Nat}{M:Nat→Nat→Nat}(h:∃ x,1≤x∧x<q∧Ma q M x):1≤gnX q M∧gnX q M<q∧Ma q M (gnX q M)∧∀ y,1≤y→y<gnX q M→¬ Ma q M y:=by
 rw [gnX,dif_pos h]
 exact Classical.choose_spec (AA8 h)
def lgN (q:Nat) (M:Nat→Nat→Nat) (x a:Nat):Nat:=((List.range (q-1)).find? fun i=>decide (B2 M x i=a)).getD 0
def Sn (q:Nat) (M:Nat→Nat→Nat) (x:Nat):List Int:=Bb ((List.range q).map (lgN q M x))
def lgK (M:Nat→Nat→Nat) (x k a:Nat):Nat:=((List.range k).find? fun i=>decide (B2 M x i=a)).getD 0
theorem AKd {M:Nat→Nat→Nat}{x k a:Nat}:lgK M x k a≤k:=by
 rw [lgK]
 cases hf:(List.range k).find? fun i=>decide (B2 M x i=a) with
 | none=>exact Nat.zero_le _
 | some j=>exact Nat.le_of_lt (List.mem_range.1 (List.mem_of_find?_eq_some hf))
theorem AJf {q k:Nat}{M:Nat→Nat→Nat}{x:Nat}(hg:Ma q M x) (hk:k<q-1) (h:B2 M x k<q):(Bb ((List.range q).map (lgK M x k))).set (B2 M x k) (k:Int)=Bb ((List.range q).map (lgK M x (k+1))):=by
 apply List.ext_getElem
 ·simp [Bb]
 intro i h1 h2
 simp only [Bb,List.getElem_set,List.getElem_map,List.getElem_range]
 have h3:i<q:=by simpa [Bb] using h2
 split
 ·rename_i e
  subst e
  rw [lgK,List.range_succ,List.find?_append,List.find?_eq_none.2 fun j hj=>by
   simpa using hg.1 j k (List.mem_range.1 hj) hk]
  simp
 ·rename_i e
  rw [lgK,lgK,List.range_succ,List.find?_append]
  simp [e]
theorem ACD {q:Nat}{M:Nat→Nat→Nat}{x i:Nat}(hg:Ma q M x) (hi:i<q-1):lgN q M x (B2 M x i)=i:=by
 rw [lgN]
 cases hf:(List.range (q-1)).find? fun j=>decide (B2 M x j=B2 M x i) with
 | none =>
  have:=List.find?_eq_none.1 hf i (List.mem_range.2 hi)
  simp at this
 | some j =>
  have h1:B2 M x j=B2 M x i:=by simpa using List.find?_some hf
  have h2:=List.mem_range.1 (List.mem_of_find?_eq_some hf)
  show j=i
  rcases Nat.lt_trichotomy j i with h|h|h
  ·exact absurd h1 (hg.1 j i h hi)
  ·exact h
  ·exact absurd h1.symm (hg.1 i j h h2)
noncomputable abbrev Jh (p m:Nat) (md:List Int):List Int:=Vt (p ^ m) (fM p (Ax m md)) (gnX (p ^ m) (fM p (Ax m md)))
noncomputable abbrev Jk (p m:Nat) (md:List Int):List Int:=Sn (p ^ m) (fM p (Ax m md)) (gnX (p ^ m) (fM p (Ax m md)))
noncomputable abbrev gfL (p m:Nat) (md:List Int) (b:Nat) (pg:Option Addr) (cg:Nat) (pe:Option Addr) (ce:Nat) (pl:Option Addr) (cl:Nat):List Fact :=
 [Ja b [.int .i64 p,.int .i64 m,.slice pg md.length cg,.int .i64 ((p ^ m:Nat):Int),.slice pe (p ^ m-1) ce,.slice pl (p ^ m) cl],Ap Ai pg md.length cg md,Ap Ai pe (p ^ m-1) ce (Jh p m md),Ap Ai pl (p ^ m) cl (Jk p m md)]
theorem Fx {pm:Option Addr}{nm cm p m:Nat}{md:List Int}(K:Fok p m md):Bt Tryz.prog 72 [.agg #[.int .i64 p,.int .i64 m,.slice pm nm cm]] [] [Ap Ai pm nm cm md]
  (fun v Φ β=>∃ b pg cg pe ce pl cl,v = .tuple #[.pointer (some ⟨b,0,none⟩),.int .i64 0]∧Φ=gfL p m md b pg cg pe ce pl cl∧β=[]):=by
 refine Ab (F:=ACO) rfl fun C=>?_
 have Fs:=fun {pm:Option Addr}{nm cm:Nat}=>Jy (P:=(p:Int)) (M:=(m:Int)) (pm:=pm) (nm:=nm) (cm:=cm) (md:=md) (res:=true) ⟨fun _=>AEY (Yr K),fun _=>rfl⟩
 have Hz:=Ea K.ord
 have hx:=Uf ((My K.shp K.pr).2 K)
 have Fl:=fun {nm cm:Nat}{pm:Option Addr}=>I8 (nm:=nm) (cm:=cm) (pm:=pm) K.shp rfl hx.1 hx.2.1 hx.2.2.1 hx.2.2.2
 have h2:=K.p2
 have hqb:=K.q
 have F:=K.fi
 have R:Rng (p ^ m) (fA p m) (fM p (Ax m md)):=by
  have:=Wy h2 (f:=Ax m md) (by rw [K.shp.flen];exact K.shp.m1)
  rwa [K.shp.flen] at this
 have hplt:=R.pw_lt (x:=gnX (p ^ m) (fM p (Ax m md))) hx.2.1
 have hq2:=F.q2
 unfold gfL Jh Jk
 generalize gnX (p ^ m) (fM p (Ax m md))=x at *
 generalize fM p (Ax m md)=M at *
 generalize p ^ m=q at *
 refine Ba 0 rfl fun en hb _=>?_
 subst en
 have hb':md.length*8≤140737488355328:=hb
 refine wk 23 (ct @Fs (ct @Hz (ct @Fl cz))) ?_
 intro b1 b2 o1 ca1
 refine Aa rfl (AAm Ce rfl rfl ?_)
 refine wk 3 cz ?_
 (apply Vd it mx 0 14;(· rfl);(· rfl);(· rfl))
 (apply Ac;(· rfl);(· exact Cg fun _=>Aq rfl Pn An))
 (apply Ac;(· rfl);(· exact Ca 0 rfl rfl Ci rfl))
 (apply Ac;(· rfl);(· exact Cg fun _=>Aq rfl P9 An))
 (apply Ac;(· rfl);(· exact Ca 0 rfl rfl Ci rfl))
 (apply AC6 (Dy IntKind.i64 8);(· rfl);(· exact Ce);intro pa1)
 (apply Ac;(· rfl);(· exact Cg fun _=>Aq rfl AEM An))
 (apply Ac;(· rfl);(· exact Ca 0 rfl rfl E7 rfl))
 (apply ABf 0 2;(· rfl);(· rfl);(· rfl);(· rfl);(· rfl);(· exact Ce);(· exact Ep);(· rfl);(· (first|omega|(simp only [List.length_cons,List.length_nil];omega)));(· exact Hu);(· (first|omega|(simp only [List.length_cons,List.length_nil];omega)));intro pa2 cap1 b3 cs1)
 (apply G1 [23,25,29] (fun vs=>Value.agg ((Vc ([(0,1),(1,1),(2,1)]) ([Value.int IntKind.i64 0,Value.int IntKind.i64 0,Value.slice none 0 0]) [(0,Cf (vs.getD 0 undef)),(1,Cf (vs.getD 1 undef)),(2,Cf (vs.getD 2 undef))]).getD []).toArray) (v:=Value.agg #[Value.int IntKind.i64 ↑p,Value.int IntKind.i64 ↑m,Value.slice pa2 (0+md.length) cap1]);(· rfl);(· rfl);(· rfl);(· rfl);(· exact Cg fun _=>Dn (cs:=[Value.int IntKind.i64 ↑p,Value.int IntKind.i64 ↑m,Value.slice pa2 (0+md.length) cap1]) AJi AGj rfl rfl An))
 (apply A3 3;(· rfl);(· simp))
 (apply Y6 (q) _;(· rfl);(· rfl);(· rfl);(· exact Ce);(· exact Ep);(· rfl);(· rfl);(· exact Hu);(· rfl);(· omega);(· omega);intro b4)
 (apply G1 [30,31,32,34] (fun vs=>Value.agg ((Vc ([(0,3),(3,1),(4,1),(5,1)]) ([Value.int IntKind.i64 0,Value.int IntKind.i64 0,Value.slice none 0 0,Value.int IntKind.i64 0,Value.slice none 0 0,Value.slice none 0 0]) [(0,Cf (vs.getD 0 undef)),(1,Cf (vs.getD 1 undef)),(2,Cf (vs.getD 2 undef)),(3,Cf (vs.getD 3 undef))]).getD []).toArray) (v:=Value.agg #[Value.int IntKind.i64 ↑p,Value.int IntKind.i64 ↑m,Value.slice pa2 (0+md.length) cap1,Value.int IntKind.i64 ↑q,Value.slice (some { block:=b2,off:=o1 }) (q-1) ca1,Value.slice (some { block:=b4,off:=0 }) q q]);(· rfl);(· rfl);(· rfl);(· rfl);(· exact Cg fun _=>Dn (cs:=[Value.int IntKind.i64 ↑p,Value.int IntKind.i64 ↑m,Value.slice pa2 (0+md.length) cap1,Value.int IntKind.i64 ↑q,Value.slice (some { block:=b2,off:=o1 }) (q-1) ca1,Value.slice (some { block:=b4,off:=0 }) q q]) AL6 AL9 rfl rfl An))
 refine Zm rfl ?_
 (rotate_left;rfl;rotate_right)
 simp only [List.append_nil,List.append_assoc,List.map_cons,List.map_nil,List.cons_append,List.nil_append,List.drop_zero]
 (refine AD1 1 0 (by first|rfl|exact (List.append_nil _).symm) rfl (by show (0+md.length)*8≤140737488355328;omega) ?_;simp only [List.take_succ_cons,List.take_zero,List.cons_append,List.nil_append,List.append_nil])
 refine wk 7 cz ?_
 intro b5
 rw [AC8]
 have hr0:List.replicate q (0:Int)=Bb ((List.range q).map (lgK M x 0)):=by
  rw [show (lgK M x 0)=fun _=>0 from rfl,List.map_const',List.length_range]
  simp [Bb]
 rw [hr0]
 have hgx:=hx.2.2.1
 refine Ah (X := Nat) [2,3,6,37,38] [0,1,2,3,4] (fun k => [(39, .int .i64 k)]) (fun k => [(some b5,119, [Value.int IntKind.i64 ↑p, Value.int IntKind.i64 ↑m, Value.slice pa2 (0 + md.length) cap1,
         Value.int IntKind.i64 ↑q, Value.slice (some { block := b2, off := o1 }) (q-1) ca1,
         Value.slice (some { block := b4, off := 0 }) q q]), (some b4,3, Al .i64 (Bb ((List.range q).map (lgK M x k)))), (some b1,24, [.int .i64 p, .int .i64 m, .slice pm md.length cm])]) (fun _ => [])
  (fun k=>k≤q-1) (fun k=>q-1-k) 0 [] rfl rfl rfl (Nat.zero_le _) (by refine Fr.sub_consI rfl rfl ?_;repeat (first|exact Fr.sub_nil _|refine Fr.sub_cons rfl ?_)) rfl rfl ?_
 rintro k hk ih
 simp only [List.cons_append,List.nil_append] at hk ih ⊢
 by_cases h9:k<q-1
 ·have at_x:(Vt q M x)[k]?=some ((B2 M x k:Nat):Int):=by simp [Vt,Bb,h9]
  have ht:=hplt k
  have ih':=ih (k+1) (by omega) (by omega)
  rw [← AJf hgx h9 ht] at ih'
  have hln:(Bb (List.map (lgK M x k) (List.range q))).length=q:=by simp [Bb]
  generalize Bb (List.map (lgK M x k) (List.range q))=L at *
  refine wk 7 cz ?_
  intro h1 b6 o2 hz1
  refine Aa rfl (Av 0 rfl rfl Ci fun ⟨r1,r2⟩=>?_)
  refine wk 11 cz ?_
  exact tw (ih')
 ·obtain rfl:k=q-1:=by omega
  refine wk 7 cz ?_
  intro h1
  have hq47:q*8≤140737488355328:=by omega
  refine Hh 8 (Bb ((List.range q).map (lgK M x (q-1)))) 1 rfl (by simp [Bb]) (Vu fun d hd=>?_) hq47 (by omega) ?_
  ·obtain ⟨i,hi,rfl⟩:=List.mem_map.1 hd
   have:=AKd (M:=M) (x:=x) (k:=q-1) (a:=i)
   omega
  rw [Nat.zero_add]
  refine Uk 0 rfl ?_
  refine Ov [0,2,5,1] rfl rfl rfl ⟨_,_,_,_,_,_,_,rfl,rfl,rfl⟩
theorem AB8 {u p:Nat}(h:u≤256):0≤(u:Int) / (p:Int)∧(u:Int) / (p:Int)≤256:=by
 rw [← Int.natCast_ediv]
 exact ⟨Int.natCast_nonneg _,by have h1:=Nat.le_trans (Nat.div_le_self u p) h;generalize u / p=z at *;omega⟩
theorem take_set {T:List Int}{i n:Nat}{v:Int}(h:T[i]?=some v) (hi:i<n):(T.take i++List.replicate (n-i) 0).set i v=T.take (i+1)++List.replicate (n-(i+1)) 0:=by
 have hl:i<T.length:=by rw [List.getElem?_eq_some_iff] at h;exact h.1
 have e1:(T.take i).length=i:=by rw [List.length_take];omega
 obtain ⟨k,hk⟩:∃ k,n-i=k+1:=⟨n-i-1,by omega⟩
 rw [hk,List.replicate_succ,List.set_append_right _ _ (by omega),e1,Nat.sub_self,List.set_cons_zero,show n-(i+1)=k by omega,List.take_add_one,h,List.append_assoc]
 rfl
abbrev RwI (n:Nat) (l:List Int):Value→List Fact→List A4→Prop:=fun v Φ β=>∃ r:Row,v = .slice (ad r.bo) n r.cap∧Φ=[A7 Ai r n l]∧β=[(r.bo,3,r.cs)]
theorem Bk {P:Program}{F:Fun P}{C:Cx}{S:List It}{σ:Fr}{β:List A4}{Γ:List Fact}{R:Value→World→Prop}{e:TypeId}{b n:Nat}{l:List Int}(k:Nat) (hn:A5 β k=some (some b,e,Al .i64 l)) (hl:n=l.length) (hr:∀ x∈l,Bv .i64 x) (h63:n≤9223372036854775807)
  (h:J F C S σ β (A7 Ai ⟨some b,n,Al .i64 l⟩ n l::Γ) R):J F C S σ β Γ R :=
 Ly (E:=Ai) (l.map fun n=>[.int .i64 n]) l k (fun w A _=>ADE .i64 8 l hr w A) hn (Ok _ _) hl (by rw [Ia];show l.length=n*1;omega) h63 h
abbrev Jc (b p m q:Nat) (pg:Option Addr) (ng cg:Nat) (pe:Option Addr) (ne ce:Nat) (pl:Option Addr) (nl cl:Nat):Fact :=
 Ja b [.int .i64 p,.int .i64 m,.slice pg ng cg,.int .i64 (q:Int),.slice pe ne ce,.slice pl nl cl]
theorem Fok.rng' {p m:Nat}{md:List Int}(K:Fok p m md):Rng (p ^ m) (fA p m) (fM p (Ax m md)):=by
 have:=Wy K.p2 (f:=Ax m md) (by rw [K.shp.flen];exact K.shp.m1)
 rwa [K.shp.flen] at this
section
variable {p m q b ng cg ne ce nl cl:Nat}{pg pe pl:Option Addr}
theorem I7 {x:Int}{res:Bool}(hq:q≤256) (hr:decide (0≤x∧x<(q:Int))=res):Bt Tryz.prog 144 [.pointer (some ⟨b,0,none⟩),.int .i64 x] [] [Jc b p m q pg ng cg pe ne ce pl nl cl] (Rv (.bool res) []):=by
 refine Ab (F:=AAq) rfl fun C=>?_
 subst hr
 by_cases h0:0≤x
 ·have e:decide (0≤x∧x<(q:Int))=decide (x<(q:Int)):=by simp [h0]
  rw [e]
  refine wk 12 cz ?_
  intro h1
  exact ge
 ·rw [decide_eq_false (show ¬(0≤x∧x<(q:Int)) from fun h=>h0 h.1)]
  refine wk 9 cz ?_
  intro h1
  exact ge
theorem B4 {x:Int}(hq:q≤256) (h0:0≤x) (h1:x<(q:Int)):Bt Tryz.prog 121 [.pointer (some ⟨b,0,none⟩),.int .i64 x] [] [Jc b p m q pg ng cg pe ne ce pl nl cl] (Rv (.int .i64 x) []):=by
 refine Ab (F:=AAp) rfl fun C=>?_
 have hd:decide (0≤x∧x<(q:Int))=true:=decide_eq_true ⟨h0,h1⟩
 refine wk 10 (ct @I7 cz) ?_
 exact ge
theorem Dc {x y:Int}(hp:2≤p) (hm:1≤m) (hq:p ^ m≤256) (x0:0≤x) (x1:x<((p ^ m:Nat):Int)) (y0:0≤y) (y1:y<((p ^ m:Nat):Int)):Bt Tryz.prog 122 [.pointer (some ⟨b,0,none⟩),.int .i64 x,.int .i64 y] [] [Jc b p m (p ^ m) pg ng cg pe ne ce pl nl cl] (Rv (.int .i64 (Ad (fA p m) x y)) []):=by
 refine Ab (F:=Yi) rfl fun C=>?_
 obtain ⟨a,rfl⟩:=Int.eq_ofNat_of_zero_le x0
 obtain ⟨c,rfl⟩:=Int.eq_ofNat_of_zero_le y0
 rw [Ad,Int.toNat_natCast,Int.toNat_natCast]
 clear x0 y0
 have x1:=Int.ofNat_lt.1 x1
 have y1:=Int.ofNat_lt.1 y1
 have hpp:p≤256:=by
  have:=Nat.pow_le_pow_right (n:=p) (by omega) hm
  rw [Nat.pow_one] at this
  omega
 by_cases hp2:p=2
 ·subst hp2
  rw [AHd x1 y1]
  generalize 2 ^ m=Q at *
  refine wk 18 (ct @B4 (ct @B4 cz)) ?_
  intro h1
  refine Aa rfl (AGa (a) (c) rfl rfl (by first|rfl|omega) (by first|rfl|omega) (by omega) (by omega) ?_)
  refine wk 2 cz ?_
  exact ge
 ·generalize hQ:p ^ m=Q at *
  refine wk 19 (ct @B4 (ct @B4 cz)) ?_
  intro h1
  generalize hF:fA p m a c=F
  refine Ah (X:=Nat×Nat×Nat×Nat×Nat) [0,6] [0] (fun k=>[(1,.int .i64 (k.1:Int)),(2,.int .i64 (k.2.1:Int)),(7,.int .i64 (k.2.2.1:Int)),(8,.int .i64 (k.2.2.2.1:Int))]) (fun _=>[]) (fun _=>[])
   (fun k=>k.1<p ^ k.2.2.2.2∧k.2.1<p ^ k.2.2.2.2∧k.2.2.2.1*p ^ k.2.2.2.2=Q∧k.2.2.1<k.2.2.2.1∧k.2.2.1+k.2.2.2.1*fA p k.2.2.2.2 k.1 k.2.1=F) (fun k=>k.2.2.2.2) (a,c,0,1,m) [] rfl rfl rfl ⟨by dsimp only;omega,by dsimp only;omega,by dsimp only;omega,by dsimp only;omega,by dsimp only;omega⟩ (by repeat (first|exact Fr.sub_nil _|refine Fr.sub_cons rfl ?_)) rfl rfl ?_
  rintro ⟨u,v,r,w,k⟩ ⟨hu,hv,hw,hr,he⟩ ih
  simp only [List.cons_append,List.nil_append] at hu hv hw hr he ih ⊢
  by_cases h0:u=0∧v=0
  ·obtain ⟨rfl,rfl⟩:=h0
   rw [AJT,Nat.mul_zero,Nat.add_zero] at he
   subst he
   refine wk 7 cz ?_
   intro h2
   exact ge
  ·obtain ⟨k,rfl⟩:∃ j,k=j+1:=⟨k-1,by
    rcases k with _|k
    ·rw [Nat.pow_zero] at hu hv;omega
    ·omega⟩
   have hw1:w≤Q:=Nat.le_of_dvd (by omega) ⟨_,hw.symm⟩
   have hwp:w*p≤Q:=Nat.le_of_dvd (by omega) ⟨p ^ k,by rw [← hw,Nat.pow_succ,Nat.mul_assoc,Nat.mul_comm p]⟩
   have hd:(u % p+v % p) % p<p:=Nat.mod_lt _ (by omega)
   have hdw:(u % p+v % p) % p*w+w≤w*p:=by
    have:=Nat.mul_le_mul_right w (show (u % p+v % p) % p+1≤p by omega)
    rw [Nat.add_mul,Nat.one_mul,Nat.mul_comm p] at this
    exact this
   have hu1:=Nat.mod_lt u (show 0<p by omega)
   have hv1:=Nat.mod_lt v (show 0<p by omega)
   have ih':=ih (u / p,v / p,r+(u % p+v % p) % p*w,w*p,k) (Nat.lt_succ_self k) ⟨by dsimp only;exact Nat.div_lt_of_lt_mul (by rwa [Nat.pow_succ,Nat.mul_comm] at hu),by dsimp only;exact Nat.div_lt_of_lt_mul (by rwa [Nat.pow_succ,Nat.mul_comm] at hv),by dsimp only;rw [← hw,Nat.pow_succ,Nat.mul_assoc,Nat.mul_comm p],by dsimp only;omega,by
    dsimp only
    rw [← he,Yz,Nat.mul_add,Nat.mul_comm w (_ % p),Nat.mul_assoc,Nat.add_assoc]⟩
   simp only [Int.natCast_add,Int.natCast_mul,Int.natCast_emod,Int.natCast_ediv] at ih'
   have hm0:0≤((u:Int) % (p:Int)+(v:Int) % (p:Int)) % (p:Int)*(w:Int)∧(r:Int)+((u:Int) % (p:Int)+(v:Int) % (p:Int)) % (p:Int)*(w:Int)≤256:=by
    rw [← Int.natCast_emod,← Int.natCast_emod,← Int.natCast_add,← Int.natCast_emod,← Int.natCast_mul]
    omega
   have hm1:0≤(w:Int)*(p:Int)∧(w:Int)*(p:Int)≤256:=by
    rw [← Int.natCast_mul]
    omega
   have hp8:p ^ (k+1)≤Q:=Nat.le_of_dvd (by omega) ⟨w,by rw [← hw,Nat.mul_comm]⟩
   have hu2:=Nat.div_le_self u p
   have hv2:=Nat.div_le_self v p
   have hm2:0≤(u:Int) / (p:Int)∧(u:Int) / (p:Int)≤256:=AB8 (by omega)
   have hm3:0≤(v:Int) / (p:Int)∧(v:Int) / (p:Int)≤256:=AB8 (by omega)
   rcases Nat.eq_zero_or_pos u with h9|h9
   ·have h8:0<v:=by omega
    refine wk 30 cz ?_
    intro h2 h3
    exact tw (ih')
   ·refine wk 30 cz ?_
    intro h2
    exact tw (ih')
theorem Gt {x:Int}(hp:2≤p) (hm:1≤m) (hq:p ^ m≤256) (x0:0≤x) (x1:x<((p ^ m:Nat):Int)):Bt Tryz.prog 74 [.pointer (some ⟨b,0,none⟩),.int .i64 x] [] [Jc b p m (p ^ m) pg ng cg pe ne ce pl nl cl] (Rv (.int .i64 ((nP p m x.toNat:Nat):Int)) []):=by
 refine Ab (F:=Xz) rfl fun C=>?_
 obtain ⟨a,rfl⟩:=Int.eq_ofNat_of_zero_le x0
 rw [Int.toNat_natCast]
 clear x0
 have x1:=Int.ofNat_lt.1 x1
 have hpp:p≤256:=by
  have:=Nat.pow_le_pow_right (n:=p) (by omega) hm
  rw [Nat.pow_one] at this
  omega
 generalize hQ:p ^ m=Q at *
 refine wk 9 (ct @B4 cz) ?_
 generalize hF:nP p m a=F
 refine Ah (X:=Nat×Nat×Nat×Nat) [0,4] [0] (fun k=>[(1,.int .i64 (k.1:Int)),(5,.int .i64 (k.2.1:Int)),(6,.int .i64 (k.2.2.1:Int))]) (fun _=>[]) (fun _=>[])
  (fun k=>k.1<p ^ k.2.2.2∧k.2.2.1*p ^ k.2.2.2=Q∧k.2.1<k.2.2.1∧k.2.1+k.2.2.1*nP p k.2.2.2 k.1=F) (fun k=>k.2.2.2) (a,0,1,m) [] rfl rfl rfl ⟨by dsimp only;omega,by dsimp only;omega,by dsimp only;omega,by dsimp only;omega⟩ (by repeat (first|exact Fr.sub_nil _|refine Fr.sub_cons rfl ?_)) rfl rfl ?_
 rintro ⟨u,r,w,k⟩ ⟨hu,hw,hr,he⟩ ih
 simp only [List.cons_append,List.nil_append] at hu hw hr he ih ⊢
 by_cases h0:u=0
 ·subst h0
  rw [AJp,Nat.mul_zero,Nat.add_zero] at he
  subst he
  refine wk 7 cz ?_
  intro h1
  exact ge
 ·obtain ⟨k,rfl⟩:∃ j,k=j+1:=⟨k-1,by
   rcases k with _|k
   ·rw [Nat.pow_zero] at hu;omega
   ·omega⟩
  have hw1:w≤Q:=Nat.le_of_dvd (by omega) ⟨_,hw.symm⟩
  have hwp:w*p≤Q:=Nat.le_of_dvd (by omega) ⟨p ^ k,by rw [← hw,Nat.pow_succ,Nat.mul_assoc,Nat.mul_comm p]⟩
  have hd:(p-u % p) % p<p:=Nat.mod_lt _ (by omega)
  have hdw:(p-u % p) % p*w+w≤w*p:=by
   have:=Nat.mul_le_mul_right w (show (p-u % p) % p+1≤p by omega)
   rw [Nat.add_mul,Nat.one_mul,Nat.mul_comm p] at this
   exact this
  have hu1:=Nat.mod_lt u (show 0<p by omega)
  have ih':=ih (u / p,r+(p-u % p) % p*w,w*p,k) (Nat.lt_succ_self k) ⟨by dsimp only;exact Nat.div_lt_of_lt_mul (by rwa [Nat.pow_succ,Nat.mul_comm] at hu),by dsimp only;rw [← hw,Nat.pow_succ,Nat.mul_assoc,Nat.mul_comm p],by dsimp only;omega,by
   dsimp only
   rw [← he,ABA,Nat.mul_add,Nat.mul_comm w (_ % p),Nat.mul_assoc,Nat.add_assoc]⟩
  simp only [Int.natCast_add,Int.natCast_mul,Int.natCast_emod,Int.natCast_ediv] at ih'
  have hm0:0≤((p-u % p:Nat):Int) % (p:Int)*(w:Int)∧(r:Int)+((p-u % p:Nat):Int) % (p:Int)*(w:Int)≤256:=by
   rw [← Int.natCast_emod,← Int.natCast_mul]
   omega
  have hm1:0≤(w:Int)*(p:Int)∧(w:Int)*(p:Int)≤256:=by
   rw [← Int.natCast_mul]
   omega
  have hp8:p ^ (k+1)≤Q:=Nat.le_of_dvd (by omega) ⟨w,by rw [← hw,Nat.mul_comm]⟩
  have hu2:=Nat.div_le_self u p
  have hm2:0≤(u:Int) / (p:Int)∧(u:Int) / (p:Int)≤256:=AB8 (by omega)
  refine wk 5 cz ?_
  intro h1
  (apply E5 it mx 23;(· rfl);(· rfl))
  (apply A3 3;(· rfl);(· simp))
  (apply Ac;(· rfl);(· exact Cg fun _=>Aq rfl S9 An))
  (apply Ac;(· rfl);(· exact Cg fun _=>Aq rfl Pn An))
  (apply Ac;(· rfl);(· exact Zi 0 rfl rfl Ci rfl))
  (apply A3 3;(· rfl);(· simp))
  (apply Ac;(· rfl);(· exact Cg fun _=>Aq rfl S9 An))
  (apply Ac;(· rfl);(· exact Cg fun _=>Aq rfl Pn An))
  (apply Ac;(· rfl);(· exact Zi 0 rfl rfl Ci rfl))
  (apply A3 1;(· rfl);(· exact ⟨⟨by omega,by omega⟩,trivial⟩))
  (apply Ac (v:=Value.int IntKind.i64 ((((p)-((u) % (p)):Nat)):Int));(· rfl);(· exact Cg fun _=>ADl it _ rfl ⟨by omega,by omega⟩ (by omega) An))
  simp only [Nat.add_sub_cancel]
  (apply A3 2;(· rfl);(· simp))
  (apply Ac;(· rfl);(· exact Cg fun _=>Aq rfl S9 An))
  (apply Ac;(· rfl);(· exact Cg fun _=>Aq rfl Pn An))
  (apply Ac;(· rfl);(· exact Zi 0 rfl rfl Ci rfl))
  (apply A3 4;(· rfl);(· exact ⟨⟨by omega,by omega⟩,⟨by omega,by omega⟩,trivial,⟨by omega,by omega⟩,trivial⟩))
  refine Et rfl ?_
  simp only [List.map_cons,List.map_nil,List.cons_append,List.nil_append]
  refine wk 14 cz ?_
  exact tw (ih')
theorem C3 {x y:Int}{md:List Int}(K:Fok p m md) (x0:0≤x) (x1:x<((p ^ m:Nat):Int)) (y0:0≤y) (y1:y<((p ^ m:Nat):Int)):Bt Tryz.prog 164 [.pointer (some ⟨b,0,none⟩),.int .i64 x,.int .i64 y] [] [Jc b p m (p ^ m) pg ng cg pe (p ^ m-1) ce pl (p ^ m) cl,Ap Ai pe (p ^ m-1) ce (Jh p m md),Ap Ai pl (p ^ m) cl (Jk p m md)] (Rv (.int .i64 (Ad (fM p (Ax m md)) x y)) []):=by
 refine Ab (F:=Yl) rfl fun C=>?_
 obtain ⟨a,rfl⟩:=Int.eq_ofNat_of_zero_le x0
 obtain ⟨c,rfl⟩:=Int.eq_ofNat_of_zero_le y0
 rw [Ad,Int.toNat_natCast,Int.toNat_natCast]
 clear x0 y0
 have x1:=Int.ofNat_lt.1 x1
 have y1:=Int.ofNat_lt.1 y1
 have R:=K.rng'
 have hq:=K.q
 obtain ⟨g2,g3,hgen,-⟩:=Uf ((My K.shp K.pr).2 K)
 unfold Jh Jk
 generalize gnX (p ^ m) (fM p (Ax m md))=g at *
 generalize fM p (Ax m md)=M at *
 generalize p ^ m=q at *
 by_cases h0:a=0∨c=0
 ·have e:M a c=0:=by
   rcases h0 with rfl|rfl
   ·rw [R.mc _ _ x1 y1,R.m0 y1]
   ·exact R.m0 x1
  rw [e]
  rcases Nat.eq_zero_or_pos a with h9|h9
  ·refine wk 19 (ct @B4 (ct @B4 cz)) ?_
   intro h1
   exact ge
  ·have h8:c=0:=by omega
   refine wk 19 (ct @B4 (ct @B4 cz)) ?_
   intro h1 h2
   exact ge
 ·have h1:a≠0:=fun e=>h0 (.inl e)
  have h2:c≠0:=fun e=>h0 (.inr e)
  obtain ⟨i,hi,rfl⟩:=R.gen_all g3 hgen x1 h1
  obtain ⟨j,hj,rfl⟩:=R.gen_all g3 hgen y1 h2
  rw [← R.exp_mul g3 hgen]
  have ei:(Sn q M g)[B2 M g i]?=some (i:Int):=Il (by rw [List.getElem?_map,List.getElem?_range x1];show some (lgN q M g _)=_;rw [ACD hgen hi])
  have ej:(Sn q M g)[B2 M g j]?=some (j:Int):=Il (by rw [List.getElem?_map,List.getElem?_range y1];show some (lgN q M g _)=_;rw [ACD hgen hj])
  have ei':(Sn q M g).getD (B2 M g i) default=(i:Int):=by rw [List.getD_eq_getElem?_getD,ei];rfl
  have ej':(Sn q M g).getD (B2 M g j) default=(j:Int):=by rw [List.getD_eq_getElem?_getD,ej];rfl
  have hk:(i+j) % (q-1)<q-1:=Nat.mod_lt _ (by omega)
  have ek:(Vt q M g)[(i+j) % (q-1)]?=some ((B2 M g ((i+j) % (q-1)):Nat):Int):=Il (by rw [List.getElem?_map,List.getElem?_range hk];rfl)
  have en:((Sn q M g).getD (B2 M g i) default:Int).toNat+((Sn q M g).getD (B2 M g j) default:Int).toNat=i+j:=by rw [ei',ej',Int.toNat_natCast,Int.toNat_natCast]
  have em:((Sn q M g).getD (B2 M g i) default+(Sn q M g).getD (B2 M g j) default:Int) % ((q-1:Nat):Int)=(((((Sn q M g).getD (B2 M g i) default:Int).toNat+((Sn q M g).getD (B2 M g j) default:Int).toNat) % (q-1):Nat):Int):=by rw [en,ei',ej',Int.natCast_emod,Int.natCast_add]
  have eo:(((Sn q M g).getD (B2 M g i) default:Int).toNat+((Sn q M g).getD (B2 M g j) default:Int).toNat) % (q-1)<q-1:=by rw [en];exact hk
  have ek':(Vt q M g)[(((Sn q M g).getD (B2 M g i) default:Int).toNat+((Sn q M g).getD (B2 M g j) default:Int).toNat) % (q-1)]?=some ((B2 M g ((i+j) % (q-1)):Nat):Int):=by rw [en];exact ek
  have ef:(Vt q M g).getD ((((Sn q M g).getD (B2 M g i) default:Int).toNat+((Sn q M g).getD (B2 M g j) default:Int).toNat) % (q-1)) default=((B2 M g ((i+j) % (q-1)):Nat):Int):=by rw [List.getD_eq_getElem?_getD,ek'];rfl
  refine wk 20 (ct @B4 (ct @B4 cz)) ?_
  intro h3 h4 b1 o1 b2 o2 b3 o3
  try simp only [em,Int.toNat_natCast]
  rw [ef]
  exact ge
theorem Qo {x:Int}{md:List Int}(K:Fok p m md) (x0:0<x) (x1:x<((p ^ m:Nat):Int)):Bt Tryz.prog 204 [.pointer (some ⟨b,0,none⟩),.int .i64 x] [] [Jc b p m (p ^ m) pg ng cg pe (p ^ m-1) ce pl (p ^ m) cl,Ap Ai pe (p ^ m-1) ce (Jh p m md),Ap Ai pl (p ^ m) cl (Jk p m md)] (Rv (.tuple #[.int .i64 ((iF (p ^ m) (fM p (Ax m md)) x.toNat:Nat):Int),.int .i64 0]) []):=by
 refine Ab (F:=X4) rfl fun C=>?_
 obtain ⟨a,rfl⟩:=Int.eq_ofNat_of_zero_le (Int.le_of_lt x0)
 rw [Int.toNat_natCast]
 have x1:=Int.ofNat_lt.1 x1
 have h1:a≠0:=by omega
 clear x0
 have R:=K.rng'
 have hq:=K.q
 obtain ⟨g2,g3,hgen,-⟩:=Uf ((My K.shp K.pr).2 K)
 unfold Jh Jk
 generalize gnX (p ^ m) (fM p (Ax m md))=g at *
 generalize fM p (Ax m md)=M at *
 generalize p ^ m=q at *
 obtain ⟨i,hi,rfl⟩:=R.gen_all g3 hgen x1 h1
 have hk:(q-1-i) % (q-1)<q-1:=Nat.mod_lt _ (by omega)
 have hin:=R.exp_inv g3 hgen hi
 have hpl:=R.pw_lt g3
 have hev:iF q M (B2 M g i)=B2 M g ((q-1-i) % (q-1)):=by
  have h0:B2 M g ((q-1-i) % (q-1))≠0:=hgen.2.1 _ hk
  obtain ⟨⟨a1,a2⟩,a3⟩:=AHO (q:=q) (M:=M) (x:=B2 M g i) ⟨_,by omega,hpl _,hin⟩
  exact R.inv_one x1 a2 (hpl _) a3 hin
 rw [hev]
 have ei:(Sn q M g)[B2 M g i]?=some (i:Int):=Il (by rw [List.getElem?_map,List.getElem?_range x1];show some (lgN q M g _)=_;rw [ACD hgen hi])
 have ei':(Sn q M g).getD (B2 M g i) default=(i:Int):=by rw [List.getD_eq_getElem?_getD,ei];rfl
 have ek:(Vt q M g)[(q-1-i) % (q-1)]?=some ((B2 M g ((q-1-i) % (q-1)):Nat):Int):=Il (by rw [List.getElem?_map,List.getElem?_range hk];rfl)
 have en:q-1-((Sn q M g).getD (B2 M g i) default:Int).toNat=q-1-i:=by rw [ei',Int.toNat_natCast]
 have eo:(q-1-((Sn q M g).getD (B2 M g i) default:Int).toNat) % (q-1)<q-1:=by rw [en];exact hk
 have ek':(Vt q M g)[(q-1-((Sn q M g).getD (B2 M g i) default:Int).toNat) % (q-1)]?=some ((B2 M g ((q-1-i) % (q-1)):Nat):Int):=by rw [en];exact ek
 have ef:(Vt q M g).getD ((q-1-((Sn q M g).getD (B2 M g i) default:Int).toNat) % (q-1)) default=((B2 M g ((q-1-i) % (q-1)):Nat):Int):=by rw [List.getD_eq_getElem?_getD,ek'];rfl
 refine wk 14 (ct @B4 cz) ?_
 intro h2 b1 o1 b2 o2
 try simp only [← Int.natCast_emod,Int.toNat_natCast]
 rw [ef]
 exact ge
theorem U2 {a:Int}{pu:Option Addr}{nu cu:Nat}{u md:List Int}(K:Fok p m md) (a0:0≤a) (a1:a<((p ^ m:Nat):Int)) (hu:∀ x∈u,0≤x∧x<((p ^ m:Nat):Int)) :
  Bt Tryz.prog 129 [.pointer (some ⟨b,0,none⟩),.int .i64 a,.slice pu nu cu] [] [Jc b p m (p ^ m) pg ng cg pe (p ^ m-1) ce pl (p ^ m) cl,Ap Ai pe (p ^ m-1) ce (Jh p m md),Ap Ai pl (p ^ m) cl (Jk p m md),Ap Ai pu nu cu u] (RwI nu (Ct (Ad (fM p (Ax m md))) a u)):=by
 refine Ab (F:=M1) rfl fun C=>?_
 refine Ba 3 rfl fun hn hb _=>?_
 subst hn
 have hb':u.length*8≤140737488355328:=hb
 have A6:=fun {b ng cg ce cl:Nat}{pg pe pl:Option Addr}{x y:Int}=>C3 (b:=b) (ng:=ng) (cg:=cg) (ce:=ce) (cl:=cl) (pg:=pg) (pe:=pe) (pl:=pl) (x:=x) (y:=y) K
 have hml:=fun x (h:x∈u)=>K.fi.ml a x a0 a1 (hu x h).1 (hu x h).2
 have hq:=K.q
 generalize Ad (fM p (Ax m md))=M at *
 generalize Jh p m md=ex at *
 generalize Jk p m md=lg at *
 generalize p ^ m=q at *
 refine wk 12 cz ?_
 intro b1
 rw [show Ao .i64 (List.replicate u.length 0)=Al .i64 ((Ct M a u).take 0++List.replicate (u.length-0) 0) by simp [Ao,Al]]
 refine Ah (X:=Nat) [0,1,6,7,13,14] [0,1,2,3] (fun i=>[(15,.int .i64 (i:Int))]) (fun i=>[(some b1,3,Al .i64 ((Ct M a u).take i++List.replicate (u.length-i) 0))]) (fun _=>[]) (fun i=>i≤u.length) (fun i=>u.length-i) 0 [] rfl rfl rfl (Nat.zero_le _) (by repeat (first|exact Fr.sub_nil _|refine Fr.sub_cons rfl ?_)) rfl rfl ?_
 rintro i hi ih
 simp only [List.cons_append,List.nil_append] at hi ih ⊢
 by_cases h9:i<u.length
 ·obtain ⟨x,at_x⟩:∃ x,u[i]?=some x:=⟨_,List.getElem?_eq_getElem h9⟩
  have hx:=hu x (List.mem_of_getElem? at_x)
  obtain ⟨hx0,hx1⟩:=hx
  have ih':=ih (i+1) (by omega) (by omega)
  have eT:(Ct M a u)[i]?=some (M a x):=by rw [Ct,List.getElem?_map,at_x];rfl
  rw [← take_set eT h9] at ih'
  have hln:((Ct M a u).take i++List.replicate (u.length-i) 0).length=u.length:=by simp [Ct];omega
  generalize (Ct M a u).take i++List.replicate (u.length-i) 0=L at *
  refine wk 7 cz ?_
  intro h1 b2 o1 hz1
  refine Aa rfl (Av 0 rfl rfl Ci fun ⟨r1,r2⟩=>?_)
  refine wk 9 (ct @A6 cz) ?_
  exact tw (ih')
 ·obtain rfl:i=u.length:=by omega
  rw [Nat.sub_self,List.replicate_zero,List.append_nil,List.take_of_length_le (by simp [Ct])]
  refine wk 7 cz ?_
  intro h1
  have hall:∀ z∈Ct M a u,Bv .i64 z:=fun z hz=>by
   obtain ⟨y,hy,rfl⟩:=List.mem_map.1 hz
   have:=hml y hy
   simp only [Bv];omega
  have hln:(Ct M a u).length=u.length:=by simp [Ct]
  generalize Ct M a u=L at *
  refine Bk 0 rfl hln.symm hall (by omega) ?_
  refine D4 1 [0] [0] rfl (.tmp rfl .nil) rfl rfl rfl ⟨⟨some b1,u.length,Al .i64 L⟩,rfl,rfl,rfl⟩
end
open Go Go.Fw
set_option maxRecDepth 100000
set_option linter.unusedVariables false
set_option linter.unusedSimpArgs false
set_option maxHeartbeats 0
theorem Q2 {p m nm cm:Nat}{md:List Int}{pm:Option Addr}(K:Fok p m md) {x:Int}(x0:0≤x) (x1:x<((p ^ m:Nat):Int)) :
  Bt Tryz.prog 76 [.agg #[.int .i64 p,.int .i64 m,.slice pm nm cm],.int .i64 x] [] [] (Rv (.int .i64 ((nP p m x.toNat:Nat):Int)) []):=by
 refine Ab (F:=Qw) rfl fun C=>?_
 have h1:=K.p2
 have h2:=K.p256
 have h3:=K.m8
 have h4:=K.q
 have lx:=Dx p m x.toNat
 have lT:((Db p m x.toNat).map fun d=>(p-d) % p).length=m:=by rw [List.length_map,lx]
 have rT:∀ d∈(Db p m x.toNat).map fun d=>(p-d) % p,d<p:=fun d hd=>by
  obtain ⟨j,_,rfl⟩:=List.mem_map.1 hd
  exact Nat.mod_lt _ (by omega)
 have tz:∀ i,i<m→((Db p m x.toNat).map fun d=>(p-d) % p)[i]?=some ((p-(Db p m x.toNat).getD i 0) % p):=fun i hi=>by
  rw [List.getElem?_map,List.getD_eq_getElem?_getD,List.getElem?_eq_getElem (by omega)];rfl
 have xr:=fun d hd=>I3 (p:=p) (n:=m) (x:=x.toNat) (by omega) d hd
 unfold nP
 generalize (Db p m x.toNat).map (fun d=>(p-d) % p)=T at *
 have ep:p ^ T.length≤1000000:=by rw [lT];omega
 refine wk 11 (ct @Ec cz) ?_
 intro b1 b2
 rw [show Ao .i64 (Db p m x.toNat)=Ao .i64 (T.take 0++(Db p m x.toNat).drop 0) by simp]
 refine Ah (X:=Nat) [2,4,5] [] (fun i=>[(6,.int .i64 (i:Int))]) (fun i=>[(some b2,3,Ao .i64 (T.take i++(Db p m x.toNat).drop i)),(some b1,24,[.int .i64 p,.int .i64 m,.slice pm nm cm])]) (fun _=>[]) (fun i=>i≤m) (fun i=>m-i) 0 [] rfl rfl rfl (Nat.zero_le _) (by repeat (first|exact Fr.sub_nil _|refine Fr.sub_cons rfl ?_)) rfl rfl ?_
 rintro i hi ih
 simp only [List.cons_append,List.nil_append] at hi ih ⊢
 by_cases hil:i<m
 ·have zx:(Db p m x.toNat)[i]?=some ((Db p m x.toNat).getD i 0):=by rw [List.getD_eq_getElem?_getD,List.getElem?_eq_getElem (by omega)];rfl
  have zt:=tz i hil
  have bx:=xr _ (List.mem_of_getElem? zx)
  have ih':=ih (i+1) (by omega) (by omega)
  have zm:=(AHg (T:=T) (D:=Db p m x.toNat) lT lx hil).trans zx
  have lm:(T.take i++(Db p m x.toNat).drop i).length=m:=by rw [List.length_append,List.length_take,List.length_drop];omega
  rw [← AE1 lT lx hil zt] at ih'
  generalize (Db p m x.toNat).getD i 0=u at *
  have em:((p-u:Nat):Int) % (p:Int)=(((p-u) % p:Nat):Int):=(Int.natCast_emod _ _).symm
  refine wk 13 cz ?_
  intro h5
  exact tw (ih')
 ·obtain rfl:i=m:=by omega
  clear ih
  rw [List.take_of_length_le (by omega),List.drop_of_length_le (by omega),List.append_nil,Ho .i64 T]
  refine wk 9 cz ?_
  intro h5
  refine Hh 8 (Bb T) 0 rfl (by rw [Ch,lT]) (Vu fun d hd=>by have:=rT d hd;omega) (by omega) (by omega) ?_
  simp only [List.eraseIdx_cons_zero,List.eraseIdx_cons_succ]
  refine wk 3 (ct @F7 cz) ?_
  exact ge
theorem Qu {p m nm cm:Nat}{md:List Int}{pm:Option Addr}(K:Fok p m md) {x:Int}(x0:0<x) (x1:x<((p ^ m:Nat):Int)) :
  Bt Tryz.prog 181 [.agg #[.int .i64 p,.int .i64 m,.slice pm nm cm],.int .i64 x] [] [Ap Ai pm nm cm md] (Rv (.int .i64 ((iF (p ^ m) (fM p (Ax m md)) x.toNat:Nat):Int)) []):=by
 refine Ab (F:=Qt) rfl fun C=>?_
 obtain ⟨a,rfl⟩:=Int.eq_ofNat_of_zero_le (Int.le_of_lt x0)
 rw [Int.toNat_natCast]
 have x1:=Int.ofNat_lt.1 x1
 have h1:a≠0:=by omega
 have R:=K.rng'
 have hq:=K.q
 have hinv:∃ y,1≤y∧y<p ^ m∧fM p (Ax m md) a y=1:=by
  obtain ⟨g2,g3,hgen,-⟩:=Uf ((My K.shp K.pr).2 K)
  obtain ⟨i,hi,rfl⟩:=R.gen_all g3 hgen x1 h1
  have h0:=hgen.2.1 ((p ^ m-1-i) % (p ^ m-1)) (Nat.mod_lt _ (by omega))
  exact ⟨_,by omega,R.pw_lt g3 _,R.exp_inv g3 hgen hi⟩
 obtain ⟨⟨i1,i2⟩,i3⟩:=AHO hinv
 have hno:∀ z,1≤z→z<iF (p ^ m) (fM p (Ax m md)) a→fM p (Ax m md) a z≠1:=fun z z1 z2 e=>absurd (R.inv_one x1 (by omega) i2 e i3) (by omega)
 have Cn:=fun {y:Nat}(hy:y<p ^ m)=>Gz (nm:=nm) (cm:=cm) (pm:=pm) K (x:=(a:Int)) (y:=(y:Int)) (by omega) (by omega) (by omega) (by omega)
 simp only [Ad,Int.toNat_natCast] at Cn
 have Dk:=Bn (pm:=pm) (n:=nm) (c:=cm) K.ord
 generalize iF (p ^ m) (fM p (Ax m md)) a=v at *
 generalize fM p (Ax m md)=M at *
 generalize p ^ m=q at *
 refine wk 6 cz ?_
 intro b1
 refine Ah (X:=Nat) [1,2] [0] (fun i=>[(5,.int .i64 (i:Int))]) (fun _=>[(some b1,24,[.int .i64 p,.int .i64 m,.slice pm nm cm])]) (fun _=>[]) (fun i=>1≤i∧i≤v) (fun i=>v-i) 1 [] rfl rfl rfl ⟨Nat.le_refl 1,i1⟩ (by repeat (first|exact Fr.sub_nil _|refine Fr.sub_cons rfl ?_)) rfl rfl ?_
 rintro i ⟨hi1,hi2⟩ ih
 simp only [List.cons_append,List.nil_append] at hi1 hi2 ih ⊢
 by_cases h9:i=v
 ·subst h9
  refine wk 17 (ct @Dk (ct @Cn cz)) ?_
  intro h2 h3
  exact ge
 ·have h8:=hno i hi1 (by omega)
  refine wk 17 (ct @Dk (ct @Cn cz)) ?_
  intro h2 h3
  exact tw (ih (i+1) (by omega) ⟨by omega,by omega⟩)
theorem C1 {p m:Nat}{md:List Int}(K:Fok p m md):FO (p ^ m) (Ad (fA p m)) (Ad (fM p (Ax m md))) (fun x=>((nP p m x.toNat:Nat):Int)) (fun x=>((iF (p ^ m) (fM p (Ax m md)) x.toNat:Nat):Int)) where
 fi:=K.fi
 ng:=fun x x0 x1=>by
  have h1:=AC7 (show 0<p by have:=K.p2;omega) m x.toNat
  exact ⟨⟨Int.natCast_nonneg _,Int.ofNat_lt.2 h1⟩,by rw [Ad,Int.toNat_natCast,AJS (by have:=K.p2;omega)];rfl⟩
 iv:=fun x x0 x1 hx=>by
  have R:=K.rng'
  have hinv:∃ y,1≤y∧y<p ^ m∧fM p (Ax m md) x.toNat y=1:=by
   obtain ⟨g2,g3,hgen,-⟩:=Uf ((My K.shp K.pr).2 K)
   obtain ⟨i,hi,e⟩:=R.gen_all g3 hgen (show x.toNat<p ^ m by omega) (by omega)
   have h0:=hgen.2.1 ((p ^ m-1-i) % (p ^ m-1)) (Nat.mod_lt _ (by omega))
   have:=R.exp_inv g3 hgen hi
   rw [e] at this
   exact ⟨_,by omega,R.pw_lt g3 _,this⟩
  obtain ⟨⟨i1,i2⟩,i3⟩:=AHO hinv
  exact ⟨⟨Int.natCast_nonneg _,Int.ofNat_lt.2 i2⟩,by rw [Ad,Int.toNat_natCast,i3];rfl⟩
def Tn (x:Int) (l:List Int):Int:=if x∈l then (l.idxOf x:Int) else -1
theorem AIH {x:Int}{l:List Int}{i:Nat}(h:l[i]?=some x) (hn:∀ j,j<i→l[j]?≠some x):Tn x l=i:=by
 have h1:=List.mem_of_getElem? h
 rw [Tn,if_pos h1]
 congr 1
 obtain ⟨hi,e⟩:=List.getElem?_eq_some_iff.1 h
 have h2:l.idxOf x<l.length:=List.idxOf_lt_length_of_mem h1
 have h3:l[l.idxOf x]=x:=List.getElem_idxOf h2
 rcases Nat.lt_trichotomy (l.idxOf x) i with h4|h4|h4
 ·exact absurd (by rw [List.getElem?_eq_getElem h2,h3]) (hn _ h4)
 ·exact h4
 ·exact absurd e (by have:=List.not_of_lt_findIdx (p:=(· == x)) (xs:=l) (i:=i) h4;simpa using this)
theorem AIo {x:Int}{l:List Int}(h:x∉l):Tn x l=-1:=by rw [Tn,if_neg h]
theorem Hq {pl:Option Addr}{nl cl:Nat}{l:List Int}{x:Int}:Bt Tryz.prog 131 [.slice pl nl cl,.int .i64 x] [] [Ap Ai pl nl cl l] (Rv (.int .i64 (Tn x l)) []):=by
 refine Ab (F:=Mw) rfl fun C=>?_
 refine Ba 0 rfl fun hn hb _=>?_
 subst hn
 have hb':l.length*8≤140737488355328:=hb
 refine wk 7 cz ?_
 refine Ah (X:=Nat) [0,1,7] [0] (fun i=>[(8,.int .i64 (i:Int))]) (fun _=>[]) (fun _=>[]) (fun i=>i≤l.length∧∀ j,j<i→l[j]?≠some x) (fun i=>l.length-i) 0 [] rfl rfl rfl ⟨Nat.zero_le _,fun j h=>by omega⟩ (by repeat (first|exact Fr.sub_nil _|refine Fr.sub_cons rfl ?_)) rfl rfl ?_
 rintro i ⟨hi,hno⟩ ih
 simp only [List.cons_append,List.nil_append] at hi ih ⊢
 by_cases h9:i<l.length
 ·obtain ⟨y,at_y⟩:∃ y,l[i]?=some y:=⟨_,List.getElem?_eq_getElem h9⟩
  by_cases h8:x=y
  ·subst h8
   rw [AIH at_y hno]
   refine wk 9 cz ?_
   intro h1 b1 o1 hz1
   refine Aa rfl (Av 0 rfl rfl Ci fun ⟨r1,r2⟩=>?_)
   refine wk 6 cz ?_
   intro h2
   exact ge
  ·refine wk 9 cz ?_
   intro h1 b1 o1 hz1
   refine Aa rfl (Av 0 rfl rfl Ci fun ⟨r1,r2⟩=>?_)
   refine wk 6 cz ?_
   intro h2
   exact tw (ih (i+1) (by omega) ⟨by omega,fun j hj=>by
    rcases Nat.lt_succ_iff_lt_or_eq.1 hj with h|rfl
    ·exact hno j h
    ·rw [at_y];exact fun e=>h8 (Option.some.inj e).symm⟩)
 ·rw [AIo fun hm=>by
   obtain ⟨j,hj⟩:=List.mem_iff_getElem?.1 hm
   exact hno j (by have:=(List.getElem?_eq_some_iff.1 hj).1;omega) hj]
  refine wk 7 cz ?_
  intro h1
  exact ge
theorem Ck {pl:Option Addr}{nl cl:Nat}{l:List Int}{x:Int}{res:Bool}(hr:decide (x∈l)=res):Bt Tryz.prog 108 [.slice pl nl cl,.int .i64 x] [] [Ap Ai pl nl cl l] (Rv (.bool res) []):=by
 refine Ab (F:=Kv) rfl fun C=>?_
 subst hr
 have e:decide (x∈l)=decide (0≤Tn x l):=by
  by_cases h:x∈l
  ·rw [Tn,if_pos h,decide_eq_true h,decide_eq_true (by omega)]
  ·rw [Tn,if_neg h,decide_eq_false h,decide_eq_false (by omega)]
 have hlo:-1≤Tn x l:=by rw [Tn];split <;> omega
 rw [e]
 refine wk 7 (ct @Hq cz) ?_
 exact ge
theorem Ht {pl pk:Option Addr}{nl cl nk ck:Nat}{l k:List Int}{res:Bool}(hr:decide (l=k)=res):Bt Tryz.prog 151 [.slice pl nl cl,.slice pk nk ck] [] [Ap Ai pl nl cl l,Ap Ai pk nk ck k] (Rv (.bool res) []):=by
 refine Ab (F:=Mr) rfl fun C=>?_
 subst hr
 refine Ba 0 rfl fun hn hb _=>?_
 refine Ba 1 rfl fun hn2 hb2 _=>?_
 subst hn
 subst hn2
 have hb':l.length*8≤140737488355328:=hb
 have hb2':k.length*8≤140737488355328:=hb2
 by_cases hl:l.length=k.length
 ·refine wk 15 cz ?_
  intro h1
  refine Ah (X:=Nat) [0,1,12] [0,1] (fun i=>[(13,.int .i64 (i:Int))]) (fun _=>[]) (fun _=>[]) (fun i=>i≤l.length∧∀ j,j<i→l[j]?=k[j]?) (fun i=>l.length-i) 0 [] rfl rfl rfl ⟨Nat.zero_le _,fun j h=>by omega⟩ (by repeat (first|exact Fr.sub_nil _|refine Fr.sub_cons rfl ?_)) rfl rfl ?_
  rintro i ⟨hi,hno⟩ ih
  simp only [List.cons_append,List.nil_append] at hi ih ⊢
  by_cases h9:i<l.length
  ·obtain ⟨y,hy⟩:∃ y,l[i]?=some y:=⟨_,List.getElem?_eq_getElem h9⟩
   obtain ⟨z,hz⟩:∃ z,k[i]?=some z:=⟨_,List.getElem?_eq_getElem (by omega)⟩
   have ey:l.getD i default=y:=by rw [List.getD_eq_getElem?_getD,hy];rfl
   have ez:k.getD i default=z:=by rw [List.getD_eq_getElem?_getD,hz];rfl
   by_cases h8:y=z
   ·subst h8
    refine wk 13 cz ?_
    intro h2 b1 o1 b2 o2 h3
    exact tw (ih (i+1) (by omega) ⟨by omega,fun j hj=>by
     rcases Nat.lt_succ_iff_lt_or_eq.1 hj with h|rfl
     ·exact hno j h
     ·rw [hy,hz]⟩)
   ·rw [decide_eq_false (show l≠k from fun e=>by rw [e,hz] at hy;exact h8 (Option.some.inj hy).symm)]
    refine wk 13 cz ?_
    intro h2 b1 o1 b2 o2 h3
    exact ge
  ·rw [decide_eq_true (show l=k from List.ext_getElem? fun j=>by
    by_cases h:j<i
    ·exact hno j h
    ·rw [List.getElem?_eq_none (by omega),List.getElem?_eq_none (by omega)])]
   refine wk 7 cz ?_
   intro h2
   exact ge
 ·rw [decide_eq_false (show l≠k from fun e=>hl (by rw [e]))]
  refine wk 13 cz ?_
  intro h1
  exact ge
theorem AGS {P:Program}{F:Fun P}{C:Cx}{S:List It}{σ:Fr}{β:List A4}{Γ:List Fact}{R:Value→World→Prop}{α:Type}{E:Enc α}{n ca:Nat}{l:List α}(j:Nat) (hj:A5 Γ j=some (Ap E none n ca l)) (h:l=[]→J F C S σ β Γ R):J F C S σ β Γ R:=fun w hO hG=>by
 obtain ⟨hl,_,_,hs⟩:=hG _ (Af hj)
 rcases hs with e|⟨b,o,e,_⟩
 ·exact h e w hO hG
 ·cases e
theorem D6 {ps:Option Addr}{n cs:Nat}{l:List Int}:Bt Tryz.prog 73 [.slice ps n cs] [] [Ap Ai ps n cs l] (RwI n l):=by
 refine Ab (F:=Mq) rfl fun C=>?_
 refine Ba 0 rfl fun hn hb _=>?_
 subst hn
 have hb':l.length*8≤140737488355328:=hb
 cases ps with
 | none =>
  refine AGS 0 rfl fun hn=>?_
  subst hn
  refine wk 4 cz ?_
  refine Aa rfl (ADd Ce rfl rfl ?_)
  refine wk 5 cz ?_
  refine F3 Ai 3 ?_
  refine D4 1 [0] [0] rfl (.tmp rfl .nil) rfl rfl rfl ⟨⟨none,0,[]⟩,rfl,rfl,rfl⟩
 | some a =>
  obtain ⟨b,o,w⟩:=a
  refine wk 4 cz ?_
  refine Aa rfl (AAm Ce rfl rfl ?_)
  refine wk 5 cz ?_
  intro b1
  (apply Ly (E:=Dy IntKind.i64 8) (n:=0) (cs:=[]) [] [] 0 (fun w A hG=>Bd);(· rfl);(· rfl);(· rfl);(· rfl);(· decide))
  refine Aa rfl (Uv 0 0 1 rfl rfl rfl rfl rfl Ce Ep rfl (by omega) _ Hu (by omega) fun r1=>?_)
  refine wk 2 cz ?_
  rw [Nat.zero_add,List.nil_append]
  refine D4 1 [0] [0] rfl (.tmp rfl .nil) rfl rfl rfl ⟨r1,rfl,rfl,rfl⟩
def Vf (l:List Int) (q:Nat):Int:=if ∀ x∈l,0≤x∧x<(q:Int) then 0 else 2
theorem Ol {b p m q ng cg ne ce nl cl n c:Nat}{pg pe pl ps:Option Addr}{l:List Int}(hq:q≤256):Bt Tryz.prog 145 [.pointer (some ⟨b,0,none⟩),.slice ps n c] [] [Jc b p m q pg ng cg pe ne ce pl nl cl,Ap Ai ps n c l] (Rv (.int .i64 (Vf l q)) []):=by
 refine Ab (F:=Wn) rfl fun C=>?_
 refine Ba 1 rfl fun hn hb _=>?_
 subst hn
 have hb':l.length*8≤140737488355328:=hb
 refine wk 7 cz ?_
 refine Ah (X:=Nat) [0,7,8] [0,1] (fun i=>[(9,.int .i64 (i:Int))]) (fun _=>[]) (fun _=>[]) (fun i=>i≤l.length∧∀ x∈l.take i,0≤x∧x<(q:Int)) (fun i=>l.length-i) 0 [] rfl rfl rfl ⟨Nat.zero_le _,fun x h=>by simp at h⟩ (by repeat (first|exact Fr.sub_nil _|refine Fr.sub_cons rfl ?_)) rfl rfl ?_
 rintro i ⟨hi,hno⟩ ih
 simp only [List.cons_append,List.nil_append] at hi ih ⊢
 by_cases h9:i<l.length
 ·obtain ⟨y,at_y⟩:∃ y,l[i]?=some y:=⟨_,List.getElem?_eq_getElem h9⟩
  by_cases h8:0≤y∧y<(q:Int)
  ·have hd:decide (0≤y∧y<(q:Int))=true:=decide_eq_true h8
   refine wk 6 cz ?_
   intro h1 b1 o1 hz1
   refine Aa rfl (Av 0 rfl rfl Ci fun ⟨r1,r2⟩=>?_)
   refine wk 10 (ct @I7 cz) ?_
   exact tw (ih (i+1) (by omega) ⟨by omega,fun x hx=>by
    rw [List.take_add_one,at_y] at hx
    rcases List.mem_append.1 hx with hx|hx
    ·exact hno x hx
    ·rw [Option.toList_some,List.mem_singleton] at hx
     rw [hx];exact h8⟩)
  ·have hd:decide (0≤y∧y<(q:Int))=false:=decide_eq_false h8
   rw [Vf,if_neg fun h=>h8 (h y (List.mem_of_getElem? at_y))]
   refine wk 6 cz ?_
   intro h1 b1 o1 hz1
   refine Aa rfl (Av 0 rfl rfl Ci fun ⟨r1,r2⟩=>?_)
   refine wk 10 (ct @I7 cz) ?_
   exact ge
 ·rw [Vf,if_pos fun x hx=>hno x (by rwa [List.take_of_length_le (by omega)])]
  refine wk 7 cz ?_
  intro h1
  exact ge
def Uw (N:Int) (rows:List (List Int)) (q:Nat):Int :=
 if N<0∨256<N∨256<rows.length then 3 else if ∃ r∈rows,(r.length:Int)≠N then 3 else if ∀ r∈rows,∀ x∈r,0≤x∧x<(q:Int) then 0 else 2
theorem Lv {b p m q ng cg ne ce nl cl n c:Nat}{pg pe pl ps:Option Addr}{N:Int}{rows:List (List Int)}(hq:q≤256) (hN:Bv .i64 N):Bt Tryz.prog 172 [.pointer (some ⟨b,0,none⟩),.agg #[.int .i64 N,.slice ps n c]] [] [Jc b p m q pg ng cg pe ne ce pl nl cl,Ap (Aj Ai) ps n c rows] (Rv (.int .i64 (Uw N rows q)) []):=by
 refine Ab (F:=Zx) rfl fun C=>?_
 refine Ba 1 rfl fun hn hb _=>?_
 subst hn
 have hb':rows.length*24≤140737488355328:=hb
 obtain ⟨N0,N1⟩:=hN
 by_cases h1:N<0∨256<N∨256<rows.length
 ·rw [Uw,if_pos h1]
  by_cases a1:N<0
  ·refine wk 15 cz ?_
   intro b1 h2
   exact ge
  ·by_cases a2:256<N
   ·refine wk 21 cz ?_
    intro b1 h2 h3
    exact ge
   ·have a3:256<rows.length:=by omega
    refine wk 24 cz ?_
    intro b1 h2 h3 h4
    exact ge
 ·rw [Uw,if_neg h1]
  have a1:¬ N<0:=by omega
  have a2:¬ 256<N:=by omega
  have a3:¬ 256<rows.length:=by omega
  have tk:∀ {P:List Int→Prop}{i:Nat}{r:List Int},rows[i]?=some r→(∀ x∈rows.take i,P x)→P r→∀ x∈rows.take (i+1),P x:=fun hr h hp x hx=>by
   rw [List.take_add_one,hr] at hx
   rcases List.mem_append.1 hx with hx|hx
   ·exact h x hx
   ·rw [Option.toList_some,List.mem_singleton] at hx
    rw [hx];exact hp
  refine wk 27 cz ?_
  intro b1 h2 h3 h4
  refine Ah (X:=Nat) [0,3,25,26] [0,1] (fun i=>[(27,.int .i64 (i:Int))]) (fun _=>[(some b1,62,[.int .i64 N,.slice ps rows.length c])]) (fun _=>[]) (fun i=>i≤rows.length∧∀ r∈rows.take i,(r.length:Int)=N) (fun i=>rows.length-i) 0 [] rfl rfl rfl ⟨Nat.zero_le _,fun x h=>by simp at h⟩ (by repeat (first|exact Fr.sub_nil _|refine Fr.sub_cons rfl ?_)) rfl rfl ?_
  rintro i ⟨hi,hno⟩ ih
  simp only [List.cons_append,List.nil_append] at hi ih ⊢
  by_cases h9:i<rows.length
  ·obtain ⟨r,at_r⟩:∃ r,rows[i]?=some r:=⟨_,List.getElem?_eq_getElem h9⟩
   by_cases h8:(r.length:Int)=N
   ·refine wk 19 cz ?_
    intro h5 b2 o1 hz1 pa1 ca1 h6
    exact tw (ih (i+1) (by omega) ⟨by omega,tk at_r hno h8⟩)
   ·rw [if_pos ⟨r,List.mem_of_getElem? at_r,h8⟩]
    refine wk 19 cz ?_
    intro h5 b2 o1 hz1 pa1 ca1 h6
    exact ge
  ·have hlen:∀ r∈rows,(r.length:Int)=N:=fun r hr=>hno r (by rwa [List.take_of_length_le (by omega)])
   rw [if_neg fun ⟨r,hr,h⟩=>h (hlen r hr)]
   clear ih hno hi
   refine wk 10 cz ?_
   intro h5
   refine Ah (X:=Nat) [0,38,39] [0,1] (fun i=>[(40,.int .i64 (i:Int))]) (fun _=>[(some b1,62,[.int .i64 N,.slice ps rows.length c])]) (fun _=>[]) (fun i=>i≤rows.length∧∀ r∈rows.take i,∀ x∈r,0≤x∧x<(q:Int)) (fun i=>rows.length-i) 0 [] rfl rfl rfl ⟨Nat.zero_le _,fun x h=>by simp at h⟩ (by repeat (first|exact Fr.sub_nil _|refine Fr.sub_cons rfl ?_)) rfl rfl ?_
   rintro i ⟨hi,hno⟩ ih
   simp only [List.cons_append,List.nil_append] at hi ih ⊢
   by_cases h9:i<rows.length
   ·obtain ⟨r,at_r⟩:∃ r,rows[i]?=some r:=⟨_,List.getElem?_eq_getElem h9⟩
    by_cases h8:∀ x∈r,0≤x∧x<(q:Int)
    ·have he:Vf r q=0:=by rw [Vf,if_pos h8]
     refine wk 19 (ct @Ol cz) ?_
     intro h6 b2 o1 hz1 pa1 ca1 h7
     exact tw (ih (i+1) (by omega) ⟨by omega,tk at_r hno h8⟩)
    ·have he:Vf r q=2:=by rw [Vf,if_neg h8]
     rw [if_neg fun h=>h8 (h r (List.mem_of_getElem? at_r)),← he]
     refine wk 19 (ct @Ol cz) ?_
     intro h6 b2 o1 hz1 pa1 ca1 h7
     exact ge
   ·rw [if_pos fun r hr=>hno r (by rwa [List.take_of_length_le (by omega)])]
    refine wk 7 cz ?_
    intro h6
    exact ge
theorem Za {T D:List Int}{i n:Nat}{v:Int}(hT:T.length=n) (hD:D.length=n) (hi:i<n) (hv:T[i]?=some v):(T.take i++D.drop i).set i v=T.take (i+1)++D.drop (i+1):=by
 have hl:(T.take i).length=i:=by rw [List.length_take];omega
 rw [List.set_append_right _ _ (by omega),hl,Nat.sub_self,List.drop_eq_getElem_cons (by omega),List.set_cons_zero,List.take_add_one,hv,List.append_assoc]
 rfl
theorem ACq {T D:List Int}{i n:Nat}(hT:T.length=n) (hD:D.length=n) (hi:i<n):(T.take i++D.drop i)[i]?=D[i]?:=by
 have hl:(T.take i).length=i:=by rw [List.length_take];omega
 rw [List.getElem?_append_right (by omega),hl,Nat.sub_self,List.getElem?_drop,Nat.add_zero]
theorem ACG {b p m n ng cg ce cl:Nat}{pg pe pl:Option Addr}{r r2:Row}{c:Int}{u v md:List Int}(K:Fok p m md) (c0:0≤c) (c1:c<((p ^ m:Nat):Int)) (hu:Wd (p ^ m) n u) (hv:Wd (p ^ m) n v) (hn:n≤1000000) :
  Bt Tryz.prog 179 [.pointer (some ⟨b,0,none⟩),.slice (ad r.bo) n r.cap,.int .i64 c,.slice (ad r2.bo) n r2.cap] [(r.bo,3,r.cs),(r2.bo,3,r2.cs)] [Jc b p m (p ^ m) pg ng cg pe (p ^ m-1) ce pl (p ^ m) cl,Ap Ai pe (p ^ m-1) ce (Jh p m md),Ap Ai pl (p ^ m) cl (Jk p m md),A7 Ai r n u,A7 Ai r2 n v]
   (fun w Φ β=>∃ cs',w = .tuple #[]∧Φ=[A7 Ai ⟨r.bo,r.cap,cs'⟩ n (Eo (Ad (fA p m)) (Ad (fM p (Ax m md))) c v u),A7 Ai r2 n v]∧β=[(r.bo,3,cs'),(r2.bo,3,r2.cs)]):=by
 refine Ab (F:=Vj) rfl fun C=>?_
 have FF:=K.fi
 have A6:=fun {b ng cg ce cl:Nat}{pg pe pl:Option Addr}{x y:Int}=>C3 (b:=b) (ng:=ng) (cg:=cg) (ce:=ce) (cl:=cl) (pg:=pg) (pe:=pe) (pl:=pl) (x:=x) (y:=y) K
 have Bq:=fun {b ng cg ne ce nl cl:Nat}{pg pe pl:Option Addr}{x y:Int}=>Dc (b:=b) (ng:=ng) (cg:=cg) (ne:=ne) (ce:=ce) (nl:=nl) (cl:=cl) (pg:=pg) (pe:=pe) (pl:=pl) (x:=x) (y:=y) K.p2 K.m1 K.q
 have hq:=K.q
 have hax:=FF.axw c0 c1 hv hu
 generalize Ad (fM p (Ax m md))=M at *
 generalize Ad (fA p m)=A0 at *
 generalize Jh p m md=ex at *
 generalize Jk p m md=lg at *
 generalize p ^ m=q at *
 obtain ⟨bo,cap,cs⟩:=r
 dsimp only
 have hul:=hu.1
 have hvl:=hv.1
 have hal:=hax.1
 rcases Nat.eq_zero_or_pos n with hn0|hn0
 ·subst hn0
  obtain rfl:=List.length_eq_zero_iff.1 hul
  obtain rfl:=List.length_eq_zero_iff.1 hvl
  refine wk 5 cz ?_
  refine Ah (X:=Unit) [0,1,2,10,11] [0,1,2,3,4] (fun _=>[(12,.int .i64 0)]) (fun _=>[(bo,3,cs),(r2.bo,3,r2.cs)]) (fun _=>[]) (fun _=>True) (fun _=>0) () [] rfl rfl rfl trivial (by repeat (first|exact Fr.sub_nil _|refine Fr.sub_cons rfl ?_)) rfl rfl ?_
  rintro ⟨⟩-ih
  simp only [List.cons_append,List.nil_append] at ih ⊢
  refine wk 5 cz ?_
  intro h1
  refine Cm [3,4] rfl rfl ⟨_,rfl,rfl,rfl⟩
 refine Dt 3 rfl hn0 fun b9 cap9 cs9 hr=>?_
 obtain ⟨rfl,rfl,rfl⟩:=Row.mk.inj hr
 refine wk 5 cz ?_
 refine Ah (X:=Nat×List Value) [0,1,2,10,11] [0,1,2,3,4] (fun x=>[(12,.int .i64 (x.1:Int))]) (fun x=>[(some b9,3,x.2),(r2.bo,3,r2.cs)])
  (fun x=>[A7 Ai ⟨some b9,cap,x.2⟩ n ((Eo A0 M c v u).take x.1++u.drop x.1)]) (fun x=>x.1≤n) (fun x=>n-x.1) (0,cs) [3] rfl rfl rfl (Nat.zero_le _) (by repeat (first|exact Fr.sub_nil _|refine Fr.sub_cons rfl ?_)) rfl rfl ?_
 rintro ⟨k,cs⟩ hk ih
 simp only [List.cons_append,List.nil_append] at hk ih ⊢
 by_cases hkl:k<n
 ·obtain ⟨x,at_x⟩:∃ x,v[k]?=some x:=⟨_,List.getElem?_eq_getElem (by omega)⟩
  obtain ⟨y,hy⟩:∃ y,u[k]?=some y:=⟨_,List.getElem?_eq_getElem (by omega)⟩
  obtain ⟨x0,x1⟩:=hv.2 x (List.mem_of_getElem? at_x)
  obtain ⟨y0,y1⟩:=hu.2 y (List.mem_of_getElem? hy)
  have hT:(Eo A0 M c v u)[k]?=some (A0 y (M c x)):=by rw [Eo,List.getElem?_zipWith,hy,at_x]
  have hL:=(ACq hal hul hkl).trans hy
  have hset:=Za hal hul hkl hT
  have hLl:((Eo A0 M c v u).take k++u.drop k).length=n:=by rw [List.length_append,List.length_take,List.length_drop];omega
  have ih':=fun cs=>ih (k+1,cs) (by dsimp only;omega) (by dsimp only;omega)
  dsimp only at ih'
  rw [← hset] at ih'
  obtain ⟨m0,m1⟩:=FF.ml c x c0 c1 x0 x1
  generalize (Eo A0 M c v u).take k++u.drop k=L at *
  by_cases h0:x=0
  ·have e0:L.set k (A0 y (M c x))=L:=by
    have:A0 y (M c x)=y:=by rw [h0,FF.m0 c0 c1,FF.a0 y y0 y1]
    rw [this]
    obtain ⟨h1,h2⟩:=List.getElem?_eq_some_iff.1 hL
    rw [← h2,List.set_getElem_self]
   rw [e0] at ih'
   refine wk 6 cz ?_
   intro h1
   refine Dt 5 rfl (by omega) fun b1 cap1 cs1 hr1=>?_
   subst hr1
   dsimp only
   refine wk 10 cz ?_
   intro hr1 h2
   exact tw (ih' cs)
  ·obtain ⟨a0,a1⟩:=FF.al y (M c x) y0 y1 m0 m1
   refine wk 6 cz ?_
   intro h1
   refine Dt 5 rfl (by omega) fun b1 cap1 cs1 hr1=>?_
   subst hr1
   dsimp only
   refine wk 9 (ct @A6 (ct @Bq cz)) ?_
   intro hr1 h2
   refine Aa rfl (G7 (vs:=[Value.int IntKind.i64 (A0 y (M c x))]) (z:=(A0 y (M c x):Int)) 0 0 (k) rfl rfl rfl rfl rfl Ci (Nat.mul_one _).symm (by omega) (fun w A hG=>(Dq (by first|(simp only [Bv];omega)|(simp [Bv];done)))) fun cs2=>?_)
   refine wk 3 cz ?_
   exact tw (ih' cs2)
 ·obtain rfl:n=k:=by omega
  rw [List.take_of_length_le (by omega),List.drop_of_length_le (by omega),List.append_nil]
  refine wk 5 cz ?_
  intro h1
  refine Cm [0,5] rfl rfl ⟨_,rfl,rfl,rfl⟩
abbrev MxI (m:Nat) (ls:Nat→List Int):Value→List Fact→List A4→Prop:=fun v Φ β=>∃ (r:Row) (hd:Nat→Hd) (cs:Nat→List Value),v = .slice (ad r.bo) m r.cap∧Φ=[A7 Sl r m (Iy hd m),Ei Ai hd cs ls m []]∧β=(r.bo,22,r.cs)::C8 3 hd cs m []
theorem R6 {ps:Option Addr}{m c:Nat}{rows:List (List Int)}(hm:m≤1000000):Bt Tryz.prog 173 [.slice ps m c] [] [Ap (Aj Ai) ps m c rows] (MxI m (Ar rows)):=by
 refine Ab (F:=Z0) rfl fun C=>?_
 refine Ba 0 rfl fun hn hb _=>?_
 subst hn
 have hb':rows.length*24≤140737488355328:=hb
 refine wk 5 cz ?_
 refine Aa rfl (ACx (rows.length) _ rfl rfl D5 I6 rfl rfl M7 (by omega) (by omega) (by omega) fun b1=>?_)
 refine wk 6 cz ?_
 refine AH9 0 rfl (by omega) fun csA=>?_
 refine Zv Ai 3 0 ?_
 simp only [setB,List.cons_append,List.nil_append]
 refine Bs (Ar rows) 0 rfl (fun g hg=>absurd hg (Nat.not_lt_zero g)) ?_
 skip
 refine Ah (X:=Nat×List Value×(Nat→Hd)×(Nat→List Value)) [2,3,9,10] [0,1,2,3] (fun x=>[(11,.int .i64 (x.1:Int))])
  (fun x=>(some b1,22,x.2.1)::C8 3 x.2.2.1 x.2.2.2 x.1 [])
  (fun x=>[A7 Sl ⟨some b1,rows.length,x.2.1⟩ rows.length (Iy x.2.2.1 rows.length),Ei Ai x.2.2.1 x.2.2.2 (Ar rows) x.1 []])
  (fun x=>x.1≤rows.length) (fun x=>rows.length-x.1) (0,csA,fun _=>(none,0,0),fun _=>[]) [2,0] rfl rfl rfl (Nat.zero_le _) (by repeat (first|exact Fr.sub_nil _|refine Fr.sub_cons rfl ?_)) rfl rfl ?_
 rintro ⟨k,hc,hd,cs⟩ hk ih
 simp only [List.cons_append,List.nil_append] at hk ih ⊢
 by_cases hkl:k<rows.length
 ·obtain ⟨u,at_u⟩:∃ u,rows[k]?=some u:=⟨_,List.getElem?_eq_getElem hkl⟩
  refine wk 13 (ct @D6 cz) ?_
  intro h1 b2 o1 hz1 pa1 ca1 r1
  refine Aa rfl (G7 (vs:=[Value.slice (ad r1.bo) u.length r1.cap]) (z:=(r1.bo,u.length,r1.cap)) 1 3 (k) rfl rfl rfl rfl rfl E7 (Nat.mul_one _).symm (by omega) (fun w A hG=>(T2 _ _ _)) fun cs1=>?_)
  refine wk 3 cz ?_
  try simp only [setB,List.set_cons_succ,List.set_cons_zero]
  rw [K0]
  refine ADR 1 0 1 5 rfl rfl rfl rfl ?_
  simp only [List.eraseIdx_cons_zero,List.eraseIdx_cons_succ,List.take_succ_cons,List.take_zero,List.cons_append,List.nil_append]
  refine Bs (Ar rows) 0 rfl (fun g hg=>by
   by_cases e:g=k
   ·subst e
    rw [Bo,Ar,List.getD_eq_getElem?_getD,at_u];rfl
   ·rw [C0 e]) ?_
  exact tw (ih (k+1,cs1,Ek hd k (r1.bo,u.length,r1.cap),Ek cs k r1.cs) (by dsimp only;omega) (by dsimp only;omega))
 ·obtain rfl:rows.length=k:=by omega
  refine wk 7 cz ?_
  intro h1
  refine D4 1 [0] [0,1] rfl (.tmp rfl .nil) rfl rfl rfl ⟨⟨some b1,rows.length,hc⟩,hd,cs,rfl,rfl,rfl⟩
section
variable {P:Program}{F:Fun P}{C:Cx}{S:List It}{R:Value→World→Prop}{β:List A4}{Γ:List Fact}{it:List (TypeId×IntKind)}{L:List Oper}{p:List Nat}{σ:Fr}{i:Nat}{op:Op}{ty:TypeId}{d:Option Tmp}
def ADx (P:Program) (C:Cx) (nt:Nat) (L:List Oper) (σm σ:Fr) (β:List A4) (Γ:List Fact):List Nat→Prop
 | []=>True
 | j::A=>(∃ o d u,A5 L j=some o∧o.guard=none∧o.dst=some d∧Nat.blt d nt=true∧Fr.get d σ=some u∧Fb P C o.op o.type σm β Γ fun v β' Γ'=>v=u∧β'=β∧Γ'=Γ)∧ADx P C nt L σm σ β Γ A
theorem AFW {nt:Nat}{σm σ:Fr}:∀ {A:List Nat},ADx P C nt L σm σ β Γ A→∀ j∈A,∃ o d u,A5 L j=some o∧o.guard=none∧o.dst=some d∧Nat.blt d nt=true∧Fr.get d σ=some u∧Fb P C o.op o.type σm β Γ fun v β' Γ'=>v=u∧β'=β∧Γ'=Γ:=by
 intro A
 induction A with
 | nil=>intro _ j hj;cases hj
 | cons x A ih =>
  intro h j hj
  rcases List.mem_cons.1 hj with rfl|hj
  ·exact h.1
  ·exact ih h.2 j hj
theorem ABo {A pend l:List Nat}{j:Nat}{a:Act}{w:World}{K:List Item}(hL:ADx P C F.fn.ntmps (Ak (sub p F.B)) (Qp A (Ak (sub p F.B)) σ) σ β Γ A) (hpA:∀ j∈pend,j∈A) (hj:j∈pend)
  (hsz:a.tmps.size=F.fn.ntmps) (hdf:a.defers=F.dfs) (hfr:∀ t v,(∀ j∈pend,Cd (Ak (sub p F.B)) j≠some t)→Fr.get t σ=some v→a.tmps[t]?=some v) (hO:Own C w β) (hG:∀ f∈Γ,f.holds w (ok C w β))
  (h:∀ (a':Act) (w':World),a'.tmps.size=F.fn.ntmps→a'.defers=F.dfs→(∀ t v,(∀ j'∈pend.erase j,Cd (Ak (sub p F.B)) j'≠some t)→Fr.get t σ=some v→a'.tmps[t]?=some v)→Own C w' β→(∀ f∈Γ,f.holds w' (ok C w' β))→At F (.inRegion (Ak (sub p F.B)).toArray l::K) a' w' R) :
  At F (.inRegion (Ak (sub p F.B)).toArray (j::l)::K) a w R:=by
 obtain ⟨o,d,u,h1,h2,h3,h4,h5,h6⟩:=AFW hL j (hpA j hj)
 have hfit:Fits F.fn.ntmps F.dfs (Qp A (Ak (sub p F.B)) σ) a:=⟨hsz,hdf,fun t v hv=>by
  obtain ⟨g1,g2⟩:=Ta hv
  exact hfr t v (fun j hj=>g1 j (hpA j hj)) g2⟩
 have ho:(Ak (sub p F.B)).toArray[j]?=some o:=by
  rw [B8] at h1
  simpa using h1
 have hdlt:d<a.tmps.size:=by rw [hsz];exact Nat.le_of_ble_eq_true h4
 refine Kz ho (by simp [Region.wanted,h2]) (post:=fun v w'=>∃ β' Γ',(v=u∧β'=β∧Γ'=Γ)∧Own C w' β'∧∀ f∈Γ',f.holds w' (ok C w' β')) (by rw [Ge];exact h6 w hO hG a.eval fun x v hv=>hfit.eval hv) ?_
 rintro v w' ⟨_,_,⟨rfl,rfl,rfl⟩,hO',hG'⟩
 rw [h3]
 refine h _ w' (by simp [Act.put,hsz]) (by simp [Act.put,hdf]) (fun t x hno hx=>?_) hO' hG'
 have hdj:Cd (Ak (sub p F.B)) j=some d:=by simp [Cd,h1,h3]
 by_cases e:d=t
 ·subst e
  rw [h5] at hx
  rw [← Option.some.inj hx]
  simp [Act.put,hdlt]
 ·simp only [Act.put]
  rw [Array.getElem?_setIfInBounds_ne e]
  refine hfr t x (fun j' hj'=>?_) hx
  by_cases ej:j'=j
  ·rw [ej,hdj];exact fun h=>e (Option.some.inj h)
  ·exact hno j' ((List.mem_erase_of_ne ej).2 hj')
theorem ADz {A:List Nat}(hL:ADx P C F.fn.ntmps (Ak (sub p F.B)) (Qp A (Ak (sub p F.B)) σ) σ β Γ A) (h:J F C (.o p i::S) σ β Γ R):WIN F C p A 0 i S σ β Γ R:=by
 intro pend sched hpA hnd hI w hO hG
 have key:∀ n (pend sched:List Nat),pend.length=n→(∀ j∈pend,j∈A∧j<i)→Inter (Ak (sub p F.B)) A (i+0) pend i sched→∀ w,Own C w β→(∀ f∈Γ,f.holds w (ok C w β))→∀ a:Act,a.tmps.size=F.fn.ntmps→a.defers=F.dfs →
   (∀ t v,(∀ j∈pend,Cd (Ak (sub p F.B)) j≠some t)→Fr.get t σ=some v→a.tmps[t]?=some v)→At F (.inRegion (Ak (sub p F.B)).toArray sched::S.map (It.item F.B)) a w R:=by
  intro n
  induction n with
  | zero =>
   intro pend sched hl hpA hI w hO hG a hsz hdf hfr
   have:pend=[]:=List.eq_nil_of_length_eq_zero hl
   subst this
   cases hI with
   | done=>exact h w hO hG a ⟨hsz,hdf,fun t v hv=>hfr t v (fun j hj=>by cases hj) hv⟩
   | pend hj _ _=>cases hj
   | tail _ h2 _ _=>omega
   | issue _ h2 _ _=>omega
  | succ n ih =>
   intro pend sched hl hpA hI w hO hG a hsz hdf hfr
   cases hI with
   | done=>simp at hl
   | pend hj _ hI' =>
    exact ABo hL (fun j hj=>(hpA j hj).1) hj hsz hdf hfr hO hG fun a' w' h1 h2 h3 hO hG=>ih _ _ (by rw [List.length_erase_of_mem hj];omega) (fun j' hj'=>hpA j' (List.mem_of_mem_erase hj')) hI' w' hO hG a' h1 h2 h3
   | tail _ h2 _ _=>omega
   | issue _ h2 _ _=>omega
 exact fun a=>key _ pend sched rfl hpA hI w hO hG a
theorem ABa {A:List Nat}{m:Nat}(ho:AAa F p i=some (d,op,ty)) (hw:AJV (Ak (sub p F.B)) A d=true) (hL:ADx P C F.fn.ntmps (Ak (sub p F.B)) (Qp A (Ak (sub p F.B)) σ) σ β Γ A)
  (hx:Fb P C op ty (Qp A (Ak (sub p F.B)) σ) β Γ fun v β' Γ'=>WIN F C p A m (i+1) S (putF d v σ) β' Γ' R) (hni:Bc i A=false:=by rfl):WIN F C p A (m+1) i S σ β Γ R:=by
 have hni:i∉A:=fun h=>by rw [C6.2 h] at hni;cases hni
 intro pend sched hpA hnd hI w hO hG
 obtain ⟨pos,after,hn,hd⟩:=W2 ho
 have hoarr:(Ak (sub p F.B)).toArray[i]?=some ⟨d,op,ty,pos,after,none⟩:=by
  rw [B8] at hn
  simpa using hn
 have hil:i<(Ak (sub p F.B)).length:=by
  rw [B8] at hn
  exact (List.getElem?_eq_some_iff.1 hn).1
 have hwn:∀ t,d=some t→∀ j∈A,Cd (Ak (sub p F.B)) j≠some t:=fun t ht j hj e=>by
  subst ht
  have:=List.all_eq_true.1 hw j hj
  rw [e] at this
  simp at this
 -- the operation itself
 have exec:∀ (pend l:List Nat) (a:Act),(∀ j∈pend,j∈A∧j<i)→pend.Nodup→Inter (Ak (sub p F.B)) A (i+1+m) pend (i+1) l→∀ w,Own C w β→(∀ f∈Γ,f.holds w (ok C w β))→a.tmps.size=F.fn.ntmps→a.defers=F.dfs →
   (∀ t v,(∀ j∈pend,Cd (Ak (sub p F.B)) j≠some t)→Fr.get t σ=some v→a.tmps[t]?=some v)→At F (.inRegion (Ak (sub p F.B)).toArray (i::l)::S.map (It.item F.B)) a w R:=by
  intro pend l a hpA hnd hI w hO hG hsz hdf hfr
  have hfit:Fits F.fn.ntmps F.dfs (Qp A (Ak (sub p F.B)) σ) a:=⟨hsz,hdf,fun t v hv=>by
   obtain ⟨g1,g2⟩:=Ta hv
   exact hfr t v (fun j hj=>g1 j (hpA j hj).1) g2⟩
  refine Kz hoarr (by simp [Region.wanted]) (post:=fun v w'=>∃ β' Γ',WIN F C p A m (i+1) S (putF d v σ) β' Γ' R∧Own C w' β'∧∀ f∈Γ',f.holds w' (ok C w' β')) ?_ ?_
  ·rw [Ge]
   exact hx w hO hG a.eval fun x v hv=>hfit.eval hv
  ·rintro v w' ⟨β',Γ',hW,hO',hG'⟩
   refine hW pend l (fun j hj=>⟨(hpA j hj).1,by have:=(hpA j hj).2;omega⟩) hnd hI w' hO' hG' _ (by cases hd':d <;> simp [Act.put,hsz]) (by cases hd':d <;> simp [Act.put,hdf]) fun t x hno hx=>?_
   cases hd':d with
   | none =>
    rw [hd'] at hx
    exact hfr t x hno hx
   | some dd =>
    rw [hd'] at hx
    simp only [putF,Fr.get] at hx
    by_cases e:dd=t
    ·subst e
     rw [Nat.beq_refl] at hx
     have hlt:dd<a.tmps.size:=by rw [hsz];exact hd dd hd'
     rw [← Option.some.inj hx]
     simp [Act.put,hlt]
    ·have hb:Nat.beq dd t=false:=by
      cases hb:Nat.beq dd t with
      | true=>exact absurd (Nat.eq_of_beq_eq_true hb) e
      | false=>rfl
     rw [hb] at hx
     simp only [Act.put]
     rw [Array.getElem?_setIfInBounds_ne e]
     exact hfr t x hno hx
 have key:∀ n (pend sched:List Nat),pend.length=n→(∀ j∈pend,j∈A∧j<i)→pend.Nodup→Inter (Ak (sub p F.B)) A (i+(m+1)) pend i sched→∀ w,Own C w β→(∀ f∈Γ,f.holds w (ok C w β))→∀ a:Act,a.tmps.size=F.fn.ntmps→a.defers=F.dfs →
   (∀ t v,(∀ j∈pend,Cd (Ak (sub p F.B)) j≠some t)→Fr.get t σ=some v→a.tmps[t]?=some v)→At F (.inRegion (Ak (sub p F.B)).toArray sched::S.map (It.item F.B)) a w R:=by
  have ee:i+(m+1)=i+1+m:=by omega
  intro n
  induction n with
  | zero =>
   intro pend sched hl hpA hnd hI w hO hG a hsz hdf hfr
   have:pend=[]:=List.eq_nil_of_length_eq_zero hl
   subst this
   have er:List.range' i ((Ak (sub p F.B)).length-i)=i::List.range' (i+1) ((Ak (sub p F.B)).length-(i+1)):=by
    have e:(Ak (sub p F.B)).length-i=((Ak (sub p F.B)).length-(i+1))+1:=by omega
    rw [e,List.range'_succ]
   cases hI with
   | done=>rw [er];exact exec [] _ a hpA hnd .done w hO hG hsz hdf hfr
   | pend hj _ _=>cases hj
   | tail _ _ _ hI'=>rw [ee] at hI';exact exec [] _ a hpA hnd hI' w hO hG hsz hdf hfr
   | issue _ _ h _=>exact absurd h hni
  | succ n ih =>
   intro pend sched hl hpA hnd hI w hO hG a hsz hdf hfr
   cases hI with
   | done=>simp at hl
   | pend hj _ hI' =>
    exact ABo hL (fun j hj=>(hpA j hj).1) hj hsz hdf hfr hO hG fun a' w' h1 h2 h3 hO hG=>ih _ _ (by rw [List.length_erase_of_mem hj];omega) (fun j' hj'=>hpA j' (List.mem_of_mem_erase hj')) (hnd.erase _) hI' w' hO hG a' h1 h2 h3
   | tail _ _ _ hI'=>rw [ee] at hI';exact exec pend _ a hpA hnd hI' w hO hG hsz hdf hfr
   | issue _ _ h _=>exact absurd h hni
 exact fun a=>key _ pend sched rfl hpA hnd hI w hO hG a
end
theorem Ry {rh:Row}{m t k bk bt:Nat}{hd:Nat→Hd}(ht:t<m) (hk:k<m) (hm:m≤1000000) :
  Bt Tryz.prog 203 [.slice (ad rh.bo) m rh.cap,.pointer (some ⟨bk,0,none⟩),.pointer (some ⟨bt,0,none⟩)] [(some bk,3,[.int .i64 k]),(some bt,3,[.int .i64 t]),(rh.bo,22,rh.cs)] [A7 Sl rh m (Iy hd m)]
   (fun v Φ β=>∃ cs',v = .tuple #[]∧Φ=[A7 Sl ⟨rh.bo,rh.cap,cs'⟩ m (Iy (Ek (Ek hd t (hd k)) k (hd t)) m)]∧β=[(some bk,3,[.int .i64 k]),(some bt,3,[.int .i64 t]),(rh.bo,22,cs')]):=by
 refine Ab (F:=Rk) rfl fun C=>?_
 refine Dt 0 rfl (by omega) fun b cap cs hr=>?_
 subst hr
 have z1:(Iy hd m)[k]?=some ((hd k).1,(hd k).2.1,(hd k).2.2):=Ld hk
 have z2:(Iy hd m)[t]?=some ((hd t).1,(hd t).2.1,(hd t).2.2):=Ld ht
 (apply Fz (x0:=none) it mx 0 13 [2,3] 1;(· rfl);(· rfl);(· rfl);(· decide))
 simp only [List.drop_zero]
 (apply A3 1;(· rfl);(· simp))
 (apply Ac;(· rfl);(· exact Ca 1 rfl rfl Ci rfl))
 (apply A3 1;(· rfl);(· simp))
 (apply Ac;(· rfl);(· exact Ca 0 rfl rfl Ci rfl))
 (apply A3 1;(· rfl);(· simp))
 (apply Ac;(· rfl);(· exact Ca 0 rfl rfl Ci rfl))
 (apply Ac;(· rfl);(· exact Cg fun _=>Be (k) (k) rfl rfl D5 rfl (by omega) (Nat.mul_one _) An))
 (apply Ac;(· rfl);(· exact Fy 2 0 (k) rfl rfl rfl E7 rfl (by assumption)))
 dsimp only
 (apply A3 1;(· rfl);(· simp))
 (apply Ac;(· rfl);(· exact Ca 1 rfl rfl Ci rfl))
 (apply Ac;(· rfl);(· exact Cg fun _=>Be (t) (t) rfl rfl D5 rfl (by omega) (Nat.mul_one _) An))
 (apply Ac;(· rfl);(· exact Fy 2 0 (t) rfl rfl rfl E7 rfl (by assumption)))
 dsimp only
 (apply Ac;(· rfl);(· exact Cg fun _=>Be (t) (t) rfl rfl D5 rfl (by omega) (Nat.mul_one _) An)) --ok
 refine Fo rfl ?_
 rotate_left
 rfl
 simp only [List.map_nil,List.nil_append]
 refine ABa rfl rfl ⟨⟨_,_,_,rfl,rfl,rfl,rfl,rfl,Kc it rfl (by trivial) ⟨rfl,rfl,rfl⟩⟩,⟨⟨_,_,_,rfl,rfl,rfl,rfl,rfl,Bm 0 rfl rfl Ci rfl ⟨rfl,rfl,rfl⟩⟩,trivial⟩⟩ (G7 (vs:=[Value.slice (ad (hd k).fst) (hd k).snd.fst (hd k).snd.snd]) (z:=((hd k).fst,(hd k).snd.fst,(hd k).snd.snd)) 2 0 (t) rfl rfl rfl rfl rfl E7 (Nat.mul_one _).symm (by omega) (fun w A hG=>(T2 _ _ _)) fun cs1=>?_)
 refine ADz ⟨⟨_,_,_,rfl,rfl,rfl,rfl,rfl,Kc it rfl (by trivial) ⟨rfl,rfl,rfl⟩⟩,⟨⟨_,_,_,rfl,rfl,rfl,rfl,rfl,Bm 0 rfl rfl Ci rfl ⟨rfl,rfl,rfl⟩⟩,trivial⟩⟩ ?_
 simp only [setB,List.set_cons_succ,List.set_cons_zero]
 rw [K0]
 refine wk 1 cz ?_
 refine Aa rfl (G7 (vs:=[Value.slice (ad (hd t).fst) (hd t).snd.fst (hd t).snd.snd]) (z:=((hd t).fst,(hd t).snd.fst,(hd t).snd.snd)) 2 0 (k) rfl rfl rfl rfl rfl E7 (Nat.mul_one _).symm (by omega) (fun w A hG=>(T2 _ _ _)) fun cs2=>?_)
 refine wk 1 cz ?_
 simp only [setB,List.set_cons_succ,List.set_cons_zero]
 rw [K0]
 refine Cm [0] rfl rfl ⟨cs2,rfl,rfl,rfl⟩
open Go Go.Fw
set_option maxRecDepth 100000
set_option linter.unusedVariables false
set_option linter.unusedSimpArgs false
set_option maxHeartbeats 0
theorem Rh {b p m ng cg ce cl:Nat}{pg pe pl:Option Addr}{md:List Int}{rh:Row}{n N i t bg bi bf bt:Nat}{c:Int}{hd:Nat→Hd}{cs:Nat→List Value}{ls:Nat→List Int}(K:Fok p m md) (c0:0≤c) (c1:c<((p ^ m:Nat):Int)) (hi:i<n) (ht:t<n) (hit:i≠t) (hn:n≤1000000) (hN:N≤1000000) (hls:∀ k,k<n→Wd (p ^ m) N (ls k)) :
  Bt Tryz.prog 206 [.slice (ad rh.bo) n rh.cap,.pointer (some ⟨bg,0,none⟩),.pointer (some ⟨bi,0,none⟩),.pointer (some ⟨bf,0,none⟩),.pointer (some ⟨bt,0,none⟩)]
   ((some bg,76,[.pointer (some ⟨b,0,none⟩)])::(some bi,3,[.int .i64 i])::(some bf,3,[.int .i64 c])::(some bt,3,[.int .i64 t])::(rh.bo,22,rh.cs)::C8 3 hd cs n [])
   [Jc b p m (p ^ m) pg ng cg pe (p ^ m-1) ce pl (p ^ m) cl,Ap Ai pe (p ^ m-1) ce (Jh p m md),Ap Ai pl (p ^ m) cl (Jk p m md),A7 Sl rh n (Iy hd n),Ei Ai hd cs ls n []]
   (fun v Φ β=>∃ cs',v = .tuple #[]∧Φ=[A7 Sl rh n (Iy hd n),Ei Ai hd cs' (Ek ls i (Eo (Ad (fA p m)) (Ad (fM p (Ax m md))) ((nP p m c.toNat:Nat):Int) (ls t) (ls i))) n []]∧β=(some bg,76,[.pointer (some ⟨b,0,none⟩)])::(some bi,3,[.int .i64 i])::(some bf,3,[.int .i64 c])::(some bt,3,[.int .i64 t])::(rh.bo,22,rh.cs)::C8 3 hd cs' n []):=by
 refine Ab (F:=Rl) rfl fun C=>?_
 refine Dt 3 rfl (by omega) fun bh caph csh hr=>?_
 subst hr
 refine G3 4 rfl fun hlen=>?_
 have wi:=hls i hi
 have wt:=hls t ht
 have li:(hd i).2.1=N:=by rw [hlen i hi rfl];exact wi.1
 have lt:(hd t).2.1=N:=by rw [hlen t ht rfl];exact wt.1
 have hnl:=AC7 (show 0<p by have:=K.p2;omega) m c.toNat
 have n0:0≤((nP p m c.toNat:Nat):Int):=Int.natCast_nonneg _
 have n1:((nP p m c.toNat:Nat):Int)<((p ^ m:Nat):Int):=Int.ofNat_lt.2 hnl
 have D1:=fun {b ng cg ne ce nl cl:Nat}{pg pe pl:Option Addr}=>Gt (b:=b) (ng:=ng) (cg:=cg) (ne:=ne) (ce:=ce) (nl:=nl) (cl:=cl) (pg:=pg) (pe:=pe) (pl:=pl) K.p2 K.m1 K.q c0 c1
 have Pr:=fun {b ng cg ce cl:Nat}{pg pe pl:Option Addr}{r r2:Row}=>ACG (b:=b) (ng:=ng) (cg:=cg) (ce:=ce) (cl:=cl) (pg:=pg) (pe:=pe) (pl:=pl) (r:=r) (r2:=r2) K n0 n1 wi wt hN
 have hmb:Bc t [i]=false:=by
  rw [Ag,decide_eq_false (fun e=>hit e.symm)];rfl
 refine Dj 5 (i) 4 (N) rfl rfl (by first|assumption|omega) (by first|rfl|assumption|(simp [Ag,Bc];done)|(simp [Ag,Bc];omega)) (by first|assumption|omega) fun r1 hr1=>?_
 simp only [List.take_succ_cons,List.take_zero,List.cons_append,List.nil_append]
 refine Dj 6 (t) 1 (N) rfl rfl (by first|assumption|omega) (by first|rfl|assumption|(simp [Ag,Bc];done)|(simp [Ag,Bc];omega)) (by first|assumption|omega) fun r2 hr2=>?_
 simp only [List.take_succ_cons,List.take_zero,List.cons_append,List.nil_append]
 (apply E5 it mx 12;(· rfl);(· rfl))
 (apply Ac;(· rfl);(· exact Ca 2 rfl rfl Xs rfl))
 (apply A3 1;(· rfl);(· simp))
 (apply Ac;(· rfl);(· exact Ca 3 rfl rfl Ci rfl))
 (apply Ac;(· rfl);(· exact Cg fun _=>Be (i) (i) rfl rfl D5 rfl (by omega) (Nat.mul_one _) An))
 (apply Ac;(· rfl);(· exact Fy 6 7 (i) rfl rfl rfl E7 rfl (by assumption)))
 dsimp only
 (apply Ac;(· rfl);(· exact Ca 2 rfl rfl Xs rfl))
 (apply Ac;(· rfl);(· exact Ca 4 rfl rfl Ci rfl))
 (apply Ac;(· rfl);(· exact Cg fun _=>Aw [4] rfl (D1) rfl (by rintro _ _ _ ⟨rfl,rfl,rfl⟩;exact An)))
 (apply A3 1;(· rfl);(· simp))
 (apply Ac;(· rfl);(· exact Ca 5 rfl rfl Ci rfl))
 (apply Ac;(· rfl);(· exact Cg fun _=>Be (t) (t) rfl rfl D5 rfl (by omega) (Nat.mul_one _) An))
 (apply Ac;(· rfl);(· exact Fy 6 7 (t) rfl rfl rfl E7 rfl (by assumption)))
 dsimp only
 refine Et rfl ?_
 simp only [List.map_cons,List.map_nil,List.cons_append,List.nil_append]
 refine W1 7 [1,0,2,3,4,5,6] rfl rfl ?_
 simp only [List.drop_succ_cons,List.drop_zero,List.cons_append,List.nil_append]
 refine wk 2 (ct @Pr cz) ?_
 intro cs'1
 try simp only [List.drop_succ_cons,List.drop_zero]
 refine Bu 6 t 1 1 3 rfl rfl rfl rfl ht hmb ?_
 simp only [List.eraseIdx_cons_zero,List.eraseIdx_cons_succ,List.take_succ_cons,List.take_zero,List.cons_append,List.nil_append]
 rw [D3 (Fq hr2 ht),show Ek ls t (ls t)=ls from D3 rfl]
 refine Bu 5 i 0 1 0 rfl rfl rfl rfl hi rfl ?_
 simp only [List.eraseIdx_cons_zero,List.eraseIdx_cons_succ,List.take_succ_cons,List.take_zero,List.cons_append,List.nil_append]
 rw [show Ek hd i (r1.bo,N,r1.cap)=hd from D3 (Fq hr1 hi)]
 refine Cm [11,0] rfl rfl ⟨_,rfl,rfl,rfl⟩
theorem Ls {b p m n ng cg ce cl:Nat}{pg pe pl:Option Addr}{a:Int}{r:Row}{u md:List Int}(K:Fok p m md) (a0:0≤a) (a1:a<((p ^ m:Nat):Int)) (hu:Wd (p ^ m) n u) (hn:n≤1000000) :
  Bt Tryz.prog 129 [.pointer (some ⟨b,0,none⟩),.int .i64 a,.slice (ad r.bo) n r.cap] [(r.bo,3,r.cs)] [Jc b p m (p ^ m) pg ng cg pe (p ^ m-1) ce pl (p ^ m) cl,Ap Ai pe (p ^ m-1) ce (Jh p m md),Ap Ai pl (p ^ m) cl (Jk p m md),A7 Ai r n u]
   (fun v Φ β=>∃ r':Row,v = .slice (ad r'.bo) n r'.cap∧Φ=[A7 Ai r' n (Ct (Ad (fM p (Ax m md))) a u)]∧β=[(r'.bo,3,r'.cs)]):=by
 refine Ab (F:=M1) rfl fun C=>?_
 have hun:=hu.1
 subst hun
 have hu:=hu.2
 have A6:=fun {b ng cg ce cl:Nat}{pg pe pl:Option Addr}{x y:Int}=>C3 (b:=b) (ng:=ng) (cg:=cg) (ce:=ce) (cl:=cl) (pg:=pg) (pe:=pe) (pl:=pl) (x:=x) (y:=y) K
 have hml:=fun x (h:x∈u)=>K.fi.ml a x a0 a1 (hu x h).1 (hu x h).2
 have hq:=K.q
 generalize Ad (fM p (Ax m md))=M at *
 generalize Jh p m md=ex at *
 generalize Jk p m md=lg at *
 generalize p ^ m=q at *
 refine wk 12 cz ?_
 intro b1
 rw [show Ao .i64 (List.replicate u.length 0)=Al .i64 ((Ct M a u).take 0++List.replicate (u.length-0) 0) by simp [Ao,Al]]
 refine Ah (X:=Nat) [0,1,6,7,13,14] [0,1,2,3] (fun i=>[(15,.int .i64 (i:Int))]) (fun i=>[(some b1,3,Al .i64 ((Ct M a u).take i++List.replicate (u.length-i) 0)),(r.bo,3,r.cs)]) (fun _=>[]) (fun i=>i≤u.length) (fun i=>u.length-i) 0 [] rfl rfl rfl (Nat.zero_le _) (by repeat (first|exact Fr.sub_nil _|refine Fr.sub_cons rfl ?_)) rfl rfl ?_
 rintro i hi ih
 simp only [List.cons_append,List.nil_append] at hi ih ⊢
 by_cases h9:i<u.length
 ·obtain ⟨x,at_x⟩:∃ x,u[i]?=some x:=⟨_,List.getElem?_eq_getElem h9⟩
  have hx:=hu x (List.mem_of_getElem? at_x)
  obtain ⟨hx0,hx1⟩:=hx
  have ih':=ih (i+1) (by omega) (by omega)
  have eT:(Ct M a u)[i]?=some (M a x):=by rw [Ct,List.getElem?_map,at_x];rfl
  rw [← take_set eT h9] at ih'
  have hln:((Ct M a u).take i++List.replicate (u.length-i) 0).length=u.length:=by simp [Ct];omega
  generalize (Ct M a u).take i++List.replicate (u.length-i) 0=L at *
  refine wk 6 cz ?_
  intro h1
  refine Dt 3 rfl (by omega) fun b2 cap1 cs1 hr1=>?_
  subst hr1
  dsimp only
  refine wk 11 (ct @A6 cz) ?_
  intro hr1
  exact tw (ih')
 ·obtain rfl:i=u.length:=by omega
  rw [Nat.sub_self,List.replicate_zero,List.append_nil,List.take_of_length_le (by simp [Ct])]
  refine wk 7 cz ?_
  intro h1
  have hall:∀ z∈Ct M a u,Bv .i64 z:=fun z hz=>by
   obtain ⟨y,hy,rfl⟩:=List.mem_map.1 hz
   have:=hml y hy
   simp only [Bv];omega
  have hln:(Ct M a u).length=u.length:=by simp [Ct]
  generalize Ct M a u=L at *
  refine Bk 0 rfl hln.symm hall (by omega) ?_
  refine D4 2 [0] [0] rfl (.tmp rfl .nil) rfl rfl rfl ⟨⟨some b1,u.length,Al .i64 L⟩,rfl,rfl,rfl⟩
theorem R7 {b p m ng cg ce cl:Nat}{pg pe pl:Option Addr}{md:List Int}{rh:Row}{n N t bg bv bt:Nat}{c:Int}{hd:Nat→Hd}{cs:Nat→List Value}{ls:Nat→List Int}(K:Fok p m md) (c0:0≤c) (c1:c<((p ^ m:Nat):Int)) (ht:t<n) (hn:n≤1000000) (hN:N≤1000000) (hls:∀ k,k<n→Wd (p ^ m) N (ls k)) :
  Bt Tryz.prog 205 [.slice (ad rh.bo) n rh.cap,.pointer (some ⟨bg,0,none⟩),.pointer (some ⟨bv,0,none⟩),.pointer (some ⟨bt,0,none⟩)]
   ((some bg,76,[.pointer (some ⟨b,0,none⟩)])::(some bv,3,[.int .i64 c])::(some bt,3,[.int .i64 t])::(rh.bo,22,rh.cs)::C8 3 hd cs n [])
   [Jc b p m (p ^ m) pg ng cg pe (p ^ m-1) ce pl (p ^ m) cl,Ap Ai pe (p ^ m-1) ce (Jh p m md),Ap Ai pl (p ^ m) cl (Jk p m md),A7 Sl rh n (Iy hd n),Ei Ai hd cs ls n []]
   (fun v Φ β=>∃ ch' hd' cs',v = .tuple #[]∧Φ=[A7 Sl ⟨rh.bo,rh.cap,ch'⟩ n (Iy hd' n),Ei Ai hd' cs' (Ek ls t (Ct (Ad (fM p (Ax m md))) c (ls t))) n []]∧β=(some bg,76,[.pointer (some ⟨b,0,none⟩)])::(some bv,3,[.int .i64 c])::(some bt,3,[.int .i64 t])::(rh.bo,22,ch')::C8 3 hd' cs' n []):=by
 refine Ab (F:=Rj) rfl fun C=>?_
 refine Dt 3 rfl (by omega) fun bh caph csh hr=>?_
 subst hr
 refine G3 4 rfl fun hlen=>?_
 have wt:=hls t ht
 have lt:(hd t).2.1=N:=by rw [hlen t ht rfl];exact wt.1
 refine Dj 4 (t) 4 (N) rfl rfl (by first|assumption|omega) (by first|rfl|assumption|(simp [Ag,Bc];done)|(simp [Ag,Bc];omega)) (by first|assumption|omega) fun r1 hr1=>?_
 simp only [List.take_succ_cons,List.take_zero,List.cons_append,List.nil_append]
 (apply Fz (x0:=none) it mx 0 8 [0,1] 1;(· rfl);(· rfl);(· rfl);(· decide))
 simp only [List.drop_zero]
 (apply A3 1;(· rfl);(· simp))
 (apply Ac;(· rfl);(· exact Ca 3 rfl rfl Ci rfl))
 (apply Ac;(· rfl);(· exact Ca 1 rfl rfl Xs rfl))
 (apply Ac;(· rfl);(· exact Ca 2 rfl rfl Ci rfl))
 (apply A3 1;(· rfl);(· simp))
 (apply Ac;(· rfl);(· exact Ca 3 rfl rfl Ci rfl))
 (apply Ac;(· rfl);(· exact Cg fun _=>Be (t) (t) rfl rfl D5 rfl (by omega) (Nat.mul_one _) An))
 (apply Ac;(· rfl);(· exact Fy 4 5 (t) rfl rfl rfl E7 rfl (by assumption)))
 dsimp only --ok
 refine Fo rfl ?_
 rotate_left
 rfl
 simp only [List.map_nil,List.nil_append]
 refine ABa rfl rfl ⟨⟨_,_,_,rfl,rfl,rfl,rfl,rfl,Kc it rfl (by trivial) ⟨rfl,rfl,rfl⟩⟩,⟨⟨_,_,_,rfl,rfl,rfl,rfl,rfl,Bm 3 rfl rfl Ci rfl ⟨rfl,rfl,rfl⟩⟩,trivial⟩⟩ (Yy 1 [2,3,4,0] rfl rfl (Ls (r:=r1) K c0 c1 wt hN) rfl ?_)
 rintro _ _ _ ⟨r9,rfl,rfl,rfl⟩
 simp only [List.cons_append,List.nil_append,List.drop_succ_cons,List.drop_zero]
 refine ADz ⟨⟨_,_,_,rfl,rfl,rfl,rfl,rfl,Kc it rfl (by trivial) ⟨rfl,rfl,rfl⟩⟩,⟨⟨_,_,_,rfl,rfl,rfl,rfl,rfl,Bm 3 rfl rfl Ci rfl ⟨rfl,rfl,rfl⟩⟩,trivial⟩⟩ ?_
 refine wk 1 cz ?_
 refine Aa rfl (G7 (vs:=[Value.slice (ad r9.bo) N r9.cap]) (z:=(r9.bo,N,r9.cap)) 4 6 (t) rfl rfl rfl rfl rfl E7 (Nat.mul_one _).symm (by omega) (fun w A hG=>(T2 _ _ _)) fun cs1=>?_)
 refine wk 1 cz ?_
 simp only [setB,List.set_cons_succ,List.set_cons_zero]
 rw [K0]
 refine Bu 4 t 0 1 3 rfl rfl rfl rfl ht rfl ?_
 simp only [List.eraseIdx_cons_zero,List.eraseIdx_cons_succ,List.take_succ_cons,List.take_zero,List.cons_append,List.nil_append]
 refine Cm [1,0] rfl rfl ⟨_,_,_,rfl,rfl,rfl⟩
theorem AGs {rh:Row}{n t k bk bt br ba:Nat}{hd:Nat→Hd}(ht:t<n) (hk:k<n) (hn:n≤1000000) :
  Bt Tryz.prog 202 [.func (.func 203) #[] #[.pointer (some ⟨bk,0,none⟩),.pointer (some ⟨bt,0,none⟩)],.pointer (some ⟨br,0,none⟩),.pointer (some ⟨ba,0,none⟩)]
   [(some br,25,[.slice (ad rh.bo) n rh.cap]),(some ba,25,[.slice none 0 0]),(some bk,3,[.int .i64 k]),(some bt,3,[.int .i64 t]),(rh.bo,22,rh.cs)] [A7 Sl rh n (Iy hd n)]
   (fun v Φ β=>∃ cs',v = .tuple #[]∧Φ=[A7 Sl ⟨rh.bo,rh.cap,cs'⟩ n (Iy (Ek (Ek hd t (hd k)) k (hd t)) n)]∧β=[(some br,25,[.slice (ad rh.bo) n rh.cap]),(some ba,25,[.slice none 0 0]),(some bk,3,[.int .i64 k]),(some bt,3,[.int .i64 t]),(rh.bo,22,cs')]):=by
 refine Ab (F:=He) rfl fun C=>?_
 have Sj:=fun {rh:Row}{bk bt:Nat}=>Ry (rh:=rh) (bk:=bk) (bt:=bt) (hd:=hd) ht hk hn
 refine Am [_,_] rfl ?_
 refine Ae it 1 rfl (by simp) ?_
 refine Aa rfl (Bm 0 rfl rfl H7 rfl ?_)
 refine Py [2,3,4,0,1] rfl rfl ?_
 refine Aa rfl <| ADe rfl rfl (Yy 3 [0] rfl rfl (Sj) rfl ?_)
 rintro _ _ _ ⟨cs'1,rfl,rfl,rfl⟩
 simp only [List.cons_append,List.nil_append]
 refine Am [_,_] rfl ?_
 refine Aa rfl (Bm 4 rfl rfl H7 rfl ?_)
 refine Aa rfl (Hf D5 rfl ?_)
 refine Ae it 1 rfl (by simp) ?_
 refine Am [_] rfl ?_
 refine Lc rfl rfl (fun h1=>by exfalso;omega) (fun h1=>?_)
 refine Am [] rfl ?_
 try simp only [List.drop_succ_cons,List.drop_zero]
 refine W1 5 [3,4,0,1,2] rfl rfl ?_
 simp only [List.cons_append,List.nil_append,List.drop_succ_cons,List.drop_zero]
 refine Cm [0] rfl rfl ⟨_,rfl,rfl,rfl⟩
theorem AEc {b p m ng cg ce cl:Nat}{pg pe pl:Option Addr}{md:List Int}{rh:Row}{n N t bg bv bt br ba:Nat}{c:Int}{hd:Nat→Hd}{cs:Nat→List Value}{ls:Nat→List Int}(K:Fok p m md) (c0:0≤c) (c1:c<((p ^ m:Nat):Int)) (ht:t<n) (hn:n≤1000000) (hN:N≤1000000) (hls:∀ k,k<n→Wd (p ^ m) N (ls k)) :
  Bt Tryz.prog 202 [.func (.func 205) #[] #[.pointer (some ⟨bg,0,none⟩),.pointer (some ⟨bv,0,none⟩),.pointer (some ⟨bt,0,none⟩)],.pointer (some ⟨br,0,none⟩),.pointer (some ⟨ba,0,none⟩)]
   ((some br,25,[.slice (ad rh.bo) n rh.cap])::(some ba,25,[.slice none 0 0])::(some bg,76,[.pointer (some ⟨b,0,none⟩)])::(some bv,3,[.int .i64 c])::(some bt,3,[.int .i64 t])::(rh.bo,22,rh.cs)::C8 3 hd cs n [])
   [Jc b p m (p ^ m) pg ng cg pe (p ^ m-1) ce pl (p ^ m) cl,Ap Ai pe (p ^ m-1) ce (Jh p m md),Ap Ai pl (p ^ m) cl (Jk p m md),A7 Sl rh n (Iy hd n),Ei Ai hd cs ls n []]
   (fun v Φ β=>∃ ch' hd' cs',v = .tuple #[]∧Φ=[A7 Sl ⟨rh.bo,rh.cap,ch'⟩ n (Iy hd' n),Ei Ai hd' cs' (Ek ls t (Ct (Ad (fM p (Ax m md))) c (ls t))) n []]∧β=(some br,25,[.slice (ad rh.bo) n rh.cap])::(some ba,25,[.slice none 0 0])::(some bg,76,[.pointer (some ⟨b,0,none⟩)])::(some bv,3,[.int .i64 c])::(some bt,3,[.int .i64 t])::(rh.bo,22,ch')::C8 3 hd' cs' n []):=by
 refine Ab (F:=He) rfl fun C=>?_
 have R5:=fun {b ng cg ce cl bg bv bt:Nat}{pg pe pl:Option Addr}{rh:Row}{hd:Nat→Hd}{cs:Nat→List Value}=>R7 (b:=b) (ng:=ng) (cg:=cg) (ce:=ce) (cl:=cl) (pg:=pg) (pe:=pe) (pl:=pl) (rh:=rh) (bg:=bg) (bv:=bv) (bt:=bt) (hd:=hd) (cs:=cs) K c0 c1 ht hn hN hls
 refine wk 3 cz ?_
 refine Aa rfl <| ADe rfl rfl (Na 2 [0,1,2,3,4] rfl rfl (R5) rfl ?_)
 rintro _ _ _ ⟨ch'1,hd'1,cs'1,rfl,rfl,rfl⟩
 simp only [List.cons_append,List.nil_append]
 refine wk 7 cz ?_
 intro h1
 simp only [List.take_succ_cons,List.take_zero,List.cons_append,List.nil_append]
 refine Cm [0,1] rfl rfl ⟨_,_,_,rfl,rfl,rfl⟩
theorem AEI {b p m ng cg ce cl:Nat}{pg pe pl:Option Addr}{md:List Int}{rh:Row}{n N i t bg bi bf bt br ba:Nat}{c:Int}{hd:Nat→Hd}{cs:Nat→List Value}{ls:Nat→List Int}(K:Fok p m md) (c0:0≤c) (c1:c<((p ^ m:Nat):Int)) (hi:i<n) (ht:t<n) (hit:i≠t) (hn:n≤1000000) (hN:N≤1000000) (hls:∀ k,k<n→Wd (p ^ m) N (ls k)) :
  Bt Tryz.prog 202 [.func (.func 206) #[] #[.pointer (some ⟨bg,0,none⟩),.pointer (some ⟨bi,0,none⟩),.pointer (some ⟨bf,0,none⟩),.pointer (some ⟨bt,0,none⟩)],.pointer (some ⟨br,0,none⟩),.pointer (some ⟨ba,0,none⟩)]
   ((some br,25,[.slice (ad rh.bo) n rh.cap])::(some ba,25,[.slice none 0 0])::(some bg,76,[.pointer (some ⟨b,0,none⟩)])::(some bi,3,[.int .i64 i])::(some bf,3,[.int .i64 c])::(some bt,3,[.int .i64 t])::(rh.bo,22,rh.cs)::C8 3 hd cs n [])
   [Jc b p m (p ^ m) pg ng cg pe (p ^ m-1) ce pl (p ^ m) cl,Ap Ai pe (p ^ m-1) ce (Jh p m md),Ap Ai pl (p ^ m) cl (Jk p m md),A7 Sl rh n (Iy hd n),Ei Ai hd cs ls n []]
   (fun v Φ β=>∃ cs',v = .tuple #[]∧Φ=[A7 Sl rh n (Iy hd n),Ei Ai hd cs' (Ek ls i (Eo (Ad (fA p m)) (Ad (fM p (Ax m md))) ((nP p m c.toNat:Nat):Int) (ls t) (ls i))) n []]∧β=(some br,25,[.slice (ad rh.bo) n rh.cap])::(some ba,25,[.slice none 0 0])::(some bg,76,[.pointer (some ⟨b,0,none⟩)])::(some bi,3,[.int .i64 i])::(some bf,3,[.int .i64 c])::(some bt,3,[.int .i64 t])::(rh.bo,22,rh.cs)::C8 3 hd cs' n []):=by
 refine Ab (F:=He) rfl fun C=>?_
 have Rf:=fun {b ng cg ce cl bg bi bf bt:Nat}{pg pe pl:Option Addr}{rh:Row}{hd:Nat→Hd}{cs:Nat→List Value}=>Rh (b:=b) (ng:=ng) (cg:=cg) (ce:=ce) (cl:=cl) (pg:=pg) (pe:=pe) (pl:=pl) (rh:=rh) (bg:=bg) (bi:=bi) (bf:=bf) (bt:=bt) (hd:=hd) (cs:=cs) K c0 c1 hi ht hit hn hN hls
 refine wk 3 cz ?_
 refine Aa rfl <| ADe rfl rfl (Na 2 [0,1,2,3,4] rfl rfl (Rf) rfl ?_)
 rintro _ _ _ ⟨cs'1,rfl,rfl,rfl⟩
 simp only [List.cons_append,List.nil_append]
 refine wk 7 cz ?_
 intro h1
 simp only [List.take_succ_cons,List.take_zero,List.cons_append,List.nil_append]
 refine Cm [0,1] rfl rfl ⟨_,rfl,rfl,rfl⟩
abbrev Cz (p m:Nat) (x:Int):Int:=((nP p m x.toNat:Nat):Int)
abbrev Hn (p m:Nat) (md:List Int) (x:Int):Int:=((iF (p ^ m) (fM p (Ax m md)) x.toNat:Nat):Int)
abbrev J9 (p m:Nat) (md:List Int) (n c t:Nat) (rows:List (List Int)):List (List Int)×List Nat:=Dr (Ad (fA p m)) (Ad (fM p (Ax m md))) (Cz p m) (Hn p m md) n c t rows
theorem AEH {rows:List (List Int)}{t c:Nat}(h:rows.length≤t):Hr rows t c=none:=by
 rw [Hr,show rows.length-t=0 by omega];rfl
theorem Lk {A M:Int→Int→Int}{N V:Int→Int}:∀ (n c t:Nat) (rows:List (List Int)),rows.length≤t→Dr A M N V n c t rows=(rows,[])
 | 0,_,_,_,_=>rfl
 | n+1,c,t,rows,h=>by rw [Dr,AEH h];exact Lk n (c+1) t rows h
theorem Ze {rows:List (List Int)}{t c k:Nat}(h1:t≤k) (h2:k<rows.length) (h3:en rows k c≠0) (hn:∀ j,t≤j→j<k→en rows j c=0):Hr rows t c=some k:=by
 rw [Hr,show List.range' t (rows.length-t)=List.range' t (k-t)++k::List.range' (k+1) (rows.length-t-(k-t)-1) by
  rw [← List.range'_succ]
  have:=List.range'_append_1 (s:=t) (m:=k-t) (n:=rows.length-t-(k-t)-1+1)
  rw [show t+(k-t)=k by omega,show k-t+(rows.length-t-(k-t)-1+1)=rows.length-t by omega] at this
  exact this.symm]
 rw [List.find?_append,List.find?_eq_none.2 fun i hi=>by
  obtain ⟨a,b⟩:=List.mem_range'_1.1 hi
  simpa using hn i a (by omega)]
 rw [Option.none_or,List.find?_cons,decide_eq_true h3]
theorem Zp {rows:List (List Int)}{t c:Nat}(hn:∀ j,t≤j→j<rows.length→en rows j c=0):Hr rows t c=none:=by
 rw [Hr,List.find?_eq_none.2 fun i hi=>by
  obtain ⟨a,b⟩:=List.mem_range'_1.1 hi
  simpa using hn i a (by omega)]
theorem ADV {q n:Nat}{A M:Int→Int→Int}(F:FI q A M) {r u:List Int}(hr:Wd q n r) (hu:Wd q n u):Eo A M 0 r u=u:=by
 have q2:=F.q2
 refine List.ext_getElem (by rw [Eo,List.length_zipWith,hr.1,hu.1];omega) fun i h1 h2=>?_
 rw [Eo] at h1
 simp only [Eo,List.getElem_zipWith]
 obtain ⟨y0,y1⟩:=hu.2 _ (List.getElem_mem h2)
 obtain ⟨x0,x1⟩:=hr.2 (r[i]'(by rw [hr.1,← hu.1];exact h2)) (List.getElem_mem _)
 rw [F.mc 0 _ (by omega) (by omega) x0 x1,F.m0 x0 x1,F.a0 _ y0 y1]
theorem AEQ {q n:Nat}{A M:Int→Int→Int}(F:FI q A M) {v:List Int}(hv:Wd q n v):Ct M 1 v=v:=by
 have q2:=F.q2
 rw [Ct]
 conv=>rhs;rw [← List.map_id v]
 refine List.map_congr_left fun x hx=>?_
 obtain ⟨h0,h1⟩:=hv.2 x hx
 rw [F.mc 1 x (by omega) (by omega) h0 h1,F.m1 x h0 h1];rfl
abbrev ElQ (rh:Row) (n:Nat) (E:List (List Int)×List Nat):Value→List Fact→List A4→Prop:=fun v Φ β=>∃ (r:Row) (ch':List Value) (hd':Nat→Hd) (cs':Nat→List Value) (d:Int),v = .tuple #[.slice (ad r.bo) E.2.length r.cap,.int .i64 d]
 ∧ Φ=[A7 Ai r E.2.length (Bb E.2),A7 Sl ⟨rh.bo,rh.cap,ch'⟩ n (Iy hd' n),Ei Ai hd' cs' (Ar E.1) n []]∧β=(r.bo,3,r.cs)::(rh.bo,22,ch')::C8 3 hd' cs' n []
theorem Tj {b p m n N W ng cg ce cl:Nat}{pg pe pl:Option Addr}{rh:Row}{hd:Nat→Hd}{cs:Nat→List Value}{rows:List (List Int)}{md:List Int}(K:Fok p m md) (hn:n≤1000000) (hNW:N≤W) (hN:W≤1000000) (hl:rows.length=n) (hM:Cw (p ^ m) W rows) :
  Bt Tryz.prog 174 [.pointer (some ⟨b,0,none⟩),.slice (ad rh.bo) n rh.cap,.int .i64 N,.slice none 0 0] ((rh.bo,22,rh.cs)::C8 3 hd cs n [])
   [Jc b p m (p ^ m) pg ng cg pe (p ^ m-1) ce pl (p ^ m) cl,Ap Ai pe (p ^ m-1) ce (Jh p m md),Ap Ai pl (p ^ m) cl (Jk p m md),A7 Sl rh n (Iy hd n),Ei Ai hd cs (Ar rows) n []]
   (ElQ rh n (J9 p m md N 0 0 rows)):=by
 refine Ab (F:=If) rfl fun C=>?_
 have O:=C1 K
 generalize hEE:J9 p m md N 0 0 rows=EE
 rcases Nat.eq_zero_or_pos n with hn0|hn0
 ·subst hn0
  rw [J9,Lk _ _ _ _ (by omega)] at hEE
  subst hEE
  refine wk 15 cz ?_
  intro b1 b2 b3
  refine F3 Ai 3 ?_
  refine Ah (X:=Unit) [2,4,5,8,9,11] [0,1,2,3,4,5] (fun _=>[(13,.int .i64 0),(12,.slice none 0 0),(10,.int .i64 1)]) (fun _=>(none,3,[])::(some b3,25,[.slice none 0 0])::(some b2,25,[.slice (ad rh.bo) 0 rh.cap])::(some b1,76,[.pointer (some ⟨b,0,none⟩)])::(rh.bo,22,rh.cs)::C8 3 hd cs 0 []) (fun _=>[]) (fun _=>True) (fun _=>0) () [] rfl rfl rfl trivial (by repeat (first|exact Fr.sub_nil _|refine Fr.sub_cons rfl ?_)) rfl rfl ?_
  rintro ⟨⟩-ih
  simp only [List.cons_append,List.nil_append] at ih ⊢
  rcases Nat.eq_zero_or_pos N with hN0|hN0
  ·subst hN0
   refine wk 7 cz ?_
   refine D4 5 [0,4] [0,4,5] rfl (.tmp rfl (.tmp rfl .nil)) rfl rfl rfl ⟨⟨none,0,[]⟩,rh.cs,hd,cs,1,rfl,rfl,rfl⟩
  ·refine wk 16 cz ?_
   intro h1 h2
   refine D4 5 [0,4] [0,4,5] rfl (.tmp rfl (.tmp rfl .nil)) rfl rfl rfl ⟨⟨none,0,[]⟩,rh.cs,hd,cs,1,rfl,rfl,rfl⟩
 ·refine Dt 3 rfl hn0 fun bh caph csh hr=>?_
  subst hr
  dsimp only
  refine wk 15 cz ?_
  intro b1 b2 b3
  refine F3 Ai 3 ?_
  have q2:=O.q2
  have hq:=K.q
  refine Ah (X:=Nat×Row×Int×List Value×(Nat→Hd)×(Nat→List Value)×List (List Int)×List Nat) [2,4,5,8,9,11] [1,2,3] (fun x=>[(13,.int .i64 (x.1:Int)),(12,.slice (ad x.2.1.bo) x.2.2.2.2.2.2.2.length x.2.1.cap),(10,.int .i64 x.2.2.1)])
   (fun x=>(x.2.1.bo,3,x.2.1.cs)::(some b3,25,[.slice none 0 0])::(some b2,25,[.slice (ad (some bh)) n caph])::(some b1,76,[.pointer (some ⟨b,0,none⟩)])::(some bh,22,x.2.2.2.1)::C8 3 x.2.2.2.2.1 x.2.2.2.2.2.1 n [])
   (fun x=>[A7 Ai x.2.1 x.2.2.2.2.2.2.2.length (Bb x.2.2.2.2.2.2.2),A7 Sl ⟨some bh,caph,x.2.2.2.1⟩ n (Iy x.2.2.2.2.1 n),Ei Ai x.2.2.2.2.1 x.2.2.2.2.2.1 (Ar x.2.2.2.2.2.2.1) n []])
   (fun x=>x.1≤N∧x.2.2.2.2.2.2.1.length=n∧Cw (p ^ m) W x.2.2.2.2.2.2.1∧x.2.2.2.2.2.2.2.length≤n∧(0≤x.2.2.1∧x.2.2.1<((p ^ m:Nat):Int))∧(J9 p m md (N-x.1) x.1 x.2.2.2.2.2.2.2.length x.2.2.2.2.2.2.1).1=EE.1∧x.2.2.2.2.2.2.2++(J9 p m md (N-x.1) x.1 x.2.2.2.2.2.2.2.length x.2.2.2.2.2.2.1).2=EE.2) (fun x=>N-x.1)
   (0,⟨none,0,[]⟩,1,csh,hd,cs,rows,[]) [0,4,5] rfl rfl rfl ⟨Nat.zero_le _,hl,hM,Nat.zero_le _,⟨by dsimp only;decide,by dsimp only;omega⟩,by dsimp only;rw [Nat.sub_zero];exact congrArg Prod.fst hEE,by dsimp only;rw [Nat.sub_zero,List.nil_append];exact congrArg Prod.snd hEE⟩ (by repeat (first|exact Fr.sub_nil _|refine Fr.sub_cons rfl ?_)) rfl rfl ?_
  rintro ⟨c,r,d,ch,hd,cs,rws,pv⟩ ⟨hcN,hl,hM,hpv,⟨hd0,hd1⟩,hE1,hE2⟩ ih
  simp only [List.cons_append,List.nil_append] at hcN hl hM hpv hd0 hd1 hE1 hE2 ih ⊢
  by_cases hcl:c<N
  ·by_cases hpl:pv.length<n
   ·have hrl:∀ k,k<n→(Ar rws k).length=W:=fun k hk=>(hM.row (by omega)).1
    have hre:∀ k,k<n→(Ar rws k)[c]?=some (en rws k c):=fun k hk=>by
     rw [en,Bf,List.getD_eq_getElem?_getD,List.getElem?_eq_getElem (by rw [hrl k hk];omega)];rfl
    have hen:∀ k,k<n→0≤en rws k c∧en rws k c<((p ^ m:Nat):Int):=fun k hk=>Bh (by omega) (hM.row (by omega)) c
    refine G3 2 rfl fun hlen=>?_
    have hhd:∀ k,k<n→(hd k).2.1=W:=fun k hk=>by rw [hlen k hk rfl];exact hrl k hk
    refine wk 23 cz ?_
    intro h1 h2 b4 b5
    simp only [setB]
    refine Ah (X:=Nat×(Nat→List Value)) [2,4,5,8,9,10,11,12,13,14,15,21,22,23,24,25,26,27,28,29,30,33,34,35] [0,1,2,3,4,5] (fun _=>[]) (fun k=>(some b5,3,[.int .i64 (k.1:Int)])::(some b4,3,[.int .i64 (pv.length:Int)])::(r.bo,3,r.cs)::(some b3,25,[.slice none 0 0])::(some b2,25,[.slice (ad (some bh)) n caph])::(some b1,76,[.pointer (some ⟨b,0,none⟩)])::(some bh,22,ch)::C8 3 hd k.2 n []) (fun k=>[Ei Ai hd k.2 (Ar rws) n []]) (fun k=>pv.length≤k.1∧k.1≤n∧∀ j,pv.length≤j→j<k.1→en rws j c=0) (fun k=>n-k.1) (pv.length,cs) [2] rfl rfl rfl ⟨Nat.le_refl _,hpv,fun j h1 h2=>by dsimp only at h2;omega⟩ (by repeat (first|exact Fr.sub_nil _|refine Fr.sub_cons rfl ?_)) rfl rfl ?_
    clear hlen hhd
    rintro ⟨k,cs⟩ ⟨hk1,hk2,hk3⟩ ihk
    simp only [List.cons_append,List.nil_append] at hk1 hk2 hk3 ihk ⊢
    by_cases hkn:k<n
    ·refine G3 0 rfl fun hlen=>?_
     have hhd:∀ k,k<n→(hd k).2.1=W:=fun k hk=>by rw [hlen k hk rfl];exact hrl k hk
     have hhk:=hhd k hkn
     have hz:=hre k hkn
     have hrk:=hrl k hkn
     refine Dj 7 (k) 0 (W) rfl rfl (by first|assumption|omega) (by first|rfl|assumption|(simp [Ag,Bc];done)|(simp [Ag,Bc];omega)) (by first|assumption|omega) fun r1 hr1=>?_
     simp only [List.take_succ_cons,List.take_zero,List.cons_append,List.nil_append]
     by_cases hz0:en rws k c=0
     ·refine wk 12 cz ?_
      intro h3
      refine Dt 0 rfl (by omega) fun b6 cap1 cs1 hr2=>?_
      subst hr2
      dsimp only
      refine wk 10 cz ?_
      intro hr2 h4
      simp only [setB,List.set_cons_succ,List.set_cons_zero]
      refine Bu 7 (k) 0 0 1 rfl rfl rfl rfl (by first|assumption|omega) (by first|rfl|assumption|(simp [Ag,Bc];done)|(simp [Ag,Bc];omega)) ?_
      simp only [List.eraseIdx_cons_zero,List.eraseIdx_cons_succ,List.take_succ_cons,List.take_zero,List.cons_append,List.nil_append]
      rw [D3 (Fq hr1 hkn),show Ek (Ar rws) k (Ar rws k)=Ar rws from D3 rfl]
      exact tw (ihk (k+1,Ek cs k cs1) (by dsimp only;omega) ⟨by dsimp only;omega,by dsimp only;omega,fun j h1 h2=>by
       dsimp only at h2
       rcases Nat.lt_succ_iff_lt_or_eq.1 h2 with h|rfl
       ·exact hk3 j h1 h
       ·exact hz0⟩)
     ·clear ihk
      have hkne:¬ k=n:=by omega
      refine wk 12 cz ?_
      intro h3
      refine Dt 0 rfl (by omega) fun b6 cap1 cs1 hr2=>?_
      subst hr2
      dsimp only
      refine wk 10 cz ?_
      intro hr2 h4
      refine Bu 7 (k) 0 0 1 rfl rfl rfl rfl (by first|assumption|omega) (by first|rfl|assumption|(simp [Ag,Bc];done)|(simp [Ag,Bc];omega)) ?_
      simp only [List.eraseIdx_cons_zero,List.eraseIdx_cons_succ,List.take_succ_cons,List.take_zero,List.cons_append,List.nil_append]
      rw [D3 (Fq hr1 hkn),show Ek (Ar rws) k (Ar rws k)=Ar rws from D3 rfl]
      have key:∀ (d':Int) (ch':List Value) (hd':Nat→Hd) (cs':Nat→List Value),0≤d'→d'<((p ^ m:Nat):Int)→J If C [It.c (pL 128159),It.blk 1,It.c (pL 2003),It.lp (pL 500),It.blk 0,It.c [1,1,1,1,1]]
        [(2,.int .i64 N),(4,.pointer (some ⟨b1,0,none⟩)),(5,.pointer (some ⟨b2,0,none⟩)),(8,.slice none 0 0),(9,.int .i64 0),(10,.int .i64 d'),(11,.func (.func 202) #[] #[.pointer (some ⟨b2,0,none⟩),.pointer (some ⟨b3,0,none⟩)]),(12,.slice (ad r.bo) pv.length r.cap),(13,.int .i64 c),(14,.pointer (some ⟨b4,0,none⟩))]
        ((some b4,3,[.int .i64 (pv.length:Int)])::(r.bo,3,r.cs)::(some b3,25,[.slice none 0 0])::(some b2,25,[.slice (ad (some bh)) n caph])::(some b1,76,[.pointer (some ⟨b,0,none⟩)])::(some bh,22,ch')::C8 3 hd' cs' n [])
        [Ei Ai hd' cs' (Ar (Cc rws pv.length k)) n [],A7 Ai r pv.length (Bb pv),A7 Sl ⟨some bh,caph,ch'⟩ n (Iy hd' n),Jc b p m (p ^ m) pg ng cg pe (p ^ m-1) ce pl (p ^ m) cl,Ap Ai pe (p ^ m-1) ce (Jh p m md),Ap Ai pl (p ^ m) cl (Jk p m md)] (Fg C (ElQ ⟨some bh,caph,csh⟩ n EE)):=by
       clear hz hrk hlen hhd hhk hr1
       intro d' ch' hd' cs' d0' d1'
       have htn:pv.length<n:=hpl
       have hsl:(Cc rws pv.length k).length=n:=by rw [Cc,List.length_set,List.length_set,hl]
       have hsW:∀ i,i<n→Wd (p ^ m) W (Ar (Cc rws pv.length k) i):=fun i hi=>L0 hM (by omega) (by omega) (by omega)
       have hsrl:∀ i,i<n→(Ar (Cc rws pv.length k) i).length=W:=fun i hi=>(hsW i hi).1
       have hsre:∀ i,i<n→(Ar (Cc rws pv.length k) i)[c]?=some (en (Cc rws pv.length k) i c):=fun i hi=>by
        rw [en,Bf,List.getD_eq_getElem?_getD,List.getElem?_eq_getElem (by rw [hsrl i hi];omega)];rfl
       have hsen:∀ i,i<n→0≤en (Cc rws pv.length k) i c∧en (Cc rws pv.length k) i c<((p ^ m:Nat):Int):=fun i hi=>Bh (by omega) (hsW i hi) c
       have het:en (Cc rws pv.length k) pv.length c=en rws k c:=by
        rw [en,E0 (by omega) (by omega)]
        split
        ·rename_i e;rw [← e]
        ·rw [if_pos rfl]
       obtain ⟨a0,a1⟩:=hen k hkn
       refine G3 0 rfl fun hlen=>?_
       have hht:(hd' pv.length).2.1=W:=by rw [hlen _ htn rfl];exact hsrl _ htn
       have hzt:=hsre _ htn
       rw [het] at hzt
       have hrt:=hsrl _ htn
       have A6:=fun {b ng cg ce cl:Nat}{pg pe pl:Option Addr}{x y:Int}=>C3 (b:=b) (ng:=ng) (cg:=cg) (ce:=ce) (cl:=cl) (pg:=pg) (pe:=pe) (pl:=pl) (x:=x) (y:=y) K
       have Fc:=fun {b ng cg ce cl:Nat}{pg pe pl:Option Addr}{x:Int}=>Qo (b:=b) (ng:=ng) (cg:=cg) (ce:=ce) (cl:=cl) (pg:=pg) (pe:=pe) (pl:=pl) (x:=x) K
       have hap:0<en rws k c:=by omega
       obtain ⟨⟨v0,v1⟩,hiv⟩:=O.iv _ a0 a1 hz0
       have FF:=K.fi
       have key2:∀ (d2:Int) (ch2:List Value) (hd2:Nat→Hd) (cs2:Nat→List Value),0≤d2→d2<((p ^ m:Nat):Int)→J If C [It.c (pL 4101114),It.blk 4,It.c (pL 1025279),It.blk 1,It.c (pL 2003),It.lp (pL 500),It.blk 0,It.c [1,1,1,1,1]]
         [(2,.int .i64 N),(4,.pointer (some ⟨b1,0,none⟩)),(5,.pointer (some ⟨b2,0,none⟩)),(8,.slice none 0 0),(9,.int .i64 0),(10,.int .i64 d2),(11,.func (.func 202) #[] #[.pointer (some ⟨b2,0,none⟩),.pointer (some ⟨b3,0,none⟩)]),(12,.slice (ad r.bo) pv.length r.cap),(13,.int .i64 c),(14,.pointer (some ⟨b4,0,none⟩)),(97,.int .i64 n),(98,.int .i64 0)]
         ((some b4,3,[.int .i64 (pv.length:Int)])::(r.bo,3,r.cs)::(some b3,25,[.slice none 0 0])::(some b2,25,[.slice (ad (some bh)) n caph])::(some b1,76,[.pointer (some ⟨b,0,none⟩)])::(some bh,22,ch2)::C8 3 hd2 cs2 n [])
         [Ei Ai hd2 cs2 (Ek (Ar (Cc rws pv.length k)) pv.length (Ct (Ad (fM p (Ax m md))) ((iF (p ^ m) (fM p (Ax m md)) (en rws k c).toNat:Nat):Int) (Ar (Cc rws pv.length k) pv.length))) n [],A7 Ai r pv.length (Bb pv),A7 Sl ⟨some bh,caph,ch2⟩ n (Iy hd2 n),Jc b p m (p ^ m) pg ng cg pe (p ^ m-1) ce pl (p ^ m) cl,Ap Ai pe (p ^ m-1) ce (Jh p m md),Ap Ai pl (p ^ m) cl (Jk p m md)] (Fg C (ElQ ⟨some bh,caph,csh⟩ n EE)):=by
        intro d2 ch2 hd2 cs2 e0 e1
        clear hht hlen A6 Fc
        have hprW:=O.scl_wd v0 v1 (hsW _ htn)
        generalize hpr:Ct (Ad (fM p (Ax m md))) ((iF (p ^ m) (fM p (Ax m md)) (en rws k c).toNat:Nat):Int) (Ar (Cc rws pv.length k) pv.length)=pr at *
        let clr:Nat→Nat→List Int:=fun i j=>if j=pv.length then pr else if j<i then Eo (Ad (fA p m)) (Ad (fM p (Ax m md))) (Cz p m (en (Cc rws pv.length k) j c)) pr (Ar (Cc rws pv.length k) j) else Ar (Cc rws pv.length k) j
        have hclW:∀ i j,j<n→Wd (p ^ m) W (clr i j):=fun i j hj=>by
         show Wd _ _ (if _ then _ else if _ then _ else _)
         split
         ·exact hprW
         ·split
          ·obtain ⟨x0,x1⟩:=hsen j hj
           have:=AC7 (show 0<p by have:=K.p2;omega) m (en (Cc rws pv.length k) j c).toNat
           exact FF.axw (Int.natCast_nonneg _) (Int.ofNat_lt.2 this) hprW (hsW j hj)
          ·exact hsW j hj
        refine Bs (clr 0) 0 rfl (fun g hg=>by
         show _=if _ then _ else if _ then _ else _
         by_cases e:g=pv.length
         ·subst e;rw [Bo,if_pos rfl]
         ·rw [C0 e,if_neg e,if_neg (Nat.not_lt_zero g)]) ?_
        refine Ah (X:=Nat×(Nat→List Value)) [2,4,5,8,9,10,11,12,13,14,97] [0,1,2,3,4,5,6] (fun x=>[(98,.int .i64 (x.1:Int))]) (fun x=>(some b4,3,[.int .i64 (pv.length:Int)])::(r.bo,3,r.cs)::(some b3,25,[.slice none 0 0])::(some b2,25,[.slice (ad (some bh)) n caph])::(some b1,76,[.pointer (some ⟨b,0,none⟩)])::(some bh,22,ch2)::C8 3 hd2 x.2 n []) (fun x=>[Ei Ai hd2 x.2 (clr x.1) n []]) (fun x=>x.1≤n) (fun x=>n-x.1) (0,cs2) [0] rfl rfl rfl (Nat.zero_le _) (by repeat (first|exact Fr.sub_nil _|refine Fr.sub_cons rfl ?_)) rfl rfl ?_
        rintro ⟨i,cs2⟩ hi ihi
        simp only [List.cons_append,List.nil_append] at hi ihi ⊢
        by_cases hin:i<n
        ·refine G3 0 rfl fun hlen=>?_
         have hhi:(hd2 i).2.1=W:=by rw [hlen i hin rfl];exact (hclW i i hin).1
         have hli:=(hclW i i hin).1
         obtain ⟨z,at_z⟩:∃ z,(clr i i)[c]?=some z:=⟨_,List.getElem?_eq_getElem (by rw [hli];omega)⟩
         have nxt:∀ j,j<n→j≠i→clr (i+1) j=clr i j:=fun j hj hji=>by
          show (if _ then _ else if _ then _ else _)=(if _ then _ else if _ then _ else _)
          by_cases g1:j<i
          ·rw [if_pos g1,if_pos (show j<i+1 by omega)]
          ·rw [if_neg g1,if_neg (show ¬ j<i+1 by omega)]
         by_cases hit:i=pv.length
         ·have nxi:clr (i+1) i=clr i i:=by
           show (if _ then _ else if _ then _ else _)=(if _ then _ else if _ then _ else _)
           rw [if_pos hit,if_pos hit]
          clear_value clr
          refine Dj 6 (i) 0 (W) rfl rfl (by first|assumption|omega) (by first|rfl|assumption|(simp [Ag,Bc];done)|(simp [Ag,Bc];omega)) (by first|assumption|omega) fun r1 hr1=>?_
          simp only [List.take_succ_cons,List.take_zero,List.cons_append,List.nil_append]
          refine wk 14 cz ?_
          intro h5 b7
          refine Dt 0 rfl (by omega) fun b8 cap2 cs3 hr3=>?_
          subst hr3
          dsimp only
          refine wk 16 cz ?_
          intro hr3 b9 h6
          simp only [setB,List.set_cons_zero,List.set_cons_succ]
          refine Bu 8 (i) 2 0 1 rfl rfl rfl rfl (by first|assumption|omega) (by first|rfl|assumption|(simp [Ag,Bc];done)|(simp [Ag,Bc];omega)) ?_
          simp only [List.eraseIdx_cons_zero,List.eraseIdx_cons_succ,List.take_succ_cons,List.take_zero,List.cons_append,List.nil_append]
          rw [D3 (Fq (by assumption) hin)]
          refine Bs (clr (i+1)) 0 rfl (fun g hg=>by
           by_cases e:g=i
           ·subst e;rw [Bo,nxi]
           ·rw [C0 e,nxt g hg e]) ?_
          refine Qb 8 [2,3,4,5,6,7] [0,5,6,7,8,9,10,11] (by exact Uy rfl) rfl rfl rfl rfl (ihi (i+1,Ek cs2 i cs3) (by dsimp only;omega) (by dsimp only;omega))
         ·have cli:clr i i=Ar (Cc rws pv.length k) i:=by
           show (if _ then _ else if _ then _ else _)=_
           rw [if_neg hit,if_neg (Nat.lt_irrefl i)]
          have nxi:clr (i+1) i=Eo (Ad (fA p m)) (Ad (fM p (Ax m md))) (Cz p m (en (Cc rws pv.length k) i c)) pr (Ar (Cc rws pv.length k) i):=by
           show (if _ then _ else if _ then _ else _)=_
           rw [if_neg hit,if_pos (Nat.lt_succ_self i)]
          have clt:clr i pv.length=pr:=if_pos rfl
          have ez:z=en (Cc rws pv.length k) i c:=by
           rw [cli,hsre i hin] at at_z;exact (Option.some.inj at_z).symm
          obtain ⟨z0,z1⟩:=hsen i hin
          rw [← ez] at nxi z0 z1
          clear_value clr
          by_cases hz9:z=0
          ·rw [hz9,show Cz p m 0=0 by rw [Cz];exact congrArg Int.ofNat (AJp p m),ADV FF hprW (hsW i hin),← cli] at nxi
           refine Dj 6 (i) 0 (W) rfl rfl (by first|assumption|omega) (by first|rfl|assumption|(simp [Ag,Bc];done)|(simp [Ag,Bc];omega)) (by first|assumption|omega) fun r1 hr1=>?_
           simp only [List.take_succ_cons,List.take_zero,List.cons_append,List.nil_append]
           refine wk 14 cz ?_
           intro h5 b7
           refine Dt 0 rfl (by omega) fun b8 cap2 cs3 hr3=>?_
           subst hr3
           dsimp only
           refine wk 17 cz ?_
           intro hr3 b9 h6 h7
           simp only [setB,List.set_cons_zero,List.set_cons_succ]
           refine Bu 8 (i) 2 0 1 rfl rfl rfl rfl (by first|assumption|omega) (by first|rfl|assumption|(simp [Ag,Bc];done)|(simp [Ag,Bc];omega)) ?_
           simp only [List.eraseIdx_cons_zero,List.eraseIdx_cons_succ,List.take_succ_cons,List.take_zero,List.cons_append,List.nil_append]
           rw [D3 (Fq (by assumption) hin)]
           refine Bs (clr (i+1)) 0 rfl (fun g hg=>by
            by_cases e:g=i
            ·subst e;rw [Bo,nxi]
            ·rw [C0 e,nxt g hg e]) ?_
           refine Qb 8 [2,3,4,5,6,7] [0,5,6,7,8,9,10,11] (by exact Uy rfl) rfl rfl rfl rfl (ihi (i+1,Ek cs2 i cs3) (by dsimp only;omega) (by dsimp only;omega))
          ·refine Dj 6 (i) 0 (W) rfl rfl (by first|assumption|omega) (by first|rfl|assumption|(simp [Ag,Bc];done)|(simp [Ag,Bc];omega)) (by first|assumption|omega) fun r1 hr1=>?_
           simp only [List.take_succ_cons,List.take_zero,List.cons_append,List.nil_append]
           refine Am [_,_,_,_,_,_,_,_,_,_] rfl ?_
           refine Ae it 1 rfl (by simp) ?_
           refine Am [_,_,_,_,_,_,_,_,_,_] rfl ?_
           refine Lc rfl rfl (fun h5=>?_) (fun h5=>by exfalso;omega)
           refine Am [_,_,_,_,_,_,_,_,_,_,_,_] rfl ?_
           refine Ae it 1 rfl (by simp) ?_
           refine Aa rfl (Bl zo3 fun b7=>?_)
           refine Aa rfl (Nx 0 rfl rfl rfl rfl Ci rfl (Nat.le_of_ble_eq_true rfl) ?_)
           refine Am [_,_,_,_,_,_,_,_,_,_,_,_] rfl ?_
           refine Aa rfl (Bm 5 rfl rfl H7 rfl ?_)
           refine Aa rfl (Bm 0 rfl rfl Ci rfl ?_)
           refine Aa rfl (Be (i) (i) rfl rfl D5 rfl (by omega) (Nat.mul_one _) ?_)
           refine Aa rfl (ADf 7 6 (i) rfl rfl rfl E7 rfl (by assumption) ?_)
           refine Ae it 1 rfl (by simp) ?_
           refine Dt 0 rfl (by omega) fun b8 cap2 cs3 hr3=>?_
           subst hr3
           dsimp only
           refine Aa rfl (Be (c) (c) rfl rfl Ce rfl (by omega) (Nat.mul_one _) ?_)
           refine Aa rfl (Su 1 0 (c) rfl rfl rfl Ci rfl (by assumption) fun hr3=>?_)
           refine Aa rfl (Bl zo3 fun b9=>?_)
           refine Aa rfl (Nx 0 rfl rfl rfl rfl Ci rfl (Nat.le_of_ble_eq_true rfl) ?_)
           refine Am [_,_,_,_,_,_,_,_,_,_,_,_] rfl ?_
           refine Aa rfl (Bm 1 rfl rfl Ci rfl ?_)
           refine Aa rfl (Bm 3 rfl rfl Ci rfl ?_)
           refine Ae it 2 rfl (by simp) ?_
           refine K7 (t:=111) rfl (fun h6=>?_) (fun h6=>by exfalso;omega)
           refine Bp rfl rfl (Bm 0 rfl rfl Ci rfl ?_)
           refine Ae it 2 rfl (by simp) ?_
           refine Am [_,_,_,_,_,_,_,_,_,_,_] rfl ?_
           refine Nd rfl rfl (fun h7=>?_) (fun h7=>by exfalso;omega)
           refine Am [_,_,_,_,_,_,_,_,_,_,_] rfl ?_
           refine Ae it 2 rfl (by simp) ?_ --ok
           simp only [setB,List.set_cons_zero,List.set_cons_succ]
           refine Bu 8 (i) 2 0 1 rfl rfl rfl rfl (by first|assumption|omega) (by first|rfl|assumption|(simp [Ag,Bc];done)|(simp [Ag,Bc];omega)) ?_
           simp only [List.eraseIdx_cons_zero,List.eraseIdx_cons_succ,List.take_succ_cons,List.take_zero,List.cons_append,List.nil_append]
           rw [D3 (Fq (by assumption) hin),show Ek (clr i) i (clr i i)=clr i from D3 rfl]
           have Ef:=fun {br ba bg bi bf bt:Nat}{cs:Nat→List Value}=>AEI (b:=b) (ng:=ng) (cg:=cg) (ce:=ce) (cl:=cl) (pg:=pg) (pe:=pe) (pl:=pl) (rh:=⟨some bh,caph,ch2⟩) (br:=br) (ba:=ba) (bg:=bg) (bi:=bi) (bf:=bf) (bt:=bt) (hd:=hd2) (cs:=cs) K z0 z1 hin htn hit hn hN (hclW i)
           refine W1 8 [3,5,4,6,1,0,2,7] rfl rfl ?_
           simp only [List.cons_append,List.nil_append,List.drop_succ_cons,List.drop_zero]
           refine Aa rfl <| ADe rfl rfl (Na 1 [8,9,10,7,0] rfl rfl (Ef) rfl ?_)
           rintro _ _ _ ⟨cs'1,rfl,rfl,rfl⟩
           simp only [List.cons_append,List.nil_append]
           refine wk 3 cz ?_
           simp only [List.take_succ_cons,List.take_zero,List.cons_append,List.nil_append]
           refine Bs (clr (i+1)) 1 rfl (fun g hg=>by
            by_cases e:g=i
            ·subst e;rw [Bo,nxi,clt,cli]
            ·rw [C0 e,nxt g hg e]) ?_
           refine Qb 8 [6,0,2,1,3,7] [0,7,8,9,1,11,12,13] (by exact Uy rfl) rfl rfl rfl rfl (ihi (i+1,cs'1) (by dsimp only;omega) (by dsimp only;omega))
        ·obtain rfl:i=n:=by omega
         have eF:Hr rws pv.length c=some k:=Ze hk1 (by omega) hz0 hk3
         have eC:N-c=N-(c+1)+1:=by omega
         rw [eC,J9,Dr,eF] at hE1 hE2
         dsimp only at hE1 hE2
         refine wk 7 cz ?_
         intro h5 b7
         refine Aa rfl (Ga (z:=(↑c:Int)) 2 0 3 rfl rfl rfl rfl rfl Ce Ep rfl (fun w A hG=>(Dq (by first|(simp only [Bv];omega)|(simp [Bv];done)))) (by omega) _ Hu (by omega) fun r1=>?_)
         refine wk 4 cz ?_
         simp only [List.eraseIdx_cons_zero,List.eraseIdx_cons_succ]
         rw [show Bb pv++[(c:Int)]=Bb (pv++[c]) by simp [Bb]]
         refine Bs (Ar (J1 (Ad (fA p m)) (Ad (fM p (Ax m md))) (Cz p m) (Hn p m md) pv.length k c rws)) 1 rfl (fun g hg=>by
          rw [M8 (by omega)]
          show (if _ then _ else if _ then _ else _)=_
          by_cases e:g=pv.length
          ·rw [if_pos e,if_pos e,← hpr,E0 (by omega) (by omega)]
           have:Ar (Cc rws pv.length k) pv.length=Ar rws k:=by
            rw [E0 (by omega) (by omega)]
            split
            ·rename_i e;rw [← e]
            ·rw [if_pos rfl]
           rw [E0 (by omega) (by omega)] at this
           rw [this]
          ·rw [if_neg e,if_neg e,if_pos hg,← hpr]
           have:Ar (Cc rws pv.length k) pv.length=Ar rws k:=by
            rw [E0 (by omega) (by omega)]
            split
            ·rename_i e;rw [← e]
            ·rw [if_pos rfl]
           rw [this]) ?_
         have hpw:=O.piv_wd hM (t:=pv.length) (k:=k) (c:=c) (by omega) (by omega) hz0
         have ih':=ih (c+1,r1,d2,ch2,hd2,cs2,J1 (Ad (fA p m)) (Ad (fM p (Ax m md))) (Cz p m) (Hn p m md) pv.length k c rws,pv++[c]) (by dsimp only;omega) ⟨by dsimp only;omega,by dsimp only;rw [Hc];exact hl,hpw,by dsimp only;rw [List.length_append,List.length_singleton];omega,⟨e0,e1⟩,by dsimp only;rw [List.length_append,List.length_singleton];exact hE1,by dsimp only;rw [List.length_append,List.length_singleton,List.append_assoc];exact hE2⟩
         dsimp only at ih'
         rw [List.length_append,List.length_singleton] at ih'
         refine Qb 7 [0,3,4,5,6] [1,6,0,7,8,9] (by exact Uy rfl) rfl rfl rfl rfl (ih')
       refine Dj 6 (pv.length) 0 (W) rfl rfl (by first|assumption|omega) (by first|rfl|assumption|(simp [Ag,Bc];done)|(simp [Ag,Bc];omega)) (by first|assumption|omega) fun r1 hr1=>?_
       simp only [List.take_succ_cons,List.take_zero,List.cons_append,List.nil_append]
       refine Dt 0 rfl (by omega) fun b9 cap9 cs9 h9=>?_
       subst h9
       obtain ⟨dm0,dm1⟩:=FF.ml d' _ d0' d1' a0 a1
       by_cases hv1:((iF (p ^ m) (fM p (Ax m md)) (en rws k c).toNat:Nat):Int)=1
       ·refine wk 1 cz ?_
        (apply E5 it mx 10;(· rfl);(· rfl))
        (apply Ac;(· rfl);(· exact Ca 5 rfl rfl Xs rfl))
        (apply A3 1;(· rfl);(· simp))
        (apply Ac;(· rfl);(· exact Ca 4 rfl rfl H7 rfl))
        (apply Ac;(· rfl);(· exact Ca 1 rfl rfl Ci rfl))
        (apply Ac;(· rfl);(· exact Cg fun _=>Be (pv.length) (pv.length) rfl rfl D5 rfl (by omega) (Nat.mul_one _) An))
        (apply Ac;(· rfl);(· exact Fy 6 4 (pv.length) rfl rfl rfl E7 rfl (by assumption)))
        dsimp only
        (apply A3 1;(· rfl);(· simp))
        (apply Ac;(· rfl);(· exact Cg fun _=>Be (c) (c) rfl rfl Ce rfl (by omega) (Nat.mul_one _) An))
        (apply Ac;(· rfl);(· exact Hk 0 0 (c) rfl rfl rfl Ci rfl (by assumption)))
        (apply Ac;(· rfl);(· exact Cg fun _=>Aw [5,6,7] rfl (A6 (by omega) (by omega) (by omega) (by omega)) rfl (by rintro _ _ _ ⟨rfl,rfl,rfl⟩;exact An)))
        refine Et rfl ?_
        simp only [List.map_cons,List.map_nil,List.cons_append,List.nil_append]
        refine wk 2 cz ?_
        (apply Fz (x0:=none) it mx 0 13 [11] 1;(· rfl);(· rfl);(· rfl);(· decide))
        simp only [List.drop_zero]
        (apply Ac;(· rfl);(· exact Ca 5 rfl rfl Xs rfl))
        (apply Ac;(· rfl);(· exact Ca 4 rfl rfl H7 rfl))
        (apply Ac;(· rfl);(· exact Ca 1 rfl rfl Ci rfl))
        (apply Ac;(· rfl);(· exact Cg fun _=>Be (pv.length) (pv.length) rfl rfl D5 rfl (by omega) (Nat.mul_one _) An))
        (apply Ac;(· rfl);(· exact Fy 6 4 (pv.length) rfl rfl rfl E7 rfl (by assumption)))
        dsimp only
        (apply A3 1;(· rfl);(· simp))
        (apply Ac;(· rfl);(· exact Cg fun _=>Be (c) (c) rfl rfl Ce rfl (by omega) (Nat.mul_one _) An))
        (apply Ac;(· rfl);(· exact Hk 0 0 (c) rfl rfl rfl Ci rfl (by assumption)))
        (apply Ac;(· rfl);(· exact Cg fun _=>Aw [5,6,7] rfl (Fc (by omega) (by omega)) rfl (by rintro _ _ _ ⟨rfl,rfl,rfl⟩;exact An)))
        (apply A3 3;(· rfl);(· simp))
        (apply Hj;(· rfl);(· exact zo3);intro b7)
        refine Fo rfl ?_
        (rotate_left;rfl;rotate_right)
        simp only [List.map_cons,List.map_nil,List.cons_append,List.nil_append]
        refine Gr it rfl rfl ⟨⟨_,_,_,_,rfl,rfl,rfl,rfl,rfl,rfl,(by first|trivial|(repeat' first|exact trivial|apply And.intro|omega))⟩,trivial⟩ (Nx 0 rfl rfl rfl rfl Ci rfl (Nat.le_of_ble_eq_true rfl) ?_)
        refine Ib it ⟨⟨_,_,_,_,rfl,rfl,rfl,rfl,rfl,rfl,(by first|trivial|(repeat' first|exact trivial|apply And.intro|omega))⟩,trivial⟩ ?_
        refine wk 13 cz ?_
        intro h5 h6
        simp only [setB,List.set_cons_zero,List.set_cons_succ]
        refine Bu 7 (pv.length) 1 0 1 rfl rfl rfl rfl (by first|assumption|omega) (by first|rfl|assumption|(simp [Ag,Bc];done)|(simp [Ag,Bc];omega)) ?_
        simp only [List.eraseIdx_cons_zero,List.eraseIdx_cons_succ,List.take_succ_cons,List.take_zero,List.cons_append,List.nil_append]
        rw [D3 (Fq hr1 htn)]
        refine Bs (Ek (Ar (Cc rws pv.length k)) pv.length (Ct (Ad (fM p (Ax m md))) ((iF (p ^ m) (fM p (Ax m md)) (en rws k c).toNat:Nat):Int) (Ar (Cc rws pv.length k) pv.length))) 0 rfl (fun g hg=>by
         rw [hv1,AEQ FF (hsW _ htn)]) ?_
        refine Qb 7 [1,2,3,4,5,6] [0,5,6,7,8,9] (by exact Uy rfl) rfl rfl rfl rfl (key2 (Ad (fM p (Ax m md)) d' (en rws k c)) ch' hd' (Ek cs' pv.length cs9) dm0 dm1)
       ·refine Am [_,_,_,_,_,_,_] rfl ?_
        (apply E5 it mx 10;(· rfl);(· rfl))
        (apply Ac;(· rfl);(· exact Ca 5 rfl rfl Xs rfl))
        (apply A3 1;(· rfl);(· simp))
        (apply Ac;(· rfl);(· exact Ca 4 rfl rfl H7 rfl))
        (apply Ac;(· rfl);(· exact Ca 1 rfl rfl Ci rfl))
        (apply Ac;(· rfl);(· exact Cg fun _=>Be (pv.length) (pv.length) rfl rfl D5 rfl (by omega) (Nat.mul_one _) An))
        (apply Ac;(· rfl);(· exact Fy 6 4 (pv.length) rfl rfl rfl E7 rfl (by assumption)))
        dsimp only
        (apply A3 1;(· rfl);(· simp))
        (apply Ac;(· rfl);(· exact Cg fun _=>Be (c) (c) rfl rfl Ce rfl (by omega) (Nat.mul_one _) An))
        (apply Ac;(· rfl);(· exact Hk 0 0 (c) rfl rfl rfl Ci rfl (by assumption)))
        (apply Ac;(· rfl);(· exact Cg fun _=>Aw [5,6,7] rfl (A6 (by omega) (by omega) (by omega) (by omega)) rfl (by rintro _ _ _ ⟨rfl,rfl,rfl⟩;exact An)))
        refine Et rfl ?_
        simp only [List.map_cons,List.map_nil,List.cons_append,List.nil_append]
        refine Ae it 1 rfl (by simp) ?_
        refine Am [_,_,_,_,_,_,_,_] rfl ?_
        (apply Fz (x0:=none) it mx 0 13 [11] 1;(· rfl);(· rfl);(· rfl);(· decide))
        simp only [List.drop_zero]
        (apply Ac;(· rfl);(· exact Ca 5 rfl rfl Xs rfl))
        (apply Ac;(· rfl);(· exact Ca 4 rfl rfl H7 rfl))
        (apply Ac;(· rfl);(· exact Ca 1 rfl rfl Ci rfl))
        (apply Ac;(· rfl);(· exact Cg fun _=>Be (pv.length) (pv.length) rfl rfl D5 rfl (by omega) (Nat.mul_one _) An))
        (apply Ac;(· rfl);(· exact Fy 6 4 (pv.length) rfl rfl rfl E7 rfl (by assumption)))
        dsimp only
        (apply A3 1;(· rfl);(· simp))
        (apply Ac;(· rfl);(· exact Cg fun _=>Be (c) (c) rfl rfl Ce rfl (by omega) (Nat.mul_one _) An))
        (apply Ac;(· rfl);(· exact Hk 0 0 (c) rfl rfl rfl Ci rfl (by assumption)))
        (apply Ac;(· rfl);(· exact Cg fun _=>Aw [5,6,7] rfl (Fc (by omega) (by omega)) rfl (by rintro _ _ _ ⟨rfl,rfl,rfl⟩;exact An)))
        (apply A3 3;(· rfl);(· simp))
        (apply Hj;(· rfl);(· exact zo3);intro b7)
        refine Fo rfl ?_
        (rotate_left;rfl;rotate_right)
        simp only [List.map_cons,List.map_nil,List.cons_append,List.nil_append]
        refine Gr it rfl rfl ⟨⟨_,_,_,_,rfl,rfl,rfl,rfl,rfl,rfl,(by first|trivial|(repeat' first|exact trivial|apply And.intro|omega))⟩,trivial⟩ (Nx 0 rfl rfl rfl rfl Ci rfl (Nat.le_of_ble_eq_true rfl) ?_)
        refine Ib it ⟨⟨_,_,_,_,rfl,rfl,rfl,rfl,rfl,rfl,(by first|trivial|(repeat' first|exact trivial|apply And.intro|omega))⟩,trivial⟩ ?_
        refine Ae it 1 rfl (by simp) ?_
        refine Am [_,_,_,_,_,_,_,_] rfl ?_
        refine Ae it 3 rfl (by simp) ?_
        refine By (t:=89) rfl (fun h5=>?_) (fun h5=>by exfalso;omega)
        refine Bp rfl rfl (Bm 0 rfl rfl Ci rfl ?_)
        refine Ae it 2 rfl (by simp) ?_
        refine Am [_,_,_,_,_,_,_] rfl ?_
        refine Nd rfl rfl (fun h6=>?_) (fun h6=>by exfalso;omega)
        refine Am [_,_,_,_,_,_,_] rfl ?_
        refine Ae it 2 rfl (by simp) ?_ --ok
        simp only [setB,List.set_cons_zero,List.set_cons_succ]
        refine Bu 7 (pv.length) 1 0 1 rfl rfl rfl rfl (by first|assumption|omega) (by first|rfl|assumption|(simp [Ag,Bc];done)|(simp [Ag,Bc];omega)) ?_
        simp only [List.eraseIdx_cons_zero,List.eraseIdx_cons_succ,List.take_succ_cons,List.take_zero,List.cons_append,List.nil_append]
        rw [D3 (Fq hr1 htn),show Ek (Ar (Cc rws pv.length k)) pv.length (Ar (Cc rws pv.length k) pv.length)=Ar (Cc rws pv.length k) from D3 rfl]
        have Ef:=fun {br ba bg bv bt:Nat}{hd:Nat→Hd}{cs:Nat→List Value}=>AEc (b:=b) (ng:=ng) (cg:=cg) (ce:=ce) (cl:=cl) (pg:=pg) (pe:=pe) (pl:=pl) (rh:=⟨some bh,caph,ch'⟩) (br:=br) (ba:=ba) (bg:=bg) (bv:=bv) (bt:=bt) (hd:=hd) (cs:=cs) K v0 v1 htn hn hN hsW
        refine W1 7 [2,4,3,5,0,1,6] rfl rfl ?_
        simp only [List.cons_append,List.nil_append,List.drop_succ_cons,List.drop_zero]
        refine Aa rfl <| ADe rfl rfl (Na 1 [6,7,8,5,0] rfl rfl (Ef) rfl ?_)
        rintro _ _ _ ⟨ch'1,hd'1,cs'1,rfl,rfl,rfl⟩
        simp only [List.cons_append,List.nil_append]
        simp only [decide_true]
        refine wk 5 cz ?_
        simp only [List.take_succ_cons,List.take_zero,List.cons_append,List.nil_append]
        refine Qb 7 [5,0,2,1,3,6] [1,6,0,8,9,10] (by exact Uy rfl) rfl rfl rfl rfl (key2 (Ad (fM p (Ax m md)) d' (en rws k c)) ch'1 hd'1 cs'1 dm0 dm1)
      by_cases hkt:k=pv.length
      ·refine Bs (Ar (Cc rws pv.length k)) 0 rfl (fun g hg=>by
        rw [E0 (by omega) (by omega),hkt]
        split
        ·rename_i e;rw [e]
        ·rfl) ?_
       refine wk 8 cz ?_
       intro h5 h6
       refine Xx 1 [.c (pL 128159),.blk 1,.c (pL 2003),.lp (pL 500),.blk 0,.c [1,1,1,1,1]] rfl ?_
       refine Qb 7 [1,2,3,4,5,6] [0,5,6,8,9,10] (by exact Uy rfl) rfl rfl rfl rfl (key d ch hd (Ek cs k cs1) hd0 hd1)
      ·have Ef:=fun {br ba:Nat}=>AGs (rh:=⟨some bh,caph,ch⟩) (br:=br) (ba:=ba) (bk:=b5) (bt:=b4) (hd:=hd) (show pv.length<n by omega) hkn hn
       have D1:=fun {b ng cg ne ce nl cl:Nat}{pg pe pl:Option Addr}=>Gt (b:=b) (ng:=ng) (cg:=cg) (ne:=ne) (ce:=ce) (nl:=nl) (cl:=cl) (pg:=pg) (pe:=pe) (pl:=pl) K.p2 K.m1 K.q hd0 hd1
       refine Am [_,_,_,_,_,_,_] rfl ?_
       refine Lc rfl rfl (fun h5=>by exfalso;omega) (fun h5=>?_)
       refine Am [_,_,_,_,_,_,_,_] rfl ?_
       refine Aa rfl (Bm 0 rfl rfl Ci rfl ?_)
       refine Aa rfl (Bm 1 rfl rfl Ci rfl ?_)
       refine Ae it 1 rfl (by simp) ?_
       refine Am [_,_,_,_,_,_,_] rfl ?_
       refine Nd rfl rfl (fun h6=>?_) (fun h6=>by exfalso;omega)
       refine Am [_,_,_,_,_,_,_,_] rfl ?_
       refine Ae it 2 rfl (by simp) ?_
       refine W1 7 [4,3,0,1,6,2,5] rfl rfl ?_
       simp only [List.drop_succ_cons,List.drop_zero,List.cons_append,List.nil_append]
       refine Aa rfl <| ADe rfl rfl (Yy 5 [5] rfl rfl (Ef) rfl ?_)
       rintro _ _ _ ⟨cs'1,rfl,rfl,rfl⟩
       simp only [List.cons_append,List.nil_append]
       try simp only [List.drop_succ_cons,List.drop_zero]
       have htn:pv.length<n:=hpl
       have hht:=hhd pv.length htn
       have hmb:Bc k [pv.length]=false:=by
        rw [Ag,decide_eq_false hkt];rfl
       refine Dj 7 (pv.length) 1 (W) rfl rfl (by first|assumption|omega) (by first|rfl|assumption|(simp [Ag,Bc];done)|(simp [Ag,Bc];omega)) (by first|assumption|omega) fun r1 hr3=>?_
       simp only [List.take_succ_cons,List.take_zero,List.cons_append,List.nil_append]
       refine Dj 8 (k) 1 (W) rfl rfl (by first|assumption|omega) (by first|rfl|assumption|(simp [Ag,Bc];done)|(simp [Ag,Bc];omega)) (by first|assumption|omega) fun r2 hr4=>?_
       simp only [List.take_succ_cons,List.take_zero,List.cons_append,List.nil_append]
       refine Bu 8 k 1 2 1 rfl rfl rfl rfl hkn hmb ?_
       simp only [List.eraseIdx_cons_zero,List.eraseIdx_cons_succ,List.take_succ_cons,List.take_zero,List.cons_append,List.nil_append]
       refine Bu 7 pv.length 0 1 0 rfl rfl rfl rfl htn rfl ?_
       simp only [List.eraseIdx_cons_zero,List.eraseIdx_cons_succ,List.take_succ_cons,List.take_zero,List.cons_append,List.nil_append]
       have e1:hd pv.length=(r1.bo,W,r1.cap):=Fq (by assumption) htn
       have e2:hd k=(r2.bo,W,r2.cap):=Fq (by assumption) hkn
       rw [show Ek (Ek hd k (r1.bo,W,r1.cap)) pv.length (r2.bo,W,r2.cap)=Ek (Ek hd pv.length (hd k)) k (hd pv.length) from by
        rw [← e1,← e2]
        funext j
        by_cases g1:j=k
        ·subst g1
         rw [Bo,C0 hkt,Bo]
        ·rw [C0 g1]
         by_cases g2:j=pv.length
         ·rw [g2,Bo,Bo]
         ·rw [C0 g2,C0 g2,C0 g1]]
       refine Bs (Ar (Cc rws pv.length k)) 0 rfl (fun g hg=>by
        rw [E0 (by omega) (by omega)]
        by_cases g1:g=k
        ·subst g1
         rw [if_pos rfl,C0 hkt,Bo]
        ·rw [if_neg g1]
         by_cases g2:g=pv.length
         ·rw [if_pos g2,g2,Bo]
         ·rw [if_neg g2,C0 g2,C0 g1]) ?_
       have hnl:=AC7 (show 0<p by have:=K.p2;omega) m d.toNat
       refine wk 5 (ct @D1 cz) ?_
       refine Xx 1 [.c (pL 128159),.blk 1,.c (pL 2003),.lp (pL 500),.blk 0,.c [1,1,1,1,1]] rfl ?_
       refine Qb 7 [3,5,1,0,6,4] [0,12,7,15,16,17] (by exact Uy rfl) rfl rfl rfl rfl (key ((nP p m d.toNat:Nat):Int) cs'1 (Ek (Ek hd pv.length (hd k)) k (hd pv.length)) (Ek (Ek (Ek cs k cs1) k r1.cs) pv.length r2.cs) (Int.natCast_nonneg _) (Int.ofNat_lt.2 hnl))
    ·obtain rfl:k=n:=by omega
     have eC:N-c=N-(c+1)+1:=by omega
     have eF:Hr rws pv.length c=none:=Zp fun j h1 h2=>hk3 j h1 (by omega)
     rw [eC,J9,Dr,eF] at hE1 hE2
     refine wk 20 cz ?_
     intro h3 h4
     refine Qb 7 [2,3,4,5,6] [1,2,0,4,5,6] (by exact Uy rfl) rfl rfl rfl rfl (ih (c+1,r,d,ch,hd,cs,rws,pv) (by dsimp only;omega) ⟨by dsimp only;omega,hl,hM,hpv,⟨hd0,hd1⟩,hE1,hE2⟩)
   ·have hpe:rws.length≤pv.length:=by omega
    rw [J9,Lk _ _ _ _ hpe,List.append_nil] at hE2
    rw [J9,Lk _ _ _ _ hpe] at hE1
    refine wk 16 cz ?_
    intro h1 h2
    obtain ⟨E1,E2⟩:=EE
    dsimp only at hE1 hE2
    subst hE1
    subst hE2
    refine D4 5 [0,4] [0,1,2] rfl (.tmp rfl (.tmp rfl .nil)) rfl rfl rfl ⟨r,ch,hd,cs,d,rfl,rfl,rfl⟩
  ·have e0:N-c=0:=by omega
   rw [e0] at hE1 hE2
   rw [J9,Dr,List.append_nil] at hE2
   rw [J9,Dr] at hE1
   refine wk 12 cz ?_
   intro h1
   obtain ⟨E1,E2⟩:=EE
   dsimp only at hE1 hE2
   subst hE1
   subst hE2
   refine D4 5 [0,4] [0,1,2] rfl (.tmp rfl (.tmp rfl .nil)) rfl rfl rfl ⟨r,ch,hd,cs,d,rfl,rfl,rfl⟩
theorem Lp {b p m n N ng cg ce cl:Nat}{pg pe pl:Option Addr}{rh:Row}{hd:Nat→Hd}{cs:Nat→List Value}{rows:List (List Int)}{md:List Int}(K:Fok p m md) (hn:n≤1000000) (hN:N≤1000000) (hl:rows.length=n) (hM:Cw (p ^ m) N rows) :
  Bt Tryz.prog 174 [.pointer (some ⟨b,0,none⟩),.slice (ad rh.bo) n rh.cap,.int .i64 N,.slice none 0 0] ((rh.bo,22,rh.cs)::C8 3 hd cs n [])
   [Jc b p m (p ^ m) pg ng cg pe (p ^ m-1) ce pl (p ^ m) cl,Ap Ai pe (p ^ m-1) ce (Jh p m md),Ap Ai pl (p ^ m) cl (Jk p m md),A7 Sl rh n (Iy hd n),Ei Ai hd cs (Ar rows) n []]
   (ElQ rh n (J9 p m md N 0 0 rows)) :=
 Tj K hn (Nat.le_refl N) hN hl hM
end Go.Proofs.YtpienolhkccpnaaGreat
