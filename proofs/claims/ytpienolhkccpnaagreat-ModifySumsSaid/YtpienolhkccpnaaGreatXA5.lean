/-
The elements of a finite field other than 0 are the powers of one of them. Sums digit by digit, negatives and inverses. The document's fields: products. Residues without divisors of 0 come from irreducible polynomials; the program's product. The program's fields: orders, primes, digits, values, shapes. The program's product of residues. The program's powers of an element. The program's generator, Check and New. The program's New: a field behind a pointer. The methods of a field behind a pointer. The negative and the inverse in the document. Sets of positions. Sums of products of two rows of fractions: bounds, steps; what is feasible, as a test. Columns of Krawtchouk numbers as rows of fractions; certificates as they are handed in. The library of slices. Copies of rows, checks of matrices. A multiple of a row is added to a row in place. A matrix is copied row by row. The steps of an elimination. The clearing step of an elimination. The scaling step of an elimination. The steps of an elimination on the rows alone.
-/
import Derived.Test.YtpienolhkccpnaaGreatXA4
set_option linter.unusedVariables false
set_option linter.unusedSimpArgs false
namespace Go.Proofs.YtpienolhkccpnaaGreat
set_option maxRecDepth 100000
set_option linter.unusedVariables false
set_option linter.unusedSimpArgs false
structure Rng (q:Nat) (A M:Nat→Nat→Nat):Prop where
 q2:2≤q
 al:∀ x y,x<q→y<q→A x y<q
 ac:∀ x y,x<q→y<q→A x y=A y x
 aa:∀ x y z,x<q→y<q→z<q→A (A x y) z=A x (A y z)
 a0:∀ x,x<q→A x 0=x
 an:∀ x,x<q→∃ y,y<q∧A x y=0
 ml:∀ x y,x<q→y<q→M x y<q
 mc:∀ x y,x<q→y<q→M x y=M y x
 ma:∀ x y z,x<q→y<q→z<q→M (M x y) z=M x (M y z)
 md:∀ x y z,x<q→y<q→z<q→M x (A y z)=A (M x y) (M x z)
 m1:∀ x,x<q→M x 1=x
theorem Fld.rng {q:Nat}{A M:Nat→Nat→Nat}(F:Fld q A M):Rng q A M:=⟨F.q2,F.al,F.ac,F.aa,F.a0,F.an,F.ml,F.mc,F.ma,F.md,F.m1⟩
theorem Rng.fld {q:Nat}{A M:Nat→Nat→Nat}(R:Rng q A M) (h:∀ x y,x<q→y<q→M x y=0→x=0∨y=0):Fld q A M:=⟨R.q2,R.al,R.ac,R.aa,R.a0,R.an,R.ml,R.mc,R.ma,R.md,R.m1,h⟩
def B6 (M:Nat→Nat→Nat) (x:Nat):Nat→Nat
 | 0=>1
 | k+1=>M (B6 M x k) x
section
variable {q:Nat}{A M:Nat→Nat→Nat}(R:Rng q A M)
include R
theorem Rng.pw_lt {x:Nat}(hx:x<q):∀ k,B6 M x k<q
 | 0=>R.q2
 | k+1=>R.ml _ _ (Rng.pw_lt hx k) hx
theorem Rng.pw_add {x:Nat}(hx:x<q) (i:Nat):∀ j,B6 M x (i+j)=M (B6 M x i) (B6 M x j)
 | 0=>(R.m1 _ (R.pw_lt hx i)).symm
 | j+1=>by
  show M (B6 M x (i+j)) x=M (B6 M x i) (M (B6 M x j) x)
  rw [Rng.pw_add hx i j,R.ma _ _ _ (R.pw_lt hx i) (R.pw_lt hx j) hx]
theorem Rng.one_mul {x:Nat}(hx:x<q):M 1 x=x:=by rw [R.mc 1 x R.q2 hx,R.m1 x hx]
theorem Rng.pw_one:∀ k,B6 M 1 k=1
 | 0=>rfl
 | k+1=>by
  show M (B6 M 1 k) 1=1
  rw [Rng.pw_one k,R.m1 1 R.q2]
theorem Rng.pw_mul {x:Nat}(hx:x<q) (i:Nat):∀ j,B6 M (B6 M x i) j=B6 M x (i*j)
 | 0=>rfl
 | j+1=>by
  show M (B6 M (B6 M x i) j) (B6 M x i)=B6 M x (i*(j+1))
  rw [Rng.pw_mul hx i j,Nat.mul_succ,R.pw_add hx]
theorem Rng.pw_prod {x y:Nat}(hx:x<q) (hy:y<q):∀ k,B6 M (M x y) k=M (B6 M x k) (B6 M y k)
 | 0=>(R.m1 1 R.q2).symm
 | k+1=>by
  have h1:=R.pw_lt hx k
  have h2:=R.pw_lt hy k
  show M (B6 M (M x y) k) (M x y)=M (M (B6 M x k) x) (M (B6 M y k) y)
  rw [Rng.pw_prod hx hy k,R.ma _ _ _ h1 h2 (R.ml _ _ hx hy),R.ma _ _ _ h1 hx (R.ml _ _ h2 hy),← R.ma _ _ _ h2 hx hy,R.mc _ x h2 hx,R.ma _ _ _ hx h2 hy]
theorem Rng.m0 {x:Nat}(hx:x<q):M x 0=0:=by
 have hq:=R.q2
 have h1:=R.md x 0 0 hx (by omega) (by omega)
 have h2:=R.ml x 0 hx (by omega)
 obtain ⟨y,hy,e⟩:=R.an (M x 0) h2
 have h3:A (M x 0) y=A (A (M x 0) (M x 0)) y:=by rw [← h1,R.a0 0 (by omega)]
 rw [R.aa _ _ _ h2 h2 hy,e,R.a0 _ h2] at h3
 exact h3.symm
theorem Rng.z0 {x:Nat}(hx:x<q):A 0 x=x:=by
 have hq:=R.q2
 rw [R.ac 0 x (by omega) hx,R.a0 x hx]
def L8 (q:Nat) (M:Nat→Nat→Nat) (x:Nat):Prop:=(∀ i j,i<j→j<q-1→B6 M x i≠B6 M x j)∧(∀ i,i<q-1→B6 M x i≠0)∧B6 M x (q-1)=1
theorem Rng.gen_mod {x:Nat}(hx:x<q) (h:L8 q M x):∀ k,B6 M x k=B6 M x (k % (q-1)):=by
 intro k
 have h1:∀ n,B6 M x ((q-1)*n)=1:=fun n=>by rw [← R.pw_mul hx,h.2.2,R.pw_one]
 conv=>lhs;rw [← Nat.div_add_mod k (q-1)]
 rw [R.pw_add hx,h1,R.one_mul (R.pw_lt hx _)]
theorem Rng.gen_all {x:Nat}(hx:x<q) (h:L8 q M x) {a:Nat}(ha:a<q) (h0:a≠0):∃ i,i<q-1∧B6 M x i=a:=by
 have hq:=R.q2
 have h1:=AGb (q:=q) (φ:=fun i=>if i=0 then 0 else B6 M x (i-1)) (fun i hi=>by
   split
   ·omega
   ·exact R.pw_lt hx _) (fun i j hi hj e=>by
   by_cases i0:i=0
   ·rw [if_pos i0] at e
    by_cases j0:j=0
    ·omega
    ·rw [if_neg j0] at e
     exact absurd e.symm (h.2.1 _ (by omega))
   ·rw [if_neg i0] at e
    by_cases j0:j=0
    ·rw [if_pos j0] at e
     exact absurd e (h.2.1 _ (by omega))
    ·rw [if_neg j0] at e
     rcases Nat.lt_trichotomy (i-1) (j-1) with h3|h3|h3
     ·exact absurd e (h.1 _ _ h3 (by omega))
     ·omega
     ·exact absurd e.symm (h.1 _ _ h3 (by omega))) (y:=a) ha
 refine Classical.byContradiction fun hn=>?_
 have h2:sm q (fun i=>if (if i=0 then 0 else B6 M x (i-1))=a then (1:Int) else 0)=sm q (fun _=>0):=Sq fun i hi=>if_neg fun e=>by
  by_cases i0:i=0
  ·rw [if_pos i0] at e;exact h0 e.symm
  ·rw [if_neg i0] at e;exact hn ⟨i-1,by omega,e⟩
 rw [h2,Vo] at h1
 omega
theorem Rng.gen_nz {x:Nat}(hx:x<q) (h:L8 q M x):∀ a b,a<q→b<q→M a b=0→a=0∨b=0:=by
 intro a b ha hb e
 have hq:=R.q2
 by_cases a0:a=0
 ·exact .inl a0
 by_cases b0:b=0
 ·exact .inr b0
 obtain ⟨i,hi,rfl⟩:=R.gen_all hx h ha a0
 obtain ⟨j,hj,rfl⟩:=R.gen_all hx h hb b0
 rw [← R.pw_add hx,R.gen_mod hx h] at e
 exact absurd e (h.2.1 _ (Nat.mod_lt _ (by omega)))
end
theorem ACt {P:Nat→Prop}:∀ n,P n→∃ k,k≤n∧P k∧∀ j,j<k→¬ P j:=by
 intro n
 induction n using Nat.strongRecOn with
 | _ n ih =>
  intro h
  by_cases hj:∃ j,j<n∧P j
  ·obtain ⟨j,hj,hp⟩:=hj
   obtain ⟨k,h1,h2,h3⟩:=ih j hj hp
   exact ⟨k,by omega,h2,h3⟩
  ·exact ⟨n,Nat.le_refl _,h,fun j h1 h2=>hj ⟨j,h1,h2⟩⟩
theorem AJl {m:Nat}(hm:2≤m):∃ r,Prm r∧r∣m:=by
 obtain ⟨r,_,⟨h1,h2⟩,h3⟩:=ACt (P:=fun d=>2≤d∧d∣m) m ⟨hm,Nat.dvd_refl m⟩
 exact ⟨r,⟨h1,fun d hd hl hdr=>h3 d hl ⟨hd,Nat.dvd_trans hdr h2⟩⟩,h2⟩
theorem ADh {r:Nat}(hr:2≤r):∀ m:Nat,1≤m→∃ k m',m=r ^ k*m'∧¬ r∣m':=by
 intro m
 induction m using Nat.strongRecOn with
 | _ m ih =>
  intro h1
  by_cases hd:r∣m
  ·obtain ⟨c,rfl⟩:=hd
   have hc:1≤c:=Nat.pos_of_ne_zero fun e=>by subst e;simp at h1
   have:c<r*c:=by
    have:=Nat.mul_le_mul_right c hr
    omega
   obtain ⟨k,m',e,h2⟩:=ih c this hc
   exact ⟨k+1,m',by rw [Nat.pow_succ,Nat.mul_comm (r ^ k) r,Nat.mul_assoc,← e],h2⟩
  ·exact ⟨0,m,by simp,hd⟩
theorem AFx {r m:Nat}(hr:Prm r) (h:¬ r∣m) (k:Nat):Nat.Coprime (r ^ k) m:=by
 have h1:Nat.Coprime r m:=by
  have:=AFC hr h
  rwa [Nat.gcd_comm] at this
 exact Nat.Coprime.pow_left k h1
theorem AJE {e:Nat}:∀ m:Nat,1≤m→¬ m∣e→∃ r k,Prm r∧r ^ k∣m∧¬ r ^ k∣e:=by
 intro m
 induction m using Nat.strongRecOn with
 | _ m ih =>
  intro h1 h
  have hm:2≤m:=by
   rcases Nat.lt_or_ge 1 m with h2|h2
   ·exact h2
   ·exfalso;apply h
    have:m=1:=by omega
    rw [this];exact Nat.one_dvd _
  obtain ⟨r,hr,hd⟩:=AJl hm
  obtain ⟨k,m',e1,h2⟩:=ADh hr.1 m h1
  have hk:k≠0:=fun hk=>by subst hk;rw [Nat.pow_zero,Nat.one_mul] at e1;exact h2 (e1▸hd)
  by_cases h3:r ^ k∣e
  ·have hm1:1≤m':=Nat.pos_of_ne_zero fun h0=>by subst h0;simp at e1;omega
   have hlt:m'<m:=by
    have h4:2 ^ 1≤r ^ k:=Nat.le_trans (Nat.pow_le_pow_left hr.1 1) (Nat.pow_le_pow_right (by have:=hr.1;omega) (by omega))
    have:=Nat.mul_le_mul_right m' h4
    omega
   have h5:¬ m'∣e:=fun h6=>h (by rw [e1];exact Nat.Coprime.mul_dvd_of_dvd_of_dvd (AFx hr h2 k) h3 h6)
   obtain ⟨r',k',h7,h8,h9⟩:=ih m' hlt hm1 h5
   exact ⟨r',k',h7,Nat.dvd_trans h8 (by rw [e1];exact Nat.dvd_mul_left _ _),h9⟩
  ·exact ⟨r,k,hr,by rw [e1];exact Nat.dvd_mul_right _ _,h3⟩
section
variable {q:Nat}{A M:Nat→Nat→Nat}(F:Fld q A M)
include F
def Pi (M:Nat→Nat→Nat) (x k:Nat):Prop:=1≤k∧B6 M x k=1∧∀ j,1≤j→j<k→B6 M x j≠1
theorem Fld.pw_ne {x:Nat}(hx:x<q) (h0:x≠0):∀ k,B6 M x k≠0
 | 0=>by show 1≠0;decide
 | k+1=>fun e=>(F.nz _ _ (F.rng.pw_lt hx k) hx e).elim (Fld.pw_ne hx h0 k) h0
theorem Fld.mcan {s x y:Nat}(hs:s<q) (h0:s≠0) (hx:x<q) (hy:y<q) (h:M s x=M s y):x=y:=by
 obtain ⟨ny,hn,en⟩:=F.an y hy
 have h1:M s (A x ny)=0:=by rw [F.md _ _ _ hs hx hn,h,← F.md _ _ _ hs hy hn,en,F.rng.m0 hs]
 have h2:=(F.nz _ _ hs (F.al _ _ hx hn) h1).resolve_left h0
 have h3:A (A x ny) y=A 0 y:=by rw [h2]
 rw [F.aa _ _ _ hx hn hy,F.ac ny y hn hy,en,F.a0 x hx,F.rng.z0 hy] at h3
 exact h3
theorem Fld.ord_ex {x:Nat}(hx:x<q) (h0:x≠0):∃ k,k≤q-1∧Pi M x k:=by
 have hq:=F.q2
 have h1:∃ k,k≤q-1∧1≤k∧B6 M x k=1:=by
  refine Classical.byContradiction fun hn=>?_
  have h2:=AGb (q:=q) (φ:=B6 M x) (fun i _=>F.rng.pw_lt hx i) (fun i j hi hj e=>by
   have key:∀ i j,i<j→j<q→B6 M x i≠B6 M x j:=fun i j hij hj e=>by
    refine hn ⟨j-i,by omega,by omega,?_⟩
    have h3:M (B6 M x i) 1=M (B6 M x i) (B6 M x (j-i)):=by
     rw [← F.rng.pw_add hx,show i+(j-i)=j by omega,F.m1 _ (F.rng.pw_lt hx i),e]
    exact (F.mcan (F.rng.pw_lt hx i) (F.pw_ne hx h0 i) (by omega) (F.rng.pw_lt hx _) h3).symm
   rcases Nat.lt_trichotomy i j with h3|h3|h3
   ·exact absurd e (key i j h3 hj)
   ·exact h3
   ·exact absurd e.symm (key j i h3 hi)) (y:=0) (by omega)
  have h3:sm q (fun i=>if B6 M x i=0 then (1:Int) else 0)=sm q (fun _=>0):=Sq fun i _=>if_neg (F.pw_ne hx h0 i)
  rw [h3,Vo] at h2
  omega
 obtain ⟨k,hk,h2,h3⟩:=h1
 obtain ⟨j,hj,⟨h4,h5⟩,h6⟩:=ACt (P:=fun k=>1≤k∧B6 M x k=1) k ⟨h2,h3⟩
 exact ⟨j,by omega,h4,h5,fun i hi hl e=>h6 i hl ⟨hi,e⟩⟩
theorem Fld.ord_dvd {x k:Nat}(hx:x<q) (h:Pi M x k) {n:Nat}(hn:B6 M x n=1):k∣n:=by
 obtain ⟨h1,h2,h3⟩:=h
 refine Nat.dvd_of_mod_eq_zero (Classical.byContradiction fun h0=>?_)
 refine h3 (n % k) (by omega) (Nat.mod_lt _ (by omega)) ?_
 have h4:B6 M x (k*(n / k))=1:=by rw [← F.rng.pw_mul hx,h2,F.rng.pw_one]
 conv at hn=>lhs;rw [← Nat.div_add_mod n k]
 rw [F.rng.pw_add hx,h4,F.rng.one_mul (F.rng.pw_lt hx _)] at hn
 exact hn
theorem Fld.ord_pow {x d k:Nat}(hx:x<q) (hd:1≤d) (h:Pi M x (d*k)):Pi M (B6 M x d) k:=by
 obtain ⟨h1,h2,h3⟩:=h
 refine ⟨Nat.pos_of_ne_zero fun e=>by subst e;simp at h1,by rw [F.rng.pw_mul hx,h2],fun j hj hl e=>?_⟩
 rw [F.rng.pw_mul hx] at e
 exact h3 (d*j) (Nat.mul_pos hd hj) (Nat.mul_lt_mul_of_pos_left hl hd) e
theorem Fld.ord_mul {x y a b:Nat}(hx:x<q) (hy:y<q) (ha:Pi M x a) (hb:Pi M y b) (hc:Nat.Coprime a b):Pi M (M x y) (a*b):=by
 have key:∀ {x y a b:Nat},x<q→y<q→Pi M x a→Pi M y b→Nat.Coprime a b→∀ n,B6 M (M x y) n=1→a∣n:=fun {x y a b} hx hy ha hb hc n hn=>by
  have h1:B6 M (M x y) (n*b)=1:=by rw [← F.rng.pw_mul (F.ml _ _ hx hy),hn,F.rng.pw_one]
  rw [F.rng.pw_prod hx hy,Nat.mul_comm n b,← F.rng.pw_mul hy,hb.2.1,F.rng.pw_one,F.m1 _ (F.rng.pw_lt hx _)] at h1
  exact (Nat.Coprime.dvd_of_dvd_mul_left hc (F.ord_dvd hx ha h1))
 refine ⟨Nat.mul_pos ha.1 hb.1,?_,fun j hj hl e=>?_⟩
 ·rw [F.rng.pw_prod hx hy,← F.rng.pw_mul hx,ha.2.1,F.rng.pw_one,Nat.mul_comm,← F.rng.pw_mul hy,hb.2.1,F.rng.pw_one,F.m1 1 F.q2]
 ·have h1:=key hx hy ha hb hc j e
  have h2:=key hy hx hb ha hc.symm j (by rw [F.mc y x hy hx];exact e)
  have h3:=Nat.le_of_dvd (by omega) (Nat.Coprime.mul_dvd_of_dvd_of_dvd hc h1 h2)
  omega
omit F in
theorem AD8:∀ (l:List Nat) (x:Nat),(l++[x]).getLastD 0=x:=fun l x=>by simp
def evF (A M:Nat→Nat→Nat):List Nat→Nat→Nat
 | [],_=>0
 | c::P,x=>A c (M x (evF A M P x))
theorem Fld.ev_lt {x:Nat}(hx:x<q):∀ {P:List Nat},(∀ c∈P,c<q)→evF A M P x<q
 | [],_=>by have:=F.q2;show 0<q;omega
 | c::P,h=>F.al _ _ (h c (.head _)) (F.ml _ _ hx (Fld.ev_lt hx fun d hd=>h d (.tail _ hd)))
def T4 (A M:Nat→Nat→Nat) (a:Nat):List Nat→List Nat
 | []=>[]
 | [_]=>[]
 | _::d::P=>evF A M (d::P) a::T4 A M a (d::P)
theorem Fld.syn_lt {a:Nat}(ha:a<q):∀ {P:List Nat},(∀ c∈P,c<q)→∀ c∈T4 A M a P,c<q
 | [],_,c,hc=>by cases hc
 | [_],_,c,hc=>by cases hc
 | b::d::P,h,c,hc=>by
  have h2:∀ c∈d::P,c<q:=fun e he=>h e (.tail _ he)
  rw [T4] at hc
  rcases List.mem_cons.1 hc with rfl|hc
  ·exact F.ev_lt ha h2
  ·exact Fld.syn_lt ha h2 c hc
omit F in
theorem AF0 (a:Nat):∀ P:List Nat,(T4 A M a P).length=P.length-1
 | []=>rfl
 | [_]=>rfl
 | b::d::P=>by
  rw [T4,List.length_cons,AF0 a (d::P)];simp only [List.length_cons];omega
theorem Fld.syn_last {a:Nat}(ha:a<q):∀ {P:List Nat},(∀ c∈P,c<q)→2≤P.length→(T4 A M a P).getLastD 0=P.getLastD 0
 | [],_,h=>by simp at h
 | [_],_,h=>by simp at h
 | [b,d],hP,_=>by
  have hd:d<q:=hP d (.tail _ (.head _))
  show (A d (M a 0):Nat)=d
  rw [F.rng.m0 ha,F.a0 d hd]
 | b::d::e::P,hP,_=>by
  have ih:=Fld.syn_last ha (P:=d::e::P) (fun c hc=>hP c (.tail _ hc)) (by simp)
  rw [T4]
  have hne:T4 A M a (d::e::P)≠[]:=fun h=>by rw [T4] at h;cases h
  rw [show (b::d::e::P).getLastD 0=(d::e::P).getLastD 0 by simp [List.getLastD_cons],← ih]
  obtain ⟨x,l,hl⟩:∃ x l,T4 A M a (d::e::P)=x::l:=by
   cases h:T4 A M a (d::e::P) with
   | nil=>exact absurd h hne
   | cons x l=>exact ⟨x,l,rfl⟩
  rw [hl]
  simp [List.getLastD_cons]
theorem Fld.syn_ev {a na x:Nat}(ha:a<q) (hn:na<q) (en:A a na=0) (hx:x<q):∀ {P:List Nat},(∀ c∈P,c<q)→evF A M P x=A (evF A M P a) (M (A x na) (evF A M (T4 A M a P) x))
 | [],_=>by
  have hq:=F.q2
  show 0=A 0 (M (A x na) 0)
  rw [F.rng.m0 (F.al _ _ hx hn),F.a0 0 (by omega)]
 | [c],h=>by
  have hc:=h c (.head _)
  show A c (M x 0)=A (A c (M a 0)) (M (A x na) 0)
  rw [F.rng.m0 hx,F.rng.m0 ha,F.rng.m0 (F.al _ _ hx hn),F.a0 c hc,F.a0 c hc]
 | c::d::P,h=>by
  have hc:=h c (.head _)
  have h2:∀ c∈d::P,c<q:=fun e he=>h e (.tail _ he)
  have ih:=Fld.syn_ev ha hn en hx h2
  have l1:=F.ev_lt ha h2
  have l2:=F.ev_lt hx (F.syn_lt ha h2)
  rw [T4]
  show A c (M x (evF A M (d::P) x))=A (A c (M a (evF A M (d::P) a))) (M (A x na) (A (evF A M (d::P) a) (M x (evF A M (T4 A M a (d::P)) x))))
  rw [ih]
  generalize evF A M (d::P) a=u at *
  generalize evF A M (T4 A M a (d::P)) x=v at *
  have hd:=F.al _ _ hx hn
  have m1:=F.ml _ _ hd l2
  have m2:=F.ml _ _ hx m1
  have m3:=F.ml _ _ hx l1
  have m4:=F.ml _ _ ha l1
  have m5:=F.ml _ _ hn l1
  have m6:=F.ml _ _ hd l1
  have m7:=F.ml _ _ hx l2
  have m8:=F.ml _ _ hd m7
  rw [F.md _ _ _ hx l1 m1,F.md _ _ _ hd l1 m7,← F.ma _ _ _ hx hd l2,F.mc x _ hx hd,F.ma _ _ _ hd hx l2]
  have e1:M (A x na) u=A (M x u) (M na u):=by
   rw [F.mc _ u hd l1,F.md _ _ _ l1 hx hn,F.mc u x l1 hx,F.mc u na l1 hn]
  have e2:A (M a u) (M na u)=0:=by
   rw [F.mc a u ha l1,F.mc na u hn l1,← F.md _ _ _ l1 ha hn,en,F.rng.m0 l1]
  rw [e1]
  have e3:A (M a u) (A (A (M x u) (M na u)) (M (A x na) (M x v)))=A (M x u) (M (A x na) (M x v)):=by
   rw [← F.aa _ _ _ m4 (F.al _ _ m3 m5) m8,F.ac (M x u) _ m3 m5,← F.aa _ _ _ m4 m5 m3,e2,F.rng.z0 m3]
  rw [F.aa _ _ _ hc m4 (F.al _ _ (F.al _ _ m3 m5) m8),e3]
theorem Fld.roots:∀ (d:Nat) {P:List Nat},P.length=d+1→(∀ c∈P,c<q)→P.getLastD 0≠0→∀ {l:List Nat},l.Nodup→(∀ x∈l,x<q∧evF A M P x=0)→l.length≤d
 | 0,P,hP,hc,h0,l,hn,hl=>by
  obtain ⟨c,rfl⟩:=List.length_eq_one_iff.1 hP
  cases l with
  | nil=>exact Nat.le_refl _
  | cons x l =>
   obtain ⟨hx,e⟩:=hl x (.head _)
   have hcq:=hc c (.head _)
   have e:A c (M x 0)=0:=e
   rw [F.rng.m0 hx,F.a0 c hcq] at e
   exact absurd e h0
 | d+1,P,hP,hc,h0,l,hn,hl=>by
  cases l with
  | nil=>exact Nat.zero_le _
  | cons a l =>
   obtain ⟨ha,ea⟩:=hl a (.head _)
   obtain ⟨h1,h2⟩:=List.nodup_cons.1 hn
   obtain ⟨na,hna,en⟩:=F.an a ha
   have ih:=Fld.roots d (P:=T4 A M a P) (by rw [AF0,hP];omega) (F.syn_lt ha hc) (by rw [F.syn_last ha hc (by omega)];exact h0) (l:=l) h2 (fun x hx=>by
    obtain ⟨hxq,ex⟩:=hl x (.tail _ hx)
    refine ⟨hxq,?_⟩
    have h3:=F.syn_ev ha hna en hxq hc
    have h4:=F.ev_lt hxq (F.syn_lt ha hc)
    have h5:=F.al _ _ hxq hna
    rw [ex,ea,F.rng.z0 (F.ml _ _ h5 h4)] at h3
    refine (F.nz _ _ h5 h4 h3.symm).resolve_left fun e=>h1 ?_
    have h6:A (A x na) a=A 0 a:=by rw [e]
    rw [F.aa _ _ _ hxq hna ha,F.ac na a hna ha,en,F.a0 x hxq,F.rng.z0 ha] at h6
    exact h6▸hx)
   rw [List.length_cons];omega
theorem Fld.ev_mono {x:Nat}(hx:x<q):∀ k,evF A M (List.replicate k 0++[1]) x=B6 M x k
 | 0=>by
  have hq:=F.q2
  show A 1 (M x 0)=1
  rw [F.rng.m0 hx,F.a0 1 (by omega)]
 | k+1=>by
  rw [List.replicate_succ,List.cons_append]
  show A 0 (M x (evF A M (List.replicate k 0++[1]) x))=M (B6 M x k) x
  rw [Fld.ev_mono hx k,F.rng.z0 (F.ml _ _ hx (F.rng.pw_lt hx k)),F.mc _ _ hx (F.rng.pw_lt hx k)]
theorem Fld.gen_ex:∃ x,1≤x∧x<q∧L8 q M x:=by
 have hq:=F.q2
 -- the greatest order
 obtain ⟨k0,_,⟨g,hg,hg0,e,ek,he⟩,hmax⟩:=ACt (P:=fun k=>∃ g,g<q∧g≠0∧∃ e,e+k=q-1∧Pi M g e) (q-1-(Classical.choose (F.ord_ex (x:=1) (by omega) (by decide)))) (by
  obtain ⟨h1,h2⟩:=Classical.choose_spec (F.ord_ex (x:=1) (by omega) (by decide))
  exact ⟨1,by omega,by decide,_,by omega,h2⟩)
 have hle:∀ x,x<q→x≠0→∀ k,Pi M x k→k≤e:=fun x hx h0 k hk=>by
  refine Nat.le_of_not_lt fun hlt=>?_
  obtain ⟨k',hk',ho⟩:=F.ord_ex hx h0
  have hkk:k=k':=by
   have h1:=F.ord_dvd hx hk ho.2.1
   have h2:=F.ord_dvd hx ho hk.2.1
   exact Nat.dvd_antisymm h1 h2
  exact hmax (q-1-k) (by omega) ⟨x,hx,h0,k,by omega,hk⟩
 have hall:∀ x,x<q→x≠0→B6 M x e=1:=fun x hx h0=>by
  obtain ⟨m,_,ho⟩:=F.ord_ex hx h0
  have hd:m∣e:=Classical.byContradiction fun hn=>by
   obtain ⟨r,k,hr,h1,h2⟩:=AJE m ho.1 hn
   obtain ⟨c,rfl⟩:=h1
   obtain ⟨j,e',ee,h3⟩:=ADh hr.1 e he.1
   have hrk:0<r ^ k:=Nat.pow_pos (by have:=hr.1;omega)
   have hrj:0<r ^ j:=Nat.pow_pos (by have:=hr.1;omega)
   have hc:1≤c:=Nat.pos_of_ne_zero fun h0=>by subst h0;have:=ho.1;simp at this
   have o1:Pi M (B6 M x c) (r ^ k):=F.ord_pow hx hc (by rw [Nat.mul_comm];exact ho)
   have o2:Pi M (B6 M g (r ^ j)) e':=F.ord_pow hg hrj (by rw [← ee];exact he)
   have o3:=F.ord_mul (F.rng.pw_lt hx c) (F.rng.pw_lt hg _) o1 o2 (AFx hr h3 k)
   have hne:M (B6 M x c) (B6 M g (r ^ j))≠0:=fun h=>(F.nz _ _ (F.rng.pw_lt hx c) (F.rng.pw_lt hg _) h).elim (F.pw_ne hx h0 c) (F.pw_ne hg hg0 _)
   have h4:=hle _ (F.ml _ _ (F.rng.pw_lt hx c) (F.rng.pw_lt hg _)) hne _ o3
   have h5:j<k:=Nat.lt_of_not_le fun hkj=>h2 (by rw [ee];exact Nat.dvd_trans (Nat.pow_dvd_pow r hkj) (Nat.dvd_mul_right _ _))
   have h6:r ^ j<r ^ k:=Nat.pow_lt_pow_right hr.1 h5
   have h7:=Nat.mul_lt_mul_of_pos_right h6 (show 0<e' from o2.1)
   omega
  obtain ⟨c,rfl⟩:=hd
  rw [← F.rng.pw_mul hx,ho.2.1,F.rng.pw_one]
 obtain ⟨n1,hn1,en1⟩:=F.an 1 (by omega)
 obtain ⟨e0,rfl⟩:∃ e0,e=e0+1:=⟨e-1,by have:=he.1;omega⟩
 have hroots:=F.roots (e0+1) (P:=n1::(List.replicate e0 0++[1])) (by simp) (fun c hc=>by
   rcases List.mem_cons.1 hc with rfl|hc
   ·exact hn1
   ·rcases List.mem_append.1 hc with hc|hc
    ·rw [(List.mem_replicate.1 hc).2];omega
    ·rw [List.mem_singleton.1 hc];omega) (by rw [← List.cons_append,AD8];decide) (l:=List.range' 1 (q-1)) (List.nodup_range' ..) (fun x hx=>by
   obtain ⟨h1,h2⟩:=List.mem_range'_1.1 hx
   refine ⟨by omega,?_⟩
   have hxq:x<q:=by omega
   show A n1 (M x (evF A M (List.replicate e0 0++[1]) x))=0
   have:=hall x hxq (by omega)
   rw [F.ev_mono hxq,F.mc _ _ hxq (F.rng.pw_lt hxq _)]
   have h3:M (B6 M x e0) x=1:=this
   rw [h3,F.ac n1 1 hn1 (by omega),en1])
 rw [List.length_range'] at hroots
 have eq:e0+1=q-1:=by omega
 rw [eq] at he
 refine ⟨g,by omega,hg,fun i j hij hj e=>?_,fun i _=>F.pw_ne hg hg0 i,he.2.1⟩
 have h3:M (B6 M g i) 1=M (B6 M g i) (B6 M g (j-i)):=by
  rw [← F.rng.pw_add hg,show i+(j-i)=j by omega,F.m1 _ (F.rng.pw_lt hg i),e]
 exact he.2.2 (j-i) (by omega) (by omega) (F.mcan (F.rng.pw_lt hg i) (F.pw_ne hg hg0 i) (by omega) (F.rng.pw_lt hg _) h3).symm
end
set_option maxRecDepth 100000
set_option linter.unusedVariables false
set_option linter.unusedSimpArgs false
theorem ABZ (p m x:Nat):Di p (m+1) x 0=((x % p:Nat):Int):=by rw [Qx (by omega)];rfl
theorem ADp (p m x j:Nat):Di p (m+1) x (j+1)=Di p m (x / p) j:=by
 by_cases h:j<m
 ·rw [Qx (by omega),Qx h];rfl
 ·rw [Vs (by omega),Vs (by omega)]
theorem AJO (p m:Nat) (v:Vz):un p (m+1) v=(v 0 % p).toNat+p*un p m fun j=>v (j+1):=by
 rw [un,List.range_succ_eq_map,List.map_cons,Gx,List.map_map];rfl
theorem Zw (p m x y:Nat):fA p (m+1) x y=(x % p+y % p) % p+p*fA p m (x / p) (y / p):=by
 rw [fA,AJO,ABZ,ABZ,← Int.natCast_add,← Int.natCast_emod,Int.toNat_natCast,fA]
 rw [show (fun j=>Di p (m+1) x (j+1)+Di p (m+1) y (j+1))=fun j=>Di p m (x / p) j+Di p m (y / p) j from funext fun j=>by rw [ADp,ADp]]
theorem AKt (p:Nat):∀ m,fA p m 0 0=0
 | 0=>rfl
 | m+1=>by rw [Zw,Nat.zero_div,AKt p m,Nat.zero_mod,Nat.zero_mod];rfl
theorem AHH:∀ {m x y:Nat},x<2 ^ m→y<2 ^ m→fA 2 m x y=x ^^^ y
 | 0,x,y,hx,hy=>by
  obtain rfl:x=0:=by simpa using hx
  obtain rfl:y=0:=by simpa using hy
  rfl
 | m+1,x,y,hx,hy=>by
  rw [Nat.pow_succ] at hx hy
  rw [Zw,AHH (by omega) (by omega)]
  have h1:(x ^^^ y) / 2=x / 2 ^^^ y / 2:=by rw [Nat.xor_div_two]
  have h2:(x ^^^ y) % 2=(x % 2+y % 2) % 2:=by
   have h3:=Nat.xor_mod_two_pow (a:=x) (b:=y) (n:=1)
   rw [Nat.pow_one] at h3
   rw [h3]
   rcases Nat.mod_two_eq_zero_or_one x with e|e <;> rcases Nat.mod_two_eq_zero_or_one y with e'|e' <;> rw [e,e'] <;> rfl
  rw [← h1,← h2]
  omega
def nP (p m x:Nat):Nat:=Gx p ((Dm p m x).map fun d=>(p-d) % p)
theorem ACq (p m x:Nat):nP p (m+1) x=(p-x % p) % p+p*nP p m (x / p):=rfl
theorem AJq (p:Nat):∀ m,nP p m 0=0
 | 0=>rfl
 | m+1=>by rw [ACq,Nat.zero_div,AJq p m,Nat.zero_mod,Nat.sub_zero,Nat.mod_self,Nat.mul_zero]
theorem AD0 {p:Nat}(hp:0<p) (m x:Nat):nP p m x<p ^ m:=by
 have:=Nk hp (l:=(Dm p m x).map fun d=>(p-d) % p) fun d hd=>by
  obtain ⟨e,_,rfl⟩:=List.mem_map.1 hd
  exact Nat.mod_lt _ hp
 rwa [List.length_map,D7] at this
theorem AKj {p:Nat}(hp:0<p):∀ (m x:Nat),fA p m x (nP p m x)=0
 | 0,_=>rfl
 | m+1,x=>by
  have h1:=Nat.mod_lt (p-x % p) hp
  have h2:=Nat.mod_lt x hp
  rw [Zw,ACq,Nat.add_mul_div_left _ _ hp,Nat.div_eq_of_lt h1,Nat.zero_add,AKj hp m,Nat.add_mul_mod_self_left,Nat.mod_mod,Nat.add_mod_mod,Nat.mul_zero,Nat.add_zero,Nat.add_sub_of_le (by omega),Nat.mod_self]
def iF (q:Nat) (M:Nat→Nat→Nat) (x:Nat):Nat:=((List.range' 1 (q-1)).find? fun y=>decide (M x y=1)).getD 0
theorem AHf {q x:Nat}{M:Nat→Nat→Nat}(h:∃ y,1≤y∧y<q∧M x y=1):(1≤iF q M x∧iF q M x<q)∧M x (iF q M x)=1:=by
 obtain ⟨y,h1,h2,h3⟩:=h
 rw [iF]
 cases hf:(List.range' 1 (q-1)).find? fun y=>decide (M x y=1) with
 | none =>
  have:=List.find?_eq_none.1 hf y (List.mem_range'_1.2 ⟨h1,by omega⟩)
  simp [h3] at this
 | some z =>
  have h4:=List.mem_range'_1.1 (List.mem_of_find?_eq_some hf)
  exact ⟨⟨h4.1,by show z<q;omega⟩,by simpa using List.find?_some hf⟩
section
variable {q:Nat}{A M:Nat→Nat→Nat}(R:Rng q A M)
include R
theorem Rng.inv_one {x y z:Nat}(hx:x<q) (hy:y<q) (hz:z<q) (h1:M x y=1) (h2:M x z=1):y=z:=by
 have e:M y (M x z)=y:=by rw [h2,R.m1 _ hy]
 rw [← e,← R.ma _ _ _ hy hx hz,R.mc _ _ hy hx,h1,R.mc _ _ R.q2 hz,R.m1 _ hz]
theorem Rng.exp_mul {g i j:Nat}(hg:g<q) (h:L8 q M g):B6 M g ((i+j) % (q-1))=M (B6 M g i) (B6 M g j):=by
 rw [← R.gen_mod hg h,R.pw_add hg]
theorem Rng.exp_inv {g i:Nat}(hg:g<q) (h:L8 q M g) (hi:i<q-1):M (B6 M g i) (B6 M g ((q-1-i) % (q-1)))=1:=by
 rw [← R.gen_mod hg h,← R.pw_add hg,show i+(q-1-i)=q-1 by omega,h.2.2]
end
open Go Go.Fw
set_option maxRecDepth 100000
set_option linter.unusedVariables false
set_option linter.unusedSimpArgs false
set_option maxHeartbeats 0
theorem AFI (l:List Nat) (i z:Nat):Bc (l.set i z)=(Bc l).set i (z:Int):=by simp [Bc,List.map_set]
theorem Pg {l:List Nat}{i:Nat}:(Bc l).getD i 0=((l.getD i 0:Nat):Int):=by
 rw [Bc,List.getD_eq_getElem?_getD,List.getD_eq_getElem?_getD,List.getElem?_map]
 cases l[i]? <;> rfl
theorem Xj {l:List Nat}{i:Nat}(h:i<l.length):l[i]?=some (l.getD i 0):=by
 rw [List.getD_eq_getElem?_getD,List.getElem?_eq_getElem h];rfl
theorem ABR (n:Nat):Bc (List.replicate n 0)=List.replicate n 0:=by simp [Bc]
theorem Hf {p m nm cm:Nat}{md:List Int}{pm:Option Addr}(K:Fok p m md) {x y:Int}(x0:0≤x) (x1:x<((p ^ m:Nat):Int)) (y0:0≤y) (y1:y<((p ^ m:Nat):Int)) :
  Bn Tryz.prog 132 [.agg #[.int .i64 p,.int .i64 m,.slice pm nm cm],.int .i64 x,.int .i64 y] [] [Ap Aj pm nm cm md] (Rv (.int .i64 (Ad (fM p (Az m md)) x y)) []):=by
 refine Ab (F:=Rn) rfl fun C=>?_
 have h1:=K.p2
 have h2:=K.p256
 have h3:=K.m8
 have h4:=K.q
 have h5:=K.m1
 have lx:=D7 p m x.toNat
 have ly:=D7 p m y.toNat
 have fl:=K.flen
 have md0:=AIi (p:=p) (by omega) (f:=Az m md) (by omega) x.toNat y.toNat
 rw [fl] at md0
 have xr:=fun d hd=>Jq (p:=p) (n:=m) (x:=x.toNat) (by omega) d hd
 have yr:=fun d hd=>Jq (p:=p) (n:=m) (x:=y.toNat) (by omega) d hd
 have eR:Ad (fM p (Az m md)) x y=((Gx p ((List.range m).map fun j=>(Cy (Az m md) (Di p m x.toNat) (Di p m y.toNat) j % p).toNat):Nat):Int):=by
  rw [Ad,fM,un,fl]
 rw [eR]
 clear eR
 refine A9 0 rfl fun hn _ _=>?_
 subst hn
 generalize hT:(List.range m).map (fun j=>(Cy (Az m md) (Di p m x.toNat) (Di p m y.toNat) j % p).toNat)=T at *
 have lT:T.length=m:=by rw [← hT];simp
 have rT:∀ d∈T,d<p:=fun d hd=>by rw [← hT] at hd;exact AC6 (by omega) _ d hd
 clear hT
 have ep:p ^ T.length≤1000000:=by rw [lT];omega
 have Ii:=fun {z:Int}(z0:0≤z) (z1:z<((p ^ m:Nat):Int))=>Ej (nm:=md.length) (cm:=cm) (pm:=pm) K z0 z1
 refine wk 22 (ct @Ii (ct @Ii cz)) ?_
 intro b1 b2 b3 b4
 generalize hDX:Dm p m x.toNat=DX at *
 generalize hDY:Dm p m y.toNat=DY at *
 have mL:=Vq p m (Bc DX) (Bc DY)
 have mR:=AAY (p:=p) (by omega) m (Bc DX) (Bc DY)
 refine Af (X:=Nat×List Nat) [3,6,7,8,9] [0] (fun x=>[(10,.int .i64 (x.1:Int))]) (fun x=>[(some b4,3,Ao .i64 x.2),(some b3,3,Ao .i64 DY),(some b2,3,Ao .i64 DX),(some b1,24,[.int .i64 p,.int .i64 m,.slice pm md.length cm])]) (fun _=>[])
  (fun x=>x.1≤m∧Bc x.2=T2 p m (Bc DX) (Bc DY) x.1) (fun x=>m-x.1) (0,List.replicate (2*m-1) 0) [] rfl rfl rfl ⟨Nat.zero_le _,ABR _⟩ (by repeat (first|exact Fr.sub_nil _|refine Fr.sub_cons rfl ?_)) rfl rfl ?_
 rintro ⟨i,L⟩ ⟨hi,hL⟩ ih
 simp only [List.cons_append,List.nil_append] at hi hL ih ⊢
 by_cases hil:i<m
 ·refine wk 10 cz ?_
  intro h6
  have ihn:=fun l h=>ih (i+1,l) (by dsimp only;omega) ⟨by dsimp only;omega,h⟩
  simp only [T2] at ihn
  rw [← hL] at ihn
  have lL:L.length=2*m-1:=by rw [← Co,hL,mL]
  have rL:∀ z∈Bc L,0≤z∧z<(p:Int):=by rw [hL];exact mR i
  have zx:=Xj (l:=DX) (i:=i) (by omega)
  have bx:=xr _ (List.mem_of_getElem? zx)
  rw [Pg] at ihn
  generalize DX.getD i 0=u at *
  refine Af (X:=Nat×List Nat) [3,6,7,8,9,10,25,26,27,28] [0] (fun x=>[(11,.int .i64 (x.1:Int))]) (fun x=>[(some b4,3,Ao .i64 x.2),(some b3,3,Ao .i64 DY),(some b2,3,Ao .i64 DX),(some b1,24,[.int .i64 p,.int .i64 m,.slice pm md.length cm])]) (fun _=>[])
   (fun x=>x.1≤m∧Bc x.2=En p (u:Int) (Bc DY) i x.1 (Bc L)) (fun x=>m-x.1) (0,L) [] rfl rfl rfl ⟨Nat.zero_le _,rfl⟩ (by repeat (first|exact Fr.sub_nil _|refine Fr.sub_cons rfl ?_)) rfl rfl ?_
  rintro ⟨j,S⟩ ⟨hj,hS⟩ ihj
  simp only [List.cons_append,List.nil_append] at hj hS ihj ⊢
  by_cases hjl:j<m
  ·have lS:S.length=2*m-1:=by rw [← Co,hS,Hz,Co,lL]
   have rS:=J0 (p:=p) (by omega) (u:Int) (Bc DY) i rL j
   rw [← hS] at rS
   have ihj':=fun l h=>ihj (j+1,l) (by dsimp only;omega) ⟨by dsimp only;omega,h⟩
   simp only [En] at ihj'
   rw [← hS] at ihj'
   simp only [Pg] at ihj'
   have zy:=Xj (l:=DY) (i:=j) (by omega)
   have by':=yr _ (List.mem_of_getElem? zy)
   have zs:=Xj (l:=S) (i:=i+j) (by omega)
   have bs:=rS _ (List.mem_of_getElem? (I2 zs))
   generalize DY.getD j 0=v at *
   generalize S.getD (i+j) 0=s at *
   have huv:u*v≤65536:=Nat.le_trans (Nat.mul_le_mul (show u≤256 by omega) (show v≤256 by omega)) (by decide)
   have huv':(u:Int)*(v:Int)=((u*v:Nat):Int):=by omega
   have hb0:0≤(u:Int)*(v:Int)∧(u:Int)*(v:Int)≤65536:=by omega
   have em:((s:Int)+(u:Int)*(v:Int)) % (p:Int)=(((s+u*v) % p:Nat):Int):=by rw [huv',← Int.natCast_add,← Int.natCast_emod]
   have hmod:(s+u*v) % p<p:=Nat.mod_lt _ (by omega)
   refine wk 14 cz ?_
   intro h7
   exact tw (ihj' (S.set (i+j) ((s+u*v) % p)) (by rw [AFI,← em]))
  ·obtain rfl:j=m:=by omega
   refine wk 10 cz ?_
   intro h7
   exact tw (ihn S hS)
 ·obtain rfl:i=m:=by omega
  clear ih
  rw [← hL] at md0
  have lL:L.length=2*i-1:=by rw [← Co,hL,mL]
  have rL:∀ z∈Bc L,0≤z∧z<(p:Int):=by rw [hL];exact mR i
  clear hL mL mR
  have kL:=Wz p (Az i md) (Bc L)
  have kR:=AAp (p:=p) (by omega) (Az i md) rL
  have tl:(Bc L).length=2*i-1:=by rw [Co,lL]
  rw [tl] at kL
  refine wk 12 cz ?_
  intro h6
  refine Af (X:=Nat×List Nat) [3,6,9] [0] (fun x=>[(12,.int .i64 (2*(i:Int)-2-(x.1:Int)))]) (fun x=>[(some b4,3,Ao .i64 x.2),(some b3,3,Ao .i64 DY),(some b2,3,Ao .i64 DX),(some b1,24,[.int .i64 p,.int .i64 i,.slice pm md.length cm])]) (fun _=>[])
   (fun x=>x.1≤i-1∧Bc x.2=Ru p (Az i md) (Bc L) x.1) (fun x=>i-1-x.1) (0,L) [] rfl rfl rfl ⟨Nat.zero_le _,rfl⟩ (by refine Fr.sub_consI rfl (by simp) ?_;repeat (first|exact Fr.sub_nil _|refine Fr.sub_cons rfl ?_)) rfl rfl ?_
  rintro ⟨n,Z⟩ ⟨hn,hZ⟩ ih
  simp only [List.cons_append,List.nil_append] at hn hZ ih ⊢
  by_cases hnl:n<i-1
  ·have hi1:i≠1:=by omega
   have hfp:Az i md=md:=if_neg hi1
   have hml:md.length=i:=K.len hi1
   have hrm:=K.rng
   refine wk 10 cz ?_
   intro h7
   have ihn:=fun l h=>ih (n+1,l) (by dsimp only;omega) ⟨by dsimp only;omega,h⟩
   simp only [Ru] at ihn
   rw [← hZ,tl,hfp,Pg,show 2*i-1-1-n=2*i-2-n by omega] at ihn
   have lZ:Z.length=2*i-1:=by rw [← Co,hZ,kL]
   have rZ:∀ z∈Bc Z,0≤z∧z<(p:Int):=by rw [hZ];exact kR n
   have zc:=Xj (l:=Z) (i:=2*i-2-n) (by omega)
   have bc:=rZ _ (List.mem_of_getElem? (I2 zc))
   generalize hcv:Z.getD (2*i-2-n) 0=c at *
   have hpc:(p:Int)-(c:Int)=((p-c:Nat):Int):=by omega
   rw [hpc] at ihn
   refine Af (X:=Nat×List Nat) [3,6,9,12,65,66,67,68] [0] (fun x=>[(13,.int .i64 (x.1:Int))]) (fun x=>[(some b4,3,Ao .i64 x.2),(some b3,3,Ao .i64 DY),(some b2,3,Ao .i64 DX),(some b1,24,[.int .i64 p,.int .i64 i,.slice pm md.length cm])]) (fun _=>[])
    (fun x=>x.1≤i∧Bc x.2=En p ((p-c:Nat):Int) md (2*i-2-n-i) x.1 (Bc Z)) (fun x=>i-x.1) (0,Z) [] rfl rfl rfl ⟨Nat.zero_le _,rfl⟩ (by repeat (first|exact Fr.sub_nil _|refine Fr.sub_cons rfl ?_)) rfl rfl ?_
   rintro ⟨j,S⟩ ⟨hj,hS⟩ ihj
   simp only [List.cons_append,List.nil_append] at hj hS ihj ⊢
   by_cases hjl:j<i
   ·have lS:S.length=2*i-1:=by rw [← Co,hS,Hz,Co,lZ]
    have rS:=J0 (p:=p) (by omega) ((p-c:Nat):Int) md (2*i-2-n-i) rZ j
    rw [← hS] at rS
    have oS:=Yh p ((p-c:Nat):Int) md (2*i-2-n-i) (Bc Z) (i:=2*i-2-n) j (by omega)
    rw [← hS,Pg,Pg,hcv] at oS
    have ihj':=fun l h=>ihj (j+1,l) (by dsimp only;omega) ⟨by dsimp only;omega,h⟩
    simp only [En] at ihj'
    rw [← hS] at ihj'
    simp only [Pg] at ihj'
    have hdd:md.getD j 0=md.getD j default:=rfl
    rw [hdd] at ihj'
    have zm:md[j]?=some (md.getD j default):=by rw [List.getD_eq_getElem?_getD,List.getElem?_eq_getElem (by omega)];rfl
    have bm:=hrm _ (List.mem_of_getElem? zm)
    have zi:=Xj (l:=S) (i:=2*i-2-n) (by omega)
    rw [show S.getD (2*i-2-n) 0=c by omega] at zi
    have zs:=Xj (l:=S) (i:=2*i-2-n-i+j) (by omega)
    have bs:=rS _ (List.mem_of_getElem? (I2 zs))
    generalize S.getD (2*i-2-n-i+j) 0=s at *
    have hb0:0≤((p-c:Nat):Int)*md.getD j default:=Int.mul_nonneg (by omega) bm.1
    have hb1:((p-c:Nat):Int)*md.getD j default≤65536:=Int.le_trans (Int.mul_le_mul (show ((p-c:Nat):Int)≤256 by omega) (show md.getD j default≤256 by omega) bm.1 (by decide)) (by decide)
    have em0:0≤((s:Int)+((p-c:Nat):Int)*md.getD j default) % (p:Int):=Int.emod_nonneg _ (by omega)
    have em1:((s:Int)+((p-c:Nat):Int)*md.getD j default) % (p:Int)<p:=Int.emod_lt_of_pos _ (by omega)
    refine wk 10 cz ?_
    intro h8 b5 o1
    refine Aa rfl (Tk 0 (((s)+((p-c)*((md.getD j default:Int).toNat))) % (p)) rfl rfl rfl Ci ?_ ?_ ?_)
    ·rw [Int.natCast_emod,Int.natCast_add,Int.natCast_mul,Int.toNat_of_nonneg bm.1]
    ·rw [lS];omega
    refine wk 3 cz ?_
    exact tw (ihj' (S.set (2*i-2-n-i+j) ((s+(p-c)*(md.getD j default).toNat) % p)) (by rw [AFI,Int.natCast_emod,Int.natCast_add,Int.natCast_mul,Int.toNat_of_nonneg bm.1]))
   ·obtain rfl:j=i:=by omega
    refine wk 10 cz ?_
    intro h8
    exact tw (ihn S (by rw [hml];exact hS))
  ·obtain rfl:n=i-1:=by omega
   rw [← hZ] at md0
   have lZ:Z.length=2*i-1:=by rw [← Co,hZ,kL]
   have rZ:∀ z∈Bc Z,0≤z∧z<(p:Int):=by rw [hZ];exact kR (i-1)
   have Jb:=fun {pd:Option Addr}{cd:Nat}=>Gj (P:=(p:Int)) (M:=(i:Int)) (pm:=pm) (pd:=pd) (nm:=md.length) (cm:=cm) (nd:=i) (cd:=cd) (p:=p) (l:=T) rfl (by omega) h2 rT ep
   rw [← md0] at Jb
   rw [H1 .i64 Z]
   refine Hq 8 (Bc Z) 0 rfl (by rw [Co,lZ]) (fun z hz=>by have:=rZ z hz;simp only [Bx];omega) (by omega) (by omega) ?_
   simp only [List.eraseIdx_cons_zero]
   generalize (some (⟨b4,0,none⟩:Addr))=pc
   refine wk 8 cz ?_
   intro h7
   (apply E5 it mx 6;(· rfl);(· rfl))
   (apply Ac;(· rfl);(· exact Ct 2 rfl rfl Gi rfl))
   (apply A1 1;(· rfl);(· simp))
   (apply Ac;(· rfl);(· exact Bz fun _=>An rfl Ok Al))
   (apply Ac;(· rfl);(· exact Bv 2 rfl rfl Ci rfl))
   (apply Fa;(· rfl);(· exact Bz fun _=>AGX 0 (i) rfl rfl rfl Ce (by omega) (by omega) (Jd 0 rfl));intro pa1 ca1)
   (apply Ac;(· rfl);(· exact Bz fun _=>Aw [0] rfl (Jb) rfl (by rintro _ _ _ ⟨rfl,rfl,rfl⟩;exact Al)))
   refine Et rfl ?_
   simp only [List.map_cons,List.map_nil,List.cons_append,List.nil_append]
   refine wk 2 cz ?_
   exact ge
theorem Xu {p:Nat}(hp:2≤p) {f:List Int}(hf:1≤f.length):Rng (p ^ f.length) (fA p f.length) (fM p f):=by
 have hp0:0<p:=by omega
 generalize hm:f.length=m at *
 have hq:1<p ^ m:=Nat.one_lt_pow (by omega) hp
 have uc:∀ {u v:Vz},(cg p fun j=>u j-v j)→un p m u=un p m v:=fun h=>G2 fun j _=>h j
 have mo:∀ {u v:Vz},(∀ j,m≤j→v j=0)→∀ j,m≤j→Cy f u v j=0:=fun hv=>by rw [← hm] at hv ⊢;exact ADP hv
 have mcm:∀ {u v:Vz},(∀ j,m≤j→u j=0)→(∀ j,m≤j→v j=0)→Cy f u v=Cy f v u:=fun hu hv=>by rw [← hm] at hu hv;exact O8 hu hv
 have fMe:∀ x y,fM p f x y=un p m (Cy f (Di p m x) (Di p m y)):=fun x y=>by rw [fM,hm]
 have mass:∀ {u v w:Vz},(∀ j,m≤j→u j=0)→(∀ j,m≤j→v j=0)→(∀ j,m≤j→w j=0)→Cy f (Cy f u v) w=Cy f u (Cy f v w):=fun {u v w} hu hv hw=>by
  rw [mcm (mo hv) hw,mcm hv hw]
  exact Kh (E8 f) _ _ _
 refine ⟨by omega,fun x y _ _=>Yv hp0 _,fun x y _ _=>?_,fun x y z _ _ _=>?_,fun x hx=>?_,fun x hx=>?_,fun x y _ _=>by rw [fMe];exact Yv hp0 _,fun x y _ _=>?_,fun x y z _ _ _=>?_,fun x y z _ _ _=>?_,fun x hx=>?_⟩
 ·exact congrArg (un p m) (funext fun j=>Int.add_comm _ _)
 ·refine G2 fun j hj=>?_
  have h1:=D3 hp0 (fun j=>Di p m x j+Di p m y j) hj
  have h2:=D3 hp0 (fun j=>Di p m y j+Di p m z j) hj
  have:=Int.dvd_sub h1 h2
  rw [fA,fA]
  exact Fg this (by omega)
 ·rw [fA,show (fun j=>Di p m x j+Di p m 0 j)=Di p m x from funext fun j=>by rw [Ij];omega]
  exact P6 hp0 hx
 ·refine ⟨un p m fun j=>-Di p m x j,Yv hp0 _,?_⟩
  rw [fA]
  have:un p m (fun j=>Di p m x j+Di p m (un p m fun j=>-Di p m x j) j)=un p m (Di p m 0):=G2 fun j hj=>by
   have h1:=D3 hp0 (fun j=>-Di p m x j) hj
   rw [Ij]
   exact Fg h1 (by omega)
  rw [this,P6 hp0 (by omega)]
 ·rw [fMe,fMe,mcm (rp p m x) (rp p m y)]
 ·rw [fMe,fMe,fMe,fMe]
  have e1:un p m (Cy f (Di p m (un p m (Cy f (Di p m x) (Di p m y)))) (Di p m z))=un p m (Cy f (Cy f (Di p m x) (Di p m y)) (Di p m z)):=by
   rw [mcm (rp p m _) (rp p m z),mcm (mo (rp p m y)) (rp p m z)]
   exact uc (Nr _ (Jc hp0 (mo (rp p m y))))
  have e2:un p m (Cy f (Di p m x) (Di p m (un p m (Cy f (Di p m y) (Di p m z)))))=un p m (Cy f (Di p m x) (Cy f (Di p m y) (Di p m z))):=uc (Nr _ (Jc hp0 (mo (rp p m z))))
  rw [e1,e2,mass (rp p m x) (rp p m y) (rp p m z)]
 ·rw [fMe,fMe,fMe,fA,fA]
  have e1:un p m (Cy f (Di p m x) (Di p m (un p m fun j=>Di p m y j+Di p m z j)))=un p m (Cy f (Di p m x) (fun j=>Di p m y j+Di p m z j)):=uc (Nr _ (Jc hp0 (AFp (rp p m y) (rp p m z))))
  rw [e1,(Ww f _).add]
  refine G2 fun j hj=>?_
  have h1:=D3 hp0 (Cy f (Di p m x) (Di p m y)) hj
  have h2:=D3 hp0 (Cy f (Di p m x) (Di p m z)) hj
  have h3:=Int.dvd_add h1 h2
  exact Fg (Int.dvd_neg.2 h3) (by omega)
 ·rw [fMe,AF6 hp hf,Cy,Ox (g:=f) (fun j hj=>rp p m x j (by omega)),P6 hp0 hx]
theorem ABF {l:List Int}{k:Nat}(h:l.length=k+1):E7 l k=l.getLastD 0:=by
 have h1:=O2 (l:=l) (by omega)
 have h2:l.dropLast.length=k:=by rw [List.length_dropLast];omega
 conv=>lhs;rw [h1]
 rw [E7,List.getD_eq_getElem?_getD,List.getElem?_append_right (by omega),h2,Nat.sub_self];rfl
theorem AKJ {p:Nat}(hp:2≤p) {f g:List Int}(hnz:∀ x y,x<p ^ f.length→y<p ^ f.length→fM p f x y=0→x=0∨y=0) (hg:1≤g.length) (hgf:g.length<f.length):¬ cg p (Bl (Xg g) (f++[1]) B1):=by
 intro hc
 have hp0:0<p:=by omega
 let d:=g.length
 let A:=(f++[1]).take (f.length+1-d)
 let r0:=(f++[1]).drop (f.length+1-d)
 have hA:A.length=f.length+1-d:=by simp only [A,List.length_take,List.length_append,List.length_singleton];omega
 have hr0:r0.length=d:=by simp only [r0,List.length_drop,List.length_append,List.length_singleton];omega
 have hAr:f++[1]=A++r0:=(List.take_append_drop _ _).symm
 have hlast:r0.getLastD 0=1:=by
  have h3:r0=(f.drop (f.length+1-d))++[1]:=by
   simp only [r0]
   rw [List.drop_append_of_le_length (by omega)]
  rw [h3];simp
 obtain ⟨q1,q2⟩:=W6 (g:=g) (F:=A) (r0:=r0) hg hr0
 have ev:=fun {Y:Vz→Vz}(hY:Yo Y) (w:Vz)=>ACF hY (g:=g) hg w (F:=A) (r0:=r0) hr0
 have qt:=AAD g (F:=A) (r0:=r0) (by omega)
 rw [hlast] at qt
 rw [← hAr] at ev
 generalize (Od g A r0).1=s at *
 generalize (Od g A r0).2=r at *
 have hX:=E8 f
 have hr:∀ x∈r,(p:Int)∣x:=by
  rw [ev (E8 g) B1,Sc hg,(Lk (E8 g) s).zero,Oa (show r.length≤g.length by omega)] at hc
  intro x hx
  obtain ⟨i,hi⟩:=List.getElem?_of_mem hx
  have:=hc i
  have e:(0:Int)+E7 r i=x:=by rw [E7,List.getD_eq_getElem?_getD,hi,Int.zero_add];rfl
  exact Fg this e
 have hs:cg p (Bl (Xg f) s (Bl (Xg f) (g++[1]) B1)):=by
  have h3:=ev hX B1
  rw [Sc (show 1≤f.length by omega)] at h3
  refine fun j=>?_
  have h5:(0:Int)=Bl (Xg f) s (Bl (Xg f) (g++[1]) B1) j+Bl (Xg f) r B1 j:=congrFun h3 j
  exact Fg (Int.dvd_neg.2 (Zu hX B1 hr j)) (by omega)
 have es:Bl (Xg f) s B1=E7 s:=Oa (by omega)
 have eg:Bl (Xg f) (g++[1]) B1=E7 (g++[1]):=Oa (by simp;omega)
 have os:∀ j,f.length≤j→E7 s j=0:=fun j hj=>Lj (by omega)
 have og:∀ j,f.length≤j→E7 (g++[1]) j=0:=fun j hj=>Lj (by simp;omega)
 have hm:cg p (Cy f (E7 s) (E7 (g++[1]))):=by
  have e:Cy f (E7 s) (E7 (g++[1]))=Bl (Xg f) s (Bl (Xg f) (g++[1]) B1):=by
   rw [Cy,← eg,Kh hX,Ox os,← es,Kh hX]
  rw [e];exact hs
 have h0:fM p f (un p f.length (E7 s)) (un p f.length (E7 (g++[1])))=0:=by
  rw [fM]
  have e1:un p f.length (Cy f (Di p f.length (un p f.length (E7 s))) (Di p f.length (un p f.length (E7 (g++[1])))))=un p f.length (Cy f (Di p f.length (un p f.length (E7 s))) (E7 (g++[1]))) :=
   G2 fun j _=>Nr _ (Jc hp0 og) j
  have e2:un p f.length (Cy f (Di p f.length (un p f.length (E7 s))) (E7 (g++[1])))=un p f.length (Cy f (E7 s) (E7 (g++[1]))):=by
   rw [O8 (rp p f.length _) og,O8 os og]
   exact G2 fun j _=>Nr _ (Jc hp0 os) j
  have e3:un p f.length (Cy f (E7 s) (E7 (g++[1])))=un p f.length (Di p f.length 0):=G2 fun j _=>by
   rw [Ij,Int.sub_zero];exact hm j
  rw [e1,e2,e3,P6 hp0 (Nat.pow_pos hp0)]
 have no1:¬ (p:Int)∣1:=fun h=>by
  have:=Int.le_of_dvd (by decide) h
  omega
 rcases hnz _ _ (Yv hp0 _) (Yv hp0 _) h0 with h|h
 ·have h1:=D3 hp0 (E7 s) (show f.length-d<f.length by show f.length-g.length<f.length;omega)
  rw [h,Ij,ABF (by omega),qt] at h1
  exact no1 (Fg (Int.dvd_neg.2 h1) (by decide))
 ·have h1:=D3 hp0 (E7 (g++[1])) (j:=g.length) (by omega)
  have h2:E7 (g++[1]) g.length=1:=by
   rw [ABF (l:=g++[1]) (k:=g.length) (by simp)];simp
  rw [h,Ij,h2] at h1
  exact no1 (Fg (Int.dvd_neg.2 h1) (by decide))
def hoF (p m:Nat) (f a:List Int) (c:Int) (r:List Int):List Int:=(List.range m).map fun j=>((if j=0 then 0 else r.getD (j-1) 0)+((p:Int)-r.getD (m-1) 0)*f.getD j 0+c*a.getD j 0) % p
theorem ACD (p m:Nat) (f a:List Int) (c:Int) (r:List Int):(hoF p m f a c r).length=m:=by simp [hoF]
theorem AI2 {p m:Nat}(hp:0<p) (f a:List Int) (c:Int) (r:List Int):∀ x∈hoF p m f a c r,0≤x∧x<p:=fun x hx=>by
 obtain ⟨j,_,rfl⟩:=List.mem_map.1 hx
 exact ⟨Int.emod_nonneg _ (by omega),Int.emod_lt_of_pos _ (by omega)⟩
theorem AKP {p m:Nat}{f a r:List Int}(hf:f.length=m) (ha:a.length=m) (c:Int):cg p fun j=>E7 (hoF p m f a c r) j-(c*E7 a j+Xg f (E7 r) j):=by
 intro j
 by_cases hj:j<m
 ·have e:E7 (hoF p m f a c r) j=((if j=0 then 0 else r.getD (j-1) 0)+((p:Int)-r.getD (m-1) 0)*f.getD j 0+c*a.getD j 0) % p:=by
   rw [E7,hoF,List.getD_eq_getElem?_getD,List.getElem?_map,List.getElem?_range hj];rfl
  show (p:Int)∣E7 (hoF p m f a c r) j-(c*E7 a j+Xg f (E7 r) j)
  have h8:=Int.emod_add_mul_ediv ((if j=0 then 0 else r.getD (j-1) 0)+((p:Int)-r.getD (m-1) 0)*f.getD j 0+c*a.getD j 0) p
  rw [e,Xg,if_pos (show j<f.length by omega),hf]
  generalize ((if j=0 then 0 else r.getD (j-1) 0)+((p:Int)-r.getD (m-1) 0)*f.getD j 0+c*a.getD j 0) / (p:Int)=k at h8
  refine ⟨f.getD j 0-k,?_⟩
  have e2:∀ i,E7 r i=r.getD i 0:=fun i=>rfl
  have e3:E7 a j=a.getD j 0:=rfl
  rw [e3,e2,e2]
  generalize ((if j=0 then 0 else r.getD (j-1) 0)+((p:Int)-r.getD (m-1) 0)*f.getD j 0+c*a.getD j 0) % (p:Int)=z at *
  grind
 ·show (p:Int)∣E7 (hoF p m f a c r) j-(c*E7 a j+Xg f (E7 r) j)
  rw [Lj (by rw [ACD];omega),Lj (by omega),AIB (by omega)]
  exact ⟨0,by simp⟩
def Ys (p m:Nat) (f a:List Int):List Int→List Int
 | []=>List.replicate m 0
 | c::b=>hoF p m f a c (Ys p m f a b)
theorem AFP (p m:Nat) (f a:List Int):∀ b,(Ys p m f a b).length=m
 | []=>by simp [Ys]
 | c::b=>ACD ..
theorem AF1 {p m:Nat}(hp:0<p) (f a:List Int):∀ b,∀ x∈Ys p m f a b,0≤x∧x<p
 | [],x,hx=>by
  rw [Ys] at hx
  rw [(List.mem_replicate.1 hx).2];omega
 | c::b,x,hx=>AI2 hp f a c _ x hx
theorem AIC {p m:Nat}{f a:List Int}(hf:f.length=m) (ha:a.length=m):∀ b,cg p fun j=>E7 (Ys p m f a b) j-Bl (Xg f) b (E7 a) j
 | []=>fun j=>by
  have:E7 (List.replicate m (0:Int)) j=0:=by
   rw [E7,List.getD_eq_getElem?_getD]
   cases e:(List.replicate m (0:Int))[j]? with
   | none=>rfl
   | some x=>exact (List.mem_replicate.1 (List.mem_of_getElem? e)).2
  show (p:Int)∣E7 (List.replicate m 0) j-0
  rw [this];exact ⟨0,by simp⟩
 | c::b=>fun j=>by
  have h1:=AKP (p:=p) (r:=Ys p m f a b) hf ha c j
  have h2:cg p fun j=>Xg f (E7 (Ys p m f a b)) j-Xg f (Bl (Xg f) b (E7 a)) j:=by
   have h3:=AAa (E8 f) (AIC (p:=p) hf ha b)
   have e:=E8 f 1 (-1) (E7 (Ys p m f a b)) (Bl (Xg f) b (E7 a))
   have e1:(fun j=>1*E7 (Ys p m f a b) j+-1*Bl (Xg f) b (E7 a) j)=fun j=>E7 (Ys p m f a b) j-Bl (Xg f) b (E7 a) j:=by funext j;omega
   rw [e1] at e
   rw [e] at h3
   intro j
   have h4:(p:Int)∣1*Xg f (E7 (Ys p m f a b)) j+-1*Xg f (Bl (Xg f) b (E7 a)) j:=h3 j
   show (p:Int)∣Xg f (E7 (Ys p m f a b)) j-Xg f (Bl (Xg f) b (E7 a)) j
   exact Fg h4 (by omega)
  have h1:(p:Int)∣E7 (hoF p m f a c (Ys p m f a b)) j-(c*E7 a j+Xg f (E7 (Ys p m f a b)) j):=h1
  have h4:(p:Int)∣Xg f (E7 (Ys p m f a b)) j-Xg f (Bl (Xg f) b (E7 a)) j:=h2 j
  show (p:Int)∣E7 (hoF p m f a c (Ys p m f a b)) j-(c*E7 a j+Xg f (Bl (Xg f) b (E7 a)) j)
  exact Fg (Int.dvd_add h1 h4) (by omega)
theorem AJR {p:Nat}(hp:0<p) {f:List Int}(x y:Nat):Gx p ((Ys p f.length f (Bc (Dm p f.length x)) (Bc (Dm p f.length y))).map Int.toNat)=fM p f x y:=by
 have hl:=AFP p f.length f (Bc (Dm p f.length x)) (Bc (Dm p f.length y))
 have hr:=AF1 hp f (m:=f.length) (Bc (Dm p f.length x)) (Bc (Dm p f.length y))
 have hc:=AIC (p:=p) (f:=f) rfl (show (Bc (Dm p f.length x)).length=f.length by rw [Co,D7]) (Bc (Dm p f.length y))
 rw [fM]
 have e1:Cy f (Di p f.length x) (Di p f.length y)=Bl (Xg f) (Bc (Dm p f.length y)) (E7 (Bc (Dm p f.length x))):=by
  rw [O8 (rp p _ x) (rp p _ y),Cy]
  congr 1
  refine List.ext_getElem (by simp [Co,D7]) fun i h1 h2=>?_
  rw [List.getElem_map,List.getElem_range,Di,E7,List.getD_eq_getElem?_getD,List.getElem?_eq_getElem h2];rfl
 rw [e1]
 rw [un]
 congr 1
 refine List.ext_getElem (by simp [hl]) fun i h1 h2=>?_
 rw [List.getElem_map,List.getElem_map,List.getElem_range]
 have hi:i<(Ys p f.length f (Bc (Dm p f.length x)) (Bc (Dm p f.length y))).length:=by simpa using h1
 have h3:=hr _ (List.getElem_mem hi)
 have h4:(p:Int)∣E7 (Ys p f.length f (Bc (Dm p f.length x)) (Bc (Dm p f.length y))) i-Bl (Xg f) (Bc (Dm p f.length y)) (E7 (Bc (Dm p f.length x))) i:=hc i
 rw [E7,List.getD_eq_getElem?_getD,List.getElem?_eq_getElem hi] at h4
 have h5:(Ys p f.length f (Bc (Dm p f.length x)) (Bc (Dm p f.length y)))[i] % (p:Int)=Bl (Xg f) (Bc (Dm p f.length y)) (E7 (Bc (Dm p f.length x))) i % (p:Int):=Int.emod_eq_emod_iff_emod_sub_eq_zero.2 (Int.emod_eq_zero_of_dvd h4)
 rw [← h5,Int.emod_eq_of_lt h3.1 h3.2]
theorem Eh {P M:Int}{res:Int}(hres:H0 P M=res):Bn Tryz.prog 119 [.int .i64 P,.int .i64 M] [] [] (Rv (.int .i64 res) []):=by
 refine Ab (F:=ABg) rfl fun C=>?_
 have no:¬ Uy P M→res=0:=fun h=>by rw [← hres,H0,if_neg h]
 by_cases h1:P<2
 ·rw [no (by unfold Uy;omega)]
  refine wk 13 cz ?_
  intro h2
  exact ge
 by_cases h0:256<P
 ·rw [no fun h=>by
   have h9:=h.2.2.2
   have h8:=Nat.le_self_pow (n:=M.toNat) (by have:=h.2.1;omega) P.toNat
   omega]
  refine wk 18 cz ?_
  intro h2 h3
  exact ge
 by_cases h2:M<1
 ·rw [no (by unfold Uy;omega)]
  refine wk 23 cz ?_
  intro h3 h4 h5
  exact ge
 by_cases h3:8<M
 ·rw [no (by unfold Uy;omega)]
  refine wk 23 cz ?_
  intro h4 h5 h6 h7
  exact ge
 obtain ⟨p,rfl⟩:∃ p:Nat,P=p:=⟨P.toNat,by omega⟩
 obtain ⟨m,rfl⟩:∃ m:Nat,M=m:=⟨M.toNat,by omega⟩
 refine wk 25 cz ?_
 intro h4 h5 h6 h7
 refine Af (X:=Nat) [0,20] [] (fun i=>[(21,.int .i64 (i:Int)),(5,.int .i64 ((p ^ i:Nat):Int))]) (fun _=>[]) (fun _=>[]) (fun i=>i≤m∧p ^ i≤256) (fun i=>m-i) 0 [] rfl rfl rfl ⟨Nat.zero_le _,by simp⟩ (by repeat (first|exact Fr.sub_nil _|refine Fr.sub_cons rfl ?_)) rfl rfl ?_
 rintro i ⟨hi,hq⟩ ih
 simp only [List.cons_append,List.nil_append] at hi hq ih ⊢
 by_cases hil:i<m
 ·have hp0:0<p:=by omega
  have e:((p ^ i:Nat):Int)*(p:Int)=((p ^ (i+1):Nat):Int):=by rw [Nat.pow_succ,Int.natCast_mul]
  have h65:p ^ (i+1)≤65536:=by rw [Nat.pow_succ];exact Nat.mul_le_mul hq (show p≤256 by omega)
  have e2:0≤((p ^ i:Nat):Int)*(p:Int):=by rw [e];omega
  have e3:((p ^ i:Nat):Int)*(p:Int)≤65536:=by rw [e];omega
  by_cases hb:p ^ (i+1)≤256
  ·have e4:((p ^ i:Nat):Int)*(p:Int)≤256:=by rw [e];omega
   refine wk 13 cz ?_
   intro h8 h9
   rw [e]
   exact tw (ih (i+1) (by omega) ⟨by omega,hb⟩)
  ·have e4:256<((p ^ i:Nat):Int)*(p:Int):=by rw [e];omega
   rw [no fun h=>hb (Nat.le_trans (Nat.pow_le_pow_right hp0 hil) (by have:=h.2.2.2;simpa using this))]
   refine wk 13 cz ?_
   intro h8 h9
   exact ge
 ·obtain rfl:m=i:=by omega
  have:res=((p ^ m:Nat):Int):=by
   rw [← hres,H0,if_pos ⟨by omega,by omega,by omega,by simpa using hq⟩];simp
  rw [this]
  refine wk 7 cz ?_
  intro h8
  exact ge
theorem AHR {n:Nat}(hn:2≤n) (h:∀ d,2≤d→d*d≤n→¬ d∣n):Prm n:=by
 refine ⟨hn,fun d hd hl hdv=>?_⟩
 obtain ⟨c,rfl⟩:=hdv
 have hc:2≤c:=by
  rcases Nat.lt_or_ge c 2 with h1|h1
  ·exfalso
   have:c=0∨c=1:=by omega
   rcases this with rfl|rfl <;> simp at hn hl
  ·exact h1
 rcases Nat.le_total d c with h1|h1
 ·exact h d hd (Nat.mul_le_mul_left d h1) (Nat.dvd_mul_right _ _)
 ·exact h c hc (Nat.mul_le_mul_right c h1) (Nat.dvd_mul_left _ _)
theorem Q4 {n:Nat}(hn:2≤n) (hn2:n≤1000000) {res:Bool}(hres:res=true↔Prm n):Bn Tryz.prog 155 [.int .i64 n] [] [] (Rv (.bool res) []):=by
 refine Ab (F:=Zb) rfl fun C=>?_
 refine wk 5 cz ?_
 refine Af (X:=Nat) [0] [] (fun d=>[(3,.int .i64 (d:Int))]) (fun _=>[]) (fun _=>[]) (fun d=>2≤d∧d≤n∧∀ e,2≤e→e<d→¬ e∣n) (fun d=>n-d) 2 [] rfl rfl rfl ⟨Nat.le_refl 2,hn,fun e h1 h2=>by omega⟩ (by repeat (first|exact Fr.sub_nil _|refine Fr.sub_cons rfl ?_)) rfl rfl ?_
 rintro d ⟨hd,hdn,hall⟩ ih
 simp only [List.cons_append,List.nil_append] at hd hdn hall ih ⊢
 have q0:(0:Int)≤(d:Int)*(d:Int):=Int.mul_nonneg (by omega) (by omega)
 have q1:(d:Int)*(d:Int)≤1000000*1000000:=Int.mul_le_mul (by omega) (by omega) (by omega) (by omega)
 have q2:(d:Int)*(d:Int)=((d*d:Nat):Int):=(Int.natCast_mul d d).symm
 by_cases Jf:d*d≤n
 ·have hlt:d<n:=by
   have:=Nat.mul_le_mul_right d hd
   omega
  by_cases hm:n % d=0
  ·have hm':(n:Int) % (d:Int)=0:=by omega
   have:res=false:=by
    cases res with
    | false=>rfl
    | true=>exact absurd (Nat.dvd_of_mod_eq_zero hm) ((hres.1 rfl).2 d hd hlt)
   rw [this]
   refine wk 11 cz ?_
   intro h1 h2
   exact ge
  ·have hm':¬ (n:Int) % (d:Int)=0:=by omega
   refine wk 11 cz ?_
   intro h1 h2
   exact tw (ih (d+1) (by omega) ⟨by omega,by omega,fun e h1 h2=>by
    rcases Nat.lt_succ_iff_lt_or_eq.1 h2 with h3|rfl
    ·exact hall e h1 h3
    ·exact fun hdv=>hm (Nat.mod_eq_zero_of_dvd hdv)⟩)
 ·have:res=true:=hres.2 (AHR hn fun e h1 h2=>by
   refine hall e h1 (Nat.lt_of_not_le fun hle=>Jf ?_)
   exact Nat.le_trans (Nat.mul_le_mul hle hle) h2)
  rw [this]
  refine wk 7 cz ?_
  intro h1
  rw [decide_eq_true (show (2:Int)≤(n:Int) by omega)]
  exact ge
theorem J2 {p n x:Nat}(hp:1≤p) (hp2:p≤1000000) (hn:n≤100) (hx:x≤1000000000):Bn Tryz.prog 194 [.int .i64 x,.int .i64 p,.int .i64 n] [] [] (SvI n (Bc (Dm p n x))):=by
 refine Ab (F:=Yc) rfl fun C=>?_
 have hl:=D7 p n x
 refine wk 11 cz ?_
 intro b1
 rw [show List.replicate n 0=(Dm p n x).take 0++List.replicate (n-0) 0 by simp]
 refine Af (X:=Nat) [1,6,7,12] [] (fun i=>[(13,.int .i64 (i:Int)),(0,.int .i64 ((x / p ^ i:Nat):Int))]) (fun i=>[(some b1,3,Ao .i64 ((Dm p n x).take i++List.replicate (n-i) 0))]) (fun _=>[]) (fun i=>i≤n) (fun i=>n-i) 0 [] rfl rfl rfl (Nat.zero_le _) (by refine Fr.sub_cons rfl ?_;refine Fr.sub_consI rfl (by simp) ?_;repeat (first|exact Fr.sub_nil _|refine Fr.sub_cons rfl ?_)) rfl rfl ?_
 rintro i hi ih
 simp only [List.cons_append,List.nil_append] at hi ih ⊢
 have hxi:x / p ^ i≤x:=Nat.div_le_self _ _
 have hz:=fun h=>ACM (p:=p) (n:=n) (i:=i) (x:=x) h
 have hnx:x / p ^ (i+1)=x / p ^ i / p:=by rw [Nat.pow_succ,← Nat.div_div_eq_div_mul]
 by_cases hil:i<n
 ·have ih':=ih (i+1) (by omega) (by omega)
  rw [hnx,← AAE hl hil (hz hil)] at ih'
  generalize x / p ^ i=y at *
  have e1:(y:Int) % (p:Int)=((y % p:Nat):Int):=(Int.natCast_emod _ _).symm
  have e2:(y:Int) / (p:Int)=((y / p:Nat):Int):=(Int.natCast_ediv _ _).symm
  have hlen:((Dm p n x).take i++List.replicate (n-i) 0).length=n:=by simp [hl];omega
  refine wk 15 cz ?_
  intro h1
  rw [e2]
  exact tw (ih')
 ·obtain rfl:i=n:=by omega
  clear hz hnx
  rw [List.take_of_length_le (by omega),Nat.sub_self,List.replicate_zero,List.append_nil,H1]
  refine wk 7 cz ?_
  intro h1
  refine Hq 8 (Bc (Dm p i x)) 0 rfl (by rw [Co,hl]) (W8 fun d hd=>by have:=Jq (by omega) d hd;omega) (by omega) (by omega) ?_
  refine Ps [0] rfl rfl rfl ⟨_,_,rfl,rfl,rfl⟩
theorem Zj {pd:Option Addr}{nd cd p:Nat}{l:List Nat}(hp:1≤p) (hp2:p≤256) (hd:∀ x∈l,x<p) (hl:p ^ l.length≤1000000) :
  Bn Tryz.prog 195 [.slice pd nd cd,.int .i64 p] [] [Ap Aj pd nd cd (Bc l)] (Rv (.int .i64 ((Gx p l:Nat):Int)) []):=by
 refine Ab (F:=Zf) rfl fun C=>?_
 refine A9 0 rfl fun hn hb _=>?_
 rw [Co] at hn hb
 subst hn
 have hb:l.length*8≤140737488355328:=hb
 refine wk 9 cz ?_
 refine Af (X:=Nat) [0,1,4] [0] (fun j=>[(6,.int .i64 ((j:Int)-1)),(5,.int .i64 ((Gx p (l.drop j):Nat):Int))]) (fun _=>[]) (fun _=>[]) (fun j=>j≤l.length) (fun j=>j) l.length [] rfl rfl rfl (Nat.le_refl _) (by refine Fr.sub_cons rfl ?_;refine Fr.sub_consI rfl (by simp [Gx]) ?_;repeat (first|exact Fr.sub_nil _|refine Fr.sub_cons rfl ?_)) rfl rfl ?_
 rintro j hj ih
 simp only [List.cons_append,List.nil_append] at hj ih ⊢
 have hlt:Gx p (l.drop j)<p ^ l.length:=Nat.lt_of_lt_of_le (Nk (by omega) fun x hx=>hd x (List.mem_of_mem_drop hx)) (Nat.pow_le_pow_right (by omega) (by rw [List.length_drop];omega))
 cases j with
 | zero =>
  rw [List.drop_zero]
  refine wk 7 cz ?_
  intro h1
  exact ge
 | succ j =>
  have at_z:(Bc l)[j]?=some ((l.getD j 0:Nat):Int):=I2 (by rw [List.getD_eq_getElem?_getD,List.getElem?_eq_getElem (by omega)];rfl)
  have hz2:l.getD j 0<p:=hd _ (List.mem_of_getElem? (i:=j) (by rw [List.getD_eq_getElem?_getD,List.getElem?_eq_getElem (by omega)];rfl))
  have ih':=ih j (by omega) (by omega)
  have hlt2:Gx p (l.drop j)<p ^ l.length:=Nat.lt_of_lt_of_le (Nk (by omega) fun x hx=>hd x (List.mem_of_mem_drop hx)) (Nat.pow_le_pow_right (by omega) (by rw [List.length_drop];omega))
  rw [ABV (show j<l.length by omega)] at ih' hlt2
  generalize Gx p (l.drop (j+1))=v at *
  generalize hw:l.getD j 0=w at *
  have at_z2:(Bc l)[j+1-1]?=some (w:Int):=by rw [Nat.add_sub_cancel];exact at_z
  have hvp:(v:Int)*(p:Int)≤1000000:=by rw [← Int.natCast_mul,Nat.mul_comm];omega
  have hv0:0≤(v:Int)*(p:Int):=by rw [← Int.natCast_mul];omega
  have e:(v:Int)*(p:Int)+(w:Int)=((w+p*v:Nat):Int):=by rw [Int.natCast_add,Int.natCast_mul,Int.mul_comm];omega
  refine wk 7 cz ?_
  intro h1 b1 o1 hz1
  refine Aa rfl (Av 0 rfl rfl Ci fun ⟨r1,r2⟩=>?_)
  refine wk 4 cz ?_
  rw [e]
  exact tw (ih')
def AIr (P M:Int) (md:List Int):Prop:=Uy P M∧Prm P.toNat∧(M=1→md.length=0)∧(M≠1→(md.length:Int)=M∧∀ x∈md,0≤x∧x<P)
theorem Ke {P M:Int}{pm:Option Addr}{nm cm:Nat}{md:List Int}{res:Bool}(hres:res=true↔AIr P M md):Bn Tryz.prog 118 [.agg #[.int .i64 P,.int .i64 M,.slice pm nm cm]] [] [Ap Aj pm nm cm md] (Rv (.bool res) []):=by
 refine Ab (F:=ABb) rfl fun C=>?_
 refine A9 0 rfl fun hn1 hb1 _=>?_
 subst hn1
 have hb1':md.length*8≤140737488355328:=hb1
 have no:¬ AIr P M md→res=false:=fun h=>by
  cases res with
  | false=>rfl
  | true=>exact absurd (hres.1 rfl) h
 by_cases h1:Uy P M
 ·have ho:H0 P M≠0:=by
   rw [H0,if_pos h1]
   have:=Nat.pow_pos (n:=M.toNat) (show 0<P.toNat by have:=h1.1;omega)
   omega
  have hP256:P.toNat≤256:=Nat.le_trans (Nat.le_self_pow (by have:=h1.2.1;omega) _) h1.2.2.2
  obtain ⟨p,rfl⟩:∃ p:Nat,P=p:=⟨P.toNat,by have:=h1.1;omega⟩
  rw [Int.toNat_natCast] at hP256
  have hp2:2≤p:=by have:=h1.1;omega
  by_cases h2:Prm p
  ·have Fq:=Q4 hp2 (by omega) (res:=true) ⟨fun _=>h2,fun _=>rfl⟩
   by_cases hM:M=1
   ·subst hM
    by_cases h3:md.length=0
    ·have:res=true:=hres.2 ⟨h1,h2,fun _=>h3,fun h=>absurd rfl h⟩
     rw [this]
     refine wk 30 (ct @Eh (ct @Fq cz)) ?_
     intro b1 h4 h5
     rw [decide_eq_true (show (md.length:Int)=0 by omega)]
     exact ge
    ·rw [no fun h=>h3 (h.2.2.1 rfl)]
     refine wk 30 (ct @Eh (ct @Fq cz)) ?_
     intro b1 h4 h5
     rw [decide_eq_false (show ¬ (md.length:Int)=0 by omega)]
     exact ge
   ·by_cases h3:(md.length:Int)=M
    ·generalize hall:md.all (fun x=>decide (0≤x∧x<(p:Int)))=al
     have hr:res=al:=by
      cases al with
      | true=>exact hres.2 ⟨h1,h2,fun h=>absurd h hM,fun _=>⟨h3,fun x hx=>by simpa using List.all_eq_true.1 hall x hx⟩⟩
      | false =>
       refine no fun h=>?_
       obtain ⟨x,hx,hn⟩:=List.all_eq_false.1 hall
       exact hn (decide_eq_true ((h.2.2.2 hM).2 x hx))
     rw [hr]
     clear hr hres no
     refine wk 39 (ct @Eh (ct @Fq cz)) ?_
     intro b1 h4 h5 h6
     refine Af (X:=Nat) [1,31,32] [0] (fun i=>[(33,.int .i64 (i:Int))]) (fun _=>[(some b1,24,[.int .i64 (p:Int),.int .i64 M,.slice pm md.length cm])]) (fun _=>[]) (fun i=>i≤md.length∧(md.drop i).all (fun x=>decide (0≤x∧x<(p:Int)))=al) (fun i=>md.length-i) 0 [] rfl rfl rfl ⟨Nat.zero_le _,hall⟩ (by repeat (first|exact Fr.sub_nil _|refine Fr.sub_cons rfl ?_)) rfl rfl ?_
     rintro i ⟨hi,he⟩ ih
     simp only [List.cons_append,List.nil_append] at hi he ih ⊢
     by_cases hil:i<md.length
     ·obtain ⟨z,at_z,ed⟩:∃ z,md[i]?=some z∧md.drop i=z::md.drop (i+1):=⟨md[i],List.getElem?_eq_getElem hil,List.drop_eq_getElem_cons hil⟩
      rw [ed,List.all_cons] at he
      by_cases h4:0≤z∧z<(p:Int)
      ·rw [decide_eq_true h4,Bool.true_and] at he
       refine wk 13 cz ?_
       intro h7 b2 o1 hz1 _ r1 r2
       refine B8 (t:=39) rfl (fun h8=>by exfalso;omega) (fun h8=>?_)
       refine wk 9 cz ?_
       intro h9
       exact tw (ih (i+1) (by omega) ⟨by omega,he⟩)
      ·rw [decide_eq_false h4,Bool.false_and] at he
       subst he
       by_cases h5:z<0
       ·refine Aq [_,_,_,_,_] rfl ?_
        refine Ai it 1 rfl (by simp) ?_
        refine Aq [_,_,_,_,_] rfl ?_
        refine L7 rfl rfl (fun h7=>?_) (fun h7=>by exfalso;omega)
        refine Aq [_,_,_,_,_,_,_] rfl ?_
        refine Aa rfl (Ia 0 (i) rfl rfl rfl Ce rfl (by omega) fun z1 hz1 b2 o1=>?_)
        obtain rfl:_=z1:=Option.some.inj (at_z.symm.trans hz1)
        refine Aa rfl (Av 0 rfl rfl Ci fun ⟨r1,r2⟩=>?_)
        refine Ai it 1 rfl (by simp) ?_
        refine Aq [_,_,_,_,_,_,_] rfl ?_
        refine Ai it 3 rfl (by simp) ?_
        refine B8 (t:=39) rfl (fun h8=>?_) (fun h8=>by exfalso;omega)
        refine Ai it 5 rfl (by simp) ?_
        refine Aq [_,_,_,_,_,_] rfl ?_
        refine R2 rfl rfl ?_
        refine Aq [_,_,_,_,_,_,_] rfl ?_
        refine Ai it 1 rfl (by simp) ?_
        refine Aq [_,_,_,_,_,_] rfl ?_
        exact ge
       ·refine wk 13 cz ?_
        intro h7 b2 o1 hz1 _ r1 r2
        refine B8 (t:=39) rfl (fun h8=>by exfalso;omega) (fun h8=>?_)
        refine wk 9 cz ?_
        intro h9
        exact ge
     ·obtain rfl:i=md.length:=by omega
      rw [List.drop_length,List.all_nil] at he
      subst he
      refine wk 7 cz ?_
      intro h7
      exact ge
    ·rw [no fun h=>h3 (h.2.2.2 hM).1]
     refine wk 36 (ct @Eh (ct @Fq cz)) ?_
     intro b1 h4 h5 h6
     exact ge
  ·have Fq:=Q4 hp2 (by omega) (res:=false) ⟨fun h=>(by cases h),fun h=>absurd h h2⟩
   rw [no fun h=>h2 h.2.1]
   refine wk 21 (ct @Eh (ct @Fq cz)) ?_
   intro b1 h3
   exact ge
 ·have ho:H0 P M=0:=by rw [H0,if_neg h1]
  rw [no fun h=>h1 h.1]
  refine wk 15 (ct @Eh cz) ?_
  intro b1
  exact ge
structure Shp (p m:Nat) (md:List Int):Prop where
 p2:2≤p
 m1:1≤m
 m8:m≤8
 q:p ^ m≤256
 one:m=1→md=[]
 len:m≠1→md.length=m
 rng:∀ x∈md,0≤x∧x<(p:Int)
theorem Fok.shp {p m:Nat}{md:List Int}(K:Fok p m md):Shp p m md:=⟨K.p2,K.m1,K.m8,K.q,K.one,K.len,K.rng⟩
section
variable {p m:Nat}{md:List Int}(K:Shp p m md)
include K
theorem Shp.p256:p≤256:=Nat.le_trans (Nat.le_self_pow (by have:=K.m1;omega) p) K.q
theorem Shp.flen:(Az m md).length=m:=by
 unfold Az
 by_cases h:m=1
 ·rw [if_pos h,h];rfl
 ·rw [if_neg h,K.len h]
end
theorem AJr {T Z S:List Int}{j m:Nat}{z:Int}(hT:T.length=m) (hZ:Z.length=m) (hj:j<m) (hS:S=T.take j++Z.drop j) (hz:T.getD j 0=z):S.set j z=T.take (j+1)++Z.drop (j+1):=by
 rw [hS,List.set_append,if_neg (by rw [List.length_take];omega),List.length_take,Nat.min_eq_left (by omega),Nat.sub_self,List.drop_eq_getElem_cons (by omega),List.set_cons_zero,List.take_succ_eq_append_getElem (by omega),List.append_assoc]
 rw [List.getD_eq_getElem?_getD,List.getElem?_eq_getElem (by omega)] at hz
 rw [← hz];rfl
theorem AHw {R:List Int}{m:Nat}(h:R.length=m) (hm:1≤m):(cpL R 1 0 (m-1)).set 0 0=0::R.take (m-1):=by
 refine List.ext_getElem? fun i=>?_
 have hl:=AFS (cs:=R) (o1:=1) (o2:=0) (n:=m-1) (by omega) (by omega)
 rw [List.getElem?_set]
 by_cases h0:0=i
 ·subst h0
  rw [if_pos rfl,if_pos (by omega)];rfl
 ·rw [if_neg h0,AJy (by omega) (by omega),if_neg (by omega)]
  obtain ⟨i,rfl⟩:∃ k,i=k+1:=⟨i-1,by omega⟩
  rw [List.getElem?_cons_succ,List.getElem?_take]
  by_cases h1:i+1<1+(m-1)
  ·rw [if_pos h1,if_pos (by omega)];congr 1;omega
  ·rw [if_neg h1,if_neg (by omega),List.getElem?_eq_none (by omega)]
theorem AIL {l:List Int}{i:Nat}(h:i<l.length):l[i]?=some (l.getD i 0):=by
 rw [List.getD_eq_getElem?_getD,List.getElem?_eq_getElem h];rfl
theorem J4 {nm cm:Nat}{pm:Option Addr}{p m:Nat}{md:List Int}(K:Shp p m md) {x y:Nat}(hx:x<p ^ m) (hy:y<p ^ m) :
  Bn Tryz.prog 157 [.agg #[.int .i64 p,.int .i64 m,.slice pm nm cm],.int .i64 x,.int .i64 y] [] [Ap Aj pm nm cm md] (Rv (.int .i64 ((fM p (Az m md) x y:Nat):Int)) []):=by
 refine Ab (F:=Xq) rfl fun C=>?_
 have h1:=K.p2
 have h2:=K.p256
 have h3:=K.m8
 have h4:=K.m1
 have hq:=K.q
 have hl:=K.flen
 refine A9 0 rfl fun en hb _=>?_
 subst en
 have hmul:=AJR (p:=p) (by omega) (f:=Az m md) x y
 rw [hl] at hmul
 have lx:(Bc (Dm p m x)).length=m:=by rw [Co,D7]
 have ly:(Bc (Dm p m y)).length=m:=by rw [Co,D7]
 have rx:∀ z∈Bc (Dm p m x),0≤z∧z<(p:Int):=fun z hz=>by
  obtain ⟨d,hd,rfl⟩:=List.mem_map.1 hz
  have:=Jq (p:=p) (by omega) d hd;omega
 have ry:∀ z∈Bc (Dm p m y),0≤z∧z<(p:Int):=fun z hz=>by
  obtain ⟨d,hd,rfl⟩:=List.mem_map.1 hz
  have:=Jq (p:=p) (by omega) d hd;omega
 have hx9:x≤1000000000:=by omega
 have hy9:y≤1000000000:=by omega
 refine wk 16 (ct @J2 (ct @J2 cz)) ?_
 intro b1 pa1 ca1 pa2 ca2 b2
 generalize Bc (Dm p m x)=DX at *
 generalize Bc (Dm p m y)=DY at *
 generalize fM p (Az m md) x y=res at *
 rw [H1,ABR]
 have hd0:Ys p m (Az m md) DX (DY.drop m)=List.replicate m 0:=by
  rw [List.drop_of_length_le (by omega),Ys]
 refine Af (X:=Nat×List Int) [3,6,7,8,9] [0,1,2] (fun x=>[(10,.int .i64 ((x.1:Int)-1))]) (fun x=>[(some b2,3,Ak .i64 x.2),(some b1,24,[.int .i64 p,.int .i64 m,.slice pm md.length cm])]) (fun _=>[])
  (fun x=>x.1≤m∧x.2=Ys p m (Az m md) DX (DY.drop x.1)) (fun x=>x.1) (m,List.replicate m 0) [] rfl rfl rfl ⟨Nat.le_refl _,hd0.symm⟩ (by repeat (first|exact Fr.sub_nil _|refine Fr.sub_cons rfl ?_)) rfl rfl ?_
 rintro ⟨j,R⟩ ⟨hj,hR⟩ ih
 simp only [List.cons_append,List.nil_append] at hj hR ih ⊢
 have lR:R.length=m:=by rw [hR,AFP]
 have rR:∀ z∈R,0≤z∧z<(p:Int):=by rw [hR];exact AF1 (by omega) _ _ _
 cases j with
 | zero =>
  rw [List.drop_zero] at hR
  rw [← hR] at hmul
  have eRn:Bc (R.map Int.toNat)=R:=Td fun z hz=>(rR z hz).1
  have rRn:∀ z∈R.map Int.toNat,z<p:=fun z hz=>by
   obtain ⟨d,hd,rfl⟩:=List.mem_map.1 hz
   have:=rR d hd;omega
  have Rc:=fun {pd:Option Addr}{nd cd:Nat}=>Zj (pd:=pd) (nd:=nd) (cd:=cd) (p:=p) (l:=R.map Int.toNat) (by omega) h2 rRn (by rw [List.length_map,lR];omega)
  rw [hmul,eRn] at Rc
  refine Hq 8 R 0 rfl lR.symm (fun z hz=>by have:=rR z hz;simp only [Bx];omega) (by omega) (by omega) ?_
  simp only [List.eraseIdx_cons_zero]
  refine wk 11 (ct @Rc cz) ?_
  intro h5
  exact ge
 | succ j =>
  have at_v:DY[j]?=some (DY.getD j 0):=AIL (by omega)
  have bv:=ry _ (List.mem_of_getElem? at_v)
  have eR:Ys p m (Az m md) DX (DY.drop j)=hoF p m (Az m md) DX (DY.getD j 0) R:=by
   have hjl:j<DY.length:=by omega
   rw [List.drop_eq_getElem_cons hjl,Ys,← hR,show DY[j]=DY.getD j 0 from Option.some.inj ((List.getElem?_eq_getElem hjl).symm.trans at_v)]
  have ih':=fun l (h:l=hoF p m (Az m md) DX (DY.getD j 0) R)=>ih (j,l) (by dsimp only;omega) ⟨by dsimp only;omega,by dsimp only;rw [eR];exact h⟩
  dsimp only at ih'
  have lT:=ACD p m (Az m md) DX (DY.getD j 0) R
  have at_t:R[m-1]?=some (R.getD (m-1) 0):=AIL (by omega)
  have rt:=rR _ (List.mem_of_getElem? at_t)
  have hT:∀ i,i<m→(hoF p m (Az m md) DX (DY.getD j 0) R).getD i 0=((if i=0 then 0 else R.getD (i-1) 0)+((p:Int)-R.getD (m-1) 0)*(Az m md).getD i 0+DY.getD j 0*DX.getD i 0) % p:=fun i hi=>by
   rw [hoF,List.getD_eq_getElem?_getD,List.getElem?_map,List.getElem?_range hi];rfl
  generalize hoF p m (Az m md) DX (DY.getD j 0) R=T at *
  generalize hvv:DY.getD j 0=v at *
  generalize htop:R.getD (m-1) 0=top at *
  have hcl:(cpL R (1*1) 0 (m-1)).length=m:=by rw [AFS (by omega) (by omega),lR]
  refine wk 10 cz ?_
  intro h5
  refine Aa rfl (Tv 0 rfl rfl Ci (by first|omega|(simp;omega)) fun z1 hz1=>?_)
  obtain rfl:_=z1:=Option.some.inj (at_t.symm.trans hz1)
  refine wk 2 cz ?_
  (refine Ql [0,1] rfl rfl ?_;apply Kv it mx 1 8;(· rfl);(· rfl);(· rfl))
  (apply A1 1;(· rfl);(· simp))
  (apply Ac;(· rfl);(· exact Bz fun _=>ABe (1) rfl rfl Ce (by omega) (by omega) (by omega) Al))
  (apply A1 1;(· rfl);(· simp))
  (apply Ac;(· rfl);(· exact Bz fun _=>An rfl Ok Al))
  (apply Ac;(· rfl);(· exact Bv 0 rfl rfl Ci rfl))
  (apply Ac (v:=Value.int IntKind.i64 ((((m)-1:Nat)):Int));(· rfl);(· exact Bz fun _=>ADv it _ rfl ⟨by omega,by omega⟩ (by omega) Al))
  simp only [Nat.add_sub_cancel]
  (apply Ac;(· rfl);(· exact Bz fun _=>Uq (m-1) rfl rfl Ce (by omega) (by omega) (by omega) Al))
  (apply AIQ (o1:=1*1) (o2:=0) (m-1);(· rfl);(· rfl);(· rfl);(· exact Ce);(· first|rfl|exact Nat.min_self _|(show min _ _=_;omega));(· first|exact .inl rfl|exact .inl (by omega)|exact .inr ⟨rfl,rfl⟩|exact .inr ⟨if_neg (by omega),rfl⟩|exact (Nat.eq_zero_or_pos (m-1)).elim .inl fun h=>.inr ⟨if_neg (by omega),rfl⟩);(· first|omega|(simp only [Ra,Iw];omega));(· first|omega|(simp only [Ra,Iw];omega));(· first|exact AC0 _ _|exact ACG _ _))
  simp only [AJz,AJj]
  refine Et rfl ?_
  simp only [List.map_cons,List.map_nil,List.cons_append,List.nil_append]
  refine wk 9 cz ?_
  rw [AHw lR h4]
  have lZ:(0::R.take (m-1)).length=m:=by rw [List.length_cons,List.length_take];omega
  have hZ:∀ i,i<m→(0::R.take (m-1)).getD i 0=if i=0 then 0 else R.getD (i-1) 0:=fun i hi=>by
   cases i with
   | zero=>rfl
   | succ i =>
    rw [if_neg (by omega),Nat.add_sub_cancel,List.getD_cons_succ,List.getD_eq_getElem?_getD,List.getD_eq_getElem?_getD,List.getElem?_take,if_pos (by omega)]
  have rZ:∀ z∈0::R.take (m-1),0≤z∧z<(p:Int):=fun z hz=>by
   rcases List.mem_cons.1 hz with rfl|hz
   ·omega
   ·exact rR z (List.mem_of_mem_take hz)
  generalize 0::R.take (m-1)=Z at *
  refine Af (X:=Nat×List Int) [3,6,7,8,9,10,11,32,33,36,37,38,39,40,41,42,43,44,45,46,47,48,50,51,52,53] [0,1,2] (fun x=>[(54,.int .i64 (x.1:Int))]) (fun x=>[(some b2,3,Ak .i64 x.2),(some b1,24,[.int .i64 p,.int .i64 m,.slice pm md.length cm])]) (fun _=>[])
   (fun x=>x.1≤m∧x.2=T.take x.1++Z.drop x.1) (fun x=>m-x.1) (0,Z) [] rfl rfl rfl ⟨Nat.zero_le _,by simp⟩ (by repeat (first|exact Fr.sub_nil _|refine Fr.sub_cons rfl ?_)) rfl rfl ?_
  rintro ⟨i,S⟩ ⟨hi,hS⟩ ihi
  simp only [List.cons_append,List.nil_append] at hi hS ihi ⊢
  by_cases hil:i<m
  ·have lS:S.length=m:=by rw [hS,List.length_append,List.length_take,List.length_drop];omega
   have zs:=AIL (l:=S) (i:=i) (by omega)
   have es:S.getD i 0=if i=0 then 0 else R.getD (i-1) 0:=by
    rw [← hZ i hil,hS,List.getD_eq_getElem?_getD,List.getD_eq_getElem?_getD,List.getElem?_append_right (by rw [List.length_take];omega),List.length_take,Nat.min_eq_left (by omega),Nat.sub_self,List.getElem?_drop,Nat.add_zero]
   have hsp:0≤S.getD i 0∧S.getD i 0<(p:Int):=by
    rw [es,← hZ i hil]
    exact rZ _ (List.mem_of_getElem? (AIL (l:=Z) (i:=i) (by omega)))
   have za:=AIL (l:=DX) (i:=i) (by omega)
   have ba:=rx _ (List.mem_of_getElem? za)
   have hTi:=hT i hil
   rw [← es] at hTi
   have ihi':=fun (z:Int) (h:T.getD i 0=z)=>ihi (i+1,S.set i z) (by dsimp only;omega) ⟨by dsimp only;omega,AJr lT lZ hil hS h⟩
   generalize S.getD i 0=s at *
   generalize haa:DX.getD i 0=a at *
   have hb0:0≤v*a:=Int.mul_nonneg (by omega) (by omega)
   have hb1:v*a≤65536:=Int.le_trans (Int.mul_le_mul (show v≤256 by omega) (show a≤256 by omega) (by omega) (by decide)) (by decide)
   have gv:DY.getD (j+1-1) default=v:=hvv
   have ga:DX.getD i default=a:=haa
   have hpt:((p-top.toNat:Nat):Int)=(p:Int)-top:=by omega
   have hb2:0≤DY.getD (j+1-1) default*DX.getD i default:=by rw [gv,ga];exact hb0
   have hb3:DY.getD (j+1-1) default*DX.getD i default≤65536:=by rw [gv,ga];exact hb1
   by_cases hm:m=1
   ·have hf:(Az m md).getD i 0=0:=by
     rw [Az,if_pos hm]
     obtain rfl:i=0:=by omega
     rfl
    rw [hf] at hTi
    refine wk 21 cz ?_
    intro h6 h7 b3 o1 b4 o2
    exact tw (ihi' ((s+((p-top.toNat:Nat):Int)*0+DY.getD (j+1-1) default*DX.getD i default) % (p:Int)) (by rw [hTi,hpt,gv,ga]))
   ·have hf:(Az m md)=md:=if_neg hm
    have hml:=K.len hm
    obtain ⟨c,at_c⟩:∃ c,md[i]?=some c:=⟨md[i],List.getElem?_eq_getElem (by omega)⟩
    have bc:=K.rng c (List.mem_of_getElem? at_c)
    have gc:md.getD i 0=c:=by rw [List.getD_eq_getElem?_getD,at_c];rfl
    rw [hf,gc] at hTi
    have hc0:0≤((p:Int)-top)*c:=Int.mul_nonneg (by omega) bc.1
    have hc1:((p:Int)-top)*c≤65536:=Int.le_trans (Int.mul_le_mul (show (p:Int)-top≤256 by omega) (show c≤256 by omega) bc.1 (by decide)) (by decide)
    rw [← hpt] at hc0 hc1
    refine wk 19 cz ?_
    intro h6 h7 b3 o1 hz2
    refine Aa rfl (Av 0 rfl rfl Ci fun ⟨r1,r2⟩=>?_)
    refine wk 8 cz ?_
    intro b4 o2 b5 o3
    exact tw (ihi' ((s+((p-top.toNat:Nat):Int)*c+DY.getD (j+1-1) default*DX.getD i default) % (p:Int)) (by rw [hTi,hpt,gv,ga]))
  ·obtain rfl:i=m:=by omega
   rw [List.take_of_length_le (by omega),List.drop_of_length_le (by omega),List.append_nil] at hS
   refine wk 7 cz ?_
   intro h6
   exact tw (ih' S hS)
open Go Go.Fw
set_option maxRecDepth 100000
set_option linter.unusedVariables false
set_option linter.unusedSimpArgs false
set_option maxHeartbeats 0
def Ki (M:Nat→Nat→Nat) (x k:Nat):Prop:=B6 M x k=0∨∃ j,j<k∧B6 M x j=B6 M x k
instance (M:Nat→Nat→Nat) (x k:Nat):Decidable (Ki M x k):=by unfold Ki;infer_instance
def kP (q:Nat) (M:Nat→Nat→Nat) (x:Nat):Nat:=((List.range' 1 q).find? fun k=>decide (Ki M x k)).getD 0
theorem AIe {q k:Nat}{M:Nat→Nat→Nat}{x:Nat}(h1:1≤k) (h2:k≤q) (h:Ki M x k) (hn:∀ i,1≤i→i<k→¬ Ki M x i):kP q M x=k:=by
 rw [kP]
 have hs:(List.range' 1 q).find? (fun k=>decide (Ki M x k))=some k:=by
  rw [show List.range' 1 q=List.range' 1 (k-1)++k::List.range' (k+1) (q-k) by
   rw [← List.range'_succ]
   have:=List.range'_append_1 (s:=1) (m:=k-1) (n:=q-k+1)
   rw [show 1+(k-1)=k by omega,show k-1+(q-k+1)=q by omega] at this
   exact this.symm]
  rw [List.find?_append,List.find?_eq_none.2 fun i hi=>by
   obtain ⟨a,b⟩:=List.mem_range'_1.1 hi
   simpa using hn i a (by omega)]
  rw [Option.none_or,List.find?_cons,decide_eq_true h]
 rw [hs];rfl
theorem AMC {q k:Nat}{M:Nat→Nat→Nat}{x:Nat}(hl:∀ i,B6 M x i<q) (hn:∀ i,1≤i→i<k+1→¬ Ki M x i):k+1≤q-1:=by
 have hnd:((List.range (k+1)).map (B6 M x)).Nodup:=by
  rw [List.Nodup,List.pairwise_map,List.pairwise_iff_getElem]
  intro i j hi hj hij e
  rw [List.getElem_range,List.getElem_range] at e
  rw [List.length_range] at hj
  exact hn j (by omega) hj (.inr ⟨i,hij,e⟩)
 have:=Yp (l':=List.range' 1 (q-1)) hnd fun y hy=>by
  obtain ⟨i,hi,rfl⟩:=List.mem_map.1 hy
  have hi:=List.mem_range.1 hi
  have h1:=hl i
  have h2:B6 M x i≠0:=fun e=>by
   rcases Nat.eq_zero_or_pos i with h|h
   ·subst h;exact absurd (show (1:Nat)=0 from e) (by decide)
   ·exact hn i h hi (.inl e)
  exact List.mem_range'_1.2 ⟨by omega,by omega⟩
 rwa [List.length_map,List.length_range,List.length_range'] at this
abbrev AF7 (l:List Bool):List Value:=l.map Value.bool
theorem AGy {l:List Bool}{i:Nat}{b:Bool}(h:l[i]?=some b):(AF7 l)[i]?=some (.bool b):=by rw [List.getElem?_map,h];rfl
theorem Sy {nm cm:Nat}{pm:Option Addr}{p m q:Nat}{md:List Int}(K:Shp p m md) (hq:q=p ^ m) {x:Nat}(hx1:1≤x) (hx:x<q) :
  Bn Tryz.prog 156 [.agg #[.int .i64 p,.int .i64 m,.slice pm nm cm],.int .i64 q,.int .i64 x] [] [Ap Aj pm nm cm md] (SvI (kP q (fM p (Az m md)) x) (Bc ((List.range (kP q (fM p (Az m md)) x)).map (B6 (fM p (Az m md)) x)))):=by
 refine Ab (F:=AAf) rfl fun C=>?_
 have h1:=K.p2
 have hqb:=K.q
 have hl:=K.flen
 have R:Rng q (fA p m) (fM p (Az m md)):=by
  have:=Xu h1 (f:=Az m md) (by rw [hl];exact K.m1)
  rwa [hl,← hq] at this
 have hpl:=R.pw_lt hx
 have B5:=fun {nm cm:Nat}{pm:Option Addr}{x y:Nat}(hx:x<q) (hy:y<q)=>J4 (nm:=nm) (cm:=cm) (pm:=pm) K (x:=x) (y:=y) (hq▸hx) (hq▸hy)
 have e1:B6 (fM p (Az m md)) x 1=x:=R.one_mul hx
 generalize fM p (Az m md)=M at *
 refine wk 8 cz ?_
 intro b1 b2
 refine Aa rfl (ADa (q) _ rfl rfl ANk AL6 rfl rfl AMu (by omega) (by omega) (by omega) fun b3=>?_)
 refine wk 4 cz ?_
 refine Aa rfl (Om 0 rfl rfl rfl rfl ld4 rfl (by first|omega|(simp;omega)) ?_)
 refine wk 3 cz ?_
 rw [show (List.replicate q [Value.bool false]).flatten.set 1 (Value.bool true)=AF7 ((List.replicate q false).set 1 true) by simp [List.map_set]]
 refine Mf (E:=Aj) (n:=1) [[.int .i64 1]] [1] 1 (fun w A hG=>Ay (Dz (by simp only [Bx];omega)) Ba) rfl rfl rfl rfl (by decide) ?_
 have hp1:B6 M x 0=1:=rfl
 refine Af (X:=Nat×Row×List Bool×List Int) [2,3,6,8] [0,1] (fun k=>[(9,.int .i64 ((B6 M x k.1:Nat):Int)),(7,.slice (ad k.2.1.bo) k.2.2.2.length k.2.1.cap)]) (fun k=>[(some b3,4,AF7 k.2.2.1),(k.2.1.bo,3,k.2.1.cs),(some b1,24,[.int .i64 p,.int .i64 m,.slice pm nm cm])]) (fun k=>[A5 Aj k.2.1 k.2.2.2.length k.2.2.2])
  (fun k=>1≤k.1∧k.1≤q∧k.2.2.2=Bc ((List.range k.1).map (B6 M x))∧k.2.2.1.length=q∧(∀ j,j<q→(k.2.2.1[j]?=some true↔∃ i,i<k.1∧B6 M x i=j))∧(∀ i,1≤i→i<k.1→¬ Ki M x i)) (fun k=>q-k.1) (1,⟨some b2,1,[.int .i64 1]⟩,(List.replicate q false).set 1 true,[1]) [0] rfl rfl rfl ⟨Nat.le_refl 1,by omega,rfl,by simp,fun j hj=>?_,fun i h1 h2=>by omega⟩ (by refine Fr.sub_consI rfl (by rw [e1]) ?_;repeat (first|exact Fr.sub_nil _|refine Fr.sub_cons rfl ?_)) rfl rfl ?_
 ·rw [List.getElem?_set]
  by_cases h9:1=j
  ·subst h9
   rw [if_pos rfl,if_pos (by simp;omega)]
   exact ⟨fun _=>⟨0,Nat.zero_lt_one,rfl⟩,fun _=>rfl⟩
  ·rw [if_neg h9,List.getElem?_replicate,if_pos hj]
   exact ⟨fun h=>by simp at h,fun ⟨i,hi,e⟩=>by
    obtain rfl:i=0:=by omega
    exact absurd e h9⟩
 rintro ⟨k,r,B,L⟩ ⟨hk1,hkq,hL,hBl,hB,hns⟩ ih
 simp only [List.cons_append,List.nil_append] at hk1 hkq hL hBl hB hns ih ⊢
 have hkl:=hpl k
 have hLl:L.length=k:=by rw [hL];simp [Bc]
 by_cases h0:B6 M x k=0
 ·have hst:Ki M x k:=.inl h0
  rw [AIe hk1 hkq hst hns,← hL]
  refine wk 11 cz ?_
  intro h2
  refine Dy 1 0 rfl rfl (by show L.length*8≤140737488355328;omega) ?_
  rw [hLl]
  refine Ps [0] rfl rfl rfl ⟨_,_,rfl,rfl,rfl⟩
 ·obtain ⟨b,hb⟩:∃ b,B[B6 M x k]?=some b:=⟨B[B6 M x k],List.getElem?_eq_getElem (by omega)⟩
  have hbc:=AGy hb
  cases b with
  | true =>
   have hst:Ki M x k:=.inr ((hB _ hkl).1 hb)
   rw [AIe hk1 hkq hst hns,← hL]
   refine wk 7 cz ?_
   intro h2
   refine Cg rfl rfl (Bu 0 rfl rfl ld4 (by assumption) ?_)
   refine wk 6 cz ?_
   refine Dy 1 0 rfl rfl (by show L.length*8≤140737488355328;omega) ?_
   rw [hLl]
   refine Ps [0] rfl rfl rfl ⟨_,_,rfl,rfl,rfl⟩
  | false =>
   have hst:¬ Ki M x k:=fun h=>by
    rcases h with h|h
    ·exact h0 h
    ·have:=(hB _ hkl).2 h
     rw [hb] at this;cases this
   have hns':∀ i,1≤i→i<k+1→¬ Ki M x i:=fun i h1 h2=>by
    rcases Nat.lt_succ_iff_lt_or_eq.1 h2 with h3|rfl
    ·exact hns i h1 h3
    ·exact hst
   have hgo:=AMC hpl hns'
   have ih':=fun r1=>ih (k+1,r1,B.set (B6 M x k) true,L++[((B6 M x k:Nat):Int)]) (by dsimp only;omega) ⟨by dsimp only;omega,by dsimp only;omega,by dsimp only;rw [List.range_succ,List.map_append,Bc,List.map_append,← Bc,← hL];rfl,by dsimp only;rw [List.length_set,hBl],fun j hj=>by
    dsimp only
    rw [List.getElem?_set]
    by_cases h9:B6 M x k=j
    ·rw [if_pos h9,if_pos (by omega)]
     exact ⟨fun _=>⟨k,by omega,h9⟩,fun _=>rfl⟩
    ·rw [if_neg h9,hB j hj]
     constructor
     ·rintro ⟨i,hi,e⟩;exact ⟨i,by omega,e⟩
     ·rintro ⟨i,hi,e⟩
      rcases Nat.lt_succ_iff_lt_or_eq.1 hi with h3|rfl
      ·exact ⟨i,h3,e⟩
      ·exact absurd e h9,hns'⟩
   simp only [List.length_append,List.length_singleton,show B6 M x (k+1)=M (B6 M x k) x from rfl,AF7,List.map_set] at ih'
   refine wk 7 cz ?_
   intro h2
   refine Cg rfl rfl (Bu 0 rfl rfl ld4 (by assumption) ?_)
   refine wk 6 cz ?_
   refine Aa rfl (Om 0 rfl rfl rfl rfl ld4 rfl (by first|omega|(simp;omega)) ?_)
   refine wk 3 cz ?_
   intro b4
   refine Aa rfl (Fi (z:=(↑(B6 M x k):Int)) 2 0 0 rfl rfl rfl rfl rfl Ce Ee rfl (fun w A hG=>(Dz (by first|(simp only [Bx];omega)|(simp [Bx];done)))) (by omega) _ G5 (by omega) fun r1=>?_)
   refine wk 7 (ct @B5 cz) ?_
   refine ALR [2,0,3] [0,2,3] (by exact T8 rfl) rfl rfl rfl (ih' r1)
theorem AJU {q k:Nat}{M:Nat→Nat→Nat}{x:Nat}(h:kP q M x=k) (h1:1≤k):Ki M x k∧∀ i,1≤i→i<k→¬ Ki M x i:=by
 rw [kP] at h
 cases hf:(List.range' 1 q).find? fun k=>decide (Ki M x k) with
 | none=>rw [hf] at h;simp at h;omega
 | some y =>
  rw [hf] at h
  obtain rfl:y=k:=h
  refine ⟨by simpa using List.find?_some hf,fun i hi hl hs=>?_⟩
  obtain ⟨hp,as0,bs0,e,hall⟩:=List.find?_eq_some_iff_append.1 hf
  have hm:i∈List.range' 1 q:=List.mem_range'_1.2 ⟨hi,by
   have:=List.mem_range'_1.1 (List.mem_of_find?_eq_some hf);omega⟩
  rw [e] at hm
  have hpw:(as0++y::bs0).Pairwise (·<·):=by rw [← e];exact List.pairwise_lt_range'
  rw [List.pairwise_append] at hpw
  rcases List.mem_append.1 hm with hm|hm
  ·have:=hall i hm
   simp [hs] at this
  ·rcases List.mem_cons.1 hm with rfl|hm
   ·omega
   ·have:=(List.pairwise_cons.1 hpw.2.1).1 i hm
    omega
theorem ACj {q:Nat}{A M:Nat→Nat→Nat}(R:Rng q A M) {x:Nat}(hx:x<q):L8 q M x↔kP q M x=q-1∧M (B6 M x (q-2)) x=1:=by
 have hq:=R.q2
 have e2:B6 M x (q-1)=M (B6 M x (q-2)) x:=by
  rw [show q-1=(q-2)+1 by omega];rfl
 constructor
 ·intro h
  refine ⟨AIe (by omega) (by omega) (.inr ⟨0,by omega,h.2.2.symm⟩) fun i h1 h2 hs=>?_,by rw [← e2];exact h.2.2⟩
  rcases hs with hs|⟨j,hj,e⟩
  ·exact h.2.1 i h2 hs
  ·exact h.1 j i hj h2 e
 ·rintro ⟨h1,h2⟩
  obtain ⟨hs,hn⟩:=AJU h1 (by omega)
  refine ⟨fun i j hij hj e=>?_,fun i hi e=>?_,by rw [e2];exact h2⟩
  ·exact hn j (by omega) hj (.inr ⟨i,hij,e⟩)
  ·rcases Nat.eq_zero_or_pos i with h|h
   ·subst h;exact absurd (show (1:Nat)=0 from e) (by decide)
   ·exact hn i h hi (.inl e)
def We (q:Nat) (M:Nat→Nat→Nat) (x:Nat):List Int:=Bc ((List.range (q-1)).map (B6 M x))
abbrev SvP (n:Nat) (l:List Int):Value→List Fact→List A3→Prop:=fun v Φ β=>∃ b o ca,v = .slice (some ⟨b,o,none⟩) n ca∧Φ=[Ap Aj (some ⟨b,o,none⟩) n ca l]∧β=[]
theorem Jj {nm cm:Nat}{pm:Option Addr}{p m q:Nat}{md:List Int}(K:Shp p m md) (hq:q=p ^ m) {x:Nat}(hx1:1≤x) (hx:x<q) (hg:L8 q (fM p (Az m md)) x) (hno:∀ y,1≤y→y<x→¬ L8 q (fM p (Az m md)) y) :
  Bn Tryz.prog 120 [.agg #[.int .i64 p,.int .i64 m,.slice pm nm cm],.int .i64 q] [] [Ap Aj pm nm cm md] (SvP (q-1) (We q (fM p (Az m md)) x)):=by
 refine Ab (F:=Nu) rfl fun C=>?_
 have h1:=K.p2
 have hqb:=K.q
 have hl:=K.flen
 have R:Rng q (fA p m) (fM p (Az m md)):=by
  have:=Xu h1 (f:=Az m md) (by rw [hl];exact K.m1)
  rwa [hl,← hq] at this
 have B5:=fun {nm cm:Nat}{pm:Option Addr}{x y:Nat}(hx:x<q) (hy:y<q)=>J4 (nm:=nm) (cm:=cm) (pm:=pm) K (x:=x) (y:=y) (hq▸hx) (hq▸hy)
 have Gc:=fun {nm cm:Nat}{pm:Option Addr}{x:Nat}(hx1:1≤x) (hx:x<q)=>Sy (nm:=nm) (cm:=cm) (pm:=pm) K hq hx1 hx
 generalize fM p (Az m md)=M at *
 refine wk 6 cz ?_
 intro b1
 refine Af (X:=Nat) [1,2] [0] (fun y=>[(5,.int .i64 (y:Int))]) (fun _=>[(some b1,24,[.int .i64 p,.int .i64 m,.slice pm nm cm])]) (fun _=>[]) (fun y=>1≤y∧y≤x) (fun y=>q-y) 1 [] rfl rfl rfl ⟨Nat.le_refl 1,hx1⟩ (by repeat (first|exact Fr.sub_nil _|refine Fr.sub_cons rfl ?_)) rfl rfl ?_
 rintro y ⟨hy1,hyx⟩ ih
 simp only [List.cons_append,List.nil_append] at hy1 hyx ih ⊢
 have hyq:y<q:=by omega
 have hpl:=R.pw_lt hyq (q-2)
 have hkq:kP q M y≤q:=by
  rw [kP]
  cases hf:(List.range' 1 q).find? fun k=>decide (Ki M y k) with
  | none=>exact Nat.zero_le _
  | some z =>
   have:=List.mem_range'_1.1 (List.mem_of_find?_eq_some hf)
   show z≤q;omega
 have hz:1≤kP q M y→kP q M y=q-1→(Bc ((List.range (kP q M y)).map (B6 M y)))[q-2]?=some ((B6 M y (q-2):Nat):Int):=fun h0 h=>I2 (by rw [List.getElem?_map,List.getElem?_range (by omega)];rfl)
 have hc:kP q M y=q-1→∀ {nm cm:Nat}{pm:Option Addr},Bn Tryz.prog 157 [.agg #[.int .i64 p,.int .i64 m,.slice pm nm cm],.int .i64 ((Bc ((List.range (kP q M y)).map (B6 M y))).getD (q-2) default),.int .i64 y] [] [Ap Aj pm nm cm md] (Rv (.int .i64 ((M (B6 M y (q-2)) y:Nat):Int)) []):=fun h nm cm pm=>by
  have e:(Bc ((List.range (kP q M y)).map (B6 M y))).getD (q-2) default=((B6 M y (q-2):Nat):Int):=by
   rw [List.getD_eq_getElem?_getD,hz (by omega) h];rfl
  rw [e]
  exact B5 hpl hyq
 have hml:=R.ml _ _ hpl hyq
 by_cases hyx2:y=x
 ·subst hyx2
  obtain ⟨g1,g2⟩:=(ACj R hyq).1 hg
  have hz:=hz (by omega) g1
  have B5:=fun {nm cm:Nat}{pm:Option Addr}=>hc g1 (nm:=nm) (cm:=cm) (pm:=pm)
  rw [g2] at B5
  refine wk 16 (ct @Gc (ct @B5 cz)) ?_
  intro h2 pa1 ca1 b2 o1
  refine AHo (n:=kP q M y) 1 rfl (by omega) fun b o eb=>?_
  subst eb
  rw [We,← g1]
  refine Ps [1] rfl rfl rfl ⟨_,_,_,rfl,rfl,rfl⟩
 ·have hng:=hno y hy1 (by omega)
  rw [ACj R hyq] at hng
  by_cases g1:kP q M y=q-1
  ·have g2:¬ M (B6 M y (q-2)) y=1:=fun h=>hng ⟨g1,h⟩
   have hz:=hz (by omega) g1
   have B5:=fun {nm cm:Nat}{pm:Option Addr}=>hc g1 (nm:=nm) (cm:=cm) (pm:=pm)
   refine wk 16 (ct @Gc (ct @B5 cz)) ?_
   intro h2 pa1 ca1 b2 o1
   exact tw (ih (y+1) (by omega) ⟨by omega,by omega⟩)
  ·refine wk 16 (ct @Gc cz) ?_
   intro h2 pa1 ca1
   exact tw (ih (y+1) (by omega) ⟨by omega,by omega⟩)
theorem Qi {nm cm:Nat}{pm:Option Addr}{p m q:Nat}{md:List Int}(K:Shp p m md) (hq:q=p ^ m) (hno:∀ y,1≤y→y<q→¬ L8 q (fM p (Az m md)) y) :
  Bn Tryz.prog 120 [.agg #[.int .i64 p,.int .i64 m,.slice pm nm cm],.int .i64 q] [] [Ap Aj pm nm cm md] (Rv (.slice none 0 0) []):=by
 refine Ab (F:=Nu) rfl fun C=>?_
 have h1:=K.p2
 have hqb:=K.q
 have hl:=K.flen
 have R:Rng q (fA p m) (fM p (Az m md)):=by
  have:=Xu h1 (f:=Az m md) (by rw [hl];exact K.m1)
  rwa [hl,← hq] at this
 have hq2:=R.q2
 have B5:=fun {nm cm:Nat}{pm:Option Addr}{x y:Nat}(hx:x<q) (hy:y<q)=>J4 (nm:=nm) (cm:=cm) (pm:=pm) K (x:=x) (y:=y) (hq▸hx) (hq▸hy)
 have Gc:=fun {nm cm:Nat}{pm:Option Addr}{x:Nat}(hx1:1≤x) (hx:x<q)=>Sy (nm:=nm) (cm:=cm) (pm:=pm) K hq hx1 hx
 generalize fM p (Az m md)=M at *
 refine wk 6 cz ?_
 intro b1
 refine Af (X:=Nat) [1,2] [0] (fun y=>[(5,.int .i64 (y:Int))]) (fun _=>[(some b1,24,[.int .i64 p,.int .i64 m,.slice pm nm cm])]) (fun _=>[]) (fun y=>1≤y∧y≤q) (fun y=>q-y) 1 [] rfl rfl rfl ⟨Nat.le_refl 1,by omega⟩ (by repeat (first|exact Fr.sub_nil _|refine Fr.sub_cons rfl ?_)) rfl rfl ?_
 rintro y ⟨hy1,hyx⟩ ih
 simp only [List.cons_append,List.nil_append] at hy1 hyx ih ⊢
 by_cases hyq:y<q
 ·have hpl:=R.pw_lt hyq (q-2)
  have hkq:kP q M y≤q:=by
   rw [kP]
   cases hf:(List.range' 1 q).find? fun k=>decide (Ki M y k) with
   | none=>exact Nat.zero_le _
   | some z =>
    have:=List.mem_range'_1.1 (List.mem_of_find?_eq_some hf)
    show z≤q;omega
  have hz:1≤kP q M y→kP q M y=q-1→(Bc ((List.range (kP q M y)).map (B6 M y)))[q-2]?=some ((B6 M y (q-2):Nat):Int):=fun h0 h=>I2 (by rw [List.getElem?_map,List.getElem?_range (by omega)];rfl)
  have hc:kP q M y=q-1→∀ {nm cm:Nat}{pm:Option Addr},Bn Tryz.prog 157 [.agg #[.int .i64 p,.int .i64 m,.slice pm nm cm],.int .i64 ((Bc ((List.range (kP q M y)).map (B6 M y))).getD (q-2) default),.int .i64 y] [] [Ap Aj pm nm cm md] (Rv (.int .i64 ((M (B6 M y (q-2)) y:Nat):Int)) []):=fun h nm cm pm=>by
   have e:(Bc ((List.range (kP q M y)).map (B6 M y))).getD (q-2) default=((B6 M y (q-2):Nat):Int):=by
    rw [List.getD_eq_getElem?_getD,hz (by omega) h];rfl
   rw [e]
   exact B5 hpl hyq
  have hml:=R.ml _ _ hpl hyq
  have hng:=hno y hy1 hyq
  rw [ACj R hyq] at hng
  by_cases g1:kP q M y=q-1
  ·have g2:¬ M (B6 M y (q-2)) y=1:=fun h=>hng ⟨g1,h⟩
   have hz:=hz (by omega) g1
   have B5:=fun {nm cm:Nat}{pm:Option Addr}=>hc g1 (nm:=nm) (cm:=cm) (pm:=pm)
   refine wk 16 (ct @Gc (ct @B5 cz)) ?_
   intro h2 pa1 ca1 b2 o1
   exact tw (ih (y+1) (by omega) ⟨by omega,by omega⟩)
  ·refine wk 16 (ct @Gc cz) ?_
   intro h2 pa1 ca1
   exact tw (ih (y+1) (by omega) ⟨by omega,by omega⟩)
 ·obtain rfl:y=q:=by omega
  refine wk 7 cz ?_
  intro h2
  exact ge
theorem N3 {p m:Nat}{md:List Int}(K:Shp p m md) (hp:Prm p):(∃ x,1≤x∧x<p ^ m∧L8 (p ^ m) (fM p (Az m md)) x)↔Fok p m md:=by
 have h1:=K.p2
 have hl:=K.flen
 have R:Rng (p ^ m) (fA p m) (fM p (Az m md)):=by
  have:=Xu h1 (f:=Az m md) (by rw [hl];exact K.m1)
  rwa [hl] at this
 constructor
 ·rintro ⟨x,hx1,hx,hg⟩
  refine ⟨hp,K.m1,K.m8,K.q,K.one,K.len,K.rng,fun hm d hd hd2 v hv=>?_⟩
  have hlm:=K.len hm
  have ef:Az m md=md:=if_neg hm
  have et:Bc (md.map Int.toNat)=md:=Td fun x hx=>(K.rng x hx).1
  rw [et]
  rw [List.length_map] at hd2
  refine AKJ h1 (f:=md) (g:=Bc (Dm p d v)) (fun a b ha hb e=>?_) (by rw [Co,D7];exact hd) (by rw [Co,D7];omega)
  rw [hlm] at ha hb
  exact R.gen_nz hx hg a b ha hb (by rw [ef];exact e)
 ·intro F
  have hf:=F.fi
  have FF:Fld (p ^ m) (fA p m) (fM p (Az m md)):=R.fld fun x y hx hy e=>by
   have:=hf.nz (x:Int) (y:Int) (by omega) (by omega) (by omega) (by omega) (by show ((fM p (Az m md) (x:Int).toNat (y:Int).toNat:Nat):Int)=0;rw [Int.toNat_natCast,Int.toNat_natCast,e];rfl)
   omega
  exact FF.gen_ex
theorem ALB {P M:Int}{md:List Int}(h:AIr P M md):∃ p m:Nat,P=p∧M=m∧Shp p m md∧Prm p:=by
 obtain ⟨⟨h1,h2,h3,h4⟩,hp,ho,hn⟩:=h
 refine ⟨P.toNat,M.toNat,by omega,by omega,⟨by omega,by omega,by omega,h4,fun e=>List.length_eq_zero_iff.1 (ho (by omega)),fun e=>?_,fun x hx=>?_⟩,hp⟩
 ·have:=(hn (by omega)).1;omega
 ·by_cases e:M=1
  ·have:=List.length_eq_zero_iff.1 (ho e)
   rw [this] at hx;cases hx
  ·have:=(hn e).2 x hx
   omega
theorem Zt {p m:Nat}{md:List Int}(K:Fok p m md):V9 p m md:=by
 have h2:=K.p2;have h1:=K.m1;have h8:=K.m8
 refine ⟨⟨by omega,by omega,by omega,by simpa using K.q⟩,by simpa using K.pr,fun h=>by rw [K.one (by omega)];rfl,fun h=>⟨by rw [K.len (by omega)],K.rng,by simpa using K.irr (by omega)⟩⟩
theorem AGe {P M:Int}{md:List Int}(h:V9 P M md):AIr P M md:=⟨h.1,h.2.1,h.2.2.1,fun hm=>⟨(h.2.2.2 hm).1,(h.2.2.2 hm).2.1⟩⟩
theorem ABQ {q:Nat}{M:Nat→Nat→Nat}(h:∃ x,1≤x∧x<q∧L8 q M x):∃ x,1≤x∧x<q∧L8 q M x∧∀ y,1≤y→y<x→¬ L8 q M y:=by
 obtain ⟨x,h1,h2,h3⟩:=h
 obtain ⟨k,hk,⟨a,b,c⟩,d⟩:=ACt (P:=fun x=>1≤x∧x<q∧L8 q M x) x ⟨h1,h2,h3⟩
 exact ⟨k,a,b,c,fun y y1 y2 hg=>d y y2 ⟨y1,by omega,hg⟩⟩
open Classical in
noncomputable def gnX (q:Nat) (M:Nat→Nat→Nat):Nat:=if h:∃ x,1≤x∧x<q∧L8 q M x then Classical.choose (ABQ h) else 1
theorem Ut {q:Nat}{M:Nat→Nat→Nat}(h:∃ x,1≤x∧x<q∧L8 q M x):1≤gnX q M∧gnX q M<q∧L8 q M (gnX q M)∧∀ y,1≤y→y<gnX q M→¬ L8 q M y:=by
 rw [gnX,dif_pos h]
 exact Classical.choose_spec (ABQ h)
def lgN (q:Nat) (M:Nat→Nat→Nat) (x a:Nat):Nat:=((List.range (q-1)).find? fun i=>decide (B6 M x i=a)).getD 0
def S7 (q:Nat) (M:Nat→Nat→Nat) (x:Nat):List Int:=Bc ((List.range q).map (lgN q M x))
def lgK (M:Nat→Nat→Nat) (x k a:Nat):Nat:=((List.range k).find? fun i=>decide (B6 M x i=a)).getD 0
theorem ALt {M:Nat→Nat→Nat}{x k a:Nat}:lgK M x k a≤k:=by
 rw [lgK]
 cases hf:(List.range k).find? fun i=>decide (B6 M x i=a) with
 | none=>exact Nat.zero_le _
 | some j=>exact Nat.le_of_lt (List.mem_range.1 (List.mem_of_find?_eq_some hf))
theorem AI5 {q k:Nat}{M:Nat→Nat→Nat}{x:Nat}(hg:L8 q M x) (hk:k<q-1) (h:B6 M x k<q):(Bc ((List.range q).map (lgK M x k))).set (B6 M x k) (k:Int)=Bc ((List.range q).map (lgK M x (k+1))):=by
 apply List.ext_getElem
 ·simp [Bc]
 intro i h1 h2
 simp only [Bc,List.getElem_set,List.getElem_map,List.getElem_range]
 have h3:i<q:=by simpa [Bc] using h2
 split
 ·rename_i e
  subst e
  rw [lgK,List.range_succ,List.find?_append,List.find?_eq_none.2 fun j hj=>by
   simpa using hg.1 j k (List.mem_range.1 hj) hk]
  simp
 ·rename_i e
  rw [lgK,lgK,List.range_succ,List.find?_append]
  simp [e]
theorem ACr {q:Nat}{M:Nat→Nat→Nat}{x i:Nat}(hg:L8 q M x) (hi:i<q-1):lgN q M x (B6 M x i)=i:=by
 rw [lgN]
 cases hf:(List.range (q-1)).find? fun j=>decide (B6 M x j=B6 M x i) with
 | none =>
  have:=List.find?_eq_none.1 hf i (List.mem_range.2 hi)
  simp at this
 | some j =>
  have h1:B6 M x j=B6 M x i:=by simpa using List.find?_some hf
  have h2:=List.mem_range.1 (List.mem_of_find?_eq_some hf)
  show j=i
  rcases Nat.lt_trichotomy j i with h|h|h
  ·exact absurd h1 (hg.1 j i h hi)
  ·exact h
  ·exact absurd h1.symm (hg.1 i j h h2)
noncomputable abbrev J8 (p m:Nat) (md:List Int):List Int:=We (p ^ m) (fM p (Az m md)) (gnX (p ^ m) (fM p (Az m md)))
noncomputable abbrev J3 (p m:Nat) (md:List Int):List Int:=S7 (p ^ m) (fM p (Az m md)) (gnX (p ^ m) (fM p (Az m md)))
noncomputable abbrev gfL (p m:Nat) (md:List Int) (b:Nat) (pg:Option Addr) (cg:Nat) (pe:Option Addr) (ce:Nat) (pl:Option Addr) (cl:Nat):List Fact :=
 [Jt b [.int .i64 p,.int .i64 m,.slice pg md.length cg,.int .i64 ((p ^ m:Nat):Int),.slice pe (p ^ m-1) ce,.slice pl (p ^ m) cl],Ap Aj pg md.length cg md,Ap Aj pe (p ^ m-1) ce (J8 p m md),Ap Aj pl (p ^ m) cl (J3 p m md)]
theorem Ga {pm:Option Addr}{nm cm p m:Nat}{md:List Int}(K:Fok p m md):Bn Tryz.prog 72 [.agg #[.int .i64 p,.int .i64 m,.slice pm nm cm]] [] [Ap Aj pm nm cm md]
  (fun v Φ β=>∃ b pg cg pe ce pl cl,v = .tuple #[.pointer (some ⟨b,0,none⟩),.int .i64 0]∧Φ=gfL p m md b pg cg pe ce pl cl∧β=[]):=by
 refine Ab (F:=ADt) rfl fun C=>?_
 have F6:=fun {pm:Option Addr}{nm cm:Nat}=>Ke (P:=(p:Int)) (M:=(m:Int)) (pm:=pm) (nm:=nm) (cm:=cm) (md:=md) (res:=true) ⟨fun _=>AGe (Zt K),fun _=>rfl⟩
 have Iq:=Eh K.ord
 have hx:=Ut ((N3 K.shp K.pr).2 K)
 have Fy:=fun {nm cm:Nat}{pm:Option Addr}=>Jj (nm:=nm) (cm:=cm) (pm:=pm) K.shp rfl hx.1 hx.2.1 hx.2.2.1 hx.2.2.2
 have h2:=K.p2
 have hqb:=K.q
 have F:=K.fi
 have R:Rng (p ^ m) (fA p m) (fM p (Az m md)):=by
  have:=Xu h2 (f:=Az m md) (by rw [K.shp.flen];exact K.shp.m1)
  rwa [K.shp.flen] at this
 have hplt:=R.pw_lt (x:=gnX (p ^ m) (fM p (Az m md))) hx.2.1
 have hq2:=F.q2
 unfold gfL J8 J3
 generalize gnX (p ^ m) (fM p (Az m md))=x at *
 generalize fM p (Az m md)=M at *
 generalize p ^ m=q at *
 refine A9 0 rfl fun en hb _=>?_
 subst en
 have hb':md.length*8≤140737488355328:=hb
 refine wk 23 (ct @F6 (ct @Iq (ct @Fy cz))) ?_
 intro b1 b2 o1 ca1
 refine Aa rfl (AAv Ce rfl rfl ?_)
 refine wk 3 cz ?_
 (apply Kv it mx 0 14;(· rfl);(· rfl);(· rfl))
 (apply Ac;(· rfl);(· exact Bz fun _=>An rfl Ot Al))
 (apply Ac;(· rfl);(· exact Bv 0 rfl rfl Ci rfl))
 (apply Ac;(· rfl);(· exact Bz fun _=>An rfl Ok Al))
 (apply Ac;(· rfl);(· exact Bv 0 rfl rfl Ci rfl))
 (apply Wq (Ds IntKind.i64 8);(· rfl);(· exact Ce);intro pa1)
 (apply Ac;(· rfl);(· exact Bz fun _=>An rfl AB9 Al))
 (apply Ac;(· rfl);(· exact Bv 0 rfl rfl E6 rfl))
 (apply Yl 0 2;(· rfl);(· rfl);(· rfl);(· rfl);(· rfl);(· exact Ce);(· exact Ee);(· rfl);(· (first|omega|(simp only [List.length_cons,List.length_nil];omega)));(· exact G5);(· (first|omega|(simp only [List.length_cons,List.length_nil];omega)));intro pa2 cap1 b3 cs1)
 (apply G1 [23,25,29] (fun vs=>Value.agg ((Up ([(0,1),(1,1),(2,1)]) ([Value.int IntKind.i64 0,Value.int IntKind.i64 0,Value.slice none 0 0]) [(0,Cc (vs.getD 0 undef)),(1,Cc (vs.getD 1 undef)),(2,Cc (vs.getD 2 undef))]).getD []).toArray) (v:=Value.agg #[Value.int IntKind.i64 ↑p,Value.int IntKind.i64 ↑m,Value.slice pa2 (0+md.length) cap1]);(· rfl);(· rfl);(· rfl);(· rfl);(· exact Bz fun _=>Dc (cs:=[Value.int IntKind.i64 ↑p,Value.int IntKind.i64 ↑m,Value.slice pa2 (0+md.length) cap1]) AIK AEC rfl rfl Al))
 (apply A1 3;(· rfl);(· simp))
 (apply AAu (q) _;(· rfl);(· rfl);(· rfl);(· exact Ce);(· exact Ee);(· rfl);(· rfl);(· exact G5);(· rfl);(· omega);(· omega);intro b4)
 (apply G1 [30,31,32,34] (fun vs=>Value.agg ((Up ([(0,3),(3,1),(4,1),(5,1)]) ([Value.int IntKind.i64 0,Value.int IntKind.i64 0,Value.slice none 0 0,Value.int IntKind.i64 0,Value.slice none 0 0,Value.slice none 0 0]) [(0,Cc (vs.getD 0 undef)),(1,Cc (vs.getD 1 undef)),(2,Cc (vs.getD 2 undef)),(3,Cc (vs.getD 3 undef))]).getD []).toArray) (v:=Value.agg #[Value.int IntKind.i64 ↑p,Value.int IntKind.i64 ↑m,Value.slice pa2 (0+md.length) cap1,Value.int IntKind.i64 ↑q,Value.slice (some { block:=b2,off:=o1 }) (q-1) ca1,Value.slice (some { block:=b4,off:=0 }) q q]);(· rfl);(· rfl);(· rfl);(· rfl);(· exact Bz fun _=>Dc (cs:=[Value.int IntKind.i64 ↑p,Value.int IntKind.i64 ↑m,Value.slice pa2 (0+md.length) cap1,Value.int IntKind.i64 ↑q,Value.slice (some { block:=b2,off:=o1 }) (q-1) ca1,Value.slice (some { block:=b4,off:=0 }) q q]) AMk AMe rfl rfl Al))
 refine Mj rfl ?_
 (rotate_left;rfl;rotate_right)
 simp only [List.append_nil,List.append_assoc,List.map_cons,List.map_nil,List.cons_append,List.nil_append,List.drop_zero]
 (refine Vb 1 0 (by first|rfl|exact (List.append_nil _).symm) rfl (by show (0+md.length)*8≤140737488355328;omega) ?_;simp only [List.take_succ_cons,List.take_zero,List.cons_append,List.nil_append,List.append_nil])
 refine wk 7 cz ?_
 intro b5
 rw [ADj]
 have hr0:List.replicate q (0:Int)=Bc ((List.range q).map (lgK M x 0)):=by
  rw [show (lgK M x 0)=fun _=>0 from rfl,List.map_const',List.length_range]
  simp [Bc]
 rw [hr0]
 have hgx:=hx.2.2.1
 refine Af (X := Nat) [2,3,6,37,38] [0,1,2,3,4] (fun k => [(39, .int .i64 k)]) (fun k => [(some b5,119, [Value.int IntKind.i64 ↑p, Value.int IntKind.i64 ↑m, Value.slice pa2 (0 + md.length) cap1,
         Value.int IntKind.i64 ↑q, Value.slice (some { block := b2, off := o1 }) (q-1) ca1,
         Value.slice (some { block := b4, off := 0 }) q q]), (some b4,3, Ak .i64 (Bc ((List.range q).map (lgK M x k)))), (some b1,24, [.int .i64 p, .int .i64 m, .slice pm md.length cm])]) (fun _ => [])
  (fun k=>k≤q-1) (fun k=>q-1-k) 0 [] rfl rfl rfl (Nat.zero_le _) (by refine Fr.sub_consI rfl rfl ?_;repeat (first|exact Fr.sub_nil _|refine Fr.sub_cons rfl ?_)) rfl rfl ?_
 rintro k hk ih
 simp only [List.cons_append,List.nil_append] at hk ih ⊢
 by_cases h9:k<q-1
 ·have at_x:(We q M x)[k]?=some ((B6 M x k:Nat):Int):=by simp [We,Bc,h9]
  have ht:=hplt k
  have ih':=ih (k+1) (by omega) (by omega)
  rw [← AI5 hgx h9 ht] at ih'
  have hln:(Bc (List.map (lgK M x k) (List.range q))).length=q:=by simp [Bc]
  generalize Bc (List.map (lgK M x k) (List.range q))=L at *
  refine wk 7 cz ?_
  intro h1 b6 o2 hz1
  refine Aa rfl (Av 0 rfl rfl Ci fun ⟨r1,r2⟩=>?_)
  refine wk 11 cz ?_
  exact tw (ih')
 ·obtain rfl:k=q-1:=by omega
  refine wk 7 cz ?_
  intro h1
  have hq47:q*8≤140737488355328:=by omega
  refine Hq 8 (Bc ((List.range q).map (lgK M x (q-1)))) 1 rfl (by simp [Bc]) (W8 fun d hd=>?_) hq47 (by omega) ?_
  ·obtain ⟨i,hi,rfl⟩:=List.mem_map.1 hd
   have:=ALt (M:=M) (x:=x) (k:=q-1) (a:=i)
   omega
  rw [Nat.zero_add]
  refine Uz 0 rfl ?_
  refine Ps [0,2,5,1] rfl rfl rfl ⟨_,_,_,_,_,_,_,rfl,rfl,rfl⟩
theorem AC3 {u p:Nat}(h:u≤256):0≤(u:Int) / (p:Int)∧(u:Int) / (p:Int)≤256:=by
 rw [← Int.natCast_ediv]
 exact ⟨Int.natCast_nonneg _,by have h1:=Nat.le_trans (Nat.div_le_self u p) h;generalize u / p=z at *;omega⟩
theorem take_set {T:List Int}{i n:Nat}{v:Int}(h:T[i]?=some v) (hi:i<n):(T.take i++List.replicate (n-i) 0).set i v=T.take (i+1)++List.replicate (n-(i+1)) 0:=by
 have hl:i<T.length:=by rw [List.getElem?_eq_some_iff] at h;exact h.1
 have e1:(T.take i).length=i:=by rw [List.length_take];omega
 obtain ⟨k,hk⟩:∃ k,n-i=k+1:=⟨n-i-1,by omega⟩
 rw [hk,List.replicate_succ,List.set_append_right _ _ (by omega),e1,Nat.sub_self,List.set_cons_zero,show n-(i+1)=k by omega,List.take_add_one,h,List.append_assoc]
 rfl
abbrev RwI (n:Nat) (l:List Int):Value→List Fact→List A3→Prop:=fun v Φ β=>∃ r:Row,v = .slice (ad r.bo) n r.cap∧Φ=[A5 Aj r n l]∧β=[(r.bo,3,r.cs)]
theorem Bk {P:Program}{F:Fun P}{C:Cx}{S:List It}{σ:Fr}{β:List A3}{Γ:List Fact}{R:Value→World→Prop}{e:TypeId}{b n:Nat}{l:List Int}(k:Nat) (hn:A4 β k=some (some b,e,Ak .i64 l)) (hl:n=l.length) (hr:∀ x∈l,Bx .i64 x) (h63:n≤9223372036854775807)
  (h:J F C S σ β (A5 Aj ⟨some b,n,Ak .i64 l⟩ n l::Γ) R):J F C S σ β Γ R :=
 Mf (E:=Aj) (l.map fun n=>[.int .i64 n]) l k (fun w A _=>ADK .i64 8 l hr w A) hn (O7 _ _) hl (by rw [Iw];show l.length=n*1;omega) h63 h
abbrev Jp (b p m q:Nat) (pg:Option Addr) (ng cg:Nat) (pe:Option Addr) (ne ce:Nat) (pl:Option Addr) (nl cl:Nat):Fact :=
 Jt b [.int .i64 p,.int .i64 m,.slice pg ng cg,.int .i64 (q:Int),.slice pe ne ce,.slice pl nl cl]
theorem Fok.rng' {p m:Nat}{md:List Int}(K:Fok p m md):Rng (p ^ m) (fA p m) (fM p (Az m md)):=by
 have:=Xu K.p2 (f:=Az m md) (by rw [K.shp.flen];exact K.shp.m1)
 rwa [K.shp.flen] at this
section
variable {p m q b ng cg ne ce nl cl:Nat}{pg pe pl:Option Addr}
theorem Ji {x:Int}{res:Bool}(hq:q≤256) (hr:decide (0≤x∧x<(q:Int))=res):Bn Tryz.prog 144 [.pointer (some ⟨b,0,none⟩),.int .i64 x] [] [Jp b p m q pg ng cg pe ne ce pl nl cl] (Rv (.bool res) []):=by
 refine Ab (F:=AAQ) rfl fun C=>?_
 subst hr
 by_cases h0:0≤x
 ·have e:decide (0≤x∧x<(q:Int))=decide (x<(q:Int)):=by simp [h0]
  rw [e]
  refine wk 12 cz ?_
  intro h1
  exact ge
 ·rw [decide_eq_false (show ¬(0≤x∧x<(q:Int)) from fun h=>h0 h.1)]
  refine wk 9 cz ?_
  intro h1
  exact ge
theorem B7 {x:Int}(hq:q≤256) (h0:0≤x) (h1:x<(q:Int)):Bn Tryz.prog 121 [.pointer (some ⟨b,0,none⟩),.int .i64 x] [] [Jp b p m q pg ng cg pe ne ce pl nl cl] (Rv (.int .i64 x) []):=by
 refine Ab (F:=AAB) rfl fun C=>?_
 have hd:decide (0≤x∧x<(q:Int))=true:=decide_eq_true ⟨h0,h1⟩
 refine wk 10 (ct @Ji cz) ?_
 exact ge
theorem Dn {x y:Int}(hp:2≤p) (hm:1≤m) (hq:p ^ m≤256) (x0:0≤x) (x1:x<((p ^ m:Nat):Int)) (y0:0≤y) (y1:y<((p ^ m:Nat):Int)):Bn Tryz.prog 122 [.pointer (some ⟨b,0,none⟩),.int .i64 x,.int .i64 y] [] [Jp b p m (p ^ m) pg ng cg pe ne ce pl nl cl] (Rv (.int .i64 (Ad (fA p m) x y)) []):=by
 refine Ab (F:=Zd) rfl fun C=>?_
 obtain ⟨a,rfl⟩:=Int.eq_ofNat_of_zero_le x0
 obtain ⟨c,rfl⟩:=Int.eq_ofNat_of_zero_le y0
 rw [Ad,Int.toNat_natCast,Int.toNat_natCast]
 clear x0 y0
 have x1:=Int.ofNat_lt.1 x1
 have y1:=Int.ofNat_lt.1 y1
 have hpp:p≤256:=by
  have:=Nat.pow_le_pow_right (n:=p) (by omega) hm
  rw [Nat.pow_one] at this
  omega
 by_cases hp2:p=2
 ·subst hp2
  rw [AHH x1 y1]
  generalize 2 ^ m=Q at *
  refine wk 18 (ct @B7 (ct @B7 cz)) ?_
  intro h1
  refine Aa rfl (AGp (a) (c) rfl rfl (by first|rfl|omega) (by first|rfl|omega) (by omega) (by omega) ?_)
  refine wk 2 cz ?_
  exact ge
 ·generalize hQ:p ^ m=Q at *
  refine wk 19 (ct @B7 (ct @B7 cz)) ?_
  intro h1
  generalize hF:fA p m a c=F
  refine Af (X:=Nat×Nat×Nat×Nat×Nat) [0,6] [0] (fun k=>[(1,.int .i64 (k.1:Int)),(2,.int .i64 (k.2.1:Int)),(7,.int .i64 (k.2.2.1:Int)),(8,.int .i64 (k.2.2.2.1:Int))]) (fun _=>[]) (fun _=>[])
   (fun k=>k.1<p ^ k.2.2.2.2∧k.2.1<p ^ k.2.2.2.2∧k.2.2.2.1*p ^ k.2.2.2.2=Q∧k.2.2.1<k.2.2.2.1∧k.2.2.1+k.2.2.2.1*fA p k.2.2.2.2 k.1 k.2.1=F) (fun k=>k.2.2.2.2) (a,c,0,1,m) [] rfl rfl rfl ⟨by dsimp only;omega,by dsimp only;omega,by dsimp only;omega,by dsimp only;omega,by dsimp only;omega⟩ (by repeat (first|exact Fr.sub_nil _|refine Fr.sub_cons rfl ?_)) rfl rfl ?_
  rintro ⟨u,v,r,w,k⟩ ⟨hu,hv,hw,hr,he⟩ ih
  simp only [List.cons_append,List.nil_append] at hu hv hw hr he ih ⊢
  by_cases h0:u=0∧v=0
  ·obtain ⟨rfl,rfl⟩:=h0
   rw [AKt,Nat.mul_zero,Nat.add_zero] at he
   subst he
   refine wk 7 cz ?_
   intro h2
   exact ge
  ·obtain ⟨k,rfl⟩:∃ j,k=j+1:=⟨k-1,by
    rcases k with _|k
    ·rw [Nat.pow_zero] at hu hv;omega
    ·omega⟩
   have hw1:w≤Q:=Nat.le_of_dvd (by omega) ⟨_,hw.symm⟩
   have hwp:w*p≤Q:=Nat.le_of_dvd (by omega) ⟨p ^ k,by rw [← hw,Nat.pow_succ,Nat.mul_assoc,Nat.mul_comm p]⟩
   have hd:(u % p+v % p) % p<p:=Nat.mod_lt _ (by omega)
   have hdw:(u % p+v % p) % p*w+w≤w*p:=by
    have:=Nat.mul_le_mul_right w (show (u % p+v % p) % p+1≤p by omega)
    rw [Nat.add_mul,Nat.one_mul,Nat.mul_comm p] at this
    exact this
   have hu1:=Nat.mod_lt u (show 0<p by omega)
   have hv1:=Nat.mod_lt v (show 0<p by omega)
   have ih':=ih (u / p,v / p,r+(u % p+v % p) % p*w,w*p,k) (Nat.lt_succ_self k) ⟨by dsimp only;exact Nat.div_lt_of_lt_mul (by rwa [Nat.pow_succ,Nat.mul_comm] at hu),by dsimp only;exact Nat.div_lt_of_lt_mul (by rwa [Nat.pow_succ,Nat.mul_comm] at hv),by dsimp only;rw [← hw,Nat.pow_succ,Nat.mul_assoc,Nat.mul_comm p],by dsimp only;omega,by
    dsimp only
    rw [← he,Zw,Nat.mul_add,Nat.mul_comm w (_ % p),Nat.mul_assoc,Nat.add_assoc]⟩
   simp only [Int.natCast_add,Int.natCast_mul,Int.natCast_emod,Int.natCast_ediv] at ih'
   have hm0:0≤((u:Int) % (p:Int)+(v:Int) % (p:Int)) % (p:Int)*(w:Int)∧(r:Int)+((u:Int) % (p:Int)+(v:Int) % (p:Int)) % (p:Int)*(w:Int)≤256:=by
    rw [← Int.natCast_emod,← Int.natCast_emod,← Int.natCast_add,← Int.natCast_emod,← Int.natCast_mul]
    omega
   have hm1:0≤(w:Int)*(p:Int)∧(w:Int)*(p:Int)≤256:=by
    rw [← Int.natCast_mul]
    omega
   have hp8:p ^ (k+1)≤Q:=Nat.le_of_dvd (by omega) ⟨w,by rw [← hw,Nat.mul_comm]⟩
   have hu2:=Nat.div_le_self u p
   have hv2:=Nat.div_le_self v p
   have hm2:0≤(u:Int) / (p:Int)∧(u:Int) / (p:Int)≤256:=AC3 (by omega)
   have hm3:0≤(v:Int) / (p:Int)∧(v:Int) / (p:Int)≤256:=AC3 (by omega)
   rcases Nat.eq_zero_or_pos u with h9|h9
   ·have h8:0<v:=by omega
    refine wk 30 cz ?_
    intro h2 h3
    exact tw (ih')
   ·refine wk 30 cz ?_
    intro h2
    exact tw (ih')
theorem G6 {x:Int}(hp:2≤p) (hm:1≤m) (hq:p ^ m≤256) (x0:0≤x) (x1:x<((p ^ m:Nat):Int)):Bn Tryz.prog 74 [.pointer (some ⟨b,0,none⟩),.int .i64 x] [] [Jp b p m (p ^ m) pg ng cg pe ne ce pl nl cl] (Rv (.int .i64 ((nP p m x.toNat:Nat):Int)) []):=by
 refine Ab (F:=Y9) rfl fun C=>?_
 obtain ⟨a,rfl⟩:=Int.eq_ofNat_of_zero_le x0
 rw [Int.toNat_natCast]
 clear x0
 have x1:=Int.ofNat_lt.1 x1
 have hpp:p≤256:=by
  have:=Nat.pow_le_pow_right (n:=p) (by omega) hm
  rw [Nat.pow_one] at this
  omega
 generalize hQ:p ^ m=Q at *
 refine wk 9 (ct @B7 cz) ?_
 generalize hF:nP p m a=F
 refine Af (X:=Nat×Nat×Nat×Nat) [0,4] [0] (fun k=>[(1,.int .i64 (k.1:Int)),(5,.int .i64 (k.2.1:Int)),(6,.int .i64 (k.2.2.1:Int))]) (fun _=>[]) (fun _=>[])
  (fun k=>k.1<p ^ k.2.2.2∧k.2.2.1*p ^ k.2.2.2=Q∧k.2.1<k.2.2.1∧k.2.1+k.2.2.1*nP p k.2.2.2 k.1=F) (fun k=>k.2.2.2) (a,0,1,m) [] rfl rfl rfl ⟨by dsimp only;omega,by dsimp only;omega,by dsimp only;omega,by dsimp only;omega⟩ (by repeat (first|exact Fr.sub_nil _|refine Fr.sub_cons rfl ?_)) rfl rfl ?_
 rintro ⟨u,r,w,k⟩ ⟨hu,hw,hr,he⟩ ih
 simp only [List.cons_append,List.nil_append] at hu hw hr he ih ⊢
 by_cases h0:u=0
 ·subst h0
  rw [AJq,Nat.mul_zero,Nat.add_zero] at he
  subst he
  refine wk 7 cz ?_
  intro h1
  exact ge
 ·obtain ⟨k,rfl⟩:∃ j,k=j+1:=⟨k-1,by
   rcases k with _|k
   ·rw [Nat.pow_zero] at hu;omega
   ·omega⟩
  have hw1:w≤Q:=Nat.le_of_dvd (by omega) ⟨_,hw.symm⟩
  have hwp:w*p≤Q:=Nat.le_of_dvd (by omega) ⟨p ^ k,by rw [← hw,Nat.pow_succ,Nat.mul_assoc,Nat.mul_comm p]⟩
  have hd:(p-u % p) % p<p:=Nat.mod_lt _ (by omega)
  have hdw:(p-u % p) % p*w+w≤w*p:=by
   have:=Nat.mul_le_mul_right w (show (p-u % p) % p+1≤p by omega)
   rw [Nat.add_mul,Nat.one_mul,Nat.mul_comm p] at this
   exact this
  have hu1:=Nat.mod_lt u (show 0<p by omega)
  have ih':=ih (u / p,r+(p-u % p) % p*w,w*p,k) (Nat.lt_succ_self k) ⟨by dsimp only;exact Nat.div_lt_of_lt_mul (by rwa [Nat.pow_succ,Nat.mul_comm] at hu),by dsimp only;rw [← hw,Nat.pow_succ,Nat.mul_assoc,Nat.mul_comm p],by dsimp only;omega,by
   dsimp only
   rw [← he,ACq,Nat.mul_add,Nat.mul_comm w (_ % p),Nat.mul_assoc,Nat.add_assoc]⟩
  simp only [Int.natCast_add,Int.natCast_mul,Int.natCast_emod,Int.natCast_ediv] at ih'
  have hm0:0≤((p-u % p:Nat):Int) % (p:Int)*(w:Int)∧(r:Int)+((p-u % p:Nat):Int) % (p:Int)*(w:Int)≤256:=by
   rw [← Int.natCast_emod,← Int.natCast_mul]
   omega
  have hm1:0≤(w:Int)*(p:Int)∧(w:Int)*(p:Int)≤256:=by
   rw [← Int.natCast_mul]
   omega
  have hp8:p ^ (k+1)≤Q:=Nat.le_of_dvd (by omega) ⟨w,by rw [← hw,Nat.mul_comm]⟩
  have hu2:=Nat.div_le_self u p
  have hm2:0≤(u:Int) / (p:Int)∧(u:Int) / (p:Int)≤256:=AC3 (by omega)
  refine wk 5 cz ?_
  intro h1
  (apply E5 it mx 23;(· rfl);(· rfl))
  (apply A1 3;(· rfl);(· simp))
  (apply Ac;(· rfl);(· exact Bz fun _=>An rfl Tc Al))
  (apply Ac;(· rfl);(· exact Bz fun _=>An rfl Ot Al))
  (apply Ac;(· rfl);(· exact AAA 0 rfl rfl Ci rfl))
  (apply A1 3;(· rfl);(· simp))
  (apply Ac;(· rfl);(· exact Bz fun _=>An rfl Tc Al))
  (apply Ac;(· rfl);(· exact Bz fun _=>An rfl Ot Al))
  (apply Ac;(· rfl);(· exact AAA 0 rfl rfl Ci rfl))
  (apply A1 1;(· rfl);(· exact ⟨⟨by omega,by omega⟩,trivial⟩))
  (apply Ac (v:=Value.int IntKind.i64 ((((p)-((u) % (p)):Nat)):Int));(· rfl);(· exact Bz fun _=>ADv it _ rfl ⟨by omega,by omega⟩ (by omega) Al))
  simp only [Nat.add_sub_cancel]
  (apply A1 2;(· rfl);(· simp))
  (apply Ac;(· rfl);(· exact Bz fun _=>An rfl Tc Al))
  (apply Ac;(· rfl);(· exact Bz fun _=>An rfl Ot Al))
  (apply Ac;(· rfl);(· exact AAA 0 rfl rfl Ci rfl))
  (apply A1 4;(· rfl);(· exact ⟨⟨by omega,by omega⟩,⟨by omega,by omega⟩,trivial,⟨by omega,by omega⟩,trivial⟩))
  refine Et rfl ?_
  simp only [List.map_cons,List.map_nil,List.cons_append,List.nil_append]
  refine wk 14 cz ?_
  exact tw (ih')
theorem C6 {x y:Int}{md:List Int}(K:Fok p m md) (x0:0≤x) (x1:x<((p ^ m:Nat):Int)) (y0:0≤y) (y1:y<((p ^ m:Nat):Int)):Bn Tryz.prog 164 [.pointer (some ⟨b,0,none⟩),.int .i64 x,.int .i64 y] [] [Jp b p m (p ^ m) pg ng cg pe (p ^ m-1) ce pl (p ^ m) cl,Ap Aj pe (p ^ m-1) ce (J8 p m md),Ap Aj pl (p ^ m) cl (J3 p m md)] (Rv (.int .i64 (Ad (fM p (Az m md)) x y)) []):=by
 refine Ab (F:=Y0) rfl fun C=>?_
 obtain ⟨a,rfl⟩:=Int.eq_ofNat_of_zero_le x0
 obtain ⟨c,rfl⟩:=Int.eq_ofNat_of_zero_le y0
 rw [Ad,Int.toNat_natCast,Int.toNat_natCast]
 clear x0 y0
 have x1:=Int.ofNat_lt.1 x1
 have y1:=Int.ofNat_lt.1 y1
 have R:=K.rng'
 have hq:=K.q
 obtain ⟨g2,g3,hgen,-⟩:=Ut ((N3 K.shp K.pr).2 K)
 unfold J8 J3
 generalize gnX (p ^ m) (fM p (Az m md))=g at *
 generalize fM p (Az m md)=M at *
 generalize p ^ m=q at *
 by_cases h0:a=0∨c=0
 ·have e:M a c=0:=by
   rcases h0 with rfl|rfl
   ·rw [R.mc _ _ x1 y1,R.m0 y1]
   ·exact R.m0 x1
  rw [e]
  rcases Nat.eq_zero_or_pos a with h9|h9
  ·refine wk 19 (ct @B7 (ct @B7 cz)) ?_
   intro h1
   exact ge
  ·have h8:c=0:=by omega
   refine wk 19 (ct @B7 (ct @B7 cz)) ?_
   intro h1 h2
   exact ge
 ·have h1:a≠0:=fun e=>h0 (.inl e)
  have h2:c≠0:=fun e=>h0 (.inr e)
  obtain ⟨i,hi,rfl⟩:=R.gen_all g3 hgen x1 h1
  obtain ⟨j,hj,rfl⟩:=R.gen_all g3 hgen y1 h2
  rw [← R.exp_mul g3 hgen]
  have ei:(S7 q M g)[B6 M g i]?=some (i:Int):=I2 (by rw [List.getElem?_map,List.getElem?_range x1];show some (lgN q M g _)=_;rw [ACr hgen hi])
  have ej:(S7 q M g)[B6 M g j]?=some (j:Int):=I2 (by rw [List.getElem?_map,List.getElem?_range y1];show some (lgN q M g _)=_;rw [ACr hgen hj])
  have ei':(S7 q M g).getD (B6 M g i) default=(i:Int):=by rw [List.getD_eq_getElem?_getD,ei];rfl
  have ej':(S7 q M g).getD (B6 M g j) default=(j:Int):=by rw [List.getD_eq_getElem?_getD,ej];rfl
  have hk:(i+j) % (q-1)<q-1:=Nat.mod_lt _ (by omega)
  have ek:(We q M g)[(i+j) % (q-1)]?=some ((B6 M g ((i+j) % (q-1)):Nat):Int):=I2 (by rw [List.getElem?_map,List.getElem?_range hk];rfl)
  have en:((S7 q M g).getD (B6 M g i) default:Int).toNat+((S7 q M g).getD (B6 M g j) default:Int).toNat=i+j:=by rw [ei',ej',Int.toNat_natCast,Int.toNat_natCast]
  have em:((S7 q M g).getD (B6 M g i) default+(S7 q M g).getD (B6 M g j) default:Int) % ((q-1:Nat):Int)=(((((S7 q M g).getD (B6 M g i) default:Int).toNat+((S7 q M g).getD (B6 M g j) default:Int).toNat) % (q-1):Nat):Int):=by rw [en,ei',ej',Int.natCast_emod,Int.natCast_add]
  have eo:(((S7 q M g).getD (B6 M g i) default:Int).toNat+((S7 q M g).getD (B6 M g j) default:Int).toNat) % (q-1)<q-1:=by rw [en];exact hk
  have ek':(We q M g)[(((S7 q M g).getD (B6 M g i) default:Int).toNat+((S7 q M g).getD (B6 M g j) default:Int).toNat) % (q-1)]?=some ((B6 M g ((i+j) % (q-1)):Nat):Int):=by rw [en];exact ek
  have ef:(We q M g).getD ((((S7 q M g).getD (B6 M g i) default:Int).toNat+((S7 q M g).getD (B6 M g j) default:Int).toNat) % (q-1)) default=((B6 M g ((i+j) % (q-1)):Nat):Int):=by rw [List.getD_eq_getElem?_getD,ek'];rfl
  refine wk 20 (ct @B7 (ct @B7 cz)) ?_
  intro h3 h4 b1 o1 b2 o2 b3 o3
  try simp only [em,Int.toNat_natCast]
  rw [ef]
  exact ge
theorem Q5 {x:Int}{md:List Int}(K:Fok p m md) (x0:0<x) (x1:x<((p ^ m:Nat):Int)):Bn Tryz.prog 204 [.pointer (some ⟨b,0,none⟩),.int .i64 x] [] [Jp b p m (p ^ m) pg ng cg pe (p ^ m-1) ce pl (p ^ m) cl,Ap Aj pe (p ^ m-1) ce (J8 p m md),Ap Aj pl (p ^ m) cl (J3 p m md)] (Rv (.tuple #[.int .i64 ((iF (p ^ m) (fM p (Az m md)) x.toNat:Nat):Int),.int .i64 0]) []):=by
 refine Ab (F:=Zm) rfl fun C=>?_
 obtain ⟨a,rfl⟩:=Int.eq_ofNat_of_zero_le (Int.le_of_lt x0)
 rw [Int.toNat_natCast]
 have x1:=Int.ofNat_lt.1 x1
 have h1:a≠0:=by omega
 clear x0
 have R:=K.rng'
 have hq:=K.q
 obtain ⟨g2,g3,hgen,-⟩:=Ut ((N3 K.shp K.pr).2 K)
 unfold J8 J3
 generalize gnX (p ^ m) (fM p (Az m md))=g at *
 generalize fM p (Az m md)=M at *
 generalize p ^ m=q at *
 obtain ⟨i,hi,rfl⟩:=R.gen_all g3 hgen x1 h1
 have hk:(q-1-i) % (q-1)<q-1:=Nat.mod_lt _ (by omega)
 have hin:=R.exp_inv g3 hgen hi
 have hpl:=R.pw_lt g3
 have hev:iF q M (B6 M g i)=B6 M g ((q-1-i) % (q-1)):=by
  have h0:B6 M g ((q-1-i) % (q-1))≠0:=hgen.2.1 _ hk
  obtain ⟨⟨a1,a2⟩,a3⟩:=AHf (q:=q) (M:=M) (x:=B6 M g i) ⟨_,by omega,hpl _,hin⟩
  exact R.inv_one x1 a2 (hpl _) a3 hin
 rw [hev]
 have ei:(S7 q M g)[B6 M g i]?=some (i:Int):=I2 (by rw [List.getElem?_map,List.getElem?_range x1];show some (lgN q M g _)=_;rw [ACr hgen hi])
 have ei':(S7 q M g).getD (B6 M g i) default=(i:Int):=by rw [List.getD_eq_getElem?_getD,ei];rfl
 have ek:(We q M g)[(q-1-i) % (q-1)]?=some ((B6 M g ((q-1-i) % (q-1)):Nat):Int):=I2 (by rw [List.getElem?_map,List.getElem?_range hk];rfl)
 have en:q-1-((S7 q M g).getD (B6 M g i) default:Int).toNat=q-1-i:=by rw [ei',Int.toNat_natCast]
 have eo:(q-1-((S7 q M g).getD (B6 M g i) default:Int).toNat) % (q-1)<q-1:=by rw [en];exact hk
 have ek':(We q M g)[(q-1-((S7 q M g).getD (B6 M g i) default:Int).toNat) % (q-1)]?=some ((B6 M g ((q-1-i) % (q-1)):Nat):Int):=by rw [en];exact ek
 have ef:(We q M g).getD ((q-1-((S7 q M g).getD (B6 M g i) default:Int).toNat) % (q-1)) default=((B6 M g ((q-1-i) % (q-1)):Nat):Int):=by rw [List.getD_eq_getElem?_getD,ek'];rfl
 refine wk 14 (ct @B7 cz) ?_
 intro h2 b1 o1 b2 o2
 try simp only [← Int.natCast_emod,Int.toNat_natCast]
 rw [ef]
 exact ge
theorem Wg {a:Int}{pu:Option Addr}{nu cu:Nat}{u md:List Int}(K:Fok p m md) (a0:0≤a) (a1:a<((p ^ m:Nat):Int)) (hu:∀ x∈u,0≤x∧x<((p ^ m:Nat):Int)) :
  Bn Tryz.prog 129 [.pointer (some ⟨b,0,none⟩),.int .i64 a,.slice pu nu cu] [] [Jp b p m (p ^ m) pg ng cg pe (p ^ m-1) ce pl (p ^ m) cl,Ap Aj pe (p ^ m-1) ce (J8 p m md),Ap Aj pl (p ^ m) cl (J3 p m md),Ap Aj pu nu cu u] (RwI nu (C0 (Ad (fM p (Az m md))) a u)):=by
 refine Ab (F:=Np) rfl fun C=>?_
 refine A9 3 rfl fun hn hb _=>?_
 subst hn
 have hb':u.length*8≤140737488355328:=hb
 have A6:=fun {b ng cg ce cl:Nat}{pg pe pl:Option Addr}{x y:Int}=>C6 (b:=b) (ng:=ng) (cg:=cg) (ce:=ce) (cl:=cl) (pg:=pg) (pe:=pe) (pl:=pl) (x:=x) (y:=y) K
 have hml:=fun x (h:x∈u)=>K.fi.ml a x a0 a1 (hu x h).1 (hu x h).2
 have hq:=K.q
 generalize Ad (fM p (Az m md))=M at *
 generalize J8 p m md=ex at *
 generalize J3 p m md=lg at *
 generalize p ^ m=q at *
 refine wk 12 cz ?_
 intro b1
 rw [show Ao .i64 (List.replicate u.length 0)=Ak .i64 ((C0 M a u).take 0++List.replicate (u.length-0) 0) by simp [Ao,Ak]]
 refine Af (X:=Nat) [0,1,6,7,13,14] [0,1,2,3] (fun i=>[(15,.int .i64 (i:Int))]) (fun i=>[(some b1,3,Ak .i64 ((C0 M a u).take i++List.replicate (u.length-i) 0))]) (fun _=>[]) (fun i=>i≤u.length) (fun i=>u.length-i) 0 [] rfl rfl rfl (Nat.zero_le _) (by repeat (first|exact Fr.sub_nil _|refine Fr.sub_cons rfl ?_)) rfl rfl ?_
 rintro i hi ih
 simp only [List.cons_append,List.nil_append] at hi ih ⊢
 by_cases h9:i<u.length
 ·obtain ⟨x,at_x⟩:∃ x,u[i]?=some x:=⟨_,List.getElem?_eq_getElem h9⟩
  have hx:=hu x (List.mem_of_getElem? at_x)
  obtain ⟨hx0,hx1⟩:=hx
  have ih':=ih (i+1) (by omega) (by omega)
  have eT:(C0 M a u)[i]?=some (M a x):=by rw [C0,List.getElem?_map,at_x];rfl
  rw [← take_set eT h9] at ih'
  have hln:((C0 M a u).take i++List.replicate (u.length-i) 0).length=u.length:=by simp [C0];omega
  generalize (C0 M a u).take i++List.replicate (u.length-i) 0=L at *
  refine wk 7 cz ?_
  intro h1 b2 o1 hz1
  refine Aa rfl (Av 0 rfl rfl Ci fun ⟨r1,r2⟩=>?_)
  refine wk 9 (ct @A6 cz) ?_
  exact tw (ih')
 ·obtain rfl:i=u.length:=by omega
  rw [Nat.sub_self,List.replicate_zero,List.append_nil,List.take_of_length_le (by simp [C0])]
  refine wk 7 cz ?_
  intro h1
  have hall:∀ z∈C0 M a u,Bx .i64 z:=fun z hz=>by
   obtain ⟨y,hy,rfl⟩:=List.mem_map.1 hz
   have:=hml y hy
   simp only [Bx];omega
  have hln:(C0 M a u).length=u.length:=by simp [C0]
  generalize C0 M a u=L at *
  refine Bk 0 rfl hln.symm hall (by omega) ?_
  refine Dp 1 [0] [0] rfl (.tmp rfl .nil) rfl rfl rfl ⟨⟨some b1,u.length,Ak .i64 L⟩,rfl,rfl,rfl⟩
end
open Go Go.Fw
set_option maxRecDepth 100000
set_option linter.unusedVariables false
set_option linter.unusedSimpArgs false
set_option maxHeartbeats 0
theorem Hb {p m nm cm:Nat}{md:List Int}{pm:Option Addr}(K:Fok p m md) {x:Int}(x0:0≤x) (x1:x<((p ^ m:Nat):Int)) :
  Bn Tryz.prog 76 [.agg #[.int .i64 p,.int .i64 m,.slice pm nm cm],.int .i64 x] [] [] (Rv (.int .i64 ((nP p m x.toNat:Nat):Int)) []):=by
 refine Ab (F:=Rg) rfl fun C=>?_
 have h1:=K.p2
 have h2:=K.p256
 have h3:=K.m8
 have h4:=K.q
 have lx:=D7 p m x.toNat
 have lT:((Dm p m x.toNat).map fun d=>(p-d) % p).length=m:=by rw [List.length_map,lx]
 have rT:∀ d∈(Dm p m x.toNat).map fun d=>(p-d) % p,d<p:=fun d hd=>by
  obtain ⟨j,_,rfl⟩:=List.mem_map.1 hd
  exact Nat.mod_lt _ (by omega)
 have tz:∀ i,i<m→((Dm p m x.toNat).map fun d=>(p-d) % p)[i]?=some ((p-(Dm p m x.toNat).getD i 0) % p):=fun i hi=>by
  rw [List.getElem?_map,List.getD_eq_getElem?_getD,List.getElem?_eq_getElem (by omega)];rfl
 have xr:=fun d hd=>Jq (p:=p) (n:=m) (x:=x.toNat) (by omega) d hd
 unfold nP
 generalize (Dm p m x.toNat).map (fun d=>(p-d) % p)=T at *
 have ep:p ^ T.length≤1000000:=by rw [lT];omega
 refine wk 11 (ct @Ej cz) ?_
 intro b1 b2
 rw [show Ao .i64 (Dm p m x.toNat)=Ao .i64 (T.take 0++(Dm p m x.toNat).drop 0) by simp]
 refine Af (X:=Nat) [2,4,5] [] (fun i=>[(6,.int .i64 (i:Int))]) (fun i=>[(some b2,3,Ao .i64 (T.take i++(Dm p m x.toNat).drop i)),(some b1,24,[.int .i64 p,.int .i64 m,.slice pm nm cm])]) (fun _=>[]) (fun i=>i≤m) (fun i=>m-i) 0 [] rfl rfl rfl (Nat.zero_le _) (by repeat (first|exact Fr.sub_nil _|refine Fr.sub_cons rfl ?_)) rfl rfl ?_
 rintro i hi ih
 simp only [List.cons_append,List.nil_append] at hi ih ⊢
 by_cases hil:i<m
 ·have zx:(Dm p m x.toNat)[i]?=some ((Dm p m x.toNat).getD i 0):=by rw [List.getD_eq_getElem?_getD,List.getElem?_eq_getElem (by omega)];rfl
  have zt:=tz i hil
  have bx:=xr _ (List.mem_of_getElem? zx)
  have ih':=ih (i+1) (by omega) (by omega)
  have zm:=(AHW (T:=T) (D:=Dm p m x.toNat) lT lx hil).trans zx
  have lm:(T.take i++(Dm p m x.toNat).drop i).length=m:=by rw [List.length_append,List.length_take,List.length_drop];omega
  rw [← AF4 lT lx hil zt] at ih'
  generalize (Dm p m x.toNat).getD i 0=u at *
  have em:((p-u:Nat):Int) % (p:Int)=(((p-u) % p:Nat):Int):=(Int.natCast_emod _ _).symm
  refine wk 13 cz ?_
  intro h5
  exact tw (ih')
 ·obtain rfl:i=m:=by omega
  clear ih
  rw [List.take_of_length_le (by omega),List.drop_of_length_le (by omega),List.append_nil,H1 .i64 T]
  refine wk 9 cz ?_
  intro h5
  refine Hq 8 (Bc T) 0 rfl (by rw [Co,lT]) (W8 fun d hd=>by have:=rT d hd;omega) (by omega) (by omega) ?_
  simp only [List.eraseIdx_cons_zero,List.eraseIdx_cons_succ]
  refine wk 3 (ct @Gj cz) ?_
  exact ge
theorem Rr {p m nm cm:Nat}{md:List Int}{pm:Option Addr}(K:Fok p m md) {x:Int}(x0:0<x) (x1:x<((p ^ m:Nat):Int)) :
  Bn Tryz.prog 181 [.agg #[.int .i64 p,.int .i64 m,.slice pm nm cm],.int .i64 x] [] [Ap Aj pm nm cm md] (Rv (.int .i64 ((iF (p ^ m) (fM p (Az m md)) x.toNat:Nat):Int)) []):=by
 refine Ab (F:=Ro) rfl fun C=>?_
 obtain ⟨a,rfl⟩:=Int.eq_ofNat_of_zero_le (Int.le_of_lt x0)
 rw [Int.toNat_natCast]
 have x1:=Int.ofNat_lt.1 x1
 have h1:a≠0:=by omega
 have R:=K.rng'
 have hq:=K.q
 have hinv:∃ y,1≤y∧y<p ^ m∧fM p (Az m md) a y=1:=by
  obtain ⟨g2,g3,hgen,-⟩:=Ut ((N3 K.shp K.pr).2 K)
  obtain ⟨i,hi,rfl⟩:=R.gen_all g3 hgen x1 h1
  have h0:=hgen.2.1 ((p ^ m-1-i) % (p ^ m-1)) (Nat.mod_lt _ (by omega))
  exact ⟨_,by omega,R.pw_lt g3 _,R.exp_inv g3 hgen hi⟩
 obtain ⟨⟨i1,i2⟩,i3⟩:=AHf hinv
 have hno:∀ z,1≤z→z<iF (p ^ m) (fM p (Az m md)) a→fM p (Az m md) a z≠1:=fun z z1 z2 e=>absurd (R.inv_one x1 (by omega) i2 e i3) (by omega)
 have Cw:=fun {y:Nat}(hy:y<p ^ m)=>Hf (nm:=nm) (cm:=cm) (pm:=pm) K (x:=(a:Int)) (y:=(y:Int)) (by omega) (by omega) (by omega) (by omega)
 simp only [Ad,Int.toNat_natCast] at Cw
 have Cj:=Bo (pm:=pm) (n:=nm) (c:=cm) K.ord
 generalize iF (p ^ m) (fM p (Az m md)) a=v at *
 generalize fM p (Az m md)=M at *
 generalize p ^ m=q at *
 refine wk 6 cz ?_
 intro b1
 refine Af (X:=Nat) [1,2] [0] (fun i=>[(5,.int .i64 (i:Int))]) (fun _=>[(some b1,24,[.int .i64 p,.int .i64 m,.slice pm nm cm])]) (fun _=>[]) (fun i=>1≤i∧i≤v) (fun i=>v-i) 1 [] rfl rfl rfl ⟨Nat.le_refl 1,i1⟩ (by repeat (first|exact Fr.sub_nil _|refine Fr.sub_cons rfl ?_)) rfl rfl ?_
 rintro i ⟨hi1,hi2⟩ ih
 simp only [List.cons_append,List.nil_append] at hi1 hi2 ih ⊢
 by_cases h9:i=v
 ·subst h9
  refine wk 17 (ct @Cj (ct @Cw cz)) ?_
  intro h2 h3
  exact ge
 ·have h8:=hno i hi1 (by omega)
  refine wk 17 (ct @Cj (ct @Cw cz)) ?_
  intro h2 h3
  exact tw (ih (i+1) (by omega) ⟨by omega,by omega⟩)
theorem Dx {p m:Nat}{md:List Int}(K:Fok p m md):FO (p ^ m) (Ad (fA p m)) (Ad (fM p (Az m md))) (fun x=>((nP p m x.toNat:Nat):Int)) (fun x=>((iF (p ^ m) (fM p (Az m md)) x.toNat:Nat):Int)) where
 fi:=K.fi
 ng:=fun x x0 x1=>by
  have h1:=AD0 (show 0<p by have:=K.p2;omega) m x.toNat
  exact ⟨⟨Int.natCast_nonneg _,Int.ofNat_lt.2 h1⟩,by rw [Ad,Int.toNat_natCast,AKj (by have:=K.p2;omega)];rfl⟩
 iv:=fun x x0 x1 hx=>by
  have R:=K.rng'
  have hinv:∃ y,1≤y∧y<p ^ m∧fM p (Az m md) x.toNat y=1:=by
   obtain ⟨g2,g3,hgen,-⟩:=Ut ((N3 K.shp K.pr).2 K)
   obtain ⟨i,hi,e⟩:=R.gen_all g3 hgen (show x.toNat<p ^ m by omega) (by omega)
   have h0:=hgen.2.1 ((p ^ m-1-i) % (p ^ m-1)) (Nat.mod_lt _ (by omega))
   have:=R.exp_inv g3 hgen hi
   rw [e] at this
   exact ⟨_,by omega,R.pw_lt g3 _,this⟩
  obtain ⟨⟨i1,i2⟩,i3⟩:=AHf hinv
  exact ⟨⟨Int.natCast_nonneg _,Int.ofNat_lt.2 i2⟩,by rw [Ad,Int.toNat_natCast,i3];rfl⟩
def stP (n:Int) (l:List Int):Prop:=(∀ x∈l,0≤x∧x<n)∧l.Pairwise (·<·)
instance (n:Int) (l:List Int):Decidable (stP n l):=inferInstanceAs (Decidable (_∧_))
def stA (n:Int) (l:List Int) (i:Nat):Prop:=∀ x,l[i]?=some x→(0≤x∧x<n)∧∀ y,0<i→l[i-1]?=some y→y<x
theorem ACa {n:Int}{l:List Int}:stP n l↔∀ i,i<l.length→stA n l i:=by
 constructor
 ·rintro ⟨h1,h2⟩ i hi x hx
  refine ⟨h1 x (List.mem_of_getElem? hx),fun y h0 hy=>?_⟩
  obtain ⟨a1,a2⟩:=List.getElem?_eq_some_iff.1 hx
  obtain ⟨b1,b2⟩:=List.getElem?_eq_some_iff.1 hy
  have:=List.pairwise_iff_getElem.1 h2 (i-1) i b1 a1 (by omega)
  omega
 ·intro h
  refine ⟨fun x hx=>?_,List.pairwise_iff_getElem.2 fun i j hi hj hij=>?_⟩
  ·obtain ⟨i,hi⟩:=List.getElem?_of_mem hx
   exact (h i (List.getElem?_eq_some_iff.1 hi).1 x hi).1
  ·have key:∀ d,i+d+1<l.length→∀ x y,l[i]?=some x→l[i+d+1]?=some y→x<y:=by
    intro d
    induction d with
    | zero =>
     intro hd x y hx hy
     exact (h _ hd y hy).2 x (by omega) (by rw [show i+0+1-1=i by omega];exact hx)
    | succ d ih =>
     intro hd x y hx hy
     obtain ⟨z,hz⟩:∃ z,l[i+d+1]?=some z:=⟨_,List.getElem?_eq_getElem (by omega)⟩
     have h1:=ih (by omega) x z hx hz
     have h2:=(h _ hd y hy).2 z (by omega) (by rw [show i+(d+1)+1-1=i+d+1 by omega];exact hz)
     omega
   exact key (j-i-1) (by omega) _ _ (List.getElem?_eq_getElem hi) (by rw [show i+(j-i-1)+1=j by omega];exact List.getElem?_eq_getElem hj)
theorem AKU {n:Int}{l:List Int}{i:Nat}(hi:i<l.length) (h:¬ stA n l i):¬ stP n l:=fun hp=>h (ACa.1 hp i hi)
def Vm (ls:List (List Int)) (i:Nat):Bool:=!ls.any fun l=>decide ((i:Int)∈l)
def De (n:Nat) (ls:List (List Int)):List Int:=((List.range n).filter (Vm ls)).map fun i:Nat=>(i:Int)
theorem ABW (n:Nat) (ls:List (List Int)):De (n+1) ls=De n ls++if Vm ls n then [(n:Int)] else []:=by
 rw [De,De,List.range_succ,List.filter_append,List.map_append]
 congr 1
 cases h:Vm ls n <;> simp [h]
def Tz (x:Int) (l:List Int):Int:=if x∈l then (l.idxOf x:Int) else -1
theorem AJZ {x:Int}{l:List Int}{i:Nat}(h:l[i]?=some x) (hn:∀ j,j<i→l[j]?≠some x):Tz x l=i:=by
 have h1:=List.mem_of_getElem? h
 rw [Tz,if_pos h1]
 congr 1
 obtain ⟨hi,e⟩:=List.getElem?_eq_some_iff.1 h
 have h2:l.idxOf x<l.length:=List.idxOf_lt_length_of_mem h1
 have h3:l[l.idxOf x]=x:=List.getElem_idxOf h2
 rcases Nat.lt_trichotomy (l.idxOf x) i with h4|h4|h4
 ·exact absurd (by rw [List.getElem?_eq_getElem h2,h3]) (hn _ h4)
 ·exact h4
 ·exact absurd e (by have:=List.not_of_lt_findIdx (p:=(· == x)) (xs:=l) (i:=i) h4;simpa using this)
theorem AJ3 {x:Int}{l:List Int}(h:x∉l):Tz x l=-1:=by rw [Tz,if_neg h]
theorem Ib {pl:Option Addr}{nl cl:Nat}{l:List Int}{x:Int}:Bn Tryz.prog 131 [.slice pl nl cl,.int .i64 x] [] [Ap Aj pl nl cl l] (Rv (.int .i64 (Tz x l)) []):=by
 refine Ab (F:=Ni) rfl fun C=>?_
 refine A9 0 rfl fun hn hb _=>?_
 subst hn
 have hb':l.length*8≤140737488355328:=hb
 refine wk 7 cz ?_
 refine Af (X:=Nat) [0,1,7] [0] (fun i=>[(8,.int .i64 (i:Int))]) (fun _=>[]) (fun _=>[]) (fun i=>i≤l.length∧∀ j,j<i→l[j]?≠some x) (fun i=>l.length-i) 0 [] rfl rfl rfl ⟨Nat.zero_le _,fun j h=>by omega⟩ (by repeat (first|exact Fr.sub_nil _|refine Fr.sub_cons rfl ?_)) rfl rfl ?_
 rintro i ⟨hi,hno⟩ ih
 simp only [List.cons_append,List.nil_append] at hi ih ⊢
 by_cases h9:i<l.length
 ·obtain ⟨y,at_y⟩:∃ y,l[i]?=some y:=⟨_,List.getElem?_eq_getElem h9⟩
  by_cases h8:x=y
  ·subst h8
   rw [AJZ at_y hno]
   refine wk 9 cz ?_
   intro h1 b1 o1 hz1
   refine Aa rfl (Av 0 rfl rfl Ci fun ⟨r1,r2⟩=>?_)
   refine wk 6 cz ?_
   intro h2
   exact ge
  ·refine wk 9 cz ?_
   intro h1 b1 o1 hz1
   refine Aa rfl (Av 0 rfl rfl Ci fun ⟨r1,r2⟩=>?_)
   refine wk 6 cz ?_
   intro h2
   exact tw (ih (i+1) (by omega) ⟨by omega,fun j hj=>by
    rcases Nat.lt_succ_iff_lt_or_eq.1 hj with h|rfl
    ·exact hno j h
    ·rw [at_y];exact fun e=>h8 (Option.some.inj e).symm⟩)
 ·rw [AJ3 fun hm=>by
   obtain ⟨j,hj⟩:=List.mem_iff_getElem?.1 hm
   exact hno j (by have:=(List.getElem?_eq_some_iff.1 hj).1;omega) hj]
  refine wk 7 cz ?_
  intro h1
  exact ge
theorem Cp {pl:Option Addr}{nl cl:Nat}{l:List Int}{x:Int}{res:Bool}(hr:decide (x∈l)=res):Bn Tryz.prog 108 [.slice pl nl cl,.int .i64 x] [] [Ap Aj pl nl cl l] (Rv (.bool res) []):=by
 refine Ab (F:=La) rfl fun C=>?_
 subst hr
 have e:decide (x∈l)=decide (0≤Tz x l):=by
  by_cases h:x∈l
  ·rw [Tz,if_pos h,decide_eq_true h,decide_eq_true (by omega)]
  ·rw [Tz,if_neg h,decide_eq_false h,decide_eq_false (by omega)]
 have hlo:-1≤Tz x l:=by rw [Tz];split <;> omega
 rw [e]
 refine wk 7 (ct @Ib cz) ?_
 exact ge
theorem H4 {pl pk:Option Addr}{nl cl nk ck:Nat}{l k:List Int}{res:Bool}(hr:decide (l=k)=res):Bn Tryz.prog 151 [.slice pl nl cl,.slice pk nk ck] [] [Ap Aj pl nl cl l,Ap Aj pk nk ck k] (Rv (.bool res) []):=by
 refine Ab (F:=M6) rfl fun C=>?_
 subst hr
 refine A9 0 rfl fun hn hb _=>?_
 refine A9 1 rfl fun hn2 hb2 _=>?_
 subst hn
 subst hn2
 have hb':l.length*8≤140737488355328:=hb
 have hb2':k.length*8≤140737488355328:=hb2
 by_cases hl:l.length=k.length
 ·refine wk 15 cz ?_
  intro h1
  refine Af (X:=Nat) [0,1,12] [0,1] (fun i=>[(13,.int .i64 (i:Int))]) (fun _=>[]) (fun _=>[]) (fun i=>i≤l.length∧∀ j,j<i→l[j]?=k[j]?) (fun i=>l.length-i) 0 [] rfl rfl rfl ⟨Nat.zero_le _,fun j h=>by omega⟩ (by repeat (first|exact Fr.sub_nil _|refine Fr.sub_cons rfl ?_)) rfl rfl ?_
  rintro i ⟨hi,hno⟩ ih
  simp only [List.cons_append,List.nil_append] at hi ih ⊢
  by_cases h9:i<l.length
  ·obtain ⟨y,hy⟩:∃ y,l[i]?=some y:=⟨_,List.getElem?_eq_getElem h9⟩
   obtain ⟨z,hz⟩:∃ z,k[i]?=some z:=⟨_,List.getElem?_eq_getElem (by omega)⟩
   have ey:l.getD i default=y:=by rw [List.getD_eq_getElem?_getD,hy];rfl
   have ez:k.getD i default=z:=by rw [List.getD_eq_getElem?_getD,hz];rfl
   by_cases h8:y=z
   ·subst h8
    refine wk 13 cz ?_
    intro h2 b1 o1 b2 o2 h3
    exact tw (ih (i+1) (by omega) ⟨by omega,fun j hj=>by
     rcases Nat.lt_succ_iff_lt_or_eq.1 hj with h|rfl
     ·exact hno j h
     ·rw [hy,hz]⟩)
   ·rw [decide_eq_false (show l≠k from fun e=>by rw [e,hz] at hy;exact h8 (Option.some.inj hy).symm)]
    refine wk 13 cz ?_
    intro h2 b1 o1 b2 o2 h3
    exact ge
  ·rw [decide_eq_true (show l=k from List.ext_getElem? fun j=>by
    by_cases h:j<i
    ·exact hno j h
    ·rw [List.getElem?_eq_none (by omega),List.getElem?_eq_none (by omega)])]
   refine wk 7 cz ?_
   intro h2
   exact ge
 ·rw [decide_eq_false (show l≠k from fun e=>hl (by rw [e]))]
  refine wk 13 cz ?_
  intro h1
  exact ge
theorem AHO {P:Program}{F:Fun P}{C:Cx}{S:List It}{σ:Fr}{β:List A3}{Γ:List Fact}{R:Value→World→Prop}{α:Type}{E:Enc α}{n ca:Nat}{l:List α}(j:Nat) (hj:A4 Γ j=some (Ap E none n ca l)) (h:l=[]→J F C S σ β Γ R):J F C S σ β Γ R:=fun w hO hG=>by
 obtain ⟨hl,_,_,hs⟩:=hG _ (Ae hj)
 rcases hs with e|⟨b,o,e,_⟩
 ·exact h e w hO hG
 ·cases e
theorem Ec {ps:Option Addr}{n cs:Nat}{l:List Int}:Bn Tryz.prog 73 [.slice ps n cs] [] [Ap Aj ps n cs l] (RwI n l):=by
 refine Ab (F:=Nd) rfl fun C=>?_
 refine A9 0 rfl fun hn hb _=>?_
 subst hn
 have hb':l.length*8≤140737488355328:=hb
 cases ps with
 | none =>
  refine AHO 0 rfl fun hn=>?_
  subst hn
  refine wk 4 cz ?_
  refine Aa rfl (AD4 Ce rfl rfl ?_)
  refine wk 5 cz ?_
  refine Fh Aj 3 ?_
  refine Dp 1 [0] [0] rfl (.tmp rfl .nil) rfl rfl rfl ⟨⟨none,0,[]⟩,rfl,rfl,rfl⟩
 | some a =>
  obtain ⟨b,o,w⟩:=a
  refine wk 4 cz ?_
  refine Aa rfl (AAv Ce rfl rfl ?_)
  refine wk 5 cz ?_
  intro b1
  (apply Mf (E:=Ds IntKind.i64 8) (n:=0) (cs:=[]) [] [] 0 (fun w A hG=>Ba);(· rfl);(· rfl);(· rfl);(· rfl);(· decide))
  refine Aa rfl (U6 0 0 1 rfl rfl rfl rfl rfl Ce Ee rfl (by omega) _ G5 (by omega) fun r1=>?_)
  refine wk 2 cz ?_
  rw [Nat.zero_add,List.nil_append]
  refine Dp 1 [0] [0] rfl (.tmp rfl .nil) rfl rfl rfl ⟨r1,rfl,rfl,rfl⟩
def Wn (l:List Int) (q:Nat):Int:=if ∀ x∈l,0≤x∧x<(q:Int) then 0 else 2
theorem Px {b p m q ng cg ne ce nl cl n c:Nat}{pg pe pl ps:Option Addr}{l:List Int}(hq:q≤256):Bn Tryz.prog 145 [.pointer (some ⟨b,0,none⟩),.slice ps n c] [] [Jp b p m q pg ng cg pe ne ce pl nl cl,Ap Aj ps n c l] (Rv (.int .i64 (Wn l q)) []):=by
 refine Ab (F:=Yi) rfl fun C=>?_
 refine A9 1 rfl fun hn hb _=>?_
 subst hn
 have hb':l.length*8≤140737488355328:=hb
 refine wk 7 cz ?_
 refine Af (X:=Nat) [0,7,8] [0,1] (fun i=>[(9,.int .i64 (i:Int))]) (fun _=>[]) (fun _=>[]) (fun i=>i≤l.length∧∀ x∈l.take i,0≤x∧x<(q:Int)) (fun i=>l.length-i) 0 [] rfl rfl rfl ⟨Nat.zero_le _,fun x h=>by simp at h⟩ (by repeat (first|exact Fr.sub_nil _|refine Fr.sub_cons rfl ?_)) rfl rfl ?_
 rintro i ⟨hi,hno⟩ ih
 simp only [List.cons_append,List.nil_append] at hi ih ⊢
 by_cases h9:i<l.length
 ·obtain ⟨y,at_y⟩:∃ y,l[i]?=some y:=⟨_,List.getElem?_eq_getElem h9⟩
  by_cases h8:0≤y∧y<(q:Int)
  ·have hd:decide (0≤y∧y<(q:Int))=true:=decide_eq_true h8
   refine wk 6 cz ?_
   intro h1 b1 o1 hz1
   refine Aa rfl (Av 0 rfl rfl Ci fun ⟨r1,r2⟩=>?_)
   refine wk 10 (ct @Ji cz) ?_
   exact tw (ih (i+1) (by omega) ⟨by omega,fun x hx=>by
    rw [List.take_add_one,at_y] at hx
    rcases List.mem_append.1 hx with hx|hx
    ·exact hno x hx
    ·rw [Option.toList_some,List.mem_singleton] at hx
     rw [hx];exact h8⟩)
  ·have hd:decide (0≤y∧y<(q:Int))=false:=decide_eq_false h8
   rw [Wn,if_neg fun h=>h8 (h y (List.mem_of_getElem? at_y))]
   refine wk 6 cz ?_
   intro h1 b1 o1 hz1
   refine Aa rfl (Av 0 rfl rfl Ci fun ⟨r1,r2⟩=>?_)
   refine wk 10 (ct @Ji cz) ?_
   exact ge
 ·rw [Wn,if_pos fun x hx=>hno x (by rwa [List.take_of_length_le (by omega)])]
  refine wk 7 cz ?_
  intro h1
  exact ge
def Vk (N:Int) (rows:List (List Int)) (q:Nat):Int :=
 if N<0∨256<N∨256<rows.length then 3 else if ∃ r∈rows,(r.length:Int)≠N then 3 else if ∀ r∈rows,∀ x∈r,0≤x∧x<(q:Int) then 0 else 2
theorem Mp {b p m q ng cg ne ce nl cl n c:Nat}{pg pe pl ps:Option Addr}{N:Int}{rows:List (List Int)}(hq:q≤256) (hN:Bx .i64 N):Bn Tryz.prog 172 [.pointer (some ⟨b,0,none⟩),.agg #[.int .i64 N,.slice ps n c]] [] [Jp b p m q pg ng cg pe ne ce pl nl cl,Ap (Ah Aj) ps n c rows] (Rv (.int .i64 (Vk N rows q)) []):=by
 refine Ab (F:=AAX) rfl fun C=>?_
 refine A9 1 rfl fun hn hb _=>?_
 subst hn
 have hb':rows.length*24≤140737488355328:=hb
 obtain ⟨N0,N1⟩:=hN
 by_cases h1:N<0∨256<N∨256<rows.length
 ·rw [Vk,if_pos h1]
  by_cases a1:N<0
  ·refine wk 15 cz ?_
   intro b1 h2
   exact ge
  ·by_cases a2:256<N
   ·refine wk 21 cz ?_
    intro b1 h2 h3
    exact ge
   ·have a3:256<rows.length:=by omega
    refine wk 24 cz ?_
    intro b1 h2 h3 h4
    exact ge
 ·rw [Vk,if_neg h1]
  have a1:¬ N<0:=by omega
  have a2:¬ 256<N:=by omega
  have a3:¬ 256<rows.length:=by omega
  have tk:∀ {P:List Int→Prop}{i:Nat}{r:List Int},rows[i]?=some r→(∀ x∈rows.take i,P x)→P r→∀ x∈rows.take (i+1),P x:=fun hr h hp x hx=>by
   rw [List.take_add_one,hr] at hx
   rcases List.mem_append.1 hx with hx|hx
   ·exact h x hx
   ·rw [Option.toList_some,List.mem_singleton] at hx
    rw [hx];exact hp
  refine wk 27 cz ?_
  intro b1 h2 h3 h4
  refine Af (X:=Nat) [0,3,25,26] [0,1] (fun i=>[(27,.int .i64 (i:Int))]) (fun _=>[(some b1,62,[.int .i64 N,.slice ps rows.length c])]) (fun _=>[]) (fun i=>i≤rows.length∧∀ r∈rows.take i,(r.length:Int)=N) (fun i=>rows.length-i) 0 [] rfl rfl rfl ⟨Nat.zero_le _,fun x h=>by simp at h⟩ (by repeat (first|exact Fr.sub_nil _|refine Fr.sub_cons rfl ?_)) rfl rfl ?_
  rintro i ⟨hi,hno⟩ ih
  simp only [List.cons_append,List.nil_append] at hi ih ⊢
  by_cases h9:i<rows.length
  ·obtain ⟨r,at_r⟩:∃ r,rows[i]?=some r:=⟨_,List.getElem?_eq_getElem h9⟩
   by_cases h8:(r.length:Int)=N
   ·refine wk 19 cz ?_
    intro h5 b2 o1 hz1 pa1 ca1 h6
    exact tw (ih (i+1) (by omega) ⟨by omega,tk at_r hno h8⟩)
   ·rw [if_pos ⟨r,List.mem_of_getElem? at_r,h8⟩]
    refine wk 19 cz ?_
    intro h5 b2 o1 hz1 pa1 ca1 h6
    exact ge
  ·have hlen:∀ r∈rows,(r.length:Int)=N:=fun r hr=>hno r (by rwa [List.take_of_length_le (by omega)])
   rw [if_neg fun ⟨r,hr,h⟩=>h (hlen r hr)]
   clear ih hno hi
   refine wk 10 cz ?_
   intro h5
   refine Af (X:=Nat) [0,38,39] [0,1] (fun i=>[(40,.int .i64 (i:Int))]) (fun _=>[(some b1,62,[.int .i64 N,.slice ps rows.length c])]) (fun _=>[]) (fun i=>i≤rows.length∧∀ r∈rows.take i,∀ x∈r,0≤x∧x<(q:Int)) (fun i=>rows.length-i) 0 [] rfl rfl rfl ⟨Nat.zero_le _,fun x h=>by simp at h⟩ (by repeat (first|exact Fr.sub_nil _|refine Fr.sub_cons rfl ?_)) rfl rfl ?_
   rintro i ⟨hi,hno⟩ ih
   simp only [List.cons_append,List.nil_append] at hi ih ⊢
   by_cases h9:i<rows.length
   ·obtain ⟨r,at_r⟩:∃ r,rows[i]?=some r:=⟨_,List.getElem?_eq_getElem h9⟩
    by_cases h8:∀ x∈r,0≤x∧x<(q:Int)
    ·have he:Wn r q=0:=by rw [Wn,if_pos h8]
     refine wk 19 (ct @Px cz) ?_
     intro h6 b2 o1 hz1 pa1 ca1 h7
     exact tw (ih (i+1) (by omega) ⟨by omega,tk at_r hno h8⟩)
    ·have he:Wn r q=2:=by rw [Wn,if_neg h8]
     rw [if_neg fun h=>h8 (h r (List.mem_of_getElem? at_r)),← he]
     refine wk 19 (ct @Px cz) ?_
     intro h6 b2 o1 hz1 pa1 ca1 h7
     exact ge
   ·rw [if_pos fun r hr=>hno r (by rwa [List.take_of_length_le (by omega)])]
    refine wk 7 cz ?_
    intro h6
    exact ge
theorem AAq {T D:List Int}{i n:Nat}{v:Int}(hT:T.length=n) (hD:D.length=n) (hi:i<n) (hv:T[i]?=some v):(T.take i++D.drop i).set i v=T.take (i+1)++D.drop (i+1):=by
 have hl:(T.take i).length=i:=by rw [List.length_take];omega
 rw [List.set_append_right _ _ (by omega),hl,Nat.sub_self,List.drop_eq_getElem_cons (by omega),List.set_cons_zero,List.take_add_one,hv,List.append_assoc]
 rfl
theorem ACY {T D:List Int}{i n:Nat}(hT:T.length=n) (hD:D.length=n) (hi:i<n):(T.take i++D.drop i)[i]?=D[i]?:=by
 have hl:(T.take i).length=i:=by rw [List.length_take];omega
 rw [List.getElem?_append_right (by omega),hl,Nat.sub_self,List.getElem?_drop,Nat.add_zero]
theorem ACc {b p m n ng cg ce cl:Nat}{pg pe pl:Option Addr}{r r2:Row}{c:Int}{u v md:List Int}(K:Fok p m md) (c0:0≤c) (c1:c<((p ^ m:Nat):Int)) (hu:Wd (p ^ m) n u) (hv:Wd (p ^ m) n v) (hn:n≤1000000) :
  Bn Tryz.prog 179 [.pointer (some ⟨b,0,none⟩),.slice (ad r.bo) n r.cap,.int .i64 c,.slice (ad r2.bo) n r2.cap] [(r.bo,3,r.cs),(r2.bo,3,r2.cs)] [Jp b p m (p ^ m) pg ng cg pe (p ^ m-1) ce pl (p ^ m) cl,Ap Aj pe (p ^ m-1) ce (J8 p m md),Ap Aj pl (p ^ m) cl (J3 p m md),A5 Aj r n u,A5 Aj r2 n v]
   (fun w Φ β=>∃ cs',w = .tuple #[]∧Φ=[A5 Aj ⟨r.bo,r.cap,cs'⟩ n (F7 (Ad (fA p m)) (Ad (fM p (Az m md))) c v u),A5 Aj r2 n v]∧β=[(r.bo,3,cs'),(r2.bo,3,r2.cs)]):=by
 refine Ab (F:=Vy) rfl fun C=>?_
 have FF:=K.fi
 have A6:=fun {b ng cg ce cl:Nat}{pg pe pl:Option Addr}{x y:Int}=>C6 (b:=b) (ng:=ng) (cg:=cg) (ce:=ce) (cl:=cl) (pg:=pg) (pe:=pe) (pl:=pl) (x:=x) (y:=y) K
 have Br:=fun {b ng cg ne ce nl cl:Nat}{pg pe pl:Option Addr}{x y:Int}=>Dn (b:=b) (ng:=ng) (cg:=cg) (ne:=ne) (ce:=ce) (nl:=nl) (cl:=cl) (pg:=pg) (pe:=pe) (pl:=pl) (x:=x) (y:=y) K.p2 K.m1 K.q
 have hq:=K.q
 have hax:=FF.axw c0 c1 hv hu
 generalize Ad (fM p (Az m md))=M at *
 generalize Ad (fA p m)=A0 at *
 generalize J8 p m md=ex at *
 generalize J3 p m md=lg at *
 generalize p ^ m=q at *
 obtain ⟨bo,cap,cs⟩:=r
 dsimp only
 have hul:=hu.1
 have hvl:=hv.1
 have hal:=hax.1
 rcases Nat.eq_zero_or_pos n with hn0|hn0
 ·subst hn0
  obtain rfl:=List.length_eq_zero_iff.1 hul
  obtain rfl:=List.length_eq_zero_iff.1 hvl
  refine wk 5 cz ?_
  refine Af (X:=Unit) [0,1,2,10,11] [0,1,2,3,4] (fun _=>[(12,.int .i64 0)]) (fun _=>[(bo,3,cs),(r2.bo,3,r2.cs)]) (fun _=>[]) (fun _=>True) (fun _=>0) () [] rfl rfl rfl trivial (by repeat (first|exact Fr.sub_nil _|refine Fr.sub_cons rfl ?_)) rfl rfl ?_
  rintro ⟨⟩-ih
  simp only [List.cons_append,List.nil_append] at ih ⊢
  refine wk 5 cz ?_
  intro h1
  refine Cv [3,4] rfl rfl ⟨_,rfl,rfl,rfl⟩
 refine D1 3 rfl hn0 fun b9 cap9 cs9 hr=>?_
 obtain ⟨rfl,rfl,rfl⟩:=Row.mk.inj hr
 refine wk 5 cz ?_
 refine Af (X:=Nat×List Value) [0,1,2,10,11] [0,1,2,3,4] (fun x=>[(12,.int .i64 (x.1:Int))]) (fun x=>[(some b9,3,x.2),(r2.bo,3,r2.cs)])
  (fun x=>[A5 Aj ⟨some b9,cap,x.2⟩ n ((F7 A0 M c v u).take x.1++u.drop x.1)]) (fun x=>x.1≤n) (fun x=>n-x.1) (0,cs) [3] rfl rfl rfl (Nat.zero_le _) (by repeat (first|exact Fr.sub_nil _|refine Fr.sub_cons rfl ?_)) rfl rfl ?_
 rintro ⟨k,cs⟩ hk ih
 simp only [List.cons_append,List.nil_append] at hk ih ⊢
 by_cases hkl:k<n
 ·obtain ⟨x,at_x⟩:∃ x,v[k]?=some x:=⟨_,List.getElem?_eq_getElem (by omega)⟩
  obtain ⟨y,hy⟩:∃ y,u[k]?=some y:=⟨_,List.getElem?_eq_getElem (by omega)⟩
  obtain ⟨x0,x1⟩:=hv.2 x (List.mem_of_getElem? at_x)
  obtain ⟨y0,y1⟩:=hu.2 y (List.mem_of_getElem? hy)
  have hT:(F7 A0 M c v u)[k]?=some (A0 y (M c x)):=by rw [F7,List.getElem?_zipWith,hy,at_x]
  have hL:=(ACY hal hul hkl).trans hy
  have hset:=AAq hal hul hkl hT
  have hLl:((F7 A0 M c v u).take k++u.drop k).length=n:=by rw [List.length_append,List.length_take,List.length_drop];omega
  have ih':=fun cs=>ih (k+1,cs) (by dsimp only;omega) (by dsimp only;omega)
  dsimp only at ih'
  rw [← hset] at ih'
  obtain ⟨m0,m1⟩:=FF.ml c x c0 c1 x0 x1
  generalize (F7 A0 M c v u).take k++u.drop k=L at *
  by_cases h0:x=0
  ·have e0:L.set k (A0 y (M c x))=L:=by
    have:A0 y (M c x)=y:=by rw [h0,FF.m0 c0 c1,FF.a0 y y0 y1]
    rw [this]
    obtain ⟨h1,h2⟩:=List.getElem?_eq_some_iff.1 hL
    rw [← h2,List.set_getElem_self]
   rw [e0] at ih'
   refine wk 6 cz ?_
   intro h1
   refine D1 5 rfl (by omega) fun b1 cap1 cs1 hr1=>?_
   subst hr1
   dsimp only
   refine wk 10 cz ?_
   intro hr1 h2
   exact tw (ih' cs)
  ·obtain ⟨a0,a1⟩:=FF.al y (M c x) y0 y1 m0 m1
   refine wk 6 cz ?_
   intro h1
   refine D1 5 rfl (by omega) fun b1 cap1 cs1 hr1=>?_
   subst hr1
   dsimp only
   refine wk 9 (ct @A6 (ct @Br cz)) ?_
   intro hr1 h2
   refine Aa rfl (Hg (vs:=[Value.int IntKind.i64 (A0 y (M c x))]) (z:=(A0 y (M c x):Int)) 0 0 (k) rfl rfl rfl rfl rfl Ci (Nat.mul_one _).symm (by omega) (fun w A hG=>(Dz (by first|(simp only [Bx];omega)|(simp [Bx];done)))) fun cs2=>?_)
   refine wk 3 cz ?_
   exact tw (ih' cs2)
 ·obtain rfl:n=k:=by omega
  rw [List.take_of_length_le (by omega),List.drop_of_length_le (by omega),List.append_nil]
  refine wk 5 cz ?_
  intro h1
  refine Cv [0,5] rfl rfl ⟨_,rfl,rfl,rfl⟩
abbrev MxI (m:Nat) (ls:Nat→List Int):Value→List Fact→List A3→Prop:=fun v Φ β=>∃ (r:Row) (hd:Nat→Hd) (cs:Nat→List Value),v = .slice (ad r.bo) m r.cap∧Φ=[A5 Sg r m (Jf hd m),Ep Aj hd cs ls m []]∧β=(r.bo,22,r.cs)::Dd 3 hd cs m []
theorem Sp {ps:Option Addr}{m c:Nat}{rows:List (List Int)}(hm:m≤1000000):Bn Tryz.prog 173 [.slice ps m c] [] [Ap (Ah Aj) ps m c rows] (MxI m (Ar rows)):=by
 refine Ab (F:=AAC) rfl fun C=>?_
 refine A9 0 rfl fun hn hb _=>?_
 subst hn
 have hb':rows.length*24≤140737488355328:=hb
 refine wk 5 cz ?_
 refine Aa rfl (ADa (rows.length) _ rfl rfl Df Gr rfl rfl Jx (by omega) (by omega) (by omega) fun b1=>?_)
 refine wk 6 cz ?_
 refine AIb 0 rfl (by omega) fun csA=>?_
 refine AAS Aj 3 0 ?_
 simp only [setB,List.cons_append,List.nil_append]
 refine Bs (Ar rows) 0 rfl (fun g hg=>absurd hg (Nat.not_lt_zero g)) ?_
 skip
 refine Af (X:=Nat×List Value×(Nat→Hd)×(Nat→List Value)) [2,3,9,10] [0,1,2,3] (fun x=>[(11,.int .i64 (x.1:Int))])
  (fun x=>(some b1,22,x.2.1)::Dd 3 x.2.2.1 x.2.2.2 x.1 [])
  (fun x=>[A5 Sg ⟨some b1,rows.length,x.2.1⟩ rows.length (Jf x.2.2.1 rows.length),Ep Aj x.2.2.1 x.2.2.2 (Ar rows) x.1 []])
  (fun x=>x.1≤rows.length) (fun x=>rows.length-x.1) (0,csA,fun _=>(none,0,0),fun _=>[]) [2,0] rfl rfl rfl (Nat.zero_le _) (by repeat (first|exact Fr.sub_nil _|refine Fr.sub_cons rfl ?_)) rfl rfl ?_
 rintro ⟨k,hc,hd,cs⟩ hk ih
 simp only [List.cons_append,List.nil_append] at hk ih ⊢
 by_cases hkl:k<rows.length
 ·obtain ⟨u,at_u⟩:∃ u,rows[k]?=some u:=⟨_,List.getElem?_eq_getElem hkl⟩
  refine wk 13 (ct @Ec cz) ?_
  intro h1 b2 o1 hz1 pa1 ca1 r1
  refine Aa rfl (Hg (vs:=[Value.slice (ad r1.bo) u.length r1.cap]) (z:=(r1.bo,u.length,r1.cap)) 1 3 (k) rfl rfl rfl rfl rfl E6 (Nat.mul_one _).symm (by omega) (fun w A hG=>(Ua _ _ _)) fun cs1=>?_)
  refine wk 3 cz ?_
  try simp only [setB,List.set_cons_succ,List.set_cons_zero]
  rw [Lh]
  refine AE7 1 0 1 5 rfl rfl rfl rfl ?_
  simp only [List.eraseIdx_cons_zero,List.eraseIdx_cons_succ,List.take_succ_cons,List.take_zero,List.cons_append,List.nil_append]
  refine Bs (Ar rows) 0 rfl (fun g hg=>by
   by_cases e:g=k
   ·subst e
    rw [Bp,Ar,List.getD_eq_getElem?_getD,at_u];rfl
   ·rw [C5 e]) ?_
  exact tw (ih (k+1,cs1,Er hd k (r1.bo,u.length,r1.cap),Er cs k r1.cs) (by dsimp only;omega) (by dsimp only;omega))
 ·obtain rfl:rows.length=k:=by omega
  refine wk 7 cz ?_
  intro h1
  refine Dp 1 [0] [0,1] rfl (.tmp rfl .nil) rfl rfl rfl ⟨⟨some b1,rows.length,hc⟩,hd,cs,rfl,rfl,rfl⟩
section
variable {P:Program}{F:Fun P}{C:Cx}{S:List It}{R:Value→World→Prop}{β:List A3}{Γ:List Fact}{it:List (TypeId×IntKind)}{L:List Oper}{p:List Nat}{σ:Fr}{i:Nat}{op:Op}{ty:TypeId}{d:Option Tmp}
def AD9 (P:Program) (C:Cx) (nt:Nat) (L:List Oper) (σm σ:Fr) (β:List A3) (Γ:List Fact):List Nat→Prop
 | []=>True
 | j::A=>(∃ o d u,A4 L j=some o∧o.guard=none∧o.dst=some d∧Nat.blt d nt=true∧Fr.get d σ=some u∧Fm P C o.op o.type σm β Γ fun v β' Γ'=>v=u∧β'=β∧Γ'=Γ)∧AD9 P C nt L σm σ β Γ A
theorem AGB {nt:Nat}{σm σ:Fr}:∀ {A:List Nat},AD9 P C nt L σm σ β Γ A→∀ j∈A,∃ o d u,A4 L j=some o∧o.guard=none∧o.dst=some d∧Nat.blt d nt=true∧Fr.get d σ=some u∧Fm P C o.op o.type σm β Γ fun v β' Γ'=>v=u∧β'=β∧Γ'=Γ:=by
 intro A
 induction A with
 | nil=>intro _ j hj;cases hj
 | cons x A ih =>
  intro h j hj
  rcases List.mem_cons.1 hj with rfl|hj
  ·exact h.1
  ·exact ih h.2 j hj
theorem ABI {A pend l:List Nat}{j:Nat}{a:Act}{w:World}{K:List Item}(hL:AD9 P C F.fn.ntmps (Am (sub p F.B)) (Q9 A (Am (sub p F.B)) σ) σ β Γ A) (hpA:∀ j∈pend,j∈A) (hj:j∈pend)
  (hsz:a.tmps.size=F.fn.ntmps) (hdf:a.defers=F.dfs) (hfr:∀ t v,(∀ j∈pend,Cm (Am (sub p F.B)) j≠some t)→Fr.get t σ=some v→a.tmps[t]?=some v) (hO:Own C w β) (hG:∀ f∈Γ,f.holds w (ok C w β))
  (h:∀ (a':Act) (w':World),a'.tmps.size=F.fn.ntmps→a'.defers=F.dfs→(∀ t v,(∀ j'∈pend.erase j,Cm (Am (sub p F.B)) j'≠some t)→Fr.get t σ=some v→a'.tmps[t]?=some v)→Own C w' β→(∀ f∈Γ,f.holds w' (ok C w' β))→At F (.inRegion (Am (sub p F.B)).toArray l::K) a' w' R) :
  At F (.inRegion (Am (sub p F.B)).toArray (j::l)::K) a w R:=by
 obtain ⟨o,d,u,h1,h2,h3,h4,h5,h6⟩:=AGB hL j (hpA j hj)
 have hfit:Fits F.fn.ntmps F.dfs (Q9 A (Am (sub p F.B)) σ) a:=⟨hsz,hdf,fun t v hv=>by
  obtain ⟨g1,g2⟩:=Ts hv
  exact hfr t v (fun j hj=>g1 j (hpA j hj)) g2⟩
 have ho:(Am (sub p F.B)).toArray[j]?=some o:=by
  rw [Cf] at h1
  simpa using h1
 have hdlt:d<a.tmps.size:=by rw [hsz];exact Nat.le_of_ble_eq_true h4
 refine Le ho (by simp [Region.wanted,h2]) (post:=fun v w'=>∃ β' Γ',(v=u∧β'=β∧Γ'=Γ)∧Own C w' β'∧∀ f∈Γ',f.holds w' (ok C w' β')) (by rw [Gq];exact h6 w hO hG a.eval fun x v hv=>hfit.eval hv) ?_
 rintro v w' ⟨_,_,⟨rfl,rfl,rfl⟩,hO',hG'⟩
 rw [h3]
 refine h _ w' (by simp [Act.put,hsz]) (by simp [Act.put,hdf]) (fun t x hno hx=>?_) hO' hG'
 have hdj:Cm (Am (sub p F.B)) j=some d:=by simp [Cm,h1,h3]
 by_cases e:d=t
 ·subst e
  rw [h5] at hx
  rw [← Option.some.inj hx]
  simp [Act.put,hdlt]
 ·simp only [Act.put]
  rw [Array.getElem?_setIfInBounds_ne e]
  refine hfr t x (fun j' hj'=>?_) hx
  by_cases ej:j'=j
  ·rw [ej,hdj];exact fun h=>e (Option.some.inj h)
  ·exact hno j' ((List.mem_erase_of_ne ej).2 hj')
theorem AEf {A:List Nat}(hL:AD9 P C F.fn.ntmps (Am (sub p F.B)) (Q9 A (Am (sub p F.B)) σ) σ β Γ A) (h:J F C (.o p i::S) σ β Γ R):WIN F C p A 0 i S σ β Γ R:=by
 intro pend sched hpA hnd hI w hO hG
 have key:∀ n (pend sched:List Nat),pend.length=n→(∀ j∈pend,j∈A∧j<i)→Inter (Am (sub p F.B)) A (i+0) pend i sched→∀ w,Own C w β→(∀ f∈Γ,f.holds w (ok C w β))→∀ a:Act,a.tmps.size=F.fn.ntmps→a.defers=F.dfs →
   (∀ t v,(∀ j∈pend,Cm (Am (sub p F.B)) j≠some t)→Fr.get t σ=some v→a.tmps[t]?=some v)→At F (.inRegion (Am (sub p F.B)).toArray sched::S.map (It.item F.B)) a w R:=by
  intro n
  induction n with
  | zero =>
   intro pend sched hl hpA hI w hO hG a hsz hdf hfr
   have:pend=[]:=List.eq_nil_of_length_eq_zero hl
   subst this
   cases hI with
   | done=>exact h w hO hG a ⟨hsz,hdf,fun t v hv=>hfr t v (fun j hj=>by cases hj) hv⟩
   | pend hj _ _=>cases hj
   | tail _ h2 _ _=>omega
   | issue _ h2 _ _=>omega
  | succ n ih =>
   intro pend sched hl hpA hI w hO hG a hsz hdf hfr
   cases hI with
   | done=>simp at hl
   | pend hj _ hI' =>
    exact ABI hL (fun j hj=>(hpA j hj).1) hj hsz hdf hfr hO hG fun a' w' h1 h2 h3 hO hG=>ih _ _ (by rw [List.length_erase_of_mem hj];omega) (fun j' hj'=>hpA j' (List.mem_of_mem_erase hj')) hI' w' hO hG a' h1 h2 h3
   | tail _ h2 _ _=>omega
   | issue _ h2 _ _=>omega
 exact fun a=>key _ pend sched rfl hpA hI w hO hG a
theorem ABC {A:List Nat}{m:Nat}(ho:AAy F p i=some (d,op,ty)) (hw:AKi (Am (sub p F.B)) A d=true) (hL:AD9 P C F.fn.ntmps (Am (sub p F.B)) (Q9 A (Am (sub p F.B)) σ) σ β Γ A)
  (hx:Fm P C op ty (Q9 A (Am (sub p F.B)) σ) β Γ fun v β' Γ'=>WIN F C p A m (i+1) S (putF d v σ) β' Γ' R) (hni:Bd i A=false:=by rfl):WIN F C p A (m+1) i S σ β Γ R:=by
 have hni:i∉A:=fun h=>by rw [C9.2 h] at hni;cases hni
 intro pend sched hpA hnd hI w hO hG
 obtain ⟨pos,after,hn,hd⟩:=Xw ho
 have hoarr:(Am (sub p F.B)).toArray[i]?=some ⟨d,op,ty,pos,after,none⟩:=by
  rw [Cf] at hn
  simpa using hn
 have hil:i<(Am (sub p F.B)).length:=by
  rw [Cf] at hn
  exact (List.getElem?_eq_some_iff.1 hn).1
 have hwn:∀ t,d=some t→∀ j∈A,Cm (Am (sub p F.B)) j≠some t:=fun t ht j hj e=>by
  subst ht
  have:=List.all_eq_true.1 hw j hj
  rw [e] at this
  simp at this
 -- the operation itself
 have exec:∀ (pend l:List Nat) (a:Act),(∀ j∈pend,j∈A∧j<i)→pend.Nodup→Inter (Am (sub p F.B)) A (i+1+m) pend (i+1) l→∀ w,Own C w β→(∀ f∈Γ,f.holds w (ok C w β))→a.tmps.size=F.fn.ntmps→a.defers=F.dfs →
   (∀ t v,(∀ j∈pend,Cm (Am (sub p F.B)) j≠some t)→Fr.get t σ=some v→a.tmps[t]?=some v)→At F (.inRegion (Am (sub p F.B)).toArray (i::l)::S.map (It.item F.B)) a w R:=by
  intro pend l a hpA hnd hI w hO hG hsz hdf hfr
  have hfit:Fits F.fn.ntmps F.dfs (Q9 A (Am (sub p F.B)) σ) a:=⟨hsz,hdf,fun t v hv=>by
   obtain ⟨g1,g2⟩:=Ts hv
   exact hfr t v (fun j hj=>g1 j (hpA j hj).1) g2⟩
  refine Le hoarr (by simp [Region.wanted]) (post:=fun v w'=>∃ β' Γ',WIN F C p A m (i+1) S (putF d v σ) β' Γ' R∧Own C w' β'∧∀ f∈Γ',f.holds w' (ok C w' β')) ?_ ?_
  ·rw [Gq]
   exact hx w hO hG a.eval fun x v hv=>hfit.eval hv
  ·rintro v w' ⟨β',Γ',hW,hO',hG'⟩
   refine hW pend l (fun j hj=>⟨(hpA j hj).1,by have:=(hpA j hj).2;omega⟩) hnd hI w' hO' hG' _ (by cases hd':d <;> simp [Act.put,hsz]) (by cases hd':d <;> simp [Act.put,hdf]) fun t x hno hx=>?_
   cases hd':d with
   | none =>
    rw [hd'] at hx
    exact hfr t x hno hx
   | some dd =>
    rw [hd'] at hx
    simp only [putF,Fr.get] at hx
    by_cases e:dd=t
    ·subst e
     rw [Nat.beq_refl] at hx
     have hlt:dd<a.tmps.size:=by rw [hsz];exact hd dd hd'
     rw [← Option.some.inj hx]
     simp [Act.put,hlt]
    ·have hb:Nat.beq dd t=false:=by
      cases hb:Nat.beq dd t with
      | true=>exact absurd (Nat.eq_of_beq_eq_true hb) e
      | false=>rfl
     rw [hb] at hx
     simp only [Act.put]
     rw [Array.getElem?_setIfInBounds_ne e]
     exact hfr t x hno hx
 have key:∀ n (pend sched:List Nat),pend.length=n→(∀ j∈pend,j∈A∧j<i)→pend.Nodup→Inter (Am (sub p F.B)) A (i+(m+1)) pend i sched→∀ w,Own C w β→(∀ f∈Γ,f.holds w (ok C w β))→∀ a:Act,a.tmps.size=F.fn.ntmps→a.defers=F.dfs →
   (∀ t v,(∀ j∈pend,Cm (Am (sub p F.B)) j≠some t)→Fr.get t σ=some v→a.tmps[t]?=some v)→At F (.inRegion (Am (sub p F.B)).toArray sched::S.map (It.item F.B)) a w R:=by
  have ee:i+(m+1)=i+1+m:=by omega
  intro n
  induction n with
  | zero =>
   intro pend sched hl hpA hnd hI w hO hG a hsz hdf hfr
   have:pend=[]:=List.eq_nil_of_length_eq_zero hl
   subst this
   have er:List.range' i ((Am (sub p F.B)).length-i)=i::List.range' (i+1) ((Am (sub p F.B)).length-(i+1)):=by
    have e:(Am (sub p F.B)).length-i=((Am (sub p F.B)).length-(i+1))+1:=by omega
    rw [e,List.range'_succ]
   cases hI with
   | done=>rw [er];exact exec [] _ a hpA hnd .done w hO hG hsz hdf hfr
   | pend hj _ _=>cases hj
   | tail _ _ _ hI'=>rw [ee] at hI';exact exec [] _ a hpA hnd hI' w hO hG hsz hdf hfr
   | issue _ _ h _=>exact absurd h hni
  | succ n ih =>
   intro pend sched hl hpA hnd hI w hO hG a hsz hdf hfr
   cases hI with
   | done=>simp at hl
   | pend hj _ hI' =>
    exact ABI hL (fun j hj=>(hpA j hj).1) hj hsz hdf hfr hO hG fun a' w' h1 h2 h3 hO hG=>ih _ _ (by rw [List.length_erase_of_mem hj];omega) (fun j' hj'=>hpA j' (List.mem_of_mem_erase hj')) (hnd.erase _) hI' w' hO hG a' h1 h2 h3
   | tail _ _ _ hI'=>rw [ee] at hI';exact exec pend _ a hpA hnd hI' w hO hG hsz hdf hfr
   | issue _ _ h _=>exact absurd h hni
 exact fun a=>key _ pend sched rfl hpA hnd hI w hO hG a
end
theorem Sv {rh:Row}{m t k bk bt:Nat}{hd:Nat→Hd}(ht:t<m) (hk:k<m) (hm:m≤1000000) :
  Bn Tryz.prog 203 [.slice (ad rh.bo) m rh.cap,.pointer (some ⟨bk,0,none⟩),.pointer (some ⟨bt,0,none⟩)] [(some bk,3,[.int .i64 k]),(some bt,3,[.int .i64 t]),(rh.bo,22,rh.cs)] [A5 Sg rh m (Jf hd m)]
   (fun v Φ β=>∃ cs',v = .tuple #[]∧Φ=[A5 Sg ⟨rh.bo,rh.cap,cs'⟩ m (Jf (Er (Er hd t (hd k)) k (hd t)) m)]∧β=[(some bk,3,[.int .i64 k]),(some bt,3,[.int .i64 t]),(rh.bo,22,cs')]):=by
 refine Ab (F:=Se) rfl fun C=>?_
 refine D1 0 rfl (by omega) fun b cap cs hr=>?_
 subst hr
 have z1:(Jf hd m)[k]?=some ((hd k).1,(hd k).2.1,(hd k).2.2):=Lr hk
 have z2:(Jf hd m)[t]?=some ((hd t).1,(hd t).2.1,(hd t).2.2):=Lr ht
 (apply Gn (x0:=none) it mx 0 13 [2,3] 1;(· rfl);(· rfl);(· rfl);(· decide))
 simp only [List.drop_zero]
 (apply A1 1;(· rfl);(· simp))
 (apply Ac;(· rfl);(· exact Bv 1 rfl rfl Ci rfl))
 (apply A1 1;(· rfl);(· simp))
 (apply Ac;(· rfl);(· exact Bv 0 rfl rfl Ci rfl))
 (apply A1 1;(· rfl);(· simp))
 (apply Ac;(· rfl);(· exact Bv 0 rfl rfl Ci rfl))
 (apply Ac;(· rfl);(· exact Bz fun _=>Bf (k) (k) rfl rfl Df rfl (by omega) (Nat.mul_one _) Al))
 (apply Ac;(· rfl);(· exact Gd 2 0 (k) rfl rfl rfl E6 rfl (by assumption)))
 dsimp only
 (apply A1 1;(· rfl);(· simp))
 (apply Ac;(· rfl);(· exact Bv 1 rfl rfl Ci rfl))
 (apply Ac;(· rfl);(· exact Bz fun _=>Bf (t) (t) rfl rfl Df rfl (by omega) (Nat.mul_one _) Al))
 (apply Ac;(· rfl);(· exact Gd 2 0 (t) rfl rfl rfl E6 rfl (by assumption)))
 dsimp only
 (apply Ac;(· rfl);(· exact Bz fun _=>Bf (t) (t) rfl rfl Df rfl (by omega) (Nat.mul_one _) Al)) --ok
 refine F1 rfl ?_
 rotate_left
 rfl
 simp only [List.map_nil,List.nil_append]
 refine ABC rfl rfl ⟨⟨_,_,_,rfl,rfl,rfl,rfl,rfl,Kx it rfl (by trivial) ⟨rfl,rfl,rfl⟩⟩,⟨⟨_,_,_,rfl,rfl,rfl,rfl,rfl,Bu 0 rfl rfl Ci rfl ⟨rfl,rfl,rfl⟩⟩,trivial⟩⟩ (Hg (vs:=[Value.slice (ad (hd k).fst) (hd k).snd.fst (hd k).snd.snd]) (z:=((hd k).fst,(hd k).snd.fst,(hd k).snd.snd)) 2 0 (t) rfl rfl rfl rfl rfl E6 (Nat.mul_one _).symm (by omega) (fun w A hG=>(Ua _ _ _)) fun cs1=>?_)
 refine AEf ⟨⟨_,_,_,rfl,rfl,rfl,rfl,rfl,Kx it rfl (by trivial) ⟨rfl,rfl,rfl⟩⟩,⟨⟨_,_,_,rfl,rfl,rfl,rfl,rfl,Bu 0 rfl rfl Ci rfl ⟨rfl,rfl,rfl⟩⟩,trivial⟩⟩ ?_
 simp only [setB,List.set_cons_succ,List.set_cons_zero]
 rw [Lh]
 refine wk 1 cz ?_
 refine Aa rfl (Hg (vs:=[Value.slice (ad (hd t).fst) (hd t).snd.fst (hd t).snd.snd]) (z:=((hd t).fst,(hd t).snd.fst,(hd t).snd.snd)) 2 0 (k) rfl rfl rfl rfl rfl E6 (Nat.mul_one _).symm (by omega) (fun w A hG=>(Ua _ _ _)) fun cs2=>?_)
 refine wk 1 cz ?_
 simp only [setB,List.set_cons_succ,List.set_cons_zero]
 rw [Lh]
 refine Cv [0] rfl rfl ⟨cs2,rfl,rfl,rfl⟩
open Go Go.Fw
set_option maxRecDepth 100000
set_option linter.unusedVariables false
set_option linter.unusedSimpArgs false
set_option maxHeartbeats 0
theorem R8 {b p m ng cg ce cl:Nat}{pg pe pl:Option Addr}{md:List Int}{rh:Row}{n N i t bg bi bf bt:Nat}{c:Int}{hd:Nat→Hd}{cs:Nat→List Value}{ls:Nat→List Int}(K:Fok p m md) (c0:0≤c) (c1:c<((p ^ m:Nat):Int)) (hi:i<n) (ht:t<n) (hit:i≠t) (hn:n≤1000000) (hN:N≤1000000) (hls:∀ k,k<n→Wd (p ^ m) N (ls k)) :
  Bn Tryz.prog 206 [.slice (ad rh.bo) n rh.cap,.pointer (some ⟨bg,0,none⟩),.pointer (some ⟨bi,0,none⟩),.pointer (some ⟨bf,0,none⟩),.pointer (some ⟨bt,0,none⟩)]
   ((some bg,76,[.pointer (some ⟨b,0,none⟩)])::(some bi,3,[.int .i64 i])::(some bf,3,[.int .i64 c])::(some bt,3,[.int .i64 t])::(rh.bo,22,rh.cs)::Dd 3 hd cs n [])
   [Jp b p m (p ^ m) pg ng cg pe (p ^ m-1) ce pl (p ^ m) cl,Ap Aj pe (p ^ m-1) ce (J8 p m md),Ap Aj pl (p ^ m) cl (J3 p m md),A5 Sg rh n (Jf hd n),Ep Aj hd cs ls n []]
   (fun v Φ β=>∃ cs',v = .tuple #[]∧Φ=[A5 Sg rh n (Jf hd n),Ep Aj hd cs' (Er ls i (F7 (Ad (fA p m)) (Ad (fM p (Az m md))) ((nP p m c.toNat:Nat):Int) (ls t) (ls i))) n []]∧β=(some bg,76,[.pointer (some ⟨b,0,none⟩)])::(some bi,3,[.int .i64 i])::(some bf,3,[.int .i64 c])::(some bt,3,[.int .i64 t])::(rh.bo,22,rh.cs)::Dd 3 hd cs' n []):=by
 refine Ab (F:=Sk) rfl fun C=>?_
 refine D1 3 rfl (by omega) fun bh caph csh hr=>?_
 subst hr
 refine Hk 4 rfl fun hlen=>?_
 have wi:=hls i hi
 have wt:=hls t ht
 have li:(hd i).2.1=N:=by rw [hlen i hi rfl];exact wi.1
 have lt:(hd t).2.1=N:=by rw [hlen t ht rfl];exact wt.1
 have hnl:=AD0 (show 0<p by have:=K.p2;omega) m c.toNat
 have n0:0≤((nP p m c.toNat:Nat):Int):=Int.natCast_nonneg _
 have n1:((nP p m c.toNat:Nat):Int)<((p ^ m:Nat):Int):=Int.ofNat_lt.2 hnl
 have Ea:=fun {b ng cg ne ce nl cl:Nat}{pg pe pl:Option Addr}=>G6 (b:=b) (ng:=ng) (cg:=cg) (ne:=ne) (ce:=ce) (nl:=nl) (cl:=cl) (pg:=pg) (pe:=pe) (pl:=pl) K.p2 K.m1 K.q c0 c1
 have Qd:=fun {b ng cg ce cl:Nat}{pg pe pl:Option Addr}{r r2:Row}=>ACc (b:=b) (ng:=ng) (cg:=cg) (ce:=ce) (cl:=cl) (pg:=pg) (pe:=pe) (pl:=pl) (r:=r) (r2:=r2) K n0 n1 wi wt hN
 have hmb:Bd t [i]=false:=by
  rw [Ag,decide_eq_false (fun e=>hit e.symm)];rfl
 refine Dw 5 (i) 4 (N) rfl rfl (by first|assumption|omega) (by first|rfl|assumption|(simp [Ag,Bd];done)|(simp [Ag,Bd];omega)) (by first|assumption|omega) fun r1 hr1=>?_
 simp only [List.take_succ_cons,List.take_zero,List.cons_append,List.nil_append]
 refine Dw 6 (t) 1 (N) rfl rfl (by first|assumption|omega) (by first|rfl|assumption|(simp [Ag,Bd];done)|(simp [Ag,Bd];omega)) (by first|assumption|omega) fun r2 hr2=>?_
 simp only [List.take_succ_cons,List.take_zero,List.cons_append,List.nil_append]
 (apply E5 it mx 12;(· rfl);(· rfl))
 (apply Ac;(· rfl);(· exact Bv 2 rfl rfl X5 rfl))
 (apply A1 1;(· rfl);(· simp))
 (apply Ac;(· rfl);(· exact Bv 3 rfl rfl Ci rfl))
 (apply Ac;(· rfl);(· exact Bz fun _=>Bf (i) (i) rfl rfl Df rfl (by omega) (Nat.mul_one _) Al))
 (apply Ac;(· rfl);(· exact Gd 6 7 (i) rfl rfl rfl E6 rfl (by assumption)))
 dsimp only
 (apply Ac;(· rfl);(· exact Bv 2 rfl rfl X5 rfl))
 (apply Ac;(· rfl);(· exact Bv 4 rfl rfl Ci rfl))
 (apply Ac;(· rfl);(· exact Bz fun _=>Aw [4] rfl (Ea) rfl (by rintro _ _ _ ⟨rfl,rfl,rfl⟩;exact Al)))
 (apply A1 1;(· rfl);(· simp))
 (apply Ac;(· rfl);(· exact Bv 5 rfl rfl Ci rfl))
 (apply Ac;(· rfl);(· exact Bz fun _=>Bf (t) (t) rfl rfl Df rfl (by omega) (Nat.mul_one _) Al))
 (apply Ac;(· rfl);(· exact Gd 6 7 (t) rfl rfl rfl E6 rfl (by assumption)))
 dsimp only
 refine Et rfl ?_
 simp only [List.map_cons,List.map_nil,List.cons_append,List.nil_append]
 refine Xv 7 [1,0,2,3,4,5,6] rfl rfl ?_
 simp only [List.drop_succ_cons,List.drop_zero,List.cons_append,List.nil_append]
 refine wk 2 (ct @Qd cz) ?_
 intro cs'1
 try simp only [List.drop_succ_cons,List.drop_zero]
 refine Bw 6 t 1 1 3 rfl rfl rfl rfl ht hmb ?_
 simp only [List.eraseIdx_cons_zero,List.eraseIdx_cons_succ,List.take_succ_cons,List.take_zero,List.cons_append,List.nil_append]
 rw [Eb (F5 hr2 ht),show Er ls t (ls t)=ls from Eb rfl]
 refine Bw 5 i 0 1 0 rfl rfl rfl rfl hi rfl ?_
 simp only [List.eraseIdx_cons_zero,List.eraseIdx_cons_succ,List.take_succ_cons,List.take_zero,List.cons_append,List.nil_append]
 rw [show Er hd i (r1.bo,N,r1.cap)=hd from Eb (F5 hr1 hi)]
 refine Cv [11,0] rfl rfl ⟨_,rfl,rfl,rfl⟩
theorem Mu {b p m n ng cg ce cl:Nat}{pg pe pl:Option Addr}{a:Int}{r:Row}{u md:List Int}(K:Fok p m md) (a0:0≤a) (a1:a<((p ^ m:Nat):Int)) (hu:Wd (p ^ m) n u) (hn:n≤1000000) :
  Bn Tryz.prog 129 [.pointer (some ⟨b,0,none⟩),.int .i64 a,.slice (ad r.bo) n r.cap] [(r.bo,3,r.cs)] [Jp b p m (p ^ m) pg ng cg pe (p ^ m-1) ce pl (p ^ m) cl,Ap Aj pe (p ^ m-1) ce (J8 p m md),Ap Aj pl (p ^ m) cl (J3 p m md),A5 Aj r n u]
   (fun v Φ β=>∃ r':Row,v = .slice (ad r'.bo) n r'.cap∧Φ=[A5 Aj r' n (C0 (Ad (fM p (Az m md))) a u)]∧β=[(r'.bo,3,r'.cs)]):=by
 refine Ab (F:=Np) rfl fun C=>?_
 have hun:=hu.1
 subst hun
 have hu:=hu.2
 have A6:=fun {b ng cg ce cl:Nat}{pg pe pl:Option Addr}{x y:Int}=>C6 (b:=b) (ng:=ng) (cg:=cg) (ce:=ce) (cl:=cl) (pg:=pg) (pe:=pe) (pl:=pl) (x:=x) (y:=y) K
 have hml:=fun x (h:x∈u)=>K.fi.ml a x a0 a1 (hu x h).1 (hu x h).2
 have hq:=K.q
 generalize Ad (fM p (Az m md))=M at *
 generalize J8 p m md=ex at *
 generalize J3 p m md=lg at *
 generalize p ^ m=q at *
 refine wk 12 cz ?_
 intro b1
 rw [show Ao .i64 (List.replicate u.length 0)=Ak .i64 ((C0 M a u).take 0++List.replicate (u.length-0) 0) by simp [Ao,Ak]]
 refine Af (X:=Nat) [0,1,6,7,13,14] [0,1,2,3] (fun i=>[(15,.int .i64 (i:Int))]) (fun i=>[(some b1,3,Ak .i64 ((C0 M a u).take i++List.replicate (u.length-i) 0)),(r.bo,3,r.cs)]) (fun _=>[]) (fun i=>i≤u.length) (fun i=>u.length-i) 0 [] rfl rfl rfl (Nat.zero_le _) (by repeat (first|exact Fr.sub_nil _|refine Fr.sub_cons rfl ?_)) rfl rfl ?_
 rintro i hi ih
 simp only [List.cons_append,List.nil_append] at hi ih ⊢
 by_cases h9:i<u.length
 ·obtain ⟨x,at_x⟩:∃ x,u[i]?=some x:=⟨_,List.getElem?_eq_getElem h9⟩
  have hx:=hu x (List.mem_of_getElem? at_x)
  obtain ⟨hx0,hx1⟩:=hx
  have ih':=ih (i+1) (by omega) (by omega)
  have eT:(C0 M a u)[i]?=some (M a x):=by rw [C0,List.getElem?_map,at_x];rfl
  rw [← take_set eT h9] at ih'
  have hln:((C0 M a u).take i++List.replicate (u.length-i) 0).length=u.length:=by simp [C0];omega
  generalize (C0 M a u).take i++List.replicate (u.length-i) 0=L at *
  refine wk 6 cz ?_
  intro h1
  refine D1 3 rfl (by omega) fun b2 cap1 cs1 hr1=>?_
  subst hr1
  dsimp only
  refine wk 11 (ct @A6 cz) ?_
  intro hr1
  exact tw (ih')
 ·obtain rfl:i=u.length:=by omega
  rw [Nat.sub_self,List.replicate_zero,List.append_nil,List.take_of_length_le (by simp [C0])]
  refine wk 7 cz ?_
  intro h1
  have hall:∀ z∈C0 M a u,Bx .i64 z:=fun z hz=>by
   obtain ⟨y,hy,rfl⟩:=List.mem_map.1 hz
   have:=hml y hy
   simp only [Bx];omega
  have hln:(C0 M a u).length=u.length:=by simp [C0]
  generalize C0 M a u=L at *
  refine Bk 0 rfl hln.symm hall (by omega) ?_
  refine Dp 2 [0] [0] rfl (.tmp rfl .nil) rfl rfl rfl ⟨⟨some b1,u.length,Ak .i64 L⟩,rfl,rfl,rfl⟩
theorem Sm {b p m ng cg ce cl:Nat}{pg pe pl:Option Addr}{md:List Int}{rh:Row}{n N t bg bv bt:Nat}{c:Int}{hd:Nat→Hd}{cs:Nat→List Value}{ls:Nat→List Int}(K:Fok p m md) (c0:0≤c) (c1:c<((p ^ m:Nat):Int)) (ht:t<n) (hn:n≤1000000) (hN:N≤1000000) (hls:∀ k,k<n→Wd (p ^ m) N (ls k)) :
  Bn Tryz.prog 205 [.slice (ad rh.bo) n rh.cap,.pointer (some ⟨bg,0,none⟩),.pointer (some ⟨bv,0,none⟩),.pointer (some ⟨bt,0,none⟩)]
   ((some bg,76,[.pointer (some ⟨b,0,none⟩)])::(some bv,3,[.int .i64 c])::(some bt,3,[.int .i64 t])::(rh.bo,22,rh.cs)::Dd 3 hd cs n [])
   [Jp b p m (p ^ m) pg ng cg pe (p ^ m-1) ce pl (p ^ m) cl,Ap Aj pe (p ^ m-1) ce (J8 p m md),Ap Aj pl (p ^ m) cl (J3 p m md),A5 Sg rh n (Jf hd n),Ep Aj hd cs ls n []]
   (fun v Φ β=>∃ ch' hd' cs',v = .tuple #[]∧Φ=[A5 Sg ⟨rh.bo,rh.cap,ch'⟩ n (Jf hd' n),Ep Aj hd' cs' (Er ls t (C0 (Ad (fM p (Az m md))) c (ls t))) n []]∧β=(some bg,76,[.pointer (some ⟨b,0,none⟩)])::(some bv,3,[.int .i64 c])::(some bt,3,[.int .i64 t])::(rh.bo,22,ch')::Dd 3 hd' cs' n []):=by
 refine Ab (F:=Su) rfl fun C=>?_
 refine D1 3 rfl (by omega) fun bh caph csh hr=>?_
 subst hr
 refine Hk 4 rfl fun hlen=>?_
 have wt:=hls t ht
 have lt:(hd t).2.1=N:=by rw [hlen t ht rfl];exact wt.1
 refine Dw 4 (t) 4 (N) rfl rfl (by first|assumption|omega) (by first|rfl|assumption|(simp [Ag,Bd];done)|(simp [Ag,Bd];omega)) (by first|assumption|omega) fun r1 hr1=>?_
 simp only [List.take_succ_cons,List.take_zero,List.cons_append,List.nil_append]
 (apply Gn (x0:=none) it mx 0 8 [0,1] 1;(· rfl);(· rfl);(· rfl);(· decide))
 simp only [List.drop_zero]
 (apply A1 1;(· rfl);(· simp))
 (apply Ac;(· rfl);(· exact Bv 3 rfl rfl Ci rfl))
 (apply Ac;(· rfl);(· exact Bv 1 rfl rfl X5 rfl))
 (apply Ac;(· rfl);(· exact Bv 2 rfl rfl Ci rfl))
 (apply A1 1;(· rfl);(· simp))
 (apply Ac;(· rfl);(· exact Bv 3 rfl rfl Ci rfl))
 (apply Ac;(· rfl);(· exact Bz fun _=>Bf (t) (t) rfl rfl Df rfl (by omega) (Nat.mul_one _) Al))
 (apply Ac;(· rfl);(· exact Gd 4 5 (t) rfl rfl rfl E6 rfl (by assumption)))
 dsimp only --ok
 refine F1 rfl ?_
 rotate_left
 rfl
 simp only [List.map_nil,List.nil_append]
 refine ABC rfl rfl ⟨⟨_,_,_,rfl,rfl,rfl,rfl,rfl,Kx it rfl (by trivial) ⟨rfl,rfl,rfl⟩⟩,⟨⟨_,_,_,rfl,rfl,rfl,rfl,rfl,Bu 3 rfl rfl Ci rfl ⟨rfl,rfl,rfl⟩⟩,trivial⟩⟩ (Zz 1 [2,3,4,0] rfl rfl (Mu (r:=r1) K c0 c1 wt hN) rfl ?_)
 rintro _ _ _ ⟨r9,rfl,rfl,rfl⟩
 simp only [List.cons_append,List.nil_append,List.drop_succ_cons,List.drop_zero]
 refine AEf ⟨⟨_,_,_,rfl,rfl,rfl,rfl,rfl,Kx it rfl (by trivial) ⟨rfl,rfl,rfl⟩⟩,⟨⟨_,_,_,rfl,rfl,rfl,rfl,rfl,Bu 3 rfl rfl Ci rfl ⟨rfl,rfl,rfl⟩⟩,trivial⟩⟩ ?_
 refine wk 1 cz ?_
 refine Aa rfl (Hg (vs:=[Value.slice (ad r9.bo) N r9.cap]) (z:=(r9.bo,N,r9.cap)) 4 6 (t) rfl rfl rfl rfl rfl E6 (Nat.mul_one _).symm (by omega) (fun w A hG=>(Ua _ _ _)) fun cs1=>?_)
 refine wk 1 cz ?_
 simp only [setB,List.set_cons_succ,List.set_cons_zero]
 rw [Lh]
 refine Bw 4 t 0 1 3 rfl rfl rfl rfl ht rfl ?_
 simp only [List.eraseIdx_cons_zero,List.eraseIdx_cons_succ,List.take_succ_cons,List.take_zero,List.cons_append,List.nil_append]
 refine Cv [1,0] rfl rfl ⟨_,_,_,rfl,rfl,rfl⟩
theorem AGI {rh:Row}{n t k bk bt br ba:Nat}{hd:Nat→Hd}(ht:t<n) (hk:k<n) (hn:n≤1000000) :
  Bn Tryz.prog 202 [.func (.func 203) #[] #[.pointer (some ⟨bk,0,none⟩),.pointer (some ⟨bt,0,none⟩)],.pointer (some ⟨br,0,none⟩),.pointer (some ⟨ba,0,none⟩)]
   [(some br,25,[.slice (ad rh.bo) n rh.cap]),(some ba,25,[.slice none 0 0]),(some bk,3,[.int .i64 k]),(some bt,3,[.int .i64 t]),(rh.bo,22,rh.cs)] [A5 Sg rh n (Jf hd n)]
   (fun v Φ β=>∃ cs',v = .tuple #[]∧Φ=[A5 Sg ⟨rh.bo,rh.cap,cs'⟩ n (Jf (Er (Er hd t (hd k)) k (hd t)) n)]∧β=[(some br,25,[.slice (ad rh.bo) n rh.cap]),(some ba,25,[.slice none 0 0]),(some bk,3,[.int .i64 k]),(some bt,3,[.int .i64 t]),(rh.bo,22,cs')]):=by
 refine Ab (F:=Hv) rfl fun C=>?_
 have Sw:=fun {rh:Row}{bk bt:Nat}=>Sv (rh:=rh) (bk:=bk) (bt:=bt) (hd:=hd) ht hk hn
 refine Aq [_,_] rfl ?_
 refine Ai it 1 rfl (by simp) ?_
 refine Aa rfl (Bu 0 rfl rfl Hp rfl ?_)
 refine Ql [2,3,4,0,1] rfl rfl ?_
 refine Aa rfl <| ADD rfl rfl (Zz 3 [0] rfl rfl (Sw) rfl ?_)
 rintro _ _ _ ⟨cs'1,rfl,rfl,rfl⟩
 simp only [List.cons_append,List.nil_append]
 refine Aq [_,_] rfl ?_
 refine Aa rfl (Bu 4 rfl rfl Hp rfl ?_)
 refine Aa rfl (Hn Df rfl ?_)
 refine Ai it 1 rfl (by simp) ?_
 refine Aq [_] rfl ?_
 refine L7 rfl rfl (fun h1=>by exfalso;omega) (fun h1=>?_)
 refine Aq [] rfl ?_
 try simp only [List.drop_succ_cons,List.drop_zero]
 refine Xv 5 [3,4,0,1,2] rfl rfl ?_
 simp only [List.cons_append,List.nil_append,List.drop_succ_cons,List.drop_zero]
 refine Cv [0] rfl rfl ⟨_,rfl,rfl,rfl⟩
theorem AEq {b p m ng cg ce cl:Nat}{pg pe pl:Option Addr}{md:List Int}{rh:Row}{n N t bg bv bt br ba:Nat}{c:Int}{hd:Nat→Hd}{cs:Nat→List Value}{ls:Nat→List Int}(K:Fok p m md) (c0:0≤c) (c1:c<((p ^ m:Nat):Int)) (ht:t<n) (hn:n≤1000000) (hN:N≤1000000) (hls:∀ k,k<n→Wd (p ^ m) N (ls k)) :
  Bn Tryz.prog 202 [.func (.func 205) #[] #[.pointer (some ⟨bg,0,none⟩),.pointer (some ⟨bv,0,none⟩),.pointer (some ⟨bt,0,none⟩)],.pointer (some ⟨br,0,none⟩),.pointer (some ⟨ba,0,none⟩)]
   ((some br,25,[.slice (ad rh.bo) n rh.cap])::(some ba,25,[.slice none 0 0])::(some bg,76,[.pointer (some ⟨b,0,none⟩)])::(some bv,3,[.int .i64 c])::(some bt,3,[.int .i64 t])::(rh.bo,22,rh.cs)::Dd 3 hd cs n [])
   [Jp b p m (p ^ m) pg ng cg pe (p ^ m-1) ce pl (p ^ m) cl,Ap Aj pe (p ^ m-1) ce (J8 p m md),Ap Aj pl (p ^ m) cl (J3 p m md),A5 Sg rh n (Jf hd n),Ep Aj hd cs ls n []]
   (fun v Φ β=>∃ ch' hd' cs',v = .tuple #[]∧Φ=[A5 Sg ⟨rh.bo,rh.cap,ch'⟩ n (Jf hd' n),Ep Aj hd' cs' (Er ls t (C0 (Ad (fM p (Az m md))) c (ls t))) n []]∧β=(some br,25,[.slice (ad rh.bo) n rh.cap])::(some ba,25,[.slice none 0 0])::(some bg,76,[.pointer (some ⟨b,0,none⟩)])::(some bv,3,[.int .i64 c])::(some bt,3,[.int .i64 t])::(rh.bo,22,ch')::Dd 3 hd' cs' n []):=by
 refine Ab (F:=Hv) rfl fun C=>?_
 have R5:=fun {b ng cg ce cl bg bv bt:Nat}{pg pe pl:Option Addr}{rh:Row}{hd:Nat→Hd}{cs:Nat→List Value}=>Sm (b:=b) (ng:=ng) (cg:=cg) (ce:=ce) (cl:=cl) (pg:=pg) (pe:=pe) (pl:=pl) (rh:=rh) (bg:=bg) (bv:=bv) (bt:=bt) (hd:=hd) (cs:=cs) K c0 c1 ht hn hN hls
 refine wk 3 cz ?_
 refine Aa rfl <| ADD rfl rfl (Ns 2 [0,1,2,3,4] rfl rfl (R5) rfl ?_)
 rintro _ _ _ ⟨ch'1,hd'1,cs'1,rfl,rfl,rfl⟩
 simp only [List.cons_append,List.nil_append]
 refine wk 7 cz ?_
 intro h1
 simp only [List.take_succ_cons,List.take_zero,List.cons_append,List.nil_append]
 refine Cv [0,1] rfl rfl ⟨_,_,_,rfl,rfl,rfl⟩
theorem AEW {b p m ng cg ce cl:Nat}{pg pe pl:Option Addr}{md:List Int}{rh:Row}{n N i t bg bi bf bt br ba:Nat}{c:Int}{hd:Nat→Hd}{cs:Nat→List Value}{ls:Nat→List Int}(K:Fok p m md) (c0:0≤c) (c1:c<((p ^ m:Nat):Int)) (hi:i<n) (ht:t<n) (hit:i≠t) (hn:n≤1000000) (hN:N≤1000000) (hls:∀ k,k<n→Wd (p ^ m) N (ls k)) :
  Bn Tryz.prog 202 [.func (.func 206) #[] #[.pointer (some ⟨bg,0,none⟩),.pointer (some ⟨bi,0,none⟩),.pointer (some ⟨bf,0,none⟩),.pointer (some ⟨bt,0,none⟩)],.pointer (some ⟨br,0,none⟩),.pointer (some ⟨ba,0,none⟩)]
   ((some br,25,[.slice (ad rh.bo) n rh.cap])::(some ba,25,[.slice none 0 0])::(some bg,76,[.pointer (some ⟨b,0,none⟩)])::(some bi,3,[.int .i64 i])::(some bf,3,[.int .i64 c])::(some bt,3,[.int .i64 t])::(rh.bo,22,rh.cs)::Dd 3 hd cs n [])
   [Jp b p m (p ^ m) pg ng cg pe (p ^ m-1) ce pl (p ^ m) cl,Ap Aj pe (p ^ m-1) ce (J8 p m md),Ap Aj pl (p ^ m) cl (J3 p m md),A5 Sg rh n (Jf hd n),Ep Aj hd cs ls n []]
   (fun v Φ β=>∃ cs',v = .tuple #[]∧Φ=[A5 Sg rh n (Jf hd n),Ep Aj hd cs' (Er ls i (F7 (Ad (fA p m)) (Ad (fM p (Az m md))) ((nP p m c.toNat:Nat):Int) (ls t) (ls i))) n []]∧β=(some br,25,[.slice (ad rh.bo) n rh.cap])::(some ba,25,[.slice none 0 0])::(some bg,76,[.pointer (some ⟨b,0,none⟩)])::(some bi,3,[.int .i64 i])::(some bf,3,[.int .i64 c])::(some bt,3,[.int .i64 t])::(rh.bo,22,rh.cs)::Dd 3 hd cs' n []):=by
 refine Ab (F:=Hv) rfl fun C=>?_
 have R6:=fun {b ng cg ce cl bg bi bf bt:Nat}{pg pe pl:Option Addr}{rh:Row}{hd:Nat→Hd}{cs:Nat→List Value}=>R8 (b:=b) (ng:=ng) (cg:=cg) (ce:=ce) (cl:=cl) (pg:=pg) (pe:=pe) (pl:=pl) (rh:=rh) (bg:=bg) (bi:=bi) (bf:=bf) (bt:=bt) (hd:=hd) (cs:=cs) K c0 c1 hi ht hit hn hN hls
 refine wk 3 cz ?_
 refine Aa rfl <| ADD rfl rfl (Ns 2 [0,1,2,3,4] rfl rfl (R6) rfl ?_)
 rintro _ _ _ ⟨cs'1,rfl,rfl,rfl⟩
 simp only [List.cons_append,List.nil_append]
 refine wk 7 cz ?_
 intro h1
 simp only [List.take_succ_cons,List.take_zero,List.cons_append,List.nil_append]
 refine Cv [0,1] rfl rfl ⟨_,rfl,rfl,rfl⟩
end Go.Proofs.YtpienolhkccpnaaGreat
